/- Texts joined: RxA RxB RxC RxD RxE RxF. -/
import Derived.Test.YtamimnaafiphcaaDoorEncC
import Derived.Test.YtamimnaafiphcaaDoorRl
import Derived.WalkLawsBesides
import Derived.Test.YtamimnaafiphcaaDoorEncB
import Derived.Deep.DeepCutAuto
import Derived.Maps.OwnSet
import Derived.Maps.OwnOps
set_option linter.unusedVariables false
set_option linter.unusedSimpArgs false
namespace Go.Proofs.YtamimnaafiphcaaDoor
open Go.RowKit Go.Proofs.YtamimnaafiphcaaDoorW.PrintWords

def isLabel (n : Int) : Bool := within 0 100000 n
def brOp (n : Int) : Bool := isBr n || n == 40
def goOp (n : Int) : Bool := brOp n || n == 41 || n == 43
/-- The other branch. -/
def otherOp (n : Int) : Int := if n = 32 ∨ n = 34 ∨ n = 36 ∨ n = 38 ∨ n = 30 then n + 1 else n - 1

theorem label_any (n : Int) (w : World) : Calls Tryd.prog 80 #[.int .i64 n] w fun e w' => e = .returned (.bool (isLabel n)) ∧ w = w' := by
  have h : n < 0 ∨ (0 ≤ n ∧ 100000 < n) ∨ (0 ≤ n ∧ n ≤ 100000) := by omega
  rcases h with h | ⟨h, h'⟩ | ⟨h, h'⟩
  · rw [show isLabel n = false from within_f (.inl h)]
    go_enter Tryd.func80, Tryd.ntmps80
    go_wp2
    go_ret
    exact ⟨rfl, rfl⟩
  · rw [show isLabel n = false from within_f (.inr h')]
    go_enter Tryd.func80, Tryd.ntmps80
    go_wp2
    go_ret
    exact ⟨by simp; omega, rfl⟩
  · rw [show isLabel n = true from within_t h h']
    go_enter Tryd.func80, Tryd.ntmps80
    go_wp2
    go_ret
    exact ⟨rfl, rfl⟩

theorem labelR_any (n : Int) (w : World) : Calls Tryd.prog 83 #[.int .i64 n] w fun e w' => e = .returned (.bool (isLabel n)) ∧ w = w' := by
  have h : n < 0 ∨ (0 ≤ n ∧ 100000 < n) ∨ (0 ≤ n ∧ n ≤ 100000) := by omega
  rcases h with h | ⟨h, h'⟩ | ⟨h, h'⟩
  · rw [show isLabel n = false from within_f (.inl h)]
    go_enter Tryd.func83, Tryd.ntmps83
    go_wp2
    go_ret
    exact ⟨rfl, rfl⟩
  · rw [show isLabel n = false from within_f (.inr h')]
    go_enter Tryd.func83, Tryd.ntmps83
    go_wp2
    go_ret
    exact ⟨by simp; omega, rfl⟩
  · rw [show isLabel n = true from within_t h h']
    go_enter Tryd.func83, Tryd.ntmps83
    go_wp2
    go_ret
    exact ⟨rfl, rfl⟩

theorem nearR_any (n : Int) (w : World) : Calls Tryd.prog 32 #[.int .i64 n] w fun e w' => e = .returned (.bool (near n)) ∧ w = w' := by
  have h : n < -128 ∨ (-128 ≤ n ∧ 127 < n) ∨ (-128 ≤ n ∧ n ≤ 127) := by omega
  rcases h with h | ⟨h, h'⟩ | ⟨h, h'⟩
  · rw [show near n = false from within_f (.inl h)]
    go_enter Tryd.func32, Tryd.ntmps32
    go_wp2
    go_ret
    exact ⟨rfl, rfl⟩
  · rw [show near n = false from within_f (.inr h')]
    go_enter Tryd.func32, Tryd.ntmps32
    go_wp2
    go_ret
    exact ⟨by simp; omega, rfl⟩
  · rw [show near n = true from within_t h h']
    go_enter Tryd.func32, Tryd.ntmps32
    go_wp2
    go_ret
    exact ⟨rfl, rfl⟩

theorem cond_any (n : Int) (w : World) : Calls Tryd.prog 65 #[.int .i64 n] w fun e w' => e = .returned (.bool (isBr n)) ∧ w = w' := by
  have h : n < 30 ∨ (30 ≤ n ∧ 39 < n) ∨ (30 ≤ n ∧ n ≤ 39) := by omega
  rcases h with h | ⟨h, h'⟩ | ⟨h, h'⟩
  · rw [show isBr n = false from within_f (.inl h)]
    go_enter Tryd.func65, Tryd.ntmps65
    go_wp2
    go_ret
    exact ⟨rfl, rfl⟩
  · rw [show isBr n = false from within_f (.inr h')]
    go_enter Tryd.func65, Tryd.ntmps65
    go_wp2
    go_ret
    exact ⟨by simp; omega, rfl⟩
  · rw [show isBr n = true from within_t h h']
    go_enter Tryd.func65, Tryd.ntmps65
    go_wp2
    go_ret
    exact ⟨rfl, rfl⟩

theorem branch_any (n : Int) (w : World) : Calls Tryd.prog 45 #[.int .i64 n] w fun e w' => e = .returned (.bool (brOp n)) ∧ w = w' := by
  have hx : isBr n = true ∨ (isBr n = false ∧ n = 40) ∨ (isBr n = false ∧ ¬ n = 40) := by cases isBr n <;> simp <;> omega
  rcases hx with h | ⟨h, h'⟩ | ⟨h, h'⟩
  all_goals
    have e : brOp n = (isBr n || n == 40) := rfl
    first | (rw [h, Bool.true_or] at e) | (rw [h, h'] at e; subst h') | (rw [h, beq_false_of_ne h'] at e)
    rw [e]
    clear e
    go_enter Tryd.func45, Tryd.ntmps45
    go_wp2_with (go_at_call 65; refine (cond_any _ _).mono ?_; rintro e w' ⟨rfl, rfl⟩)
    go_ret
    exact ⟨by simp [*], rfl⟩
theorem goes_any (n : Int) (w : World) : Calls Tryd.prog 63 #[.int .i64 n] w fun e w' => e = .returned (.bool (goOp n)) ∧ w = w' := by
  have hx : brOp n = true ∨ (brOp n = false ∧ n = 41) ∨ (brOp n = false ∧ ¬ n = 41) := by cases brOp n <;> simp <;> omega
  rcases hx with h | ⟨h, h'⟩ | ⟨h, h'⟩
  all_goals
    have e : goOp n = (brOp n || n == 41 || n == 43) := rfl
    first | (rw [h, Bool.true_or, Bool.true_or] at e) | (rw [h, h'] at e; subst h') | (rw [h, beq_false_of_ne h'] at e)
    rw [e]
    clear e
    go_enter Tryd.func63, Tryd.ntmps63
    go_wp2_with (go_at_call 45; refine (branch_any _ _).mono ?_; rintro e w' ⟨rfl, rfl⟩)
    all_goals (go_ret; exact ⟨by simp [*], rfl⟩)

theorem other_any (n : Int) (w : World) (h0 : 0 ≤ n) (h1 : n ≤ 1000) : Calls Tryd.prog 68 #[.int .i64 n] w fun e w' => e = .returned (.int .i64 (otherOp n)) ∧ w = w' := by
  go_enter Tryd.func68, Tryd.ntmps68
  go_wp2
  all_goals (go_ret; refine ⟨?_, rfl⟩; unfold otherOp; simp_all)
theorem otherR_any (n : Int) (w : World) (h : isBr n = true) : Calls Tryd.prog 54 #[.int .i64 n] w fun e w' => e = .returned (.int .i64 (otherOp n)) ∧ w = w' := by
  have hx : n = 30 ∨ n = 31 ∨ n = 32 ∨ n = 33 ∨ n = 34 ∨ n = 35 ∨ n = 36 ∨ n = 37 ∨ n = 38 ∨ n = 39 := by
    simp only [isBr, within, Bool.and_eq_true, decide_eq_true_eq] at h
    omega
  rcases hx with rfl | rfl | rfl | rfl | rfl | rfl | rfl | rfl | rfl | rfl
  all_goals
    go_enter Tryd.func54, Tryd.ntmps54
    go_wp2
    go_ret
    exact ⟨rfl, rfl⟩

/-- A line as a value, its list's slice v. -/
abbrev lineV (l : Line) (v : Value) : Value := .agg #[.int .i64 l.op, .int .i64 l.a, .int .i64 l.b, .int .i64 l.imm, .int .u32 l.n, .int .i64 l.label, v]
theorem instruction_any (l : Line) (v : Value) (w : World) : Calls Tryd.prog 66 #[lineV l v] w fun e w' => e = .returned (.agg #[.int .i64 l.op, .int .i64 l.a, .int .i64 l.b, .int .i64 l.imm]) ∧ Below w.heap.size w w' := by
  go_enter Tryd.func66, Tryd.ntmps66
  go_wp2
  go_returns
  exact ⟨rfl, by go_grown⟩
theorem branchR_any (l : Line) (v : Value) (w : World) : Calls Tryd.prog 31 #[lineV l v] w fun e w' => e = .returned (.bool (brOp l.op)) ∧ Below w.heap.size w w' := by
  have hx : isBr l.op = true ∨ (isBr l.op = false ∧ l.op = 40) ∨ (isBr l.op = false ∧ ¬ l.op = 40) := by cases isBr l.op <;> simp <;> omega
  obtain ⟨op, a, b, imm, n, lb, list⟩ := l
  simp only [] at hx
  rcases hx with h | ⟨h, h'⟩ | ⟨h, h'⟩
  all_goals
    have e : brOp op = (isBr op || op == 40) := rfl
    first | (rw [h, Bool.true_or] at e) | (rw [h, h'] at e; subst h') | (rw [h, beq_false_of_ne h'] at e)
    rw [e]
    clear e
    go_enter Tryd.func31, Tryd.ntmps31
    go_wp2_with (go_at_call 51; refine (br_any _ _).mono ?_; rintro e w' ⟨rfl, rfl⟩)
    go_ret
    exact ⟨by simp [*], by go_grown⟩
theorem goesR_any (l : Line) (v : Value) (w : World) : Calls Tryd.prog 27 #[lineV l v] w fun e w' => e = .returned (.bool (goOp l.op)) ∧ Below w.heap.size w w' := by
  have hx : brOp l.op = true ∨ (brOp l.op = false ∧ l.op = 41) ∨ (brOp l.op = false ∧ ¬ l.op = 41) := by cases brOp l.op <;> simp <;> omega
  have hB := fun W => branchR_any l v W
  obtain ⟨op, a, b, imm, n, lb, list⟩ := l
  simp only [] at hx hB
  have HB := Lib.hid hB
  clear hB
  rcases hx with h | ⟨h, h'⟩ | ⟨h, h'⟩
  all_goals
    have e : goOp op = (brOp op || op == 41 || op == 43) := rfl
    first | (rw [h, Bool.true_or, Bool.true_or] at e) | (rw [h, h'] at e; subst h') | (rw [h, beq_false_of_ne h'] at e)
    rw [e]
    clear e
    go_enter Tryd.func27, Tryd.ntmps27
    go_wp2_with fail
    refine (HB.out _).mono ?_
    rintro e1 w1 ⟨rfl, hb1⟩
    have k0 : w1.cell? ⟨w.heap.size, 0, none⟩ = some (.int .i64 _) := kp hb1 (kn 0 rfl)
    have hb2 := bt hb1
    clear hb1
    go_wp2_with fail
    all_goals (go_ret; exact ⟨by simp [*], by go_grown⟩)
end Go.Proofs.YtamimnaafiphcaaDoor

namespace Go.Proofs.YtamimnaafiphcaaDoor
open Go.RowKit Go.Proofs.YtamimnaafiphcaaDoorW.PrintWords

def sizeP (l : Line) (lg : Bool) : Int :=
  if l.op = 0 then 0 else if l.op = 42 then 2 + l.list.length else if isBr l.op = true ∧ lg = true then 3 else if l.op = 40 ∧ lg = true then 2 else 1 + follows l.op

theorem follows_range (n : Int) : -1 ≤ follows n ∧ follows n ≤ 1 := by unfold follows; split <;> (try split) <;> omega

theorem size_any (g lb : Nat) (w : World) (A : Option Addr) (n c c' : Nat) (ls : List Line) (i : Nat) (l : Line) (lg : Bool) (hi : i < n) (_hn : n ≤ 60000)
    (c0 : w.cell? ⟨g, 0, none⟩ = some (.slice A n c)) (c2 : w.cell? ⟨g, 2, none⟩ = some (.slice (some ⟨lb, 0, none⟩) n c')) (hl : Lines w (.slice A n c) ls) (hli : ls[i]? = some l) (hb : w.cell? ⟨lb, i, none⟩ = some (.bool lg)) (hlen : l.list.length ≤ 400) :
    Calls Tryd.prog 64 #[.pointer (some ⟨g, 0, none⟩), .int .i64 i] w fun e w' => e = .returned (.int .i64 (sizeP l lg)) ∧ Below w.heap.size w w' := by
  obtain ⟨ad, l', v, rfl, hli', ⟨k0, k1, k2, k3, k4, k5, k6⟩, hv⟩ := hl.at_ i hi
  obtain rfl : l = l' := Option.some.inj (hli.symm.trans hli')
  clear hli hli' hl
  obtain ⟨AL, cL, rfl, hr⟩ := hv
  clear hr
  have hg := lt_of_cell c0
  have hlb := lt_of_cell hb
  simp only [] at hg hlb
  have hf := follows_range l.op
  go_enter Tryd.func64, Tryd.ntmps64
  go_wp2_with (first | (go_at_call 65; refine (cond_any _ _).mono ?_; rintro e w' ⟨rfl, rfl⟩) | (go_at_call 81; refine (follows_enc _ _).mono ?_; rintro e w' ⟨rfl, rfl⟩))
  all_goals (go_ret; refine ⟨?_, by go_grown⟩; unfold sizeP; first | (simp_all; done) | (simp_all; simp [follows, wrap64]))

end Go.Proofs.YtamimnaafiphcaaDoor

namespace Go.Proofs.YtamimnaafiphcaaDoor
open Go.RowKit Go.Proofs.YtamimnaafiphcaaDoorW.PrintWords

def x4 (l : Line) : Bool := (goOp l.op && l.imm != 0) || (l.n != 0 && l.op != 2)
def x6 (l : Line) : Bool := (!goOp l.op && l.label != 0) || !isLabel l.label
def x8 (l : Line) : Bool := (decide (0 < l.list.length) != (l.op == 42)) || decide (400 < l.list.length)

def fitsB (l : Line) : Bool :=
  if l.op = 0 then (l.a == 0) && (l.b == 0) && (l.imm == 0) && (l.n == 0) && (l.list.length == 0) && isLabel l.label else
  if x4 l then false else if x6 l then false else if x8 l then false else if l.list.all isLabel = false then false else (enc l.op l.a l.b l.imm).2 == 0

theorem Ints.below {w w' : World} {v : Value} {xs : List Int} (h : Ints w v xs) (hb : Below w.heap.size w w') : Ints w' v xs := by
  obtain ⟨A, c, e, hr⟩ := h
  exact ⟨A, c, e, Kd.C_below hr hb⟩

theorem Ints.at_ {w : World} {A : Option Addr} {n c : Nat} {xs : List Int} (h : Ints w (.slice A n c) xs) (i : Nat) (hi : i < n) : ∃ ad x, A = some ad ∧ xs[i]? = some x ∧ w.cell? (ad.add i) = some (.int .i64 x) := by
  obtain ⟨A', c', e, hr⟩ := h
  injection e with e1 e2 e3
  subst e1; subst e2
  obtain ⟨ad, rfl, hc⟩ := hr.2.2 (by omega)
  obtain ⟨cs, hs, hk, hcell⟩ := hc i (xs[i]) (List.getElem?_eq_getElem hi)
  have hk' : cs = [Value.int .i64 xs[i]] := hk
  subst hk'
  have := hcell 0 _ rfl
  exact ⟨ad, xs[i], rfl, List.getElem?_eq_getElem hi, by simpa [kInt, Kd.int, Kd.scalar] using this⟩

theorem Ints.len {w : World} {A : Option Addr} {n c : Nat} {xs : List Int} (h : Ints w (.slice A n c) xs) : xs.length = n ∧ n ≤ 9223372036854775807 := by
  obtain ⟨A', c', e, hr⟩ := h
  injection e with e1 e2 e3
  exact ⟨e2.symm, by rw [e2]; exact hr.2.1⟩

theorem fits_label (l : Line) (v : Value) (w : World) (hv : Ints w v l.list) (h0 : l.op = 0) :
    Calls Tryd.prog 62 #[lineV l v] w fun e w' => e = .returned (.bool (fitsB l)) ∧ Below w.heap.size w w' := by
  obtain ⟨A, c, rfl, hr⟩ := hv
  clear hr
  have hI := fun W => instruction_any l (.slice A l.list.length c) W
  have e : fitsB l = ((l.a == 0) && (l.b == 0) && (l.imm == 0) && (l.n == 0) && (l.list.length == 0) && isLabel l.label) := by unfold fitsB; rw [if_pos h0]
  rw [e]
  clear e
  generalize l.list.length = m at hI ⊢
  obtain ⟨op, a, b, imm, n, lb, list⟩ := l
  simp only [] at h0 hI ⊢
  subst h0
  have HI := Lib.hid hI
  clear hI
  go_enter Tryd.func62, Tryd.ntmps62
  go_wp2_with fail
  refine (HI.out _).mono ?_
  rintro e1 w1 ⟨rfl, hb1⟩
  have k0 : w1.cell? ⟨w.heap.size, 0, none⟩ = some (.int .i64 _) := kp hb1 (kn 0 rfl)
  have k4 : w1.cell? ⟨w.heap.size, 4, none⟩ = some (.int .u32 _) := kp hb1 (kn 4 rfl)
  have k5 : w1.cell? ⟨w.heap.size, 5, none⟩ = some (.int .i64 _) := kp hb1 (kn 5 rfl)
  have k6 : w1.cell? ⟨w.heap.size, 6, none⟩ = some (.slice _ _ _) := kp hb1 (kn 6 rfl)
  have hb2 := bt hb1
  have hs := lt_of_cell k0
  simp only [] at hs
  clear hb1
  go_wp2_with (go_at_call 80; refine (label_any _ _).mono ?_; rintro e w' ⟨rfl, rfl⟩)
  all_goals (go_ret; refine ⟨?_, by have hs2 := hb2.size; go_grown⟩)
  all_goals first | (simp [*]; done) | (simp_all; done)

set_option maxRecDepth 100000 in
set_option maxHeartbeats 4000000 in
theorem fits_plain (l : Line) (v : Value) (w : World) (hL : Laid w) (hv : Ints w v l.list) (h0 : ¬ l.op = 0) :
    Calls Tryd.prog 62 #[lineV l v] w fun e w' => e = .returned (.bool (fitsB l)) ∧ Below w.heap.size w w' := by
  have HV := Lib.hid hv
  have HL := Lib.hid hL
  obtain ⟨A, c, rfl, hr⟩ := hv
  have hm : l.list.length ≤ 9223372036854775807 := hr.2.1
  clear hr hL
  have hI := fun W => instruction_any l (.slice A l.list.length c) W
  have hE := fun W hW => encode_any l.op l.a l.b l.imm W hW
  have E := Lib.hid (show fitsB l = (if x4 l then false else if x6 l then false else if x8 l then false else if l.list.all isLabel = false then false else (enc l.op l.a l.b l.imm).2 == 0) by unfold fitsB; rw [if_neg h0])
  have X4 := Lib.hid (show x4 l = ((goOp l.op && l.imm != 0) || (l.n != 0 && l.op != 2)) from rfl)
  have X6 := Lib.hid (show x6 l = ((!goOp l.op && l.label != 0) || !isLabel l.label) from rfl)
  have X8 := Lib.hid (show x8 l = ((decide (0 < l.list.length) != (l.op == 42)) || decide (400 < l.list.length)) from rfl)
  generalize hx4 : x4 l = b4 at E X4
  generalize hx6 : x6 l = b6 at E X6
  generalize hx8 : x8 l = b8 at E X8
  generalize hf : fitsB l = bf at E ⊢
  clear hx4 hx6 hx8 hf
  obtain ⟨op, a, b, imm, n, lb, list⟩ := l
  simp only [] at h0 hI hE HV E X4 X6 X8 hm ⊢
  generalize hg : enc op a b imm = en at hE E
  obtain ⟨ew, ez⟩ := en
  clear hg
  simp only [] at hE E
  have HE := Lib.hid hE
  have HI := Lib.hid hI
  clear hI hE
  have h0' : (op == 0) = false := by simpa using h0
  clear h0
  dsimp only [lineV]
  go_enter Tryd.func62, Tryd.ntmps62
  go_wp2_with fail
  refine (HI.out _).mono ?_
  rintro e1 w1 ⟨rfl, hb1⟩
  have k0 : w1.cell? ⟨w.heap.size, 0, none⟩ = some (.int .i64 _) := kp hb1 (kn 0 rfl)
  have k3 : w1.cell? ⟨w.heap.size, 3, none⟩ = some (.int .i64 _) := kp hb1 (kn 3 rfl)
  have k4 : w1.cell? ⟨w.heap.size, 4, none⟩ = some (.int .u32 _) := kp hb1 (kn 4 rfl)
  have k5 : w1.cell? ⟨w.heap.size, 5, none⟩ = some (.int .i64 _) := kp hb1 (kn 5 rfl)
  have k6 : w1.cell? ⟨w.heap.size, 6, none⟩ = some (.slice _ _ _) := kp hb1 (kn 6 rfl)
  have hb2 := bt hb1
  have hs := lt_of_cell k0
  simp only [] at hs
  clear hb1
  go_upto_region 4 with fail
  generalize hW : w1.alloc (.cells #[.int .i64 op, .int .i64 a, .int .i64 b, .int .i64 imm] 44) = W
  have hbW : Below w1.heap.size w1 W := by rw [← hW]; exact (Below.refl _ _).alloc (Nat.le_refl _) _
  have j0 : W.cell? ⟨w1.heap.size, 0, none⟩ = some (.int .i64 op) := by rw [← hW]; exact kn 0 rfl
  have j1 : W.cell? ⟨w1.heap.size, 1, none⟩ = some (.int .i64 a) := by rw [← hW]; exact kn 1 rfl
  have j2 : W.cell? ⟨w1.heap.size, 2, none⟩ = some (.int .i64 b) := by rw [← hW]; exact kn 2 rfl
  have j3 : W.cell? ⟨w1.heap.size, 3, none⟩ = some (.int .i64 imm) := by rw [← hW]; exact kn 3 rfl
  replace k0 := kp hbW k0
  replace k3 := kp hbW k3
  replace k4 := kp hbW k4
  replace k5 := kp hbW k5
  replace k6 := kp hbW k6
  have hbw := bj hb2 hbW
  clear hW hb2 hbW
  go_cut [0, 49] (fun s0 s49 w' => (∃ x, s0 = x) ∧ s49 = .bool b4 ∧ W = w')
  case first =>
    go_wp2_with (go_at_call 63; refine (goes_any _ _).mono ?_; rintro e w' ⟨rfl, rfl⟩)
    all_goals go_meet
    all_goals refine ⟨⟨_, rfl⟩, ?_, rfl⟩
    all_goals (rw [X4.out]; simp [*])
  case rest =>
    obtain ⟨⟨s0, rfl⟩, rfl, rfl⟩ := hcut
    cases b4 with
    | true =>
      go_wp2
      go_ret
      exact ⟨by rw [E.out]; rfl, by go_grown⟩
    | false =>
      go_upto_region 6 with fail
      go_cut [64] (fun s64 w' => s64 = .bool b6 ∧ W = w')
      case first =>
        go_wp2_with (first | (go_at_call 63; refine (goes_any _ _).mono ?_; rintro e w' ⟨rfl, rfl⟩) | (go_at_call 80; refine (label_any _ _).mono ?_; rintro e w' ⟨rfl, rfl⟩))
        all_goals go_meet
        all_goals refine ⟨?_, rfl⟩
        all_goals (rw [X6.out]; simp [*])
      case rest =>
        obtain ⟨rfl, rfl⟩ := hcut
        cases b6 with
        | true =>
          go_wp2
          go_ret
          exact ⟨by rw [E.out]; rfl, by go_grown⟩
        | false =>
          go_upto_region 8 with fail
          go_cut [78] (fun s78 w' => s78 = .bool b8 ∧ W = w')
          case first =>
            go_wp2
            all_goals go_meet
            all_goals refine ⟨?_, rfl⟩
            all_goals (rw [X8.out]; first | (simp [*]; done) | (simp [*]; omega))
          case rest =>
            obtain ⟨rfl, rfl⟩ := hcut
            cases b8 with
            | true =>
              go_wp2
              go_ret
              exact ⟨by rw [E.out]; rfl, by go_grown⟩
            | false =>
              have HA := Lib.hid (HV.out.below hbw)
              have hs2 : w.heap.size ≤ W.heap.size := hbw.size
              go_wp2_with fail
              go_loop [82] (fun s => ∃ k : Nat, k ≤ list.length ∧ s = .int .i64 k ∧ Hid ((list.take k).all isLabel = true)) (fun s => list.length - (intOf s).toNat)
              case atStart => exact ⟨0, Nat.zero_le _, rfl, rfl⟩
              case round =>
                obtain ⟨k, hk, rfl, hall⟩ := hrel
                by_cases hlt : k < list.length
                · obtain ⟨ad, x, hA, hx, kx⟩ := HA.out.at_ k hlt
                  subst hA
                  by_cases hlx : isLabel x = true
                  · go_wp2_with (go_at_call 80; refine (label_any _ _).mono ?_; rintro e w' ⟨rfl, rfl⟩)
                    go_round
                    case rel => exact ⟨k + 1, by omega, by go_num, Lib.hid (by rw [List.take_add_one, hx, List.all_append, hall.out]; simp [hlx])⟩
                    case measure => simp [intOf]; omega
                  · have hlx' : isLabel x = false := by simpa using hlx
                    have hF : list.all isLabel = false := by
                      rw [List.all_eq_false]
                      exact ⟨x, List.mem_of_getElem? hx, by simp [hlx']⟩
                    have HF := Lib.hid hF
                    clear hF hlx
                    go_wp2_with (go_at_call 80; refine (label_any _ _).mono ?_; rintro e w' ⟨rfl, rfl⟩)
                    go_ret
                    exact ⟨by rw [E.out, HF.out]; rfl, by go_grown⟩
                · have hk' : k = list.length := by omega
                  have HF := Lib.hid (show list.all isLabel = true by have := hall.out; rw [hk', List.take_length] at this; exact this)
                  clear hk' hall
                  go_wp2_with fail
                  refine (HE.out _ (HL.out.below hbw)).mono ?_
                  rintro e3 w3 ⟨rfl, hb3⟩
                  have hbw3 := bj hbw hb3
                  have hs3 := hbw3.size
                  go_wp2_with fail
                  go_ret
                  exact ⟨by rw [E.out, HF.out]; rfl, by go_grown⟩

theorem fits_any (l : Line) (v : Value) (w : World) (hL : Laid w) (hv : Ints w v l.list) :
    Calls Tryd.prog 62 #[lineV l v] w fun e w' => e = .returned (.bool (fitsB l)) ∧ Below w.heap.size w w' := by
  by_cases h0 : l.op = 0
  · exact fits_label l v w hv h0
  · exact fits_plain l v w hL hv h0

end Go.Proofs.YtamimnaafiphcaaDoor

namespace Go.Proofs.YtamimnaafiphcaaDoor
open Go.RowKit Go.Proofs.YtamimnaafiphcaaDoorW.PrintWords Go.Maps

theorem bdn (w : World) (n : Nat) : Below w.heap.size w (w.drewN n) := ⟨rfl, rfl, rfl, Nat.le_refl _, fun _ _ => rfl⟩

theorem keyed : Keyed Tryd.prog 3 := int_keyed Tryd.underlying3
theorem zeroInt (w : World) : (zeroValue 3).run Tryd.prog w = .ok (.int .i64 0) w := by kernel_rfl

/-- Block b is a map of at most n entries, that holds just what f tells. -/
def IMap (w : World) (b n : Nat) (f : Int → Option Int) : Prop :=
  ∃ D : DataW Unit, w.ownsMap Tryd.prog 3 (plainElem Tryd.prog 3) b n D ∧ ∀ k, (Lit.int .i64 k).wf = true → Maps.has D (.int .i64 k) = (f k).isSome ∧ D.atKey (.int .i64 k) (.lit (.int .i64 0)) = .lit (.int .i64 ((f k).getD 0))

theorem IMap.look {w : World} {b n : Nat} {f : Int → Option Int} (h : IMap w b n f) (k : Int) (hk : (Lit.int .i64 k).wf = true) :
    (Instr.lookup 77 (.map (some b)) (.int .i64 k) false).run Tryd.prog w = .ok (.int .i64 ((f k).getD 0)) w := by
  obtain ⟨D, ho, hD⟩ := h
  obtain ⟨c, hrun, hat, _⟩ := ho.lookup_int keyed Tryd.underlying77 Tryd.underlying3 (zeroInt w) (keyOf_int_mk Tryd.underlying3 hk)
  have e : c = (f k).getD 0 := by
    have := hat.symm.trans (hD k hk).2
    simp only [DataW.lit.injEq, Lit.int.injEq, true_and] at this
    exact this
  exact e ▸ hrun

theorem IMap.look_ok {w : World} {b n : Nat} {f : Int → Option Int} (h : IMap w b n f) (k : Int) (hk : (Lit.int .i64 k).wf = true) :
    (Instr.lookup 77 (.map (some b)) (.int .i64 k) true).run Tryd.prog w = .ok (.tuple #[.int .i64 ((f k).getD 0), .bool (f k).isSome]) w := by
  obtain ⟨D, ho, hD⟩ := h
  obtain ⟨v, ps, hrun, hv⟩ := ho.look_ok keyed Tryd.underlying77 (zeroInt w) (plainElem_int Tryd.underlying3 (by decide)) (keyOf_int_mk Tryd.underlying3 hk)
  obtain ⟨c, rfl, hc, _⟩ := plainElem_int_inv Tryd.underlying3 hv
  have e : c = (f k).getD 0 := by
    have := (congrArg Prod.fst hc).symm.trans (hD k hk).2
    simp only [DataW.lit.injEq, Lit.int.injEq, true_and] at this
    exact this
  have e2 := (hD k hk).1
  subst e
  exact e2 ▸ hrun

theorem IMap.drewN {w : World} {b n : Nat} {f : Int → Option Int} (h : IMap w b n f) (m : Nat) : IMap (w.drewN m) b n f := by
  obtain ⟨D, ⟨es, clock, hb, r⟩, hD⟩ := h
  exact ⟨D, ⟨es, clock, hb, r⟩, hD⟩

theorem IMap.below {w w' : World} {b n : Nat} {f : Int → Option Int} (h : IMap w b n f) (hb : Below w.heap.size w w') : IMap w' b n f := by
  obtain ⟨D, ho, hD⟩ := h
  have hlt := ho.lt
  obtain ⟨es, clock, hbl, r⟩ := ho
  exact ⟨D, ⟨es, clock, by rw [hb.block b hlt]; exact hbl, r⟩, hD⟩

theorem IMap.mono {w : World} {b n m : Nat} {f : Int → Option Int} (h : IMap w b n f) (hm : n ≤ m) : IMap w b m f := by
  obtain ⟨D, ho, hD⟩ := h
  exact ⟨D, ho.mono hm, hD⟩

theorem away_any (g mb pb : Nat) (w : World) (A : Option Addr) (n c c' m : Nat) (ls : List Line) (i : Nat) (l : Line) (p : Int) (f : Int → Option Int) (hi : i < n)
    (c0 : w.cell? ⟨g, 0, none⟩ = some (.slice A n c)) (c1 : w.cell? ⟨g, 1, none⟩ = some (.map (some mb))) (c3 : w.cell? ⟨g, 3, none⟩ = some (.slice (some ⟨pb, 0, none⟩) n c'))
    (hl : Lines w (.slice A n c) ls) (hli : ls[i]? = some l) (hp : w.cell? ⟨pb, i, none⟩ = some (.int .i64 p)) (hM : IMap w mb m f) (hlb : (Lit.int .i64 l.label).wf = true)
    (h0 : 0 ≤ p) (h1 : p ≤ 100000000) (h2 : 0 ≤ (f l.label).getD 0) (h3 : (f l.label).getD 0 ≤ 100000000) :
    Calls Tryd.prog 46 #[.pointer (some ⟨g, 0, none⟩), .int .i64 i] w fun e w' => e = .returned (.int .i64 ((f l.label).getD 0 - p - 1)) ∧ Below w.heap.size w w' := by
  obtain ⟨ad, l', v, rfl, hli', ⟨k0, k1, k2, k3, k4, k5, k6⟩, hv⟩ := hl.at_ i hi
  obtain rfl : l = l' := Option.some.inj (hli.symm.trans hli')
  have hlk := fun q => (hM.drewN q).look l.label hlb
  clear hli hli' hl hv k1 k2 k3 k4 k6 hM
  generalize (f l.label).getD 0 = x at hlk h2 h3 ⊢
  have hi0 : (0 : Int) ≤ (i : Int) := Int.natCast_nonneg _
  have hi1 : (i : Int) < (n : Int) := by omega
  go_enter Tryd.func46, Tryd.ntmps46
  go_wp2_with fail
  go_quiet (fail)
  go_wp2
  go_ret
  exact ⟨rfl, bdn _ _⟩

end Go.Proofs.YtamimnaafiphcaaDoor

namespace Go.Proofs.YtamimnaafiphcaaDoor
open Go.RowKit Go.Proofs.YtamimnaafiphcaaDoorW.PrintWords Go.Maps

/-- The first look: line by line, with the labels that stood ahead. -/
def ref1 (seen : List Int) : Nat → List Line → (Nat × Int) ⊕ List Int
  | _, [] => .inr seen
  | i, l :: r =>
    if l.op < 0 ∨ 48 < l.op then .inl (i, 170) else
    if fitsB l = false then .inl (i, 171) else
    if l.op = 0 then (if l.label ∈ seen then .inl (i, 172) else ref1 (l.label :: seen) (i + 1) r) else ref1 seen (i + 1) r

/-- The labels that a line goes to. -/
def targets (l : Line) : List Int := if goOp l.op then [l.label] else l.list

/-- The second look. -/
def ref2 (seen : List Int) : Nat → List Line → Nat × Int
  | _, [] => (0, 0)
  | i, l :: r => if (targets l).all (fun x => decide (x ∈ seen)) then ref2 seen (i + 1) r else (i, 173)

def refusedP (ls : List Line) : Nat × Int :=
  if 60000 < ls.length then (0, 2) else match ref1 [] 0 ls with
    | .inl e => e
    | .inr seen => ref2 seen 0 ls

theorem IMap.store {w : World} {b n : Nat} {f : Int → Option Int} (h : IMap w b n f) (k v : Int) (hk : (Lit.int .i64 k).wf = true) (hv : (Lit.int .i64 v).wf = true) (hn : n < maxLen) :
    ∃ w', (Instr.mapUpdate 77 (.map (some b)) (.int .i64 k) (.int .i64 v)).run Tryd.prog w = .ok () w' ∧ IMap w' b (n + 1) (fun x => if x = k then some v else f x) ∧ w.grownBy w' (some b) := by
  obtain ⟨D, ho, hD⟩ := h
  obtain ⟨w', hrun, ho', hg⟩ := ho.update keyed Tryd.underlying77 hn (keyOf_int_mk Tryd.underlying3 hk) (plainElem_int Tryd.underlying3 hv)
  have hm := ho.isMap
  refine ⟨w', hrun, ⟨_, ho', fun x hx => ?_⟩, hg⟩
  have hkl : WideAt.IsKeyLit (.int .i64 k) := by simp [WideAt.IsKeyLit]
  by_cases e : x = k
  · subst e
    simp only [if_true]
    exact ⟨has_put_same hm hkl _, atKey_put_same hm hkl _ _⟩
  · have hne : (Lit.int .i64 x) ≠ (Lit.int .i64 k) := by simpa using e
    simp only [if_neg e]
    rw [has_put_other hne, atKey_put_other hne]
    exact hD x hx

theorem IMap.drew {w : World} {b n : Nat} {f : Int → Option Int} (h : IMap w b n f) : IMap w.drew b n f := by
  obtain ⟨D, ⟨es, clock, hb, r⟩, hD⟩ := h
  exact ⟨D, ⟨es, clock, hb, r⟩, hD⟩

theorem IMap.grown {w w' : World} {b n : Nat} {f : Int → Option Int} {row : Option Nat} (h : IMap w b n f) (hg : w.grownBy w' row) (hne : some b ≠ row) : IMap w' b n f := by
  obtain ⟨D, ho, hD⟩ := h
  exact ⟨D, ho.kept hg hne, hD⟩

theorem IMap.lt {w : World} {b n : Nat} {f : Int → Option Int} (h : IMap w b n f) : b < w.heap.size := h.choose_spec.1.lt

theorem IMap.congr {w : World} {b n : Nat} {f f' : Int → Option Int} (h : IMap w b n f) (he : ∀ x, f x = f' x) : IMap w b n f' := by
  have : f = f' := funext he
  exact this ▸ h

theorem Laid.grown {w w' : World} {row : Nat} (h : Laid w) (hg : w.grownBy w' (some row)) (hr : row ≠ 0) : Laid w' :=
  ⟨Nat.lt_of_lt_of_le h.1 hg.size, fun i hi => hg.cell (h.2 i hi) (by intro e; injection e with e; exact hr e.symm)⟩

end Go.Proofs.YtamimnaafiphcaaDoor

namespace Go.Proofs.YtamimnaafiphcaaDoor
open Go.RowKit Go.Proofs.YtamimnaafiphcaaDoorW.PrintWords Go.Maps

/-- What the map holds when these labels have been seen. -/
def seenMap (seen : List Int) : Int → Option Int := fun x => if x ∈ seen then some 0 else none

structure RefI (w wr : World) (g mb : Nat) (A : Option Addr) (n c : Nat) (ls : List Line) (k : Nat) (seen : List Int) : Prop where
  c0 : wr.cell? ⟨g, 0, none⟩ = some (.slice A n c)
  c1 : wr.cell? ⟨g, 1, none⟩ = some (.map (some mb))
  lines : Lines wr (.slice A n c) ls
  map : IMap wr mb k (seenMap seen)
  laid : Laid wr
  grown : w.grownBy wr (some mb)
  scan : ref1 [] 0 ls = ref1 seen k (ls.drop k)

theorem RefI.below {w wr w' : World} {g mb : Nat} {A : Option Addr} {n c : Nat} {ls : List Line} {k : Nat} {seen : List Int} (h : RefI w wr g mb A n c ls k seen) (hb : Below wr.heap.size wr w') : RefI w w' g mb A n c ls k seen :=
  ⟨kp hb h.c0, kp hb h.c1, h.lines.below hb, h.map.below hb, h.laid.below hb, World.grownBy.trans h.grown (grown_of_below hb _), h.scan⟩

theorem Ints.grown {w w' : World} {v : Value} {xs : List Int} {row : Nat} (h : Ints w v xs) (hg : w.grownBy w' (some row)) (hm : ∃ es clock, w.heap[row]? = some (.map es clock)) : Ints w' v xs := by
  obtain ⟨A, c, e, hl, hn, hc⟩ := h
  refine ⟨A, c, e, hl, hn, fun hp => ?_⟩
  obtain ⟨ad, eA, hcells⟩ := hc hp
  refine ⟨ad, eA, fun j p hj => ?_⟩
  obtain ⟨cs, hs, hk, hcell⟩ := hcells j p hj
  refine ⟨cs, hs, hk, fun i u hu => hg.cell (hcell i u hu) ?_⟩
  intro eb
  obtain ⟨es, clock, hb⟩ := hm
  have := hcell i u hu
  injection eb with eb
  simp only [World.cell?, eb, hb] at this
  cases this

theorem map_block {w : World} {b n : Nat} {f : Int → Option Int} (h : IMap w b n f) : ∃ es clock, w.heap[b]? = some (.map es clock) := by
  obtain ⟨D, ⟨es, clock, hb, _⟩, _⟩ := h
  exact ⟨es, clock, hb⟩

/-- A cell is no part of a map's block. -/
theorem cell_map {w w' : World} {p : Addr} {v : Value} {b n : Nat} {f : Int → Option Int} (h : w.cell? p = some v) (hM : IMap w b n f) (hg : w.grownBy w' (some b)) : w'.cell? p = some v := by
  refine hg.cell h ?_
  intro eb
  obtain ⟨es, clock, hb⟩ := map_block hM
  injection eb with eb
  simp only [World.cell?, eb, hb] at h
  cases h

theorem Lines.stored {w w' : World} {v : Value} {ls : List Line} {b n : Nat} {f : Int → Option Int} (h : Lines w v ls) (hM : IMap w b n f) (hg : w.grownBy w' (some b)) : Lines w' v ls := by
  obtain ⟨A, c, e, hl, hn, hc⟩ := h
  refine ⟨A, c, e, hl, hn, fun hp => ?_⟩
  obtain ⟨ad, eA, hcells⟩ := hc hp
  refine ⟨ad, eA, fun j l hj => ?_⟩
  obtain ⟨cs, hs, hk, hcell⟩ := hcells j l hj
  refine ⟨cs, hs, ?_, fun i u hu => cell_map (hcell i u hu) hM hg⟩
  obtain ⟨c0, r0, e0, h0, c1, r1, e1, h1, c2, r2, e2, h2, c3, r3, e3, h3, c4, r4, e4, h4, c5, r5, e5, h5, hx⟩ := hk
  refine ⟨c0, r0, e0, h0, c1, r1, e1, h1, c2, r2, e2, h2, c3, r3, e3, h3, c4, r4, e4, h4, c5, r5, e5, h5, ?_⟩
  obtain ⟨A', c', ex, hlx, hr⟩ := hx
  have hI : Ints w (.slice A' l.list.length c') l.list := ⟨A', c', rfl, hr⟩
  obtain ⟨A2, c2', ey, hr2⟩ := hI.grown hg (map_block hM)
  injection ey with ey1 ey2 ey3
  exact ⟨A', c', ex, hlx, ey1 ▸ hr2⟩

theorem RefI.stored {w wr w' : World} {g mb : Nat} {A : Option Addr} {n c : Nat} {ls : List Line} {k : Nat} {seen : List Int} {x : Int} (h : RefI w wr g mb A n c ls k seen) (hg : wr.grownBy w' (some mb)) (hm0 : mb ≠ 0)
    (hM : IMap w' mb (k + 1) (fun y => if y = x then some 0 else seenMap seen y)) (hs : ref1 [] 0 ls = ref1 (x :: seen) (k + 1) (ls.drop (k + 1))) : RefI w w' g mb A n c ls (k + 1) (x :: seen) :=
  ⟨cell_map h.c0 h.map hg, cell_map h.c1 h.map hg, h.lines.stored h.map hg, hM.congr (fun y => by unfold seenMap; by_cases e : y = x <;> simp [e]), h.laid.grown hg hm0, World.grownBy.trans h.grown hg, hs⟩

theorem RefI.next {w wr : World} {g mb : Nat} {A : Option Addr} {n c : Nat} {ls : List Line} {k : Nat} {seen : List Int} (h : RefI w wr g mb A n c ls k seen) (hs : ref1 [] 0 ls = ref1 seen (k + 1) (ls.drop (k + 1))) : RefI w wr g mb A n c ls (k + 1) seen :=
  ⟨h.c0, h.c1, h.lines, h.map.mono (Nat.le_succ _), h.laid, h.grown, hs⟩

theorem RefI.drew {w wr : World} {g mb : Nat} {A : Option Addr} {n c : Nat} {ls : List Line} {k : Nat} {seen : List Int} (h : RefI w wr g mb A n c ls k seen) : RefI w wr.drew g mb A n c ls k seen :=
  h.below ((Below.refl _ _).drew)

theorem ints_one (w : World) (x : Int) (t : TypeId) (g : Nat) (hg : g = w.heap.size) : Ints (w.alloc (.cells #[.int .i64 x] t)) (.slice (some ⟨g, 0, none⟩) 1 1) [x] := by
  subst hg
  refine ⟨_, _, rfl, rfl, by simp, fun _ => ⟨_, rfl, fun j p hj => ?_⟩⟩
  rcases j with _ | j
  · obtain rfl : x = p := by simpa using hj
    refine ⟨[.int .i64 x], rfl, rfl, fun i u hu => ?_⟩
    rcases i with _ | i
    · obtain rfl : Value.int .i64 x = u := by simpa using hu
      exact kn 0 rfl
    · simp at hu
  · simp at hj

set_option maxRecDepth 100000 in
set_option maxHeartbeats 4000000 in
theorem refused_any (g mb : Nat) (w : World) (A : Option Addr) (n c : Nat) (ls : List Line) (h0 : RefI w w g mb A n c ls 0 []) (hwf : ∀ l ∈ ls, (Lit.int .i64 l.label).wf = true ∧ ∀ x ∈ l.list, (Lit.int .i64 x).wf = true) (hm0 : mb ≠ 0) (_hmg : mb ≠ g) :
    Calls Tryd.prog 43 #[.pointer (some ⟨g, 0, none⟩)] w fun e w' => e = .returned (.tuple #[.int .i64 ((refusedP ls).1 : Nat), .int .i64 (refusedP ls).2]) ∧
      w.grownBy w' (some mb) ∧ ((refusedP ls).2 = 0 → ∃ seen, ref1 [] 0 ls = .inr seen ∧ RefI w w' g mb A n c ls n seen) := by
  have hn := h0.lines.len
  have c0 := h0.c0
  have H0 := Lib.hid h0
  have HW := Lib.hid hwf
  have hg := lt_of_cell c0
  simp only [] at hg
  clear h0 hwf
  by_cases hbig : 60000 < n
  · have e : refusedP ls = (0, 2) := by unfold refusedP; rw [if_pos (by omega)]
    rw [e]
    go_enter Tryd.func43, Tryd.ntmps43
    go_wp2
    go_ret2
    exact ⟨rfl, World.grownBy.refl _ _, fun h => absurd h (by decide)⟩
  · have e : refusedP ls = (match ref1 [] 0 ls with | .inl e => e | .inr seen => ref2 seen 0 ls) := by unfold refusedP; rw [if_neg (by omega)]; try rfl
    have E := Lib.hid e
    clear e
    go_enter Tryd.func43, Tryd.ntmps43
    go_wp2_with fail
    go_loopw [26] (fun s wr => ∃ (k : Nat) (seen : List Int), k ≤ n ∧ s = .int .i64 k ∧ Hid (RefI w wr g mb A n c ls k seen)) (fun s _ => n - (intOf s).toNat)
    case atStart => exact ⟨0, [], Nat.zero_le _, rfl, H0.out⟩
    case round =>
      obtain ⟨k, seen, hk, rfl, hR⟩ := hrel
      have r0 := hR.out.c0
      have r1 := hR.out.c1
      have hgr := lt_of_cell r0
      simp only [] at hgr
      by_cases hlt : k < n
      · obtain ⟨ad, l, v, hA, hl, ⟨k0, k1, k2, k3, k4, k5, k6⟩, hv⟩ := hR.out.lines.at_ k hlt
        have hdrop : ls.drop k = l :: ls.drop (k + 1) := by
          rw [List.drop_eq_getElem_cons (by omega)]
          congr 1
          exact Option.some.inj ((List.getElem?_eq_getElem _).symm.trans hl)
        have hsc := hR.out.scan
        rw [hdrop] at hsc
        have hmem : l ∈ ls := List.mem_of_getElem? hl
        obtain ⟨AL, cL, rfl, hr⟩ := hv
        have HV := Lib.hid (show Ints wr (.slice AL l.list.length cL) l.list from ⟨AL, cL, rfl, hr⟩)
        have hwl := (HW.out l hmem).1
        clear hr hl hdrop hmem
        subst hA
        by_cases hop : l.op < 0 ∨ 48 < l.op
        · have hfin : ref1 [] 0 ls = .inl (k, 170) := by rw [hsc]; unfold ref1; rw [if_pos hop]
          have HF := Lib.hid (show refusedP ls = (k, 170) by rw [E.out, hfin])
          clear hsc hfin
          rcases hop with hop | hop
          all_goals
            go_wp2_with fail
            all_goals go_ret2
            all_goals exact ⟨by rw [HF.out]; rfl, World.grownBy.trans hR.out.grown (grown_of_below (by go_grown) _), fun h => by rw [HF.out] at h; simp at h⟩
        · have hop1 : 0 ≤ l.op := by omega
          have hop2 : l.op ≤ 48 := by omega
          have hd : decide (48 < l.op) = false := decide_eq_false (by omega)
          have hop' : ¬ (l.op < 0 ∨ 48 < l.op) := hop
          have HFit := Lib.hid (fun W hW hI => fits_any l (.slice AL l.list.length cL) W hW hI)
          by_cases hfit : fitsB l = false
          · have hfin : ref1 [] 0 ls = .inl (k, 171) := by rw [hsc]; unfold ref1; rw [if_neg hop, if_pos hfit]
            have HF := Lib.hid (show refusedP ls = (k, 171) by rw [E.out, hfin])
            rw [hfit] at HFit
            clear hsc hfin hop hop' hfit
            go_wp2_with fail
            have hbx : Below wr.heap.size wr (wr.alloc (.cells #[.int .i64 l.op, .int .i64 l.a, .int .i64 l.b, .int .i64 l.imm, .int .u32 l.n, .int .i64 l.label, .slice AL l.list.length cL] 40)) := (Below.refl _ _).alloc (Nat.le_refl _) _
            refine (HFit.out _ (hR.out.laid.below hbx) (HV.out.below hbx)).mono ?_
            rintro e w1 ⟨rfl, hb1⟩
            have hb2 := bt hb1
            have hs2 := hb2.size
            go_wp2_with fail
            go_ret2
            exact ⟨by rw [HF.out]; rfl, World.grownBy.trans hR.out.grown (grown_of_below (by go_grown) _), fun h => by rw [HF.out] at h; simp at h⟩
          · have hfit' : fitsB l = true := by simpa using hfit
            rw [hfit'] at HFit
            by_cases hz : l.op = 0
            · by_cases hs : l.label ∈ seen
              · have hfin : ref1 [] 0 ls = .inl (k, 172) := by rw [hsc]; unfold ref1; rw [if_neg hop, if_neg hfit, if_pos hz, if_pos hs]
                have HF := Lib.hid (show refusedP ls = (k, 172) by rw [E.out, hfin])
                have hz' : (l.op == 0) = true := by simpa using hz
                clear hsc hfin hop hop' hfit hfit' hz
                go_wp2_with fail
                have hbx : Below wr.heap.size wr (wr.alloc (.cells #[.int .i64 l.op, .int .i64 l.a, .int .i64 l.b, .int .i64 l.imm, .int .u32 l.n, .int .i64 l.label, .slice AL l.list.length cL] 40)) := (Below.refl _ _).alloc (Nat.le_refl _) _
                refine (HFit.out _ (hR.out.laid.below hbx) (HV.out.below hbx)).mono ?_
                rintro e w1 ⟨rfl, hb1⟩
                have b0 : w1.cell? ⟨wr.heap.size, 0, none⟩ = some (.int .i64 l.op) := kp hb1 (kn 0 rfl)
                have b5 : w1.cell? ⟨wr.heap.size, 5, none⟩ = some (.int .i64 l.label) := kp hb1 (kn 5 rfl)
                have hb2 := bt hb1
                have hs2 := hb2.size
                have hR1 := Lib.hid (hR.out.below hb2)
                have q1 := hR1.out.c1
                have hlk : ∀ m, (Instr.lookup 77 (.map (some mb)) (.int .i64 l.label) true).run Tryd.prog (w1.drewN m) = .ok (.tuple #[.int .i64 0, .bool true]) (w1.drewN m) := fun m => by
                  have := (hR1.out.map.drewN m).look_ok l.label hwl
                  simpa [seenMap, hs] using this
                clear hb1
                go_wp2_with fail
                go_quiet (fail)
                go_wp2_with fail
                go_ret2
                exact ⟨by rw [HF.out]; rfl, World.grownBy.trans hR1.out.grown (grown_of_below (bdn _ _) _), fun h => by rw [HF.out] at h; simp at h⟩
              · have hnext : ref1 [] 0 ls = ref1 (l.label :: seen) (k + 1) (ls.drop (k + 1)) := by rw [hsc]; conv => lhs; unfold ref1; rw [if_neg hop, if_neg hfit, if_pos hz, if_neg hs]
                have HN := Lib.hid hnext
                have hz' : (l.op == 0) = true := by simpa using hz
                clear hsc hnext hop hop' hfit hfit' hz
                go_wp2_with fail
                have hbx : Below wr.heap.size wr (wr.alloc (.cells #[.int .i64 l.op, .int .i64 l.a, .int .i64 l.b, .int .i64 l.imm, .int .u32 l.n, .int .i64 l.label, .slice AL l.list.length cL] 40)) := (Below.refl _ _).alloc (Nat.le_refl _) _
                refine (HFit.out _ (hR.out.laid.below hbx) (HV.out.below hbx)).mono ?_
                rintro e w1 ⟨rfl, hb1⟩
                have b0 : w1.cell? ⟨wr.heap.size, 0, none⟩ = some (.int .i64 l.op) := kp hb1 (kn 0 rfl)
                have b5 : w1.cell? ⟨wr.heap.size, 5, none⟩ = some (.int .i64 l.label) := kp hb1 (kn 5 rfl)
                have hb2 := bt hb1
                have hs2 := hb2.size
                have hR1 := Lib.hid (hR.out.below hb2)
                have q1 := hR1.out.c1
                have hlk : ∀ m, (Instr.lookup 77 (.map (some mb)) (.int .i64 l.label) true).run Tryd.prog (w1.drewN m) = .ok (.tuple #[.int .i64 0, .bool false]) (w1.drewN m) := fun m => by
                  have := (hR1.out.map.drewN m).look_ok l.label hwl
                  simpa [seenMap, hs] using this
                clear hb1 hs
                go_wp2_with fail
                go_quiet (fail)
                have hR2 := hR1.out.below (bdn w1 nq)
                replace b0 := kp (bdn w1 nq) b0
                replace b5 := kp (bdn w1 nq) b5
                have hs3 : wr.heap.size ≤ (w1.drewN nq).heap.size := hs2
                generalize w1.drewN nq = W2 at hR2 b0 b5 hs3 ⊢
                obtain ⟨W3, hst, hM3, hg3⟩ := hR2.drew.map.store l.label 0 hwl (by decide) (by unfold maxLen; omega)
                replace q1 := hR2.c1
                have HR3 := Lib.hid (hR2.drew.stored hg3 hm0 hM3 HN.out)
                clear hM3 hg3 hR2 hlk hR1 hb2 hs2
                go_wp2_with fail
                go_region
                go_wp2_with fail
                go_roundw
                case rel => exact ⟨k + 1, l.label :: seen, by omega, by go_num, HR3⟩
                case measure => simp [intOf]; omega
            · have hz' : (l.op == 0) = false := by simpa using hz
              have hnext : ref1 [] 0 ls = ref1 seen (k + 1) (ls.drop (k + 1)) := by rw [hsc]; conv => lhs; unfold ref1; rw [if_neg hop, if_neg hfit, if_neg hz]
              have HN := Lib.hid hnext
              clear hsc hnext hop hop' hfit hfit' hz
              go_wp2_with fail
              have hbx : Below wr.heap.size wr (wr.alloc (.cells #[.int .i64 l.op, .int .i64 l.a, .int .i64 l.b, .int .i64 l.imm, .int .u32 l.n, .int .i64 l.label, .slice AL l.list.length cL] 40)) := (Below.refl _ _).alloc (Nat.le_refl _) _
              refine (HFit.out _ (hR.out.laid.below hbx) (HV.out.below hbx)).mono ?_
              rintro e w1 ⟨rfl, hb1⟩
              have b0 : w1.cell? ⟨wr.heap.size, 0, none⟩ = some (.int .i64 l.op) := kp hb1 (kn 0 rfl)
              have b5 : w1.cell? ⟨wr.heap.size, 5, none⟩ = some (.int .i64 l.label) := kp hb1 (kn 5 rfl)
              have hb2 := bt hb1
              have hs2 := hb2.size
              have hR1 := Lib.hid (hR.out.below hb2)
              have q1 := hR1.out.c1
              have HR3 := Lib.hid (hR1.out.next HN.out)
              clear hb1
              go_wp2_with fail
              go_roundw
              case rel => exact ⟨k + 1, seen, by omega, by go_num, HR3⟩
              case measure => simp [intOf]; omega
      · have hkn : k = n := by omega
        subst hkn
        have hsc := hR.out.scan
        rw [List.drop_of_length_le (by omega)] at hsc
        have hsc2 : ref1 [] 0 ls = .inr seen := by rw [hsc]; unfold ref1; rfl
        have HS := Lib.hid hsc2
        have HF := Lib.hid (show refusedP ls = ref2 seen 0 ls by rw [E.out, hsc2])
        have HR := Lib.hid hR.out
        clear hsc hsc2
        go_wp2_with fail
        go_loopw [71] (fun s wx => ∃ j : Nat, j ≤ k ∧ s = .int .i64 j ∧ Hid (RefI w wx g mb A k c ls k seen) ∧ Hid (ref2 seen 0 ls = ref2 seen j (ls.drop j))) (fun s _ => k - (intOf s).toNat)
        case atStart => exact ⟨0, Nat.zero_le _, rfl, HR.out, Lib.hid rfl⟩
        case round =>
          obtain ⟨j, hj, rfl, hX, hY⟩ := hrel
          have r0' := hX.out.c0
          by_cases hjk : j < k
          · obtain ⟨ad, l, v, hA, hl, ⟨k0, k1, k2, k3, k4, k5, k6⟩, hv⟩ := hX.out.lines.at_ j hjk
            have hdrop : ls.drop j = l :: ls.drop (j + 1) := by
              rw [List.drop_eq_getElem_cons (by omega)]
              congr 1
              exact Option.some.inj ((List.getElem?_eq_getElem _).symm.trans hl)
            have hsc := hY.out
            rw [hdrop] at hsc
            have hwl := HW.out l (List.mem_of_getElem? hl)
            have hwt : ∀ x ∈ targets l, (Lit.int .i64 x).wf = true := by
              unfold targets
              split
              · intro x hx
                rw [List.mem_singleton.1 hx]
                exact hwl.1
              · exact hwl.2
            have HWT := Lib.hid hwt
            have HSC := Lib.hid hsc
            obtain ⟨AL, cL, rfl, hr⟩ := hv
            have hlm : l.list.length ≤ 9223372036854775807 := hr.2.1
            have HV := Lib.hid (show Ints wr (.slice AL l.list.length cL) l.list from ⟨AL, cL, rfl, hr⟩)
            clear hr hl hdrop hsc hwl hwt hY
            subst hA
            go_upto_if 80 with (go_at_call 63; refine (goes_any _ _).mono ?_; rintro e w' ⟨rfl, rfl⟩)
            have hbx : Below wr.heap.size wr (wr.alloc (.cells #[.int .i64 l.op, .int .i64 l.a, .int .i64 l.b, .int .i64 l.imm, .int .u32 l.n, .int .i64 l.label, .slice AL l.list.length cL] 40)) := (Below.refl _ _).alloc (Nat.le_refl _) _
            have hX1 := Lib.hid (hX.out.below hbx)
            have hV1 := Lib.hid (HV.out.below hbx)
            go_cut [10] (fun v wc => Hid (Ints wc v (targets l)) ∧ Hid (RefI w wc g mb (some ad) k c ls k seen))
            case first =>
              go_wp2_with fail
              · have hgo : goOp l.op = true := by assumption
                have HT := Lib.hid (show targets l = [l.label] by unfold targets; rw [if_pos hgo])
                go_meet
                exact ⟨Lib.hid (by rw [HT.out]; exact ints_one _ _ _ _ (by simp)), Lib.hid (hX1.out.below ((Below.refl _ _).alloc (Nat.le_refl _) _))⟩
              · have hgo : goOp l.op = false := by assumption
                have HT := Lib.hid (show targets l = l.list by unfold targets; rw [if_neg (by rw [hgo]; decide)])
                go_meet
                exact ⟨Lib.hid (by rw [HT.out]; exact hV1.out), hX1⟩
            case rest =>
              obtain ⟨hI, hR2⟩ := hcut
              obtain ⟨AT, cT, rfl, hr⟩ := hI.out
              have HI := Lib.hid (show Ints wc (.slice AT (targets l).length cT) (targets l) from ⟨AT, cT, rfl, hr⟩)
              have hm : (targets l).length ≤ 9223372036854775807 := hr.2.1
              clear hr hI
              have q1 := hR2.out.c1
              have q0 := hR2.out.c0
              have hlk : ∀ x ∈ targets l, (Instr.lookup 77 (.map (some mb)) (.int .i64 x) true).run Tryd.prog wc = .ok (.tuple #[.int .i64 0, .bool (decide (x ∈ seen))]) wc := fun x hx => by
                have := hR2.out.map.look_ok x (HWT.out x hx)
                by_cases hs : x ∈ seen <;> simpa [seenMap, hs] using this
              have HLK := Lib.hid hlk
              clear hlk
              generalize hT : targets l = T at HI hm HLK HSC HWT
              go_wp2_with fail
              go_loop [86] (fun s => ∃ m : Nat, m ≤ T.length ∧ s = .int .i64 m ∧ Hid (∀ x ∈ T.take m, x ∈ seen)) (fun s => T.length - (intOf s).toNat)
              case atStart => exact ⟨0, Nat.zero_le _, rfl, Lib.hid (fun x hx => by simp at hx)⟩
              case round =>
                obtain ⟨m, hm2, rfl, hall⟩ := hrel
                by_cases hlt2 : m < T.length
                · obtain ⟨ad2, x, hA2, hx, kx⟩ := HI.out.at_ m hlt2
                  subst hA2
                  have hmem : x ∈ T := List.mem_of_getElem? hx
                  have hlx := HLK.out x hmem
                  by_cases hs : x ∈ seen
                  · have hnext : ∀ y ∈ T.take (m + 1), y ∈ seen := fun y hy => by
                      rw [List.take_add_one, hx] at hy
                      rcases List.mem_append.1 hy with hy | hy
                      · exact hall.out y hy
                      · simp at hy
                        subst hy
                        exact hs
                    have HN := Lib.hid hnext
                    rw [decide_eq_true hs] at hlx
                    clear hnext hall hs hx hmem
                    go_wp2_with fail
                    go_round
                    case rel => exact ⟨m + 1, by omega, by go_num, HN⟩
                    case measure => simp [intOf]; omega
                  · have hF : refusedP ls = (j, 173) := by
                      rw [HF.out, HSC.out]
                      unfold ref2
                      rw [hT, if_neg]
                      rw [List.all_eq_true]
                      intro h
                      exact hs (by simpa using h x hmem)
                    have HF2 := Lib.hid hF
                    rw [decide_eq_false hs] at hlx
                    clear hF hall hs hx hmem
                    go_wp2_with fail
                    go_ret2
                    exact ⟨by rw [HF2.out]; rfl, hR2.out.grown, fun h => by rw [HF2.out] at h; simp at h⟩
                · have hmT : m = T.length := by omega
                  have hnext : ref2 seen 0 ls = ref2 seen (j + 1) (ls.drop (j + 1)) := by
                    rw [HSC.out]
                    conv => lhs; unfold ref2
                    rw [hT, if_pos]
                    rw [List.all_eq_true]
                    intro x hx
                    have := hall.out
                    rw [hmT, List.take_length] at this
                    simpa using this x hx
                  have HN := Lib.hid hnext
                  clear hnext hall hmT
                  go_wp2_with fail
                  go_roundw
                  case rel => exact ⟨j + 1, by omega, by go_num, hR2, HN⟩
                  case measure => simp [intOf]; omega
          · have hF : refusedP ls = (0, 0) := by
              rw [HF.out, hY.out, List.drop_of_length_le (by omega)]
              rfl
            have HF2 := Lib.hid hF
            clear hF
            go_wp2_with fail
            go_ret2
            exact ⟨by rw [HF2.out]; rfl, hX.out.grown, fun _ => ⟨seen, HS.out, hX.out⟩⟩

end Go.Proofs.YtamimnaafiphcaaDoor
