/- Texts joined: PR1Dx41 PR1Dx22 PR1Dx40 PR1Dx42. -/
import Derived.Test.YtamimnaafiphcaaDoorPR1DZ
import Derived.Test.YtamimnaafiphcaaDoorRxZ3
import Derived.Test.YtamimnaafiphcaaDoorRxY
set_option linter.unusedVariables false
namespace Go.Proofs.YtamimnaafiphcaaDoor.PR1D
open Go.RowKit Go.Proofs.YtamimnaafiphcaaDoorW.PrintWords Go.Proofs.YtamimnaafiphcaaDoorW.PrintLast Go.Proofs.YtamimnaafiphcaaDoorW.PrintMore

/-! ### switchbacklaw17_live: function 21 -/
def switchbacklaw17_live.f : Option Bool := some true

theorem switchbacklaw17_live.calls (r : Bool) (w : World) (hLaid_ : Aside0 (Laid w)) (h : switchbacklaw17_live.f = some r) :
    Calls Tryd.prog 21 #[] w fun e w' => e = .returned (.bool r) ∧ Below w.heap.size w w' := by
  simp only [switchbacklaw17_live.f, Option.some.injEq] at h
  subst h
  exact live_any w hLaid_.out

end Go.Proofs.YtamimnaafiphcaaDoor.PR1D

namespace Go.Proofs.YtamimnaafiphcaaDoor.PR1D
open Go.RowKit Go.Proofs.YtamimnaafiphcaaDoorW.PrintWords Go.Proofs.YtamimnaafiphcaaDoorW.PrintLast Go.Proofs.YtamimnaafiphcaaDoorW.PrintMore

/-! ### relax_Assemble: function 19 -/
def toLine (x : S40) : Line := ⟨x.f0, x.f1, x.f2, x.f3, x.f4, x.f5, x.f6⟩

theorem lines_of {w : World} {A : Option Addr} {c : Nat} {l : List S40} (h : Kd.C k40 w A l.length l) : Lines w (.slice A l.length c) (l.map toLine) := by
  refine ⟨A, c, by rw [List.length_map], ?_⟩
  obtain ⟨h1, h2, h3⟩ := h
  refine ⟨by simp, by simpa using h2, fun hp => ?_⟩
  obtain ⟨ad, e, hc⟩ := h3 (by simpa using hp)
  refine ⟨ad, e, fun i p hi => ?_⟩
  rw [List.getElem?_map, Option.map_eq_some_iff] at hi
  obtain ⟨x, hx, rfl⟩ := hi
  obtain ⟨cs, e1, e2, e3⟩ := hc i x hx
  exact ⟨cs, e1, e2, e3⟩

def wfS (l : List S40) : Bool := l.all fun x => (Lit.int .i64 x.f5).wf && x.f6.all fun y => (Lit.int .i64 y).wf

theorem wfS_all {l : List S40} (h : wfS l = true) : ∀ m ∈ l.map toLine, (Lit.int .i64 m.label).wf = true ∧ ∀ x ∈ m.list, (Lit.int .i64 x).wf = true := by
  intro m hm
  obtain ⟨x, hx, rfl⟩ := List.mem_map.1 hm
  have := List.all_eq_true.1 h x hx
  rw [Bool.and_eq_true] at this
  exact ⟨this.1, fun y hy => List.all_eq_true.1 this.2 y hy⟩

theorem reps_ints (k : IntKind) (xs : List Int) : Reps (fun x cs => cs = [Value.int k x]) 1 xs (xs.map (Value.int k)) := by
  refine ⟨by simp, fun j p h => ?_⟩
  have hj := (List.getElem?_eq_some_iff.1 h).1
  show ((xs.map (Value.int k)).drop (j * 1)).take 1 = [Value.int k p]
  rw [Nat.mul_one, List.drop_eq_getElem_cons (by simpa using hj), List.take_succ_cons, List.take_zero, List.getElem_map]
  rw [List.getElem?_eq_getElem hj] at h
  rw [Option.some.inj h]

theorem rint {k : IntKind} {e : Nat} {w : World} {base : Nat} {ok : Nat → Prop} {v : Value} {xs : List Int} (h : w.ownsRow base e 1 v xs.length (xs.map (Value.int k))) (hk : ∀ g, v.ownBlock = some g → ok g) : Kd.R (Kd.int k) e w base ok v xs :=
  ⟨hk, _, h, reps_ints k xs⟩

def relax_Assemble.f (l0 : List S40) : Option (List Int × List Int × List Int × Int × Int × Int) :=
  if wfS l0 = true then some ((asm (l0.map toLine)).words, (asm (l0.map toLine)).kinds, (asm (l0.map toLine)).places, ((asm (l0.map toLine)).rounds : Int), ((asm (l0.map toLine)).line : Int), (asm (l0.map toLine)).err) else none

theorem relax_Assemble.calls (A0 : Option Addr) (c0 : Nat) (l0 : List (S40)) (r1 : List Int) (r2 : List Int) (r3 : List Int) (r4 : Int) (r5 : Int) (r6 : Int) (w : World) (hr0 : Kd.C k40 w A0 l0.length l0) (_hc0 : l0.length ≤ c0) (hLaid_ : Aside0 (Laid w)) (h : relax_Assemble.f l0 = some (r1, r2, r3, r4, r5, r6)) :
    Calls Tryd.prog 19 #[.slice A0 l0.length c0] w fun e w' => ∃ v0_ v1_ v2_ : Value, e = .returned (.tuple #[.agg #[v0_, v1_, v2_, .int .i64 r4], .int .i64 r5, .int .i64 r6]) ∧ Kd.R (Kd.int .u32) 38 w' w.heap.size (fun _ => True) v0_ r1 ∧ Kd.R (Kd.int .i64) 3 w' w.heap.size (fun k_ => some k_ ≠ (v2_ : Value).ownBlock) v1_ r2 ∧ Kd.R (Kd.int .i64) 3 w' w.heap.size (fun k_ => some k_ ≠ (v1_ : Value).ownBlock) v2_ r3 ∧ Below w.heap.size w w' := by
  unfold relax_Assemble.f at h
  by_cases hw : wfS l0 = true
  · rw [if_pos hw] at h
    simp only [Option.some.injEq, Prod.mk.injEq] at h
    obtain ⟨rfl, rfl, rfl, rfl, rfl, rfl⟩ := h
    refine (asm_any (l0.map toLine) _ w hLaid_.out (lines_of hr0) (wfS_all hw)).mono ?_
    rintro e w' ⟨wv, kv, pv, rfl, hat, hb⟩
    exact ⟨wv, kv, pv, rfl, rint hat.ow (fun _ _ => trivial), rint hat.ok (fun g hg e => hat.ne g hg e.symm), rint hat.op (fun g hg e => hat.ne g e.symm hg), hb⟩
  · rw [if_neg hw] at h
    cases h

end Go.Proofs.YtamimnaafiphcaaDoor.PR1D

set_option linter.unusedVariables false
namespace Go.Proofs.YtamimnaafiphcaaDoor.PR1D
open Go.RowKit Go.Proofs.YtamimnaafiphcaaDoorW.PrintWords Go.Proofs.YtamimnaafiphcaaDoorW.PrintLast Go.Proofs.YtamimnaafiphcaaDoorW.PrintMore

/-! ### switchbacklaw17_Same: function 22 -/
def switchbacklaw17_Same.f (l0_0 : List Int) (l0_1 : List Int) (l0_2 : List Int) (a0_3 : Int) (l1_0 : List Int) (l1_1 : List Int) (l1_2 : List Int) (a1_3 : Int) : Option Bool :=
  if (l0_0.length ≤ 100000000 ∧ l0_1.length ≤ 100000000 ∧ l0_2.length ≤ 100000000) ∧ l1_0.length ≤ 100000000 ∧ l1_1.length ≤ 100000000 ∧ l1_2.length ≤ 100000000 then some (decide (a0_3 = a1_3 ∧ l0_0 = l1_0 ∧ l0_1 = l1_1 ∧ l0_2 = l1_2)) else none

theorem nums_of {k : IntKind} {w : World} {A : Option Addr} {l : List Int} {c : Nat} (h : Kd.C (Kd.int k) w A l.length l) (hn : l.length ≤ 100000000) : Nums w k (.slice A l.length c) l := by
  refine ⟨A, c, rfl, hn, fun i hi => ?_⟩
  obtain ⟨ad, rfl, hc⟩ := h.2.2 (by omega)
  obtain ⟨cs, hs, hk, hcell⟩ := hc i l[i] (List.getElem?_eq_getElem hi)
  have hk' : cs = [Value.int k l[i]] := hk
  subst hk'
  have := hcell 0 _ rfl
  refine ⟨ad, rfl, ?_⟩
  rw [show i * (Kd.int k).sz + 0 = i from by show i * 1 + 0 = i; omega] at this
  rw [this, List.getD_eq_getElem?_getD, List.getElem?_eq_getElem hi]
  rfl

theorem switchbacklaw17_Same.calls (A0_0 : Option Addr) (c0_0 : Nat) (l0_0 : List Int) (A0_1 : Option Addr) (c0_1 : Nat) (l0_1 : List Int) (A0_2 : Option Addr) (c0_2 : Nat) (l0_2 : List Int) (a0_3 : Int) (A1_0 : Option Addr) (c1_0 : Nat) (l1_0 : List Int) (A1_1 : Option Addr) (c1_1 : Nat) (l1_1 : List Int) (A1_2 : Option Addr) (c1_2 : Nat) (l1_2 : List Int) (a1_3 : Int) (r : Bool) (w : World) (hr0_0 : Kd.C (Kd.int .u32) w A0_0 l0_0.length l0_0) (hc0_0 : l0_0.length ≤ c0_0) (hr0_1 : Kd.C (Kd.int .i64) w A0_1 l0_1.length l0_1) (hc0_1 : l0_1.length ≤ c0_1) (hr0_2 : Kd.C (Kd.int .i64) w A0_2 l0_2.length l0_2) (hc0_2 : l0_2.length ≤ c0_2) (hr1_0 : Kd.C (Kd.int .u32) w A1_0 l1_0.length l1_0) (hc1_0 : l1_0.length ≤ c1_0) (hr1_1 : Kd.C (Kd.int .i64) w A1_1 l1_1.length l1_1) (hc1_1 : l1_1.length ≤ c1_1) (hr1_2 : Kd.C (Kd.int .i64) w A1_2 l1_2.length l1_2) (hc1_2 : l1_2.length ≤ c1_2) (h : switchbacklaw17_Same.f l0_0 l0_1 l0_2 a0_3 l1_0 l1_1 l1_2 a1_3 = some r) :
    Calls Tryd.prog 22 #[.agg #[.slice A0_0 l0_0.length c0_0, .slice A0_1 l0_1.length c0_1, .slice A0_2 l0_2.length c0_2, .int .i64 a0_3], .agg #[.slice A1_0 l1_0.length c1_0, .slice A1_1 l1_1.length c1_1, .slice A1_2 l1_2.length c1_2, .int .i64 a1_3]] w fun e w' => e = .returned (.bool r) ∧ Below w.heap.size w w' := by
  unfold switchbacklaw17_Same.f at h
  by_cases hs : (l0_0.length ≤ 100000000 ∧ l0_1.length ≤ 100000000 ∧ l0_2.length ≤ 100000000) ∧ l1_0.length ≤ 100000000 ∧ l1_1.length ≤ 100000000 ∧ l1_2.length ≤ 100000000
  · rw [if_pos hs, Option.some.injEq] at h
    subst h
    exact same_any _ _ _ _ _ _ _ _ _ _ _ _ _ _ w ⟨nums_of hr0_0 hs.1.1, nums_of hr0_1 hs.1.2.1, nums_of hr0_2 hs.1.2.2⟩ ⟨nums_of hr1_0 hs.2.1, nums_of hr1_1 hs.2.2.1, nums_of hr1_2 hs.2.2.2⟩
  · rw [if_neg hs] at h
    cases h

end Go.Proofs.YtamimnaafiphcaaDoor.PR1D

set_option linter.unusedVariables false
namespace Go.Proofs.YtamimnaafiphcaaDoor.PR1D
open Go.RowKit Go.Proofs.YtamimnaafiphcaaDoorW.PrintWords Go.Proofs.YtamimnaafiphcaaDoorW.PrintLast Go.Proofs.YtamimnaafiphcaaDoorW.PrintMore

/-! ### switchbacklaw17_SameLines: function 23 -/
def eqS (x y : S40) : Bool := x.f0 == y.f0 && (x.f1 == y.f1 && (x.f2 == y.f2 && (x.f3 == y.f3 && (x.f4 == y.f4 && (x.f5 == y.f5 && (x.f6 == y.f6 && decide (x.f6.length ≤ 140737488351232)))))))
def eqL : List S40 → List S40 → Bool
  | [], [] => true
  | x :: a, y :: b => eqS x y && eqL a b
  | _, _ => false

theorem eqS_eq {x y : S40} (h : eqS x y = true) : x = y ∧ x.f6.length ≤ 140737488351232 := by
  unfold eqS at h
  simp only [Bool.and_eq_true, beq_iff_eq, decide_eq_true_eq] at h
  obtain ⟨a, b, c, d, e, f, g, i⟩ := h
  refine ⟨?_, i⟩
  cases x; cases y
  simp_all

theorem eqL_eq : ∀ {a b : List S40}, eqL a b = true → a = b ∧ ∀ x ∈ a, x.f6.length ≤ 140737488351232
  | [], [], _ => ⟨rfl, fun x hx => by cases hx⟩
  | x :: a, y :: b, h => by
    rw [eqL, Bool.and_eq_true] at h
    obtain ⟨rfl, h1⟩ := eqS_eq h.1
    obtain ⟨rfl, h2⟩ := eqL_eq h.2
    refine ⟨rfl, fun z hz => ?_⟩
    rcases List.mem_cons.1 hz with rfl | hz
    · exact h1
    · exact h2 z hz
  | [], y :: b, h => by simp [eqL] at h
  | x :: a, [], h => by simp [eqL] at h

theorem eqL_self : ∀ {a : List S40}, (∀ x ∈ a, x.f6.length ≤ 140737488351232) → eqL a a = true
  | [], _ => rfl
  | x :: a, h => by
    rw [eqL, Bool.and_eq_true]
    refine ⟨?_, eqL_self fun y hy => h y (List.mem_cons_of_mem _ hy)⟩
    unfold eqS
    simp [h x (List.mem_cons_self ..)]

def switchbacklaw17_SameLines.f (l0 : List S40) (l1 : List S40) : Option Bool := if l0.length ≤ 140737488351232 then (if eqL l0 l1 = true then some true else none) else none

theorem switchbacklaw17_SameLines.calls (A0 : Option Addr) (c0 : Nat) (l0 : List (S40)) (A1 : Option Addr) (c1 : Nat) (l1 : List (S40)) (r : Bool) (w : World) (hr0 : Kd.C k40 w A0 l0.length l0) (hc0 : l0.length ≤ c0) (hr1 : Kd.C k40 w A1 l1.length l1) (hc1 : l1.length ≤ c1) (h : switchbacklaw17_SameLines.f l0 l1 = some r) :
    Calls Tryd.prog 23 #[.slice A0 l0.length c0, .slice A1 l1.length c1] w fun e w' => e = .returned (.bool r) ∧ Below w.heap.size w w' := by
  unfold switchbacklaw17_SameLines.f at h
  by_cases hn : l0.length ≤ 140737488351232
  · rw [if_pos hn] at h
    by_cases he : eqL l0 l1 = true
    · rw [if_pos he, Option.some.injEq] at h
      subst h
      obtain ⟨rfl, h2⟩ := eqL_eq he
      have := same_lines (l0.map toLine) A0 A1 c0 c1 w (by have := lines_of (c := c0) hr0; rwa [List.length_map]) (by have := lines_of (c := c1) hr1; rwa [List.length_map]) (by rw [List.length_map]; exact hn) (fun m hm => by
        obtain ⟨x, hx, rfl⟩ := List.mem_map.1 hm
        exact h2 x hx)
      rwa [List.length_map] at this
    · rw [if_neg he] at h; cases h
  · rw [if_neg hn] at h; cases h

end Go.Proofs.YtamimnaafiphcaaDoor.PR1D
