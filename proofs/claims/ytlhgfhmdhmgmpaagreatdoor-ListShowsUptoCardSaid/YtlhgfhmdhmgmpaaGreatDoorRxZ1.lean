/- Texts joined: EncC RxA RxB RxC RxD RxE RxF RxG. -/
import Derived.Test.YtlhgfhmdhmgmpaaGreatDoorEncB
import Derived.Handy
import Derived.Deep.DeepCutAuto
import Derived.WalkLawsBesides
import Derived.Test.YtlhgfhmdhmgmpaaGreatDoorRl
import Derived.Test.YtlhgfhmdhmgmpaaGreatDoorInB
import Derived.Maps.OwnSet
import Derived.Maps.OwnOps
import Derived.Lib.SmallJoins
set_option linter.unusedVariables false
set_option linter.unusedSimpArgs false
namespace Go.Proofs.YtlhgfhmdhmgmpaaGreatDoor
open Go.RowKit

def reg (n : Int) : Bool := within 0 11 n
def isOp (n : Int) : Bool := within 1 48 n
def isBr (n : Int) : Bool := within 30 39 n
def follows (n : Int) : Int := if n = 2 ∨ n = 41 ∨ n = 43 then 1 else if n = 42 then -1 else 0

theorem within_t {lo hi n : Int} (h : lo ≤ n) (h' : n ≤ hi) : within lo hi n = true := by simp [within, h, h']
theorem within_f {lo hi n : Int} (h : n < lo ∨ hi < n) : within lo hi n = false := by unfold within; rw [Bool.and_eq_false_iff]; simp only [decide_eq_false_iff_not]; omega

theorem reg_any (n : Int) (w : World) : Calls Tryz.prog 115 #[.int .i64 n] w fun e w' => e = .returned (.bool (reg n)) ∧ w = w' := by
  have h : n < 0 ∨ (0 ≤ n ∧ 11 < n) ∨ (0 ≤ n ∧ n ≤ 11) := by omega
  rcases h with h | ⟨h, h'⟩ | ⟨h, h'⟩
  · rw [show reg n = false from within_f (.inl h)]
    go_enter Tryz.func115, Tryz.ntmps115
    go_wp2
    go_ret
    exact ⟨rfl, rfl⟩
  · rw [show reg n = false from within_f (.inr h')]
    go_enter Tryz.func115, Tryz.ntmps115
    go_wp2
    go_ret
    exact ⟨by simp; omega, rfl⟩
  · rw [show reg n = true from within_t h h']
    go_enter Tryz.func115, Tryz.ntmps115
    go_wp2
    go_ret
    exact ⟨rfl, rfl⟩

theorem op_any (n : Int) (w : World) : Calls Tryz.prog 110 #[.int .i64 n] w fun e w' => e = .returned (.bool (isOp n)) ∧ w = w' := by
  have h : n < 1 ∨ (1 ≤ n ∧ 48 < n) ∨ (1 ≤ n ∧ n ≤ 48) := by omega
  rcases h with h | ⟨h, h'⟩ | ⟨h, h'⟩
  · rw [show isOp n = false from within_f (.inl h)]
    go_enter Tryz.func110, Tryz.ntmps110
    go_wp2
    go_ret
    exact ⟨rfl, rfl⟩
  · rw [show isOp n = false from within_f (.inr h')]
    go_enter Tryz.func110, Tryz.ntmps110
    go_wp2
    go_ret
    exact ⟨by simp; omega, rfl⟩
  · rw [show isOp n = true from within_t h h']
    go_enter Tryz.func110, Tryz.ntmps110
    go_wp2
    go_ret
    exact ⟨rfl, rfl⟩

theorem br_any (n : Int) (w : World) : Calls Tryz.prog 79 #[.int .i64 n] w fun e w' => e = .returned (.bool (isBr n)) ∧ w = w' := by
  have h : n < 30 ∨ (30 ≤ n ∧ 39 < n) ∨ (30 ≤ n ∧ n ≤ 39) := by omega
  rcases h with h | ⟨h, h'⟩ | ⟨h, h'⟩
  · rw [show isBr n = false from within_f (.inl h)]
    go_enter Tryz.func79, Tryz.ntmps79
    go_wp2
    go_ret
    exact ⟨rfl, rfl⟩
  · rw [show isBr n = false from within_f (.inr h')]
    go_enter Tryz.func79, Tryz.ntmps79
    go_wp2
    go_ret
    exact ⟨by simp; omega, rfl⟩
  · rw [show isBr n = true from within_t h h']
    go_enter Tryz.func79, Tryz.ntmps79
    go_wp2
    go_ret
    exact ⟨rfl, rfl⟩

def wide (n : Int) : Bool := within (-32768) 32767 n
def near (n : Int) : Bool := within (-128) 127 n

/-- The reference's May, as its text says. -/
def mayR (op a b c : Int) : Bool :=
  if op = 1 then reg a && (b == 0) && wide c else
  if op = 2 ∨ op = 42 ∨ op = 45 ∨ op = 46 ∨ op = 47 then reg a && (b == 0) && (c == 0) else
  if op = 3 ∨ op = 24 ∨ op = 25 ∨ op = 26 ∨ op = 29 then reg a && reg b && (c == 0) else
  if op = 4 ∨ op = 27 ∨ op = 28 then reg a && reg b && wide c else
  if 5 ≤ op ∧ op ≤ 23 then reg a && reg b && reg c else
  if isBr op then reg a && reg b && near c else
  if op = 40 then (a == 0) && (b == 0) && near c else
  if op = 41 ∨ op = 43 ∨ op = 44 then (a == 0) && (b == 0) && (c == 0) else
  if op = 48 then (a == 0) && (b == 0) && within 0 255 c else false

end Go.Proofs.YtlhgfhmdhmgmpaaGreatDoor

namespace Go.Proofs.YtlhgfhmdhmgmpaaGreatDoor
open Go.RowKit Go.Proofs.YtlhgfhmdhmgmpaaGreatDoorW.PrintWords

def isLabel (n : Int) : Bool := within 0 100000 n
def brOp (n : Int) : Bool := isBr n || n == 40
def goOp (n : Int) : Bool := brOp n || n == 41 || n == 43

end Go.Proofs.YtlhgfhmdhmgmpaaGreatDoor

namespace Go.Proofs.YtlhgfhmdhmgmpaaGreatDoor
open Go.RowKit Go.Proofs.YtlhgfhmdhmgmpaaGreatDoorW.PrintWords

def sizeP (l : Line) (lg : Bool) : Int :=
  if l.op = 0 then 0 else if l.op = 42 then 2 + l.list.length else if isBr l.op = true ∧ lg = true then 3 else if l.op = 40 ∧ lg = true then 2 else 1 + follows l.op

end Go.Proofs.YtlhgfhmdhmgmpaaGreatDoor

namespace Go.Proofs.YtlhgfhmdhmgmpaaGreatDoor
open Go.RowKit Go.Proofs.YtlhgfhmdhmgmpaaGreatDoorW.PrintWords

def x4 (l : Line) : Bool := (goOp l.op && l.imm != 0) || (l.n != 0 && l.op != 2)
def x6 (l : Line) : Bool := (!goOp l.op && l.label != 0) || !isLabel l.label
def x8 (l : Line) : Bool := (decide (0 < l.list.length) != (l.op == 42)) || decide (400 < l.list.length)

def fitsB (l : Line) : Bool :=
  if l.op = 0 then (l.a == 0) && (l.b == 0) && (l.imm == 0) && (l.n == 0) && (l.list.length == 0) && isLabel l.label else
  if x4 l then false else if x6 l then false else if x8 l then false else if l.list.all isLabel = false then false else (enc l.op l.a l.b l.imm).2 == 0

theorem Ints.len {w : World} {A : Option Addr} {n c : Nat} {xs : List Int} (h : Ints w (.slice A n c) xs) : xs.length = n ∧ n ≤ 9223372036854775807 := by
  obtain ⟨A', c', e, hr⟩ := h
  injection e with e1 e2 e3
  exact ⟨e2.symm, by rw [e2]; exact hr.2.1⟩

end Go.Proofs.YtlhgfhmdhmgmpaaGreatDoor

namespace Go.Proofs.YtlhgfhmdhmgmpaaGreatDoor
open Go.RowKit Go.Proofs.YtlhgfhmdhmgmpaaGreatDoorW.PrintWords Go.Maps

theorem keyed : Keyed Tryz.prog 3 := int_keyed Tryz.underlying3
theorem zeroInt (w : World) : (zeroValue 3).run Tryz.prog w = .ok (.int .i64 0) w := by kernel_rfl

/-- Block b is a map of at most n entries, that holds just what f tells. -/
def IMap (w : World) (b n : Nat) (f : Int → Option Int) : Prop :=
  ∃ D : DataW Unit, w.ownsMap Tryz.prog 3 (plainElem Tryz.prog 3) b n D ∧ ∀ k, (Lit.int .i64 k).wf = true → Maps.has D (.int .i64 k) = (f k).isSome ∧ D.atKey (.int .i64 k) (.lit (.int .i64 0)) = .lit (.int .i64 ((f k).getD 0))

theorem IMap.look {w : World} {b n : Nat} {f : Int → Option Int} (h : IMap w b n f) (k : Int) (hk : (Lit.int .i64 k).wf = true) :
    (Instr.lookup 74 (.map (some b)) (.int .i64 k) false).run Tryz.prog w = .ok (.int .i64 ((f k).getD 0)) w := by
  obtain ⟨D, ho, hD⟩ := h
  obtain ⟨c, hrun, hat, _⟩ := ho.lookup_int keyed Tryz.underlying74 Tryz.underlying3 (zeroInt w) (keyOf_int_mk Tryz.underlying3 hk)
  have e : c = (f k).getD 0 := by
    have := hat.symm.trans (hD k hk).2
    simp only [DataW.lit.injEq, Lit.int.injEq, true_and] at this
    exact this
  exact e ▸ hrun

theorem IMap.drewN {w : World} {b n : Nat} {f : Int → Option Int} (h : IMap w b n f) (m : Nat) : IMap (w.drewN m) b n f := by
  obtain ⟨D, ⟨es, clock, hb, r⟩, hD⟩ := h
  exact ⟨D, ⟨es, clock, hb, r⟩, hD⟩

theorem IMap.below {w w' : World} {b n : Nat} {f : Int → Option Int} (h : IMap w b n f) (hb : Below w.heap.size w w') : IMap w' b n f := by
  obtain ⟨D, ho, hD⟩ := h
  have hlt := ho.lt
  obtain ⟨es, clock, hbl, r⟩ := ho
  exact ⟨D, ⟨es, clock, by rw [hb.block b hlt]; exact hbl, r⟩, hD⟩

theorem IMap.mono {w : World} {b n m : Nat} {f : Int → Option Int} (h : IMap w b n f) (hm : n ≤ m) : IMap w b m f := by
  obtain ⟨D, ho, hD⟩ := h
  exact ⟨D, ho.mono hm, hD⟩

end Go.Proofs.YtlhgfhmdhmgmpaaGreatDoor

namespace Go.Proofs.YtlhgfhmdhmgmpaaGreatDoor
open Go.RowKit Go.Proofs.YtlhgfhmdhmgmpaaGreatDoorW.PrintWords Go.Maps

/-- The first look: line by line, with the labels that stood ahead. -/
def ref1 (seen : List Int) : Nat → List Line → (Nat × Int) ⊕ List Int
  | _, [] => .inr seen
  | i, l :: r =>
    if l.op < 0 ∨ 48 < l.op then .inl (i, 170) else
    if fitsB l = false then .inl (i, 171) else
    if l.op = 0 then (if l.label ∈ seen then .inl (i, 172) else ref1 (l.label :: seen) (i + 1) r) else ref1 seen (i + 1) r

theorem IMap.store {w : World} {b n : Nat} {f : Int → Option Int} (h : IMap w b n f) (k v : Int) (hk : (Lit.int .i64 k).wf = true) (hv : (Lit.int .i64 v).wf = true) (hn : n < maxLen) :
    ∃ w', (Instr.mapUpdate 74 (.map (some b)) (.int .i64 k) (.int .i64 v)).run Tryz.prog w = .ok () w' ∧ IMap w' b (n + 1) (fun x => if x = k then some v else f x) ∧ w.grownBy w' (some b) := by
  obtain ⟨D, ho, hD⟩ := h
  obtain ⟨w', hrun, ho', hg⟩ := ho.update keyed Tryz.underlying74 hn (keyOf_int_mk Tryz.underlying3 hk) (plainElem_int Tryz.underlying3 hv)
  have hm := ho.isMap
  refine ⟨w', hrun, ⟨_, ho', fun x hx => ?_⟩, hg⟩
  have hkl : WideAt.IsKeyLit (.int .i64 k) := by simp [WideAt.IsKeyLit]
  by_cases e : x = k
  · subst e
    simp only [if_true]
    exact ⟨has_put_same hm hkl _, atKey_put_same hm hkl _ _⟩
  · have hne : (Lit.int .i64 x) ≠ (Lit.int .i64 k) := by simpa using e
    simp only [if_neg e]
    rw [has_put_other hne, atKey_put_other hne]
    exact hD x hx

theorem IMap.drew {w : World} {b n : Nat} {f : Int → Option Int} (h : IMap w b n f) : IMap w.drew b n f := by
  obtain ⟨D, ⟨es, clock, hb, r⟩, hD⟩ := h
  exact ⟨D, ⟨es, clock, hb, r⟩, hD⟩

theorem IMap.grown {w w' : World} {b n : Nat} {f : Int → Option Int} {row : Option Nat} (h : IMap w b n f) (hg : w.grownBy w' row) (hne : some b ≠ row) : IMap w' b n f := by
  obtain ⟨D, ho, hD⟩ := h
  exact ⟨D, ho.kept hg hne, hD⟩

theorem IMap.lt {w : World} {b n : Nat} {f : Int → Option Int} (h : IMap w b n f) : b < w.heap.size := h.choose_spec.1.lt

theorem IMap.congr {w : World} {b n : Nat} {f f' : Int → Option Int} (h : IMap w b n f) (he : ∀ x, f x = f' x) : IMap w b n f' := by
  have : f = f' := funext he
  exact this ▸ h

theorem Laid.grown {w w' : World} {row : Nat} (h : Laid w) (hg : w.grownBy w' (some row)) (hr : row ≠ 1) : Laid w' :=
  ⟨Nat.lt_of_lt_of_le h.1 hg.size, fun i hi => hg.cell (h.2 i hi) (by intro e; injection e with e; exact hr e.symm)⟩

end Go.Proofs.YtlhgfhmdhmgmpaaGreatDoor

namespace Go.Proofs.YtlhgfhmdhmgmpaaGreatDoor
open Go.RowKit Go.Proofs.YtlhgfhmdhmgmpaaGreatDoorW.PrintWords Go.Maps

/-- What the map holds when these labels have been seen. -/
def seenMap (seen : List Int) : Int → Option Int := fun x => if x ∈ seen then some 0 else none

structure RefI (w wr : World) (g mb : Nat) (A : Option Addr) (n c : Nat) (ls : List Line) (k : Nat) (seen : List Int) : Prop where
  c0 : wr.cell? ⟨g, 0, none⟩ = some (.slice A n c)
  c1 : wr.cell? ⟨g, 1, none⟩ = some (.map (some mb))
  lines : Lines wr (.slice A n c) ls
  map : IMap wr mb k (seenMap seen)
  laid : Laid wr
  grown : w.grownBy wr (some mb)
  scan : ref1 [] 0 ls = ref1 seen k (ls.drop k)

theorem RefI.below {w wr w' : World} {g mb : Nat} {A : Option Addr} {n c : Nat} {ls : List Line} {k : Nat} {seen : List Int} (h : RefI w wr g mb A n c ls k seen) (hb : Below wr.heap.size wr w') : RefI w w' g mb A n c ls k seen :=
  ⟨kp hb h.c0, kp hb h.c1, h.lines.below hb, h.map.below hb, h.laid.below hb, World.grownBy.trans h.grown (grown_of_below hb _), h.scan⟩

theorem Ints.grown {w w' : World} {v : Value} {xs : List Int} {row : Nat} (h : Ints w v xs) (hg : w.grownBy w' (some row)) (hm : ∃ es clock, w.heap[row]? = some (.map es clock)) : Ints w' v xs := by
  obtain ⟨A, c, e, hl, hn, hc⟩ := h
  refine ⟨A, c, e, hl, hn, fun hp => ?_⟩
  obtain ⟨ad, eA, hcells⟩ := hc hp
  refine ⟨ad, eA, fun j p hj => ?_⟩
  obtain ⟨cs, hs, hk, hcell⟩ := hcells j p hj
  refine ⟨cs, hs, hk, fun i u hu => hg.cell (hcell i u hu) ?_⟩
  intro eb
  obtain ⟨es, clock, hb⟩ := hm
  have := hcell i u hu
  injection eb with eb
  simp only [World.cell?, eb, hb] at this
  cases this

theorem RefI.next {w wr : World} {g mb : Nat} {A : Option Addr} {n c : Nat} {ls : List Line} {k : Nat} {seen : List Int} (h : RefI w wr g mb A n c ls k seen) (hs : ref1 [] 0 ls = ref1 seen (k + 1) (ls.drop (k + 1))) : RefI w wr g mb A n c ls (k + 1) seen :=
  ⟨h.c0, h.c1, h.lines, h.map.mono (Nat.le_succ _), h.laid, h.grown, hs⟩

theorem RefI.drew {w wr : World} {g mb : Nat} {A : Option Addr} {n c : Nat} {ls : List Line} {k : Nat} {seen : List Int} (h : RefI w wr g mb A n c ls k seen) : RefI w wr.drew g mb A n c ls k seen :=
  h.below ((Below.refl _ _).drew)

end Go.Proofs.YtlhgfhmdhmgmpaaGreatDoor

namespace Go.Proofs.YtlhgfhmdhmgmpaaGreatDoor
open Go.RowKit Go.Proofs.YtlhgfhmdhmgmpaaGreatDoorW.PrintWords Go.Maps Go.Joins

instance : Inhabited Line := ⟨⟨0, 0, 0, 0, 0, 0, []⟩⟩

/-- The place of line k: what all lines ahead make. -/
def pl (ls : List Line) (long : List Bool) : Nat → Int
  | 0 => 0
  | k + 1 => pl ls long k + sizeP (ls.getD k default) (long.getD k false)

/-- The labels' places behind k lines. -/
def mp (ls : List Line) (long : List Bool) (f : Int → Option Int) : Nat → Int → Option Int
  | 0 => f
  | k + 1 => if (ls.getD k default).op = 0 then (fun x => if x = (ls.getD k default).label then some (pl ls long k) else mp ls long f k x) else mp ls long f k

structure LI (w0 w9 w : World) (g mb lb pb : Nat) (A : Option Addr) (n c : Nat) (long : List Bool) (places : List Int) (words : Int) (f : Int → Option Int) : Prop where
  blkG : w.heap[g]? = some (.cells #[.slice A n c, .map (some mb), .slice (some ⟨lb, 0, none⟩) n n, .slice (some ⟨pb, 0, none⟩) n n, .int .i64 words] 77 (0, 0))
  blkL : w.heap[lb]? = some (.cells (long.map Value.bool).toArray 4 (0, 0))
  blkP : w.heap[pb]? = some (.cells (places.map (Value.int .i64)).toArray 3 (0, 0))
  map : IMap w mb n f
  bel : Below w0.heap.size w0 w
  gl : g ≠ lb
  gp : g ≠ pb
  lp : lb ≠ pb
  g0 : w0.heap.size ≤ g
  p0 : w0.heap.size ≤ pb
  m0 : w0.heap.size ≤ mb
  l0 : w0.heap.size ≤ lb
  nl : long.length = n
  np : places.length = n
  s9 : w9.heap.size ≤ w.heap.size
  fr : ∀ i, i < w9.heap.size → i ≠ g → i ≠ lb → i ≠ pb → i ≠ mb → w.heap[i]? = w9.heap[i]?

theorem below_blk {w w' : World} {g : Nat} {o : Obj} (hb : Below w.heap.size w w') (h : w.heap[g]? = some o) : w'.heap[g]? = some o := by
  rw [hb.block g (Array.getElem?_eq_some_iff.1 h).1]
  exact h

namespace LI
variable {w0 w9 w w' : World} {g mb lb pb : Nat} {A : Option Addr} {n c : Nat} {long : List Bool} {places : List Int} {words : Int} {f : Int → Option Int}

theorem below (h : LI w0 w9 w g mb lb pb A n c long places words f) (hb : Below w.heap.size w w') : LI w0 w9 w' g mb lb pb A n c long places words f :=
  { h with blkG := below_blk hb h.blkG, blkL := below_blk hb h.blkL, blkP := below_blk hb h.blkP, map := h.map.below hb, bel := h.bel.trans (hb.mono h.bel.size), s9 := Nat.le_trans h.s9 hb.size, fr := fun i hi a b c d => (hb.block i (Nat.lt_of_lt_of_le hi h.s9)).trans (h.fr i hi a b c d) }

theorem c0 (h : LI w0 w9 w g mb lb pb A n c long places words f) : w.cell? ⟨g, 0, none⟩ = some (.slice A n c) := cell_of_block h.blkG 0
theorem c1 (h : LI w0 w9 w g mb lb pb A n c long places words f) : w.cell? ⟨g, 1, none⟩ = some (.map (some mb)) := cell_of_block h.blkG 1
theorem c2 (h : LI w0 w9 w g mb lb pb A n c long places words f) : w.cell? ⟨g, 2, none⟩ = some (.slice (some ⟨lb, 0, none⟩) n n) := cell_of_block h.blkG 2
theorem c3 (h : LI w0 w9 w g mb lb pb A n c long places words f) : w.cell? ⟨g, 3, none⟩ = some (.slice (some ⟨pb, 0, none⟩) n n) := cell_of_block h.blkG 3
theorem c4 (h : LI w0 w9 w g mb lb pb A n c long places words f) : w.cell? ⟨g, 4, none⟩ = some (.int .i64 words) := cell_of_block h.blkG 4
theorem f4 (h : LI w0 w9 w g mb lb pb A n c long places words f) : w.frozen? ⟨g, 4, none⟩ = false := unfrozen_of_block h.blkG 4

theorem drew (h : LI w0 w9 w g mb lb pb A n c long places words f) : LI w0 w9 w.drew g mb lb pb A n c long places words f := h.below ((Below.refl _ _).drew)

end LI

end Go.Proofs.YtlhgfhmdhmgmpaaGreatDoor
