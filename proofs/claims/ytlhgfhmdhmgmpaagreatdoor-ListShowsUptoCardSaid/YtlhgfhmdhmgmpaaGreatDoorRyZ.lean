/- Texts joined: RyA RxH RxI RxJ RxK RxP RxQ RyB LpJ. -/
import Derived.Test.YtlhgfhmdhmgmpaaGreatDoorRxZ1
import Derived.Test.YtlhgfhmdhmgmpaaGreatDoorEncZ
import Derived.Deep.RegionHeld
import Derived.Deep.RegionWith
import Derived.BigRegion
import Derived.Deep.AppendLies
import Derived.Deep.RegionLaw
import Derived.Test.YtlhgfhmdhmgmpaaGreatDoorEncB
import Derived.Test.YtlhgfhmdhmgmpaaGreatDoorAp
import Derived.Test.YtlhgfhmdhmgmpaaGreatDoorLpZ
import Derived.Test.YtlhgfhmdhmgmpaaGreatDoorLiAZ
set_option linter.unusedVariables false
set_option linter.unusedSimpArgs false
namespace Go.Proofs.YtlhgfhmdhmgmpaaGreatDoor
open Go.RowKit Go.Proofs.YtlhgfhmdhmgmpaaGreatDoorW.PrintWords Go.Joins

end Go.Proofs.YtlhgfhmdhmgmpaaGreatDoor

namespace Go.Proofs.YtlhgfhmdhmgmpaaGreatDoor
open Go.RowKit Go.Proofs.YtlhgfhmdhmgmpaaGreatDoorW.PrintWords Go.Maps Go.Joins

theorem ks {w : World} {p q : Addr} {v u : Value} (h : w.cell? p = some v) (hne : p.block ≠ q.block) : (w.setCell q u).cell? p = some v := by
  rw [← h]
  unfold World.cell?
  rw [Below.heap_setCell w q u p.block hne]

/-- A list that may be, as far as the places' sizes go. -/
structure Sized (ls : List Line) : Prop where
  small : ls.length ≤ 60000
  lists : ∀ l ∈ ls, l.list.length ≤ 400
  labels : ∀ l ∈ ls, (Lit.int .i64 l.label).wf = true

end Go.Proofs.YtlhgfhmdhmgmpaaGreatDoor

namespace Go.Proofs.YtlhgfhmdhmgmpaaGreatDoor
open Go.RowKit Go.Proofs.YtlhgfhmdhmgmpaaGreatDoorW.PrintWords Go.Maps Go.Joins

/-- Below block B nothing has changed but block h. -/
structure Only (B h : Nat) (w w' : World) : Prop where
  os : w'.os = w.os
  tape : w'.tape = w.tape
  output : w'.output = w.output
  size : w.heap.size ≤ w'.heap.size
  block : ∀ i, i < B → i ≠ h → w'.heap[i]? = w.heap[i]?

namespace Only
variable {B h : Nat} {w w' w'' : World}
theorem refl (B h : Nat) (w : World) : Only B h w w := ⟨rfl, rfl, rfl, Nat.le_refl _, fun _ _ _ => rfl⟩
theorem trans (a : Only B h w w') (b : Only B h w' w'') : Only B h w w'' := ⟨b.os.trans a.os, b.tape.trans a.tape, b.output.trans a.output, Nat.le_trans a.size b.size, fun i hi hh => (b.block i hi hh).trans (a.block i hi hh)⟩
theorem below (a : Only B h w w') (b : Below w'.heap.size w' w'') (hB : B ≤ w.heap.size) : Only B h w w'' := ⟨b.os.trans a.os, b.tape.trans a.tape, b.output.trans a.output, Nat.le_trans a.size b.size, fun i hi hh => (b.block i (Nat.lt_of_lt_of_le (Nat.lt_of_lt_of_le hi hB) a.size)).trans (a.block i hi hh)⟩
theorem set (a : Only B h w w') (j : Nat) (u : Value) : Only B h w (w'.setCell ⟨h, j, none⟩ u) :=
  ⟨by simpa [World.setCell] using a.os, by simpa [World.setCell] using a.tape, by simpa [World.setCell] using a.output, by rw [World.size_setCell]; exact a.size, fun i hi hh => (Below.heap_setCell w' ⟨h, j, none⟩ u i hh).trans (a.block i hi hh)⟩
theorem drew (a : Only B h w w') : Only B h w w'.drew := ⟨a.os, a.tape, a.output, a.size, a.block⟩
theorem grown {row : Option Nat} (a : Only B h w w') (g : w'.grownBy w'' row) (hB : B ≤ w.heap.size) (hr : ∀ k, row = some k → B ≤ k) : Only B h w w'' :=
  ⟨g.os.trans a.os, g.tape.trans a.tape, g.output.trans a.output, Nat.le_trans a.size g.size, fun i hi hh => (g.block i (Nat.lt_of_lt_of_le (Nat.lt_of_lt_of_le hi hB) a.size) (by intro e; have := hr i e.symm; omega)).trans (a.block i hi hh)⟩
theorem alloc (a : Only B h w w') (o : Obj) (hB : B ≤ w.heap.size) : Only B h w (w'.alloc o) := a.below ((Below.refl _ _).alloc (Nat.le_refl _) o) hB
end Only

structure OI (w : World) (B h : Nat) (ws ks : List Int) (pv : Value) (r : Int) (wv kv : Value) : Prop where
  blk : w.heap[h]? = some (.cells #[wv, kv, pv, .int .i64 r] 43 (0, 0))
  ow : w.ownsRow B 47 1 wv ws.length (ws.map (Value.int .u32))
  ok : w.ownsRow B 3 1 kv ks.length (ks.map (Value.int .i64))
  hB : h < B

namespace OI
variable {w w' : World} {B h : Nat} {ws ks : List Int} {pv : Value} {r : Int} {wv kv : Value}
theorem below (o : OI w B h ws ks pv r wv kv) (hb : Below w.heap.size w w') : OI w' B h ws ks pv r wv kv :=
  { o with blk := below_blk hb o.blk, ow := pw_own_below o.ow hb, ok := pw_own_below o.ok hb }
theorem d0 (o : OI w B h ws ks pv r wv kv) : w.cell? ⟨h, 0, none⟩ = some wv := cell_of_block o.blk 0
theorem d1 (o : OI w B h ws ks pv r wv kv) : w.cell? ⟨h, 1, none⟩ = some kv := cell_of_block o.blk 1
theorem z0 (o : OI w B h ws ks pv r wv kv) : w.frozen? ⟨h, 0, none⟩ = false := unfrozen_of_block o.blk 0
theorem z1 (o : OI w B h ws ks pv r wv kv) : w.frozen? ⟨h, 1, none⟩ = false := unfrozen_of_block o.blk 1
theorem drew (o : OI w B h ws ks pv r wv kv) : OI w.drew B h ws ks pv r wv kv := o.below ((Below.refl _ _).drew)

end OI

end Go.Proofs.YtlhgfhmdhmgmpaaGreatDoor

namespace Go.Proofs.YtlhgfhmdhmgmpaaGreatDoor
open Go.RowKit Go.Proofs.YtlhgfhmdhmgmpaaGreatDoorW.PrintWords Go.Maps Go.Joins

end Go.Proofs.YtlhgfhmdhmgmpaaGreatDoor

namespace Go.Proofs.YtlhgfhmdhmgmpaaGreatDoor
open Go.RowKit Go.Proofs.YtlhgfhmdhmgmpaaGreatDoorW.PrintWords Go.Maps Go.Joins

/-- A label's place, as the map tells it. -/
def toW (f : Int → Option Int) (x : Int) : Int := (f x).getD 0

theorem Laid.only {w w' : World} {B h : Nat} (hL : Laid w) (o : Only B h w w') (hB : 1 < B) (hh : h ≠ 1) : Laid w' :=
  ⟨Nat.lt_of_lt_of_le hL.1 o.size, fun i hi => by rw [World.cell?_of_block (o.block 1 hB (Ne.symm hh))]; exact hL.2 i hi⟩

theorem own_lt {w : World} {b e s n : Nat} {v : Value} {xs : List Value} (o : w.ownsRow b e s v n xs) (k : Nat) (hk : v.ownBlock = some k) : k < w.heap.size := by
  rcases o.2 with ⟨rfl, _⟩ | ⟨g, cap, cur, rfl, _, hg, _⟩
  · cases hk
  · cases hk
    exact (Array.getElem?_eq_some_iff.1 hg).1

end Go.Proofs.YtlhgfhmdhmgmpaaGreatDoor

namespace Go.Proofs.YtlhgfhmdhmgmpaaGreatDoor
open Go.RowKit

/-- The labels' places under a choice. -/
def fl (ls : List Line) (long : List Bool) : Int → Option Int := mp ls long (fun _ => none) ls.length

def at_ (ls : List Line) (long : List Bool) (x : Int) : Int := toW (fl ls long) x

def need (ls : List Line) (long : List Bool) (i : Nat) : Bool :=
  brOp (ls.getD i default).op && !near (at_ ls long (ls.getD i default).label - pl ls long i - 1)

def step (ls : List Line) (long : List Bool) : List Bool := long.mapIdx fun i b => b || need ls long i

theorem step_len (ls : List Line) (long : List Bool) : (step ls long).length = long.length := by simp [step]

theorem cnt_lt (a b : List Bool) (hl : a.length = b.length) (h : ∀ i (h1 : i < a.length) (h2 : i < b.length), a[i] = true → b[i] = true) (hne : b ≠ a) : b.count false < a.count false := by
  induction a generalizing b with
  | nil =>
    cases b with
    | nil => exact absurd rfl hne
    | cons => cases hl
  | cons x a ih =>
    cases b with
    | nil => cases hl
    | cons y b =>
      have hl' : a.length = b.length := by simpa using hl
      have h0 := h 0 (by simp) (by simp)
      have hs : ∀ i (h1 : i < a.length) (h2 : i < b.length), a[i] = true → b[i] = true := fun i h1 h2 hh => by
        have := h (i + 1) (by simpa using h1) (by simpa using h2)
        simpa using this (by simpa using hh)
      have hle : b.count false ≤ a.count false := by
        by_cases e : b = a
        · rw [e]; exact Nat.le_refl _
        · exact Nat.le_of_lt (ih b hl' hs e)
      cases x <;> cases y
      · have := ih b hl' hs (fun e => hne (by rw [e]))
        simp; omega
      · simp; omega
      · simp at h0
      · have := ih b hl' hs (fun e => hne (by rw [e]))
        simp; omega

theorem step_lt (ls : List Line) (long : List Bool) (h : step ls long ≠ long) : (step ls long).count false < long.count false :=
  cnt_lt long (step ls long) (step_len ls long).symm (fun i h1 h2 hh => by simp [step, hh]) h

/-- All rounds: what is long in the end, and how many there were. -/
def rounds (ls : List Line) (long : List Bool) (r : Nat) : List Bool × Nat :=
  if h : step ls long = long then (long, r + 1) else rounds ls (step ls long) (r + 1)
termination_by long.count false
decreasing_by exact step_lt ls long h

end Go.Proofs.YtlhgfhmdhmgmpaaGreatDoor

namespace Go.Proofs.YtlhgfhmdhmgmpaaGreatDoor
open Go.RowKit

def fin (ls : List Line) : List Bool × Nat := rounds ls (List.replicate ls.length false) 0

end Go.Proofs.YtlhgfhmdhmgmpaaGreatDoor

set_option linter.unusedVariables false
set_option linter.unusedSimpArgs false
namespace Go.Proofs.YtlhgfhmdhmgmpaaGreatDoor
open Go.RowKit

end Go.Proofs.YtlhgfhmdhmgmpaaGreatDoor

set_option linter.unusedVariables false
set_option linter.unusedSimpArgs false
namespace Go.Proofs.YtlhgfhmdhmgmpaaGreatDoor
open Go.RowKit

end Go.Proofs.YtlhgfhmdhmgmpaaGreatDoor
