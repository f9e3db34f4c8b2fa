/- Small words on worlds for this seat's walks: what is kept where a call only makes memory. -/
import Derived.Handy
import Derived.Lib.Hide
import Derived.Below
namespace Go.Proofs.YtlhgfhmdhmgmpaaGreatDoor
open Go.RowKit

theorem lt_of_cell {w : World} {p : Addr} {v : Value} (h : w.cell? p = some v) : p.block < w.heap.size := by
  apply Classical.byContradiction
  intro hn
  rw [World.cell?, Array.getElem?_eq_none (by omega)] at h
  cases h

theorem keep {w w1 w2 : World} {B : Nat} {p : Addr} {v : Value} (hb : Below B w1 w2) (hB : B = w1.heap.size) (hw : w1 = w) (h : w.cell? p = some v) : w2.cell? p = some v := by
  subst hw; subst hB
  rw [hb.cell (lt_of_cell h)]
  exact h

/-- A cell that was there is there behind a call that makes memory. -/
theorem kp {w1 w2 : World} {p : Addr} {v : Value} (hb : Below w1.heap.size w1 w2) (h : w1.cell? p = some v) : w2.cell? p = some v := by
  rw [hb.cell (lt_of_cell h)]
  exact h

theorem kpf {w1 w2 : World} {p : Addr} {v : Value} (hb : Below w1.heap.size w1 w2) (h : w1.cell? p = some v) (hf : w1.frozen? p = false) : w2.frozen? p = false := by
  rw [hb.frozen (lt_of_cell h)]
  exact hf

theorem ka {w : World} {p : Addr} {v : Value} (o : Obj) (h : w.cell? p = some v) : (w.alloc o).cell? p = some v :=
  kp ((Below.refl _ _).alloc (Nat.le_refl _) o) h

/-- A new block's cell. -/
theorem kn {w : World} {cs : Array Value} {t : TypeId} {v : Value} (i : Nat) (h : cs[i]? = some v) : (w.alloc (.cells cs t)).cell? ⟨w.heap.size, i, none⟩ = some v := by
  rw [World.cell?_alloc_new]
  exact h

/-- A call behind a new block makes memory alone. -/
theorem bt {w w1 : World} {o : Obj} (h : Below (w.alloc o).heap.size (w.alloc o) w1) : Below w.heap.size w w1 :=
  ((Below.refl w.heap.size w).alloc (Nat.le_refl _) o).trans (h.mono (by simp))

theorem bt2 {w w1 : World} {o o' : Obj} (h : Below ((w.alloc o).alloc o').heap.size ((w.alloc o).alloc o') w1) : Below w.heap.size w w1 :=
  bt (((Below.refl _ (w.alloc o)).alloc (Nat.le_refl _) o').trans (h.mono (by simp)))

theorem bj {w w1 w2 : World} (h : Below w.heap.size w w1) (h' : Below w1.heap.size w1 w2) : Below w.heap.size w w2 := h.trans (h'.mono h.size)

end Go.Proofs.YtlhgfhmdhmgmpaaGreatDoor
