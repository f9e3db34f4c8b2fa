/- relax's answer as it grows in memory: words and kinds laid down. -/
import Derived.Test.YtlhgfhmdhmgmpaaGreatDoorRxH
import Derived.Deep.AppendLies
import Derived.Deep.RegionLaw
namespace Go.Proofs.YtlhgfhmdhmgmpaaGreatDoor
open Go.RowKit Go.Proofs.YtlhgfhmdhmgmpaaGreatDoorW.PrintWords Go.Maps Go.Joins

/-- Below block B nothing has changed but block h. -/
structure Only (B h : Nat) (w w' : World) : Prop where
  os : w'.os = w.os
  tape : w'.tape = w.tape
  output : w'.output = w.output
  size : w.heap.size ≤ w'.heap.size
  block : ∀ i, i < B → i ≠ h → w'.heap[i]? = w.heap[i]?

namespace Only
variable {B h : Nat} {w w' w'' : World}
theorem refl (B h : Nat) (w : World) : Only B h w w := ⟨rfl, rfl, rfl, Nat.le_refl _, fun _ _ _ => rfl⟩
theorem trans (a : Only B h w w') (b : Only B h w' w'') : Only B h w w'' := ⟨b.os.trans a.os, b.tape.trans a.tape, b.output.trans a.output, Nat.le_trans a.size b.size, fun i hi hh => (b.block i hi hh).trans (a.block i hi hh)⟩
theorem below (a : Only B h w w') (b : Below w'.heap.size w' w'') (hB : B ≤ w.heap.size) : Only B h w w'' := ⟨b.os.trans a.os, b.tape.trans a.tape, b.output.trans a.output, Nat.le_trans a.size b.size, fun i hi hh => (b.block i (Nat.lt_of_lt_of_le (Nat.lt_of_lt_of_le hi hB) a.size)).trans (a.block i hi hh)⟩
theorem set (a : Only B h w w') (j : Nat) (u : Value) : Only B h w (w'.setCell ⟨h, j, none⟩ u) :=
  ⟨by simpa [World.setCell] using a.os, by simpa [World.setCell] using a.tape, by simpa [World.setCell] using a.output, by rw [World.size_setCell]; exact a.size, fun i hi hh => (Below.heap_setCell w' ⟨h, j, none⟩ u i hh).trans (a.block i hi hh)⟩
theorem drew (a : Only B h w w') : Only B h w w'.drew := ⟨a.os, a.tape, a.output, a.size, a.block⟩
theorem grown {row : Option Nat} (a : Only B h w w') (g : w'.grownBy w'' row) (hB : B ≤ w.heap.size) (hr : ∀ k, row = some k → B ≤ k) : Only B h w w'' :=
  ⟨g.os.trans a.os, g.tape.trans a.tape, g.output.trans a.output, Nat.le_trans a.size g.size, fun i hi hh => (g.block i (Nat.lt_of_lt_of_le (Nat.lt_of_lt_of_le hi hB) a.size) (by intro e; have := hr i e.symm; omega)).trans (a.block i hi hh)⟩
theorem alloc (a : Only B h w w') (o : Obj) (hB : B ≤ w.heap.size) : Only B h w (w'.alloc o) := a.below ((Below.refl _ _).alloc (Nat.le_refl _) o) hB
end Only

structure OI (w : World) (B h : Nat) (ws ks : List Int) (pv : Value) (r : Int) (wv kv : Value) : Prop where
  blk : w.heap[h]? = some (.cells #[wv, kv, pv, .int .i64 r] 43 (0, 0))
  ow : w.ownsRow B 47 1 wv ws.length (ws.map (Value.int .u32))
  ok : w.ownsRow B 3 1 kv ks.length (ks.map (Value.int .i64))
  hB : h < B

namespace OI
variable {w w' : World} {B h : Nat} {ws ks : List Int} {pv : Value} {r : Int} {wv kv : Value}
theorem below (o : OI w B h ws ks pv r wv kv) (hb : Below w.heap.size w w') : OI w' B h ws ks pv r wv kv :=
  { o with blk := below_blk hb o.blk, ow := pw_own_below o.ow hb, ok := pw_own_below o.ok hb }
theorem wShape (o : OI w B h ws ks pv r wv kv) : ∃ A c, wv = .slice A ws.length c := by
  rcases o.ow.2 with ⟨rfl, hn⟩ | ⟨g, cap, cur, rfl, _⟩
  · exact ⟨none, 0, by rw [hn]⟩
  · exact ⟨_, cap, rfl⟩
theorem kShape (o : OI w B h ws ks pv r wv kv) : ∃ A c, kv = .slice A ks.length c := by
  rcases o.ok.2 with ⟨rfl, hn⟩ | ⟨g, cap, cur, rfl, _⟩
  · exact ⟨none, 0, by rw [hn]⟩
  · exact ⟨_, cap, rfl⟩
theorem d0 (o : OI w B h ws ks pv r wv kv) : w.cell? ⟨h, 0, none⟩ = some wv := cell_of_block o.blk 0
theorem d1 (o : OI w B h ws ks pv r wv kv) : w.cell? ⟨h, 1, none⟩ = some kv := cell_of_block o.blk 1
theorem z0 (o : OI w B h ws ks pv r wv kv) : w.frozen? ⟨h, 0, none⟩ = false := unfrozen_of_block o.blk 0
theorem z1 (o : OI w B h ws ks pv r wv kv) : w.frozen? ⟨h, 1, none⟩ = false := unfrozen_of_block o.blk 1
theorem drew (o : OI w B h ws ks pv r wv kv) : OI w.drew B h ws ks pv r wv kv := o.below ((Below.refl _ _).drew)

theorem wGrown (o : OI w B h ws ks pv r wv kv) (hg : w.grownBy w' wv.ownBlock) : w'.heap[h]? = some (.cells #[wv, kv, pv, .int .i64 r] 43 (0, 0)) ∧ w'.ownsRow B 3 1 kv ks.length (ks.map (Value.int .i64)) := by
  have hh := (Array.getElem?_eq_some_iff.1 o.blk).1
  refine ⟨(hg.block h hh ?_).trans o.blk, own_other o.ok hg (own_type_ne o.ok o.ow (by decide))⟩
  intro e
  have := own_base o.ow h e.symm
  have := o.hB
  omega
theorem kGrown (o : OI w B h ws ks pv r wv kv) (hg : w.grownBy w' kv.ownBlock) : w'.heap[h]? = some (.cells #[wv, kv, pv, .int .i64 r] 43 (0, 0)) ∧ w'.ownsRow B 47 1 wv ws.length (ws.map (Value.int .u32)) := by
  have hh := (Array.getElem?_eq_some_iff.1 o.blk).1
  refine ⟨(hg.block h hh ?_).trans o.blk, own_other o.ow hg (own_type_ne o.ow o.ok (by decide))⟩
  intro e
  have := own_base o.ok h e.symm
  have := o.hB
  omega
theorem own_set {w : World} {B h : Nat} {e s n : Nat} {v : Value} {xs : List Value} (o : w.ownsRow B e s v n xs) (hB : h < B) (j : Nat) (u : Value) : (w.setCell ⟨h, j, none⟩ u).ownsRow B e s v n xs :=
  own_move o (fun k hk => Below.heap_setCell w ⟨h, j, none⟩ u k (by have := own_base o k hk; simp; omega))

/-- The words have grown, and the field is stored. -/
theorem putW {ws' : List Int} {wv' : Value} (o : OI w B h ws ks pv r wv kv) (hg : w.grownBy w' wv.ownBlock) (how : w'.ownsRow B 47 1 wv' ws'.length (ws'.map (Value.int .u32))) :
    OI (w'.setCell ⟨h, 0, none⟩ wv') B h ws' ks pv r wv' kv :=
  { blk := block_setCell (o.wGrown hg).1 _, ow := own_set how o.hB _ _, ok := own_set (o.wGrown hg).2 o.hB _ _, hB := o.hB }
theorem putK {ks' : List Int} {kv' : Value} (o : OI w B h ws ks pv r wv kv) (hg : w.grownBy w' kv.ownBlock) (how : w'.ownsRow B 3 1 kv' ks'.length (ks'.map (Value.int .i64))) :
    OI (w'.setCell ⟨h, 1, none⟩ kv') B h ws ks' pv r wv kv' :=
  { blk := block_setCell (o.kGrown hg).1 _, ow := own_set (o.kGrown hg).2 o.hB _ _, ok := own_set how o.hB _ _, hB := o.hB }
end OI

end Go.Proofs.YtlhgfhmdhmgmpaaGreatDoor
