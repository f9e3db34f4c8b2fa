/- relax's assembler as it stands in memory, and what each store makes of it. -/
import Derived.Test.YtlhgfhmdhmgmpaaGreatDoorRxF
import Derived.Lib.SmallJoins
namespace Go.Proofs.YtlhgfhmdhmgmpaaGreatDoor
open Go.RowKit Go.Proofs.YtlhgfhmdhmgmpaaGreatDoorW.PrintWords Go.Maps Go.Joins

instance : Inhabited Line := ⟨⟨0, 0, 0, 0, 0, 0, []⟩⟩

/-- The place of line k: what all lines ahead make. -/
def pl (ls : List Line) (long : List Bool) : Nat → Int
  | 0 => 0
  | k + 1 => pl ls long k + sizeP (ls.getD k default) (long.getD k false)

/-- The labels' places behind k lines. -/
def mp (ls : List Line) (long : List Bool) (f : Int → Option Int) : Nat → Int → Option Int
  | 0 => f
  | k + 1 => if (ls.getD k default).op = 0 then (fun x => if x = (ls.getD k default).label then some (pl ls long k) else mp ls long f k x) else mp ls long f k

structure LI (w0 w9 w : World) (g mb lb pb : Nat) (A : Option Addr) (n c : Nat) (long : List Bool) (places : List Int) (words : Int) (f : Int → Option Int) : Prop where
  blkG : w.heap[g]? = some (.cells #[.slice A n c, .map (some mb), .slice (some ⟨lb, 0, none⟩) n n, .slice (some ⟨pb, 0, none⟩) n n, .int .i64 words] 77 (0, 0))
  blkL : w.heap[lb]? = some (.cells (long.map Value.bool).toArray 4 (0, 0))
  blkP : w.heap[pb]? = some (.cells (places.map (Value.int .i64)).toArray 3 (0, 0))
  map : IMap w mb n f
  bel : Below w0.heap.size w0 w
  gl : g ≠ lb
  gp : g ≠ pb
  lp : lb ≠ pb
  g0 : w0.heap.size ≤ g
  p0 : w0.heap.size ≤ pb
  m0 : w0.heap.size ≤ mb
  l0 : w0.heap.size ≤ lb
  nl : long.length = n
  np : places.length = n
  s9 : w9.heap.size ≤ w.heap.size
  fr : ∀ i, i < w9.heap.size → i ≠ g → i ≠ lb → i ≠ pb → i ≠ mb → w.heap[i]? = w9.heap[i]?

theorem below_blk {w w' : World} {g : Nat} {o : Obj} (hb : Below w.heap.size w w') (h : w.heap[g]? = some o) : w'.heap[g]? = some o := by
  rw [hb.block g (Array.getElem?_eq_some_iff.1 h).1]
  exact h

namespace LI
variable {w0 w9 w w' : World} {g mb lb pb : Nat} {A : Option Addr} {n c : Nat} {long : List Bool} {places : List Int} {words : Int} {f : Int → Option Int}

theorem below (h : LI w0 w9 w g mb lb pb A n c long places words f) (hb : Below w.heap.size w w') : LI w0 w9 w' g mb lb pb A n c long places words f :=
  { h with blkG := below_blk hb h.blkG, blkL := below_blk hb h.blkL, blkP := below_blk hb h.blkP, map := h.map.below hb, bel := h.bel.trans (hb.mono h.bel.size), s9 := Nat.le_trans h.s9 hb.size, fr := fun i hi a b c d => (hb.block i (Nat.lt_of_lt_of_le hi h.s9)).trans (h.fr i hi a b c d) }

theorem mg (h : LI w0 w9 w g mb lb pb A n c long places words f) : mb ≠ g := by
  rintro rfl
  obtain ⟨es, clock, hb⟩ := map_block h.map
  rw [h.blkG] at hb
  cases hb

theorem mlp (h : LI w0 w9 w g mb lb pb A n c long places words f) : mb ≠ pb := by
  rintro rfl
  obtain ⟨es, clock, hb⟩ := map_block h.map
  rw [h.blkP] at hb
  cases hb

theorem ml (h : LI w0 w9 w g mb lb pb A n c long places words f) : mb ≠ lb := by
  rintro rfl
  obtain ⟨es, clock, hb⟩ := map_block h.map
  rw [h.blkL] at hb
  cases hb

theorem c0 (h : LI w0 w9 w g mb lb pb A n c long places words f) : w.cell? ⟨g, 0, none⟩ = some (.slice A n c) := cell_of_block h.blkG 0
theorem c1 (h : LI w0 w9 w g mb lb pb A n c long places words f) : w.cell? ⟨g, 1, none⟩ = some (.map (some mb)) := cell_of_block h.blkG 1
theorem c2 (h : LI w0 w9 w g mb lb pb A n c long places words f) : w.cell? ⟨g, 2, none⟩ = some (.slice (some ⟨lb, 0, none⟩) n n) := cell_of_block h.blkG 2
theorem c3 (h : LI w0 w9 w g mb lb pb A n c long places words f) : w.cell? ⟨g, 3, none⟩ = some (.slice (some ⟨pb, 0, none⟩) n n) := cell_of_block h.blkG 3
theorem c4 (h : LI w0 w9 w g mb lb pb A n c long places words f) : w.cell? ⟨g, 4, none⟩ = some (.int .i64 words) := cell_of_block h.blkG 4
theorem f4 (h : LI w0 w9 w g mb lb pb A n c long places words f) : w.frozen? ⟨g, 4, none⟩ = false := unfrozen_of_block h.blkG 4
theorem cP (h : LI w0 w9 w g mb lb pb A n c long places words f) (k : Nat) (hk : k < n) : w.cell? ⟨pb, k, none⟩ = some (.int .i64 (places.getD k 0)) := by
  rw [cell_of_block h.blkP k]
  have := h.np
  simp [List.getD, List.getElem?_eq_getElem (show k < places.length by omega)]
theorem fP (h : LI w0 w9 w g mb lb pb A n c long places words f) (k : Nat) : w.frozen? ⟨pb, k, none⟩ = false := unfrozen_of_block h.blkP k
theorem cL (h : LI w0 w9 w g mb lb pb A n c long places words f) (k : Nat) (hk : k < n) : w.cell? ⟨lb, k, none⟩ = some (.bool (long.getD k false)) := by
  rw [cell_of_block h.blkL k]
  have := h.nl
  simp [List.getD, List.getElem?_eq_getElem (show k < long.length by omega)]
theorem fL (h : LI w0 w9 w g mb lb pb A n c long places words f) (k : Nat) : w.frozen? ⟨lb, k, none⟩ = false := unfrozen_of_block h.blkL k

theorem setWords (h : LI w0 w9 w g mb lb pb A n c long places words f) (x : Int) : LI w0 w9 (w.setCell ⟨g, 4, none⟩ (.int .i64 x)) g mb lb pb A n c long places x f :=
  { h with
    blkG := block_setCell h.blkG _
    blkL := (Below.heap_setCell w ⟨g, 4, none⟩ _ lb (Ne.symm h.gl)).trans h.blkL
    blkP := (Below.heap_setCell w ⟨g, 4, none⟩ _ pb (Ne.symm h.gp)).trans h.blkP
    map := by
      obtain ⟨D, ⟨es, clock, hb, r⟩, hD⟩ := h.map
      exact ⟨D, ⟨es, clock, (Below.heap_setCell w ⟨g, 4, none⟩ _ mb h.mg).trans hb, r⟩, hD⟩
    bel := h.bel.setCell h.g0 _
    s9 := by rw [World.size_setCell]; exact h.s9
    fr := fun i hi a b c d => (Below.heap_setCell w ⟨g, 4, none⟩ _ i a).trans (h.fr i hi a b c d) }

theorem setPlace (h : LI w0 w9 w g mb lb pb A n c long places words f) (k : Nat) (x : Int) : LI w0 w9 (w.setCell ⟨pb, k, none⟩ (.int .i64 x)) g mb lb pb A n c long (places.set k x) words f :=
  { h with
    blkG := (Below.heap_setCell w ⟨pb, k, none⟩ _ g h.gp).trans h.blkG
    blkL := (Below.heap_setCell w ⟨pb, k, none⟩ _ lb h.lp).trans h.blkL
    blkP := by rw [block_setCell h.blkP _]; simp [List.map_set]
    map := by
      obtain ⟨D, ⟨es, clock, hb, r⟩, hD⟩ := h.map
      exact ⟨D, ⟨es, clock, (Below.heap_setCell w ⟨pb, k, none⟩ _ mb h.mlp).trans hb, r⟩, hD⟩
    bel := h.bel.setCell h.p0 _
    s9 := by rw [World.size_setCell]; exact h.s9
    fr := fun i hi a b c d => (Below.heap_setCell w ⟨pb, k, none⟩ _ i c).trans (h.fr i hi a b c d)
    np := by rw [List.length_set]; exact h.np }

theorem setLong (h : LI w0 w9 w g mb lb pb A n c long places words f) (k : Nat) (x : Bool) : LI w0 w9 (w.setCell ⟨lb, k, none⟩ (.bool x)) g mb lb pb A n c (long.set k x) places words f :=
  { h with
    blkG := (Below.heap_setCell w ⟨lb, k, none⟩ _ g h.gl).trans h.blkG
    blkL := by rw [block_setCell h.blkL _]; simp [List.map_set]
    blkP := (Below.heap_setCell w ⟨lb, k, none⟩ _ pb (Ne.symm h.lp)).trans h.blkP
    map := by
      obtain ⟨D, ⟨es, clock, hb, r⟩, hD⟩ := h.map
      exact ⟨D, ⟨es, clock, (Below.heap_setCell w ⟨lb, k, none⟩ _ mb h.ml).trans hb, r⟩, hD⟩
    bel := h.bel.setCell h.l0 _
    s9 := by rw [World.size_setCell]; exact h.s9
    fr := fun i hi a b c d => (Below.heap_setCell w ⟨lb, k, none⟩ _ i b).trans (h.fr i hi a b c d)
    nl := by rw [List.length_set]; exact h.nl }

theorem drew (h : LI w0 w9 w g mb lb pb A n c long places words f) : LI w0 w9 w.drew g mb lb pb A n c long places words f := h.below ((Below.refl _ _).drew)

/-- The map is stored into, at a key that it has. -/
theorem setMap (h : LI w0 w9 w g mb lb pb A n c long places words f) {f' : Int → Option Int} (hM : IMap w' mb n f') (hg : w.grownBy w' (some mb)) : LI w0 w9 w' g mb lb pb A n c long places words f' :=
  { h with
    blkG := (hg.block g (Array.getElem?_eq_some_iff.1 h.blkG).1 (by intro e; injection e with e; exact h.mg e.symm)).trans h.blkG
    blkL := (hg.block lb (Array.getElem?_eq_some_iff.1 h.blkL).1 (by intro e; injection e with e; exact h.ml e.symm)).trans h.blkL
    blkP := (hg.block pb (Array.getElem?_eq_some_iff.1 h.blkP).1 (by intro e; injection e with e; exact h.mlp e.symm)).trans h.blkP
    map := hM
    bel := h.bel.grown hg h.bel.size (fun k hk => by cases hk; exact h.m0)
    s9 := Nat.le_trans h.s9 hg.size
    fr := fun i hi a b c d => (hg.block i (Nat.lt_of_lt_of_le hi h.s9) (by intro e; injection e with e; exact d e)).trans (h.fr i hi a b c d) }

/-- The frame from here on. -/
theorem rebase (h : LI w0 w9 w g mb lb pb A n c long places words f) : LI w0 w w g mb lb pb A n c long places words f :=
  { h with s9 := Nat.le_refl _, fr := fun _ _ _ _ _ _ => rfl }
end LI

/-- A store at a key that is there makes the map no greater. -/
theorem IMap.store_old {w : World} {b n : Nat} {f : Int → Option Int} (h : IMap w b n f) (k v : Int) (hk : (Lit.int .i64 k).wf = true) (hv : (Lit.int .i64 v).wf = true) (hn : n < maxLen) (hold : (f k).isSome = true) :
    ∃ w', (Instr.mapUpdate 74 (.map (some b)) (.int .i64 k) (.int .i64 v)).run Tryz.prog w = .ok () w' ∧ IMap w' b n (fun x => if x = k then some v else f x) ∧ w.grownBy w' (some b) := by
  obtain ⟨D, ho, hD⟩ := h
  obtain ⟨w', hrun, ho', hg⟩ := ho.update keyed Tryz.underlying74 hn (keyOf_int_mk Tryz.underlying3 hk) (plainElem_int Tryz.underlying3 hv)
  have hm := ho.isMap
  have hkl : WideAt.IsKeyLit (.int .i64 k) := by simp [WideAt.IsKeyLit]
  have hsz : Maps.size (D.put (.int .i64 k) (.lit (.int .i64 v))) ≤ n := by
    rw [size_put (ho.tidy keyed), (hD k hk).1, hold, if_pos rfl]
    exact ho.size_le
  have ho2 : w'.ownsMap Tryz.prog 3 (plainElem Tryz.prog 3) b n (D.put (.int .i64 k) (.lit (.int .i64 v))) := by
    obtain ⟨es, clock, hb, F, hs, e⟩ := ho'
    refine ⟨es, clock, hb, F, ?_, e⟩
    rw [e] at hsz
    simpa [Maps.size, length_sorted] using hsz
  refine ⟨w', hrun, ⟨_, ho2, fun x hx => ?_⟩, hg⟩
  by_cases e : x = k
  · subst e
    simp only [if_true]
    exact ⟨has_put_same hm hkl _, atKey_put_same hm hkl _ _⟩
  · have hne : (Lit.int .i64 x) ≠ (Lit.int .i64 k) := by simpa using e
    simp only [if_neg e]
    rw [has_put_other hne, atKey_put_other hne]
    exact hD x hx

end Go.Proofs.YtlhgfhmdhmgmpaaGreatDoor
