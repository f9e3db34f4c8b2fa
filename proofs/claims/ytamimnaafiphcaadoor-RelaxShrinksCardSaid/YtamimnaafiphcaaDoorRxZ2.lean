/- Texts joined: RxG RxH RxI RxJ RxK. -/
import Derived.Test.YtamimnaafiphcaaDoorRxZ1
import Derived.Lib.SmallJoins
import Derived.Deep.RegionWith
import Derived.BigRegion
import Derived.Deep.AppendLies
import Derived.Deep.RegionLaw
import Derived.Test.YtamimnaafiphcaaDoorEncB
import Derived.Test.YtamimnaafiphcaaDoorAp
set_option linter.unusedVariables false
set_option linter.unusedSimpArgs false
namespace Go.Proofs.YtamimnaafiphcaaDoor
open Go.RowKit Go.Proofs.YtamimnaafiphcaaDoorW.PrintWords Go.Maps Go.Joins

instance : Inhabited Line := ⟨⟨0, 0, 0, 0, 0, 0, []⟩⟩

/-- The place of line k: what all lines ahead make. -/
def pl (ls : List Line) (long : List Bool) : Nat → Int
  | 0 => 0
  | k + 1 => pl ls long k + sizeP (ls.getD k default) (long.getD k false)

/-- The labels' places behind k lines. -/
def mp (ls : List Line) (long : List Bool) (f : Int → Option Int) : Nat → Int → Option Int
  | 0 => f
  | k + 1 => if (ls.getD k default).op = 0 then (fun x => if x = (ls.getD k default).label then some (pl ls long k) else mp ls long f k x) else mp ls long f k

structure LI (w0 w9 w : World) (g mb lb pb : Nat) (A : Option Addr) (n c : Nat) (long : List Bool) (places : List Int) (words : Int) (f : Int → Option Int) : Prop where
  blkG : w.heap[g]? = some (.cells #[.slice A n c, .map (some mb), .slice (some ⟨lb, 0, none⟩) n n, .slice (some ⟨pb, 0, none⟩) n n, .int .i64 words] 79 (0, 0))
  blkL : w.heap[lb]? = some (.cells (long.map Value.bool).toArray 4 (0, 0))
  blkP : w.heap[pb]? = some (.cells (places.map (Value.int .i64)).toArray 3 (0, 0))
  map : IMap w mb n f
  bel : Below w0.heap.size w0 w
  gl : g ≠ lb
  gp : g ≠ pb
  lp : lb ≠ pb
  g0 : w0.heap.size ≤ g
  p0 : w0.heap.size ≤ pb
  m0 : w0.heap.size ≤ mb
  l0 : w0.heap.size ≤ lb
  nl : long.length = n
  np : places.length = n
  s9 : w9.heap.size ≤ w.heap.size
  fr : ∀ i, i < w9.heap.size → i ≠ g → i ≠ lb → i ≠ pb → i ≠ mb → w.heap[i]? = w9.heap[i]?

theorem below_blk {w w' : World} {g : Nat} {o : Obj} (hb : Below w.heap.size w w') (h : w.heap[g]? = some o) : w'.heap[g]? = some o := by
  rw [hb.block g (Array.getElem?_eq_some_iff.1 h).1]
  exact h

namespace LI
variable {w0 w9 w w' : World} {g mb lb pb : Nat} {A : Option Addr} {n c : Nat} {long : List Bool} {places : List Int} {words : Int} {f : Int → Option Int}

theorem below (h : LI w0 w9 w g mb lb pb A n c long places words f) (hb : Below w.heap.size w w') : LI w0 w9 w' g mb lb pb A n c long places words f :=
  { h with blkG := below_blk hb h.blkG, blkL := below_blk hb h.blkL, blkP := below_blk hb h.blkP, map := h.map.below hb, bel := h.bel.trans (hb.mono h.bel.size), s9 := Nat.le_trans h.s9 hb.size, fr := fun i hi a b c d => (hb.block i (Nat.lt_of_lt_of_le hi h.s9)).trans (h.fr i hi a b c d) }

theorem mg (h : LI w0 w9 w g mb lb pb A n c long places words f) : mb ≠ g := by
  rintro rfl
  obtain ⟨es, clock, hb⟩ := map_block h.map
  rw [h.blkG] at hb
  cases hb

theorem mlp (h : LI w0 w9 w g mb lb pb A n c long places words f) : mb ≠ pb := by
  rintro rfl
  obtain ⟨es, clock, hb⟩ := map_block h.map
  rw [h.blkP] at hb
  cases hb

theorem ml (h : LI w0 w9 w g mb lb pb A n c long places words f) : mb ≠ lb := by
  rintro rfl
  obtain ⟨es, clock, hb⟩ := map_block h.map
  rw [h.blkL] at hb
  cases hb

theorem c0 (h : LI w0 w9 w g mb lb pb A n c long places words f) : w.cell? ⟨g, 0, none⟩ = some (.slice A n c) := cell_of_block h.blkG 0
theorem c1 (h : LI w0 w9 w g mb lb pb A n c long places words f) : w.cell? ⟨g, 1, none⟩ = some (.map (some mb)) := cell_of_block h.blkG 1
theorem c2 (h : LI w0 w9 w g mb lb pb A n c long places words f) : w.cell? ⟨g, 2, none⟩ = some (.slice (some ⟨lb, 0, none⟩) n n) := cell_of_block h.blkG 2
theorem c3 (h : LI w0 w9 w g mb lb pb A n c long places words f) : w.cell? ⟨g, 3, none⟩ = some (.slice (some ⟨pb, 0, none⟩) n n) := cell_of_block h.blkG 3
theorem c4 (h : LI w0 w9 w g mb lb pb A n c long places words f) : w.cell? ⟨g, 4, none⟩ = some (.int .i64 words) := cell_of_block h.blkG 4
theorem f4 (h : LI w0 w9 w g mb lb pb A n c long places words f) : w.frozen? ⟨g, 4, none⟩ = false := unfrozen_of_block h.blkG 4
theorem cP (h : LI w0 w9 w g mb lb pb A n c long places words f) (k : Nat) (hk : k < n) : w.cell? ⟨pb, k, none⟩ = some (.int .i64 (places.getD k 0)) := by
  rw [cell_of_block h.blkP k]
  have := h.np
  simp [List.getD, List.getElem?_eq_getElem (show k < places.length by omega)]
theorem fP (h : LI w0 w9 w g mb lb pb A n c long places words f) (k : Nat) : w.frozen? ⟨pb, k, none⟩ = false := unfrozen_of_block h.blkP k
theorem cL (h : LI w0 w9 w g mb lb pb A n c long places words f) (k : Nat) (hk : k < n) : w.cell? ⟨lb, k, none⟩ = some (.bool (long.getD k false)) := by
  rw [cell_of_block h.blkL k]
  have := h.nl
  simp [List.getD, List.getElem?_eq_getElem (show k < long.length by omega)]
theorem fL (h : LI w0 w9 w g mb lb pb A n c long places words f) (k : Nat) : w.frozen? ⟨lb, k, none⟩ = false := unfrozen_of_block h.blkL k

theorem setWords (h : LI w0 w9 w g mb lb pb A n c long places words f) (x : Int) : LI w0 w9 (w.setCell ⟨g, 4, none⟩ (.int .i64 x)) g mb lb pb A n c long places x f :=
  { h with
    blkG := block_setCell h.blkG _
    blkL := (Below.heap_setCell w ⟨g, 4, none⟩ _ lb (Ne.symm h.gl)).trans h.blkL
    blkP := (Below.heap_setCell w ⟨g, 4, none⟩ _ pb (Ne.symm h.gp)).trans h.blkP
    map := by
      obtain ⟨D, ⟨es, clock, hb, r⟩, hD⟩ := h.map
      exact ⟨D, ⟨es, clock, (Below.heap_setCell w ⟨g, 4, none⟩ _ mb h.mg).trans hb, r⟩, hD⟩
    bel := h.bel.setCell h.g0 _
    s9 := by rw [World.size_setCell]; exact h.s9
    fr := fun i hi a b c d => (Below.heap_setCell w ⟨g, 4, none⟩ _ i a).trans (h.fr i hi a b c d) }

theorem setPlace (h : LI w0 w9 w g mb lb pb A n c long places words f) (k : Nat) (x : Int) : LI w0 w9 (w.setCell ⟨pb, k, none⟩ (.int .i64 x)) g mb lb pb A n c long (places.set k x) words f :=
  { h with
    blkG := (Below.heap_setCell w ⟨pb, k, none⟩ _ g h.gp).trans h.blkG
    blkL := (Below.heap_setCell w ⟨pb, k, none⟩ _ lb h.lp).trans h.blkL
    blkP := by rw [block_setCell h.blkP _]; simp [List.map_set]
    map := by
      obtain ⟨D, ⟨es, clock, hb, r⟩, hD⟩ := h.map
      exact ⟨D, ⟨es, clock, (Below.heap_setCell w ⟨pb, k, none⟩ _ mb h.mlp).trans hb, r⟩, hD⟩
    bel := h.bel.setCell h.p0 _
    s9 := by rw [World.size_setCell]; exact h.s9
    fr := fun i hi a b c d => (Below.heap_setCell w ⟨pb, k, none⟩ _ i c).trans (h.fr i hi a b c d)
    np := by rw [List.length_set]; exact h.np }

theorem setLong (h : LI w0 w9 w g mb lb pb A n c long places words f) (k : Nat) (x : Bool) : LI w0 w9 (w.setCell ⟨lb, k, none⟩ (.bool x)) g mb lb pb A n c (long.set k x) places words f :=
  { h with
    blkG := (Below.heap_setCell w ⟨lb, k, none⟩ _ g h.gl).trans h.blkG
    blkL := by rw [block_setCell h.blkL _]; simp [List.map_set]
    blkP := (Below.heap_setCell w ⟨lb, k, none⟩ _ pb (Ne.symm h.lp)).trans h.blkP
    map := by
      obtain ⟨D, ⟨es, clock, hb, r⟩, hD⟩ := h.map
      exact ⟨D, ⟨es, clock, (Below.heap_setCell w ⟨lb, k, none⟩ _ mb h.ml).trans hb, r⟩, hD⟩
    bel := h.bel.setCell h.l0 _
    s9 := by rw [World.size_setCell]; exact h.s9
    fr := fun i hi a b c d => (Below.heap_setCell w ⟨lb, k, none⟩ _ i b).trans (h.fr i hi a b c d)
    nl := by rw [List.length_set]; exact h.nl }

theorem drew (h : LI w0 w9 w g mb lb pb A n c long places words f) : LI w0 w9 w.drew g mb lb pb A n c long places words f := h.below ((Below.refl _ _).drew)

/-- The map is stored into, at a key that it has. -/
theorem setMap (h : LI w0 w9 w g mb lb pb A n c long places words f) {f' : Int → Option Int} (hM : IMap w' mb n f') (hg : w.grownBy w' (some mb)) : LI w0 w9 w' g mb lb pb A n c long places words f' :=
  { h with
    blkG := (hg.block g (Array.getElem?_eq_some_iff.1 h.blkG).1 (by intro e; injection e with e; exact h.mg e.symm)).trans h.blkG
    blkL := (hg.block lb (Array.getElem?_eq_some_iff.1 h.blkL).1 (by intro e; injection e with e; exact h.ml e.symm)).trans h.blkL
    blkP := (hg.block pb (Array.getElem?_eq_some_iff.1 h.blkP).1 (by intro e; injection e with e; exact h.mlp e.symm)).trans h.blkP
    map := hM
    bel := h.bel.grown hg h.bel.size (fun k hk => by cases hk; exact h.m0)
    s9 := Nat.le_trans h.s9 hg.size
    fr := fun i hi a b c d => (hg.block i (Nat.lt_of_lt_of_le hi h.s9) (by intro e; injection e with e; exact d e)).trans (h.fr i hi a b c d) }

/-- The frame from here on. -/
theorem rebase (h : LI w0 w9 w g mb lb pb A n c long places words f) : LI w0 w w g mb lb pb A n c long places words f :=
  { h with s9 := Nat.le_refl _, fr := fun _ _ _ _ _ _ => rfl }
end LI

/-- A store at a key that is there makes the map no greater. -/
theorem IMap.store_old {w : World} {b n : Nat} {f : Int → Option Int} (h : IMap w b n f) (k v : Int) (hk : (Lit.int .i64 k).wf = true) (hv : (Lit.int .i64 v).wf = true) (hn : n < maxLen) (hold : (f k).isSome = true) :
    ∃ w', (Instr.mapUpdate 77 (.map (some b)) (.int .i64 k) (.int .i64 v)).run Tryd.prog w = .ok () w' ∧ IMap w' b n (fun x => if x = k then some v else f x) ∧ w.grownBy w' (some b) := by
  obtain ⟨D, ho, hD⟩ := h
  obtain ⟨w', hrun, ho', hg⟩ := ho.update keyed Tryd.underlying77 hn (keyOf_int_mk Tryd.underlying3 hk) (plainElem_int Tryd.underlying3 hv)
  have hm := ho.isMap
  have hkl : WideAt.IsKeyLit (.int .i64 k) := by simp [WideAt.IsKeyLit]
  have hsz : Maps.size (D.put (.int .i64 k) (.lit (.int .i64 v))) ≤ n := by
    rw [size_put (ho.tidy keyed), (hD k hk).1, hold, if_pos rfl]
    exact ho.size_le
  have ho2 : w'.ownsMap Tryd.prog 3 (plainElem Tryd.prog 3) b n (D.put (.int .i64 k) (.lit (.int .i64 v))) := by
    obtain ⟨es, clock, hb, F, hs, e⟩ := ho'
    refine ⟨es, clock, hb, F, ?_, e⟩
    rw [e] at hsz
    simpa [Maps.size, length_sorted] using hsz
  refine ⟨w', hrun, ⟨_, ho2, fun x hx => ?_⟩, hg⟩
  by_cases e : x = k
  · subst e
    simp only [if_true]
    exact ⟨has_put_same hm hkl _, atKey_put_same hm hkl _ _⟩
  · have hne : (Lit.int .i64 x) ≠ (Lit.int .i64 k) := by simpa using e
    simp only [if_neg e]
    rw [has_put_other hne, atKey_put_other hne]
    exact hD x hx

end Go.Proofs.YtamimnaafiphcaaDoor

namespace Go.Proofs.YtamimnaafiphcaaDoor
open Go.RowKit Go.Proofs.YtamimnaafiphcaaDoorW.PrintWords Go.Maps Go.Joins

theorem ks {w : World} {p q : Addr} {v u : Value} (h : w.cell? p = some v) (hne : p.block ≠ q.block) : (w.setCell q u).cell? p = some v := by
  rw [← h]
  unfold World.cell?
  rw [Below.heap_setCell w q u p.block hne]

/-- A list that may be, as far as the places' sizes go. -/
structure Sized (ls : List Line) : Prop where
  small : ls.length ≤ 60000
  lists : ∀ l ∈ ls, l.list.length ≤ 400
  labels : ∀ l ∈ ls, (Lit.int .i64 l.label).wf = true

theorem sizeP_range (l : Line) (lg : Bool) (h : l.list.length ≤ 400) : 0 ≤ sizeP l lg ∧ sizeP l lg ≤ 402 := by
  unfold sizeP
  have := follows_range l.op
  repeat' split
  all_goals omega

theorem pl_range (ls : List Line) (long : List Bool) (h : Sized ls) (k : Nat) : 0 ≤ pl ls long k ∧ pl ls long k ≤ 402 * k := by
  induction k with
  | zero => exact ⟨Int.le_refl _, by simp [pl]⟩
  | succ k ih =>
    have : (ls.getD k default).list.length ≤ 400 := by
      by_cases hk : k < ls.length
      · rw [List.getD_eq_getElem?_getD, List.getElem?_eq_getElem hk]
        exact h.lists _ (List.getElem_mem hk)
      · rw [List.getD_eq_getElem?_getD, List.getElem?_eq_none (by omega)]
        exact Nat.zero_le _
    have := sizeP_range (ls.getD k default) (long.getD k false) this
    simp only [pl]
    omega

def plK (ls : List Line) (long : List Bool) (places : List Int) (k : Nat) : List Int := (List.range k).map (pl ls long) ++ places.drop k

theorem plK_set (ls : List Line) (long : List Bool) (places : List Int) (k : Nat) (hk : k < places.length) : (plK ls long places k).set k (pl ls long k) = plK ls long places (k + 1) := by
  unfold plK
  have e : (places.drop k).set 0 (pl ls long k) = pl ls long k :: places.drop (k + 1) := by
    rw [List.drop_eq_getElem_cons hk]
    rfl
  have hl : ((List.range k).map (pl ls long)).length = k := by simp
  rw [List.set_append_right _ _ (by omega), hl, Nat.sub_self, e, List.range_succ, List.map_append, List.append_assoc]
  rfl

theorem mp_has (ls : List Line) (long : List Bool) (f : Int → Option Int) (k : Nat) (x : Int) (h : (f x).isSome = true) : (mp ls long f k x).isSome = true := by
  induction k with
  | zero => exact h
  | succ k ih =>
    simp only [mp]
    by_cases h1 : (ls.getD k default).op = 0
    · rw [if_pos h1]
      by_cases h2 : x = (ls.getD k default).label
      · simp only [if_pos h2]
        rfl
      · simp only [if_neg h2]
        exact ih
    · rw [if_neg h1]
      exact ih

set_option maxRecDepth 100000 in
set_option maxHeartbeats 4000000 in
theorem laid_any (w0 w9 w : World) (g mb lb pb : Nat) (A : Option Addr) (n c : Nat) (ls : List Line) (long : List Bool) (places : List Int) (words : Int) (f : Int → Option Int)
    (h : LI w0 w9 w g mb lb pb A n c long places words f) (hl : Lines w0 (.slice A n c) ls) (hs : Sized ls) (hf : ∀ l ∈ ls, l.op = 0 → (f l.label).isSome = true) :
    Calls Tryd.prog 44 #[.pointer (some ⟨g, 0, none⟩)] w fun e w' => e = .returned (.tuple #[]) ∧ LI w0 w9 w' g mb lb pb A n c long ((List.range n).map (pl ls long)) (pl ls long n) (mp ls long f n) := by
  have hn := hl.len
  have hn6 := hs.small
  have HS := Lib.hid hs
  have HF := Lib.hid hf
  have HL := Lib.hid hl
  have q4 := h.c4
  have q0 := h.c0
  have z4 := h.f4
  have H1 := Lib.hid (h.setWords 0)
  clear h hl hs hf
  go_enter Tryd.func44, Tryd.ntmps44
  go_wp2_with fail
  go_loopw [12] (fun s wr => ∃ k : Nat, k ≤ n ∧ s = .int .i64 k ∧ Hid (LI w0 w9 wr g mb lb pb A n c long (plK ls long places k) (pl ls long k) (mp ls long f k))) (fun s _ => n - (intOf s).toNat)
  case atStart => exact ⟨0, Nat.zero_le _, rfl, H1⟩
  case round =>
    obtain ⟨k, hk, rfl, hX⟩ := hrel
    clear q4 q0 z4 H1
    by_cases hlt : k < n
    · obtain ⟨ad, l, v, hA, hli, hat, hv⟩ := (HL.out.below hX.out.bel).at_ k hlt
      obtain ⟨AL, cL, rfl, hr⟩ := hv
      clear hr
      have hat' : LineAt wr (ad.add (k * 7)) l (.slice AL l.list.length cL) := hat
      obtain ⟨k0, k1, k2, k3, k4, k5, k6⟩ := hat
      have hget : ls.getD k default = l := by rw [List.getD_eq_getElem?_getD, hli]; rfl
      have HG := Lib.hid hget
      have HI := Lib.hid hli
      clear hget hli hat'
      subst hA
      have q0 := hX.out.c0
      go_wp2_with fail
      have hbx : Below wr.heap.size wr (wr.alloc (.cells #[.int .i64 l.op, .int .i64 l.a, .int .i64 l.b, .int .i64 l.imm, .int .u32 l.n, .int .i64 l.label, .slice AL l.list.length cL] 40)) := (Below.refl _ _).alloc (Nat.le_refl _) _
      have hX1 := Lib.hid (hX.out.below hbx)
      have b0 : (wr.alloc (.cells #[.int .i64 l.op, .int .i64 l.a, .int .i64 l.b, .int .i64 l.imm, .int .u32 l.n, .int .i64 l.label, .slice AL l.list.length cL] 40)).cell? ⟨wr.heap.size, 0, none⟩ = some (.int .i64 l.op) := kn 0 rfl
      have b5 : (wr.alloc (.cells #[.int .i64 l.op, .int .i64 l.a, .int .i64 l.b, .int .i64 l.imm, .int .u32 l.n, .int .i64 l.label, .slice AL l.list.length cL] 40)).cell? ⟨wr.heap.size, 5, none⟩ = some (.int .i64 l.label) := kn 5 rfl
      have hgl : g < wr.heap.size := (Array.getElem?_eq_some_iff.1 hX.out.blkG).1
      have hpl : pb < wr.heap.size := (Array.getElem?_eq_some_iff.1 hX.out.blkP).1
      have hll : lb < wr.heap.size := (Array.getElem?_eq_some_iff.1 hX.out.blkL).1
      clear k0 k1 k2 k3 k4 k5 k6 q0
      generalize (wr.alloc (.cells #[.int .i64 l.op, .int .i64 l.a, .int .i64 l.b, .int .i64 l.imm, .int .u32 l.n, .int .i64 l.label, .slice AL l.list.length cL] 40)) = W1 at hX1 b0 b5 hbx ⊢
      have p3 := hX1.out.c3
      have p4 := hX1.out.c4
      have pP := hX1.out.cP k hlt
      have pF := hX1.out.fP k
      have hi0 : (0 : Int) ≤ (k : Int) := Int.natCast_nonneg _
      have hi1 : (k : Int) < (n : Int) := by omega
      go_region
      have hX2 := hX1.out.setPlace k (pl ls long k)
      rw [plK_set _ _ _ _ (by have := hX1.out.np; simp [plK] at this; omega)] at hX2
      replace hX2 := Lib.hid hX2.drew
      replace b0 := ks (q := ⟨pb, k, none⟩) (u := .int .i64 (pl ls long k)) b0 (by simp; omega)
      replace b5 := ks (q := ⟨pb, k, none⟩) (u := .int .i64 (pl ls long k)) b5 (by simp; omega)
      have hsz : wr.heap.size ≤ ((W1.setCell ⟨pb, k, none⟩ (.int .i64 (pl ls long k))).drew).heap.size := by rw [World.size_drew, World.size_setCell]; exact hbx.size
      replace b0 : ((W1.setCell ⟨pb, k, none⟩ (.int .i64 (pl ls long k))).drew).cell? ⟨wr.heap.size, 0, none⟩ = some (.int .i64 l.op) := b0
      replace b5 : ((W1.setCell ⟨pb, k, none⟩ (.int .i64 (pl ls long k))).drew).cell? ⟨wr.heap.size, 5, none⟩ = some (.int .i64 l.label) := b5
      clear hX1 p3 p4 pP pF hX hbx
      generalize ((W1.setCell ⟨pb, k, none⟩ (.int .i64 (pl ls long k))).drew) = W2 at hX2 b0 b5 hsz ⊢
      go_upto_if 29 with fail
      go_cut [29] (fun s29 wc => (∃ x, s29 = x) ∧ Hid (LI w0 w9 wc g mb lb pb (some ad) n c long (plK ls long places (k + 1)) (pl ls long k) (mp ls long f (k + 1))))
      case first =>
        have hmp : mp ls long f (k + 1) = if l.op = 0 then (fun x => if x = l.label then some (pl ls long k) else mp ls long f k x) else mp ls long f k := by
          simp only [mp, HG.out]
        have HMP := Lib.hid hmp
        clear hmp
        have q1 := hX2.out.c1
        have q4 := hX2.out.c4
        have hmem : l ∈ ls := List.mem_of_getElem? HI.out
        have hpr := pl_range ls long HS.out k
        have hwf : (Lit.int .i64 (pl ls long k)).wf = true := WalkArith.wf_i64 (by omega)
        have hold : l.op = 0 → (mp ls long f k l.label).isSome = true := fun hz => mp_has ls long f k _ (HF.out l hmem hz)
        have HOLD := Lib.hid hold
        have HLW := Lib.hid (HS.out.labels l hmem)
        clear hold hmem
        go_wp2_with fail
        · have hz : (l.op == 0) = true := by assumption
          have hz' : l.op = 0 := by simpa using hz
          obtain ⟨W3, hst, hM3, hg3⟩ := hX2.out.drew.map.store_old l.label (pl ls long k) HLW.out hwf (by unfold maxLen; omega) (HOLD.out hz')
          have hX3 := hX2.out.drew.setMap hM3 hg3
          have HX3 := Lib.hid hX3
          have HMP2 := Lib.hid (show mp ls long f (k + 1) = (fun x => if x = l.label then some (pl ls long k) else mp ls long f k x) by rw [HMP.out, if_pos hz'])
          clear hM3 hg3 hX3 hz'
          go_region
          go_wp2_with fail
          go_meet
          exact ⟨⟨_, rfl⟩, Lib.hid (by rw [HMP2.out]; exact HX3.out)⟩
        · have hz : (l.op == 0) = false := by assumption
          have hz' : ¬ l.op = 0 := by simpa using hz
          have HMP2 := Lib.hid (show mp ls long f (k + 1) = mp ls long f k by rw [HMP.out, if_neg hz'])
          clear hz'
          go_meet
          exact ⟨⟨_, rfl⟩, Lib.hid (by rw [HMP2.out]; exact hX2.out)⟩
      case rest =>
        obtain ⟨⟨s29, rfl⟩, hX3⟩ := hcut
        have q4 := hX3.out.c4
        have z4 := hX3.out.f4
        have hpr := pl_range ls long HS.out k
        have hls : l.list.length ≤ 400 := HS.out.lists l (List.mem_of_getElem? HI.out)
        have hsr := sizeP_range l (long.getD k false) hls
        have hpk : pl ls long (k + 1) = pl ls long k + sizeP l (long.getD k false) := by simp only [pl, HG.out]
        have hC := fun W' (hb : Below wc.heap.size wc W') => size_any g lb W' (some ad) n c n ls k l (long.getD k false) hlt (by omega) (hX3.out.below hb).c0 (hX3.out.below hb).c2 (HL.out.below (hX3.out.below hb).bel) HI.out ((hX3.out.below hb).cL k hlt) hls
        generalize long.getD k false = lg at hC hsr hpk
        generalize sizeP l lg = sz at hC hsr hpk
        have hwr : IntKind.i64.wrap (pl ls long k + sz) = pl ls long k + sz := IntWalk.i64_in _ (by omega)
        have HPK := Lib.hid hpk
        have HC := Lib.hid hC
        clear hC hls hpk
        go_upto_region 7 with fail
        go_region_with (go_at_call 64; refine (HC.out _ (by go_grown)).mono ?_; rintro e w' ⟨rfl, hb'⟩; have q4' := kp hb' q4; have z4' := kpf hb' q4 z4)
        all_goals
          have hX5 := Lib.hid ((hX3.out.drew.below hb').setWords (pl ls long k + sz))
          clear q4' z4' q4 z4 hb'
          go_wp2_with fail
          go_roundw
          case rel => exact ⟨k + 1, by omega, by go_num, Lib.hid (by rw [HPK.out]; exact hX5.out)⟩
          case measure => simp [intOf]; omega
    · have hkn : k = n := by omega
      subst hkn
      have hX2 := hX.out
      have hpl2 : plK ls long places k = (List.range k).map (pl ls long) := by
        unfold plK
        have := hX2.np
        simp [plK] at this
        rw [List.drop_of_length_le (by omega), List.append_nil]
      rw [hpl2] at hX2
      have HX2 := Lib.hid hX2
      clear hX hX2 hpl2
      go_wp2_with fail
      go_end0
      exact ⟨rfl, HX2.out⟩

end Go.Proofs.YtamimnaafiphcaaDoor

namespace Go.Proofs.YtamimnaafiphcaaDoor
open Go.RowKit Go.Proofs.YtamimnaafiphcaaDoorW.PrintWords Go.Maps Go.Joins

/-- Below block B nothing has changed but block h. -/
structure Only (B h : Nat) (w w' : World) : Prop where
  os : w'.os = w.os
  tape : w'.tape = w.tape
  output : w'.output = w.output
  size : w.heap.size ≤ w'.heap.size
  block : ∀ i, i < B → i ≠ h → w'.heap[i]? = w.heap[i]?

namespace Only
variable {B h : Nat} {w w' w'' : World}
theorem refl (B h : Nat) (w : World) : Only B h w w := ⟨rfl, rfl, rfl, Nat.le_refl _, fun _ _ _ => rfl⟩
theorem trans (a : Only B h w w') (b : Only B h w' w'') : Only B h w w'' := ⟨b.os.trans a.os, b.tape.trans a.tape, b.output.trans a.output, Nat.le_trans a.size b.size, fun i hi hh => (b.block i hi hh).trans (a.block i hi hh)⟩
theorem below (a : Only B h w w') (b : Below w'.heap.size w' w'') (hB : B ≤ w.heap.size) : Only B h w w'' := ⟨b.os.trans a.os, b.tape.trans a.tape, b.output.trans a.output, Nat.le_trans a.size b.size, fun i hi hh => (b.block i (Nat.lt_of_lt_of_le (Nat.lt_of_lt_of_le hi hB) a.size)).trans (a.block i hi hh)⟩
theorem set (a : Only B h w w') (j : Nat) (u : Value) : Only B h w (w'.setCell ⟨h, j, none⟩ u) :=
  ⟨by simpa [World.setCell] using a.os, by simpa [World.setCell] using a.tape, by simpa [World.setCell] using a.output, by rw [World.size_setCell]; exact a.size, fun i hi hh => (Below.heap_setCell w' ⟨h, j, none⟩ u i hh).trans (a.block i hi hh)⟩
theorem drew (a : Only B h w w') : Only B h w w'.drew := ⟨a.os, a.tape, a.output, a.size, a.block⟩
theorem grown {row : Option Nat} (a : Only B h w w') (g : w'.grownBy w'' row) (hB : B ≤ w.heap.size) (hr : ∀ k, row = some k → B ≤ k) : Only B h w w'' :=
  ⟨g.os.trans a.os, g.tape.trans a.tape, g.output.trans a.output, Nat.le_trans a.size g.size, fun i hi hh => (g.block i (Nat.lt_of_lt_of_le (Nat.lt_of_lt_of_le hi hB) a.size) (by intro e; have := hr i e.symm; omega)).trans (a.block i hi hh)⟩
theorem alloc (a : Only B h w w') (o : Obj) (hB : B ≤ w.heap.size) : Only B h w (w'.alloc o) := a.below ((Below.refl _ _).alloc (Nat.le_refl _) o) hB
end Only

structure OI (w : World) (B h : Nat) (ws ks : List Int) (pv : Value) (r : Int) (wv kv : Value) : Prop where
  blk : w.heap[h]? = some (.cells #[wv, kv, pv, .int .i64 r] 27 (0, 0))
  ow : w.ownsRow B 38 1 wv ws.length (ws.map (Value.int .u32))
  ok : w.ownsRow B 3 1 kv ks.length (ks.map (Value.int .i64))
  hB : h < B

namespace OI
variable {w w' : World} {B h : Nat} {ws ks : List Int} {pv : Value} {r : Int} {wv kv : Value}
theorem below (o : OI w B h ws ks pv r wv kv) (hb : Below w.heap.size w w') : OI w' B h ws ks pv r wv kv :=
  { o with blk := below_blk hb o.blk, ow := pw_own_below o.ow hb, ok := pw_own_below o.ok hb }
theorem wShape (o : OI w B h ws ks pv r wv kv) : ∃ A c, wv = .slice A ws.length c := by
  rcases o.ow.2 with ⟨rfl, hn⟩ | ⟨g, cap, cur, rfl, _⟩
  · exact ⟨none, 0, by rw [hn]⟩
  · exact ⟨_, cap, rfl⟩
theorem kShape (o : OI w B h ws ks pv r wv kv) : ∃ A c, kv = .slice A ks.length c := by
  rcases o.ok.2 with ⟨rfl, hn⟩ | ⟨g, cap, cur, rfl, _⟩
  · exact ⟨none, 0, by rw [hn]⟩
  · exact ⟨_, cap, rfl⟩
theorem d0 (o : OI w B h ws ks pv r wv kv) : w.cell? ⟨h, 0, none⟩ = some wv := cell_of_block o.blk 0
theorem d1 (o : OI w B h ws ks pv r wv kv) : w.cell? ⟨h, 1, none⟩ = some kv := cell_of_block o.blk 1
theorem z0 (o : OI w B h ws ks pv r wv kv) : w.frozen? ⟨h, 0, none⟩ = false := unfrozen_of_block o.blk 0
theorem z1 (o : OI w B h ws ks pv r wv kv) : w.frozen? ⟨h, 1, none⟩ = false := unfrozen_of_block o.blk 1
theorem drew (o : OI w B h ws ks pv r wv kv) : OI w.drew B h ws ks pv r wv kv := o.below ((Below.refl _ _).drew)

theorem wGrown (o : OI w B h ws ks pv r wv kv) (hg : w.grownBy w' wv.ownBlock) : w'.heap[h]? = some (.cells #[wv, kv, pv, .int .i64 r] 27 (0, 0)) ∧ w'.ownsRow B 3 1 kv ks.length (ks.map (Value.int .i64)) := by
  have hh := (Array.getElem?_eq_some_iff.1 o.blk).1
  refine ⟨(hg.block h hh ?_).trans o.blk, own_other o.ok hg (own_type_ne o.ok o.ow (by decide))⟩
  intro e
  have := own_base o.ow h e.symm
  have := o.hB
  omega
theorem kGrown (o : OI w B h ws ks pv r wv kv) (hg : w.grownBy w' kv.ownBlock) : w'.heap[h]? = some (.cells #[wv, kv, pv, .int .i64 r] 27 (0, 0)) ∧ w'.ownsRow B 38 1 wv ws.length (ws.map (Value.int .u32)) := by
  have hh := (Array.getElem?_eq_some_iff.1 o.blk).1
  refine ⟨(hg.block h hh ?_).trans o.blk, own_other o.ow hg (own_type_ne o.ow o.ok (by decide))⟩
  intro e
  have := own_base o.ok h e.symm
  have := o.hB
  omega
theorem own_set {w : World} {B h : Nat} {e s n : Nat} {v : Value} {xs : List Value} (o : w.ownsRow B e s v n xs) (hB : h < B) (j : Nat) (u : Value) : (w.setCell ⟨h, j, none⟩ u).ownsRow B e s v n xs :=
  own_move o (fun k hk => Below.heap_setCell w ⟨h, j, none⟩ u k (by have := own_base o k hk; simp; omega))

/-- The words have grown, and the field is stored. -/
theorem putW {ws' : List Int} {wv' : Value} (o : OI w B h ws ks pv r wv kv) (hg : w.grownBy w' wv.ownBlock) (how : w'.ownsRow B 38 1 wv' ws'.length (ws'.map (Value.int .u32))) :
    OI (w'.setCell ⟨h, 0, none⟩ wv') B h ws' ks pv r wv' kv :=
  { blk := block_setCell (o.wGrown hg).1 _, ow := own_set how o.hB _ _, ok := own_set (o.wGrown hg).2 o.hB _ _, hB := o.hB }
theorem putK {ks' : List Int} {kv' : Value} (o : OI w B h ws ks pv r wv kv) (hg : w.grownBy w' kv.ownBlock) (how : w'.ownsRow B 3 1 kv' ks'.length (ks'.map (Value.int .i64))) :
    OI (w'.setCell ⟨h, 1, none⟩ kv') B h ws ks' pv r wv kv' :=
  { blk := block_setCell (o.kGrown hg).1 _, ow := own_set (o.kGrown hg).2 o.hB _ _, ok := own_set how o.hB _ _, hB := o.hB }
end OI

end Go.Proofs.YtamimnaafiphcaaDoor

namespace Go.Proofs.YtamimnaafiphcaaDoor
open Go.RowKit Go.Proofs.YtamimnaafiphcaaDoorW.PrintWords Go.Maps Go.Joins

theorem word_any (op a b c : Int) (w : World) (hL : Laid w) : Calls Tryd.prog 82 #[.agg #[.int .i64 op, .int .i64 a, .int .i64 b, .int .i64 c]] w fun e w' => e = .returned (.int .u32 (enc op a b c).1) ∧ Below w.heap.size w w' := by
  have E := Lib.hid (fun (W : World) (h : Laid W) => encode_any op a b c W h)
  generalize enc op a b c = r at E ⊢
  go_enter Tryd.func82, Tryd.ntmps82
  go_wp2_with fail
  have k0 : (w.alloc (.cells #[.int .i64 op, .int .i64 a, .int .i64 b, .int .i64 c] 44)).cell? ⟨w.heap.size, 0, none⟩ = some (.int .i64 op) := kn 0 rfl
  have k1 : (w.alloc (.cells #[.int .i64 op, .int .i64 a, .int .i64 b, .int .i64 c] 44)).cell? ⟨w.heap.size, 1, none⟩ = some (.int .i64 a) := kn 1 rfl
  have k2 : (w.alloc (.cells #[.int .i64 op, .int .i64 a, .int .i64 b, .int .i64 c] 44)).cell? ⟨w.heap.size, 2, none⟩ = some (.int .i64 b) := kn 2 rfl
  have k3 : (w.alloc (.cells #[.int .i64 op, .int .i64 a, .int .i64 b, .int .i64 c] 44)).cell? ⟨w.heap.size, 3, none⟩ = some (.int .i64 c) := kn 3 rfl
  have hL1 := Laid.below hL ((Below.refl _ w).alloc (Nat.le_refl _) (.cells #[.int .i64 op, .int .i64 a, .int .i64 b, .int .i64 c] 44))
  refine (E.out _ hL1).mono ?_
  rintro e w1 ⟨rfl, hb1⟩
  go_wp2_with fail
  go_ret
  exact ⟨rfl, bt hb1⟩

/-- Words that come as data: none, or a row that is not the answer's. -/
def DataAt (w : World) (own : Option Nat) (dv : Value) (data : List Int) : Prop :=
  (data = [] ∧ dv = .slice none 0 0) ∨ ∃ ad c, dv = .slice (some ad) data.length c ∧ 0 < data.length ∧ (∀ j u, (data.map (Value.int .u32))[j]? = some u → w.cell? (ad.add j) = some u) ∧ ad.block < w.heap.size ∧ own ≠ some ad.block

theorem adb (a : Addr) (n : Nat) : (a.add n).block = a.block := by unfold Addr.add; split <;> rfl

set_option maxRecDepth 100000 in
set_option maxHeartbeats 4000000 in
theorem puts_any (op a b c kind : Int) (data : List Int) (w : World) (B h : Nat) (ws ks : List Int) (pv : Value) (r : Int) (wv kv dv : Value)
    (hL : Laid w) (o : OI w B h ws ks pv r wv kv) (hBs : B ≤ w.heap.size) (hd : DataAt w wv.ownBlock dv data) (hw : ws.length ≤ 40000000) (hk : ks.length ≤ 40000000) (hdl : data.length ≤ 40000000) :
    Calls Tryd.prog 67 #[.pointer (some ⟨h, 0, none⟩), .agg #[.int .i64 op, .int .i64 a, .int .i64 b, .int .i64 c], .int .i64 kind, dv] w
      fun e w' => e = .returned (.tuple #[]) ∧ (∃ wv' kv', OI w' B h (ws ++ (enc op a b c).1 :: data) (ks ++ 1 :: List.replicate data.length kind) pv r wv' kv') ∧ Only B h w w' := by
  have E := Lib.hid (fun (W : World) (h : Laid W) => word_any op a b c W h)
  generalize (enc op a b c).1 = x at E ⊢
  obtain ⟨AW, cW, rfl⟩ := o.wShape
  obtain ⟨AK, cK, rfl⟩ := o.kShape
  have HO := Lib.hid o
  have HL := Lib.hid hL
  have HD := Lib.hid hd
  have q0 := o.d0
  have z0 := o.z0
  clear o hL hd
  go_enter Tryd.func67, Tryd.ntmps67
  go_wp2_with fail
  have hb0 : Below w.heap.size w (w.alloc (.cells #[.int .i64 op, .int .i64 a, .int .i64 b, .int .i64 c] 44)) := (Below.refl _ _).alloc (Nat.le_refl _) _
  have c0 : (w.alloc (.cells #[.int .i64 op, .int .i64 a, .int .i64 b, .int .i64 c] 44)).cell? ⟨w.heap.size, 0, none⟩ = some (.int .i64 op) := kn 0 rfl
  have c1 : (w.alloc (.cells #[.int .i64 op, .int .i64 a, .int .i64 b, .int .i64 c] 44)).cell? ⟨w.heap.size, 1, none⟩ = some (.int .i64 a) := kn 1 rfl
  have c2 : (w.alloc (.cells #[.int .i64 op, .int .i64 a, .int .i64 b, .int .i64 c] 44)).cell? ⟨w.heap.size, 2, none⟩ = some (.int .i64 b) := kn 2 rfl
  have c3 : (w.alloc (.cells #[.int .i64 op, .int .i64 a, .int .i64 b, .int .i64 c] 44)).cell? ⟨w.heap.size, 3, none⟩ = some (.int .i64 c) := kn 3 rfl
  replace q0 := kp hb0 q0
  replace z0 : (w.alloc (.cells #[.int .i64 op, .int .i64 a, .int .i64 b, .int .i64 c] 44)).frozen? ⟨h, 0, none⟩ = false := by
    rw [hb0.frozen (Array.getElem?_eq_some_iff.1 HO.out.blk).1]
    exact z0
  generalize w.heap.size = C at c0 c1 c2 c3
  generalize (w.alloc (.cells #[.int .i64 op, .int .i64 a, .int .i64 b, .int .i64 c] 44)) = W at hb0 c0 c1 c2 c3 q0 z0 ⊢
  have hW := hb0.size
  have HO1 := Lib.hid (HO.out.below hb0)
  have HL1 := Lib.hid (HL.out.below hb0)
  have FIN : Hid (∀ w1, Below W.drew.heap.size W.drew w1 → ∀ w2, (w1.alloc (.cells #[Value.int .u32 x] 38)).grownBy w2 (Value.slice AW ws.length cW).ownBlock → ∀ g n cap, n = (ws ++ x :: data).length →
      w2.ownsRow B 38 1 (.slice (some ⟨g, 0, none⟩) n cap) n ((ws ++ x :: data).map (Value.int .u32)) →
      (∃ wv', OI (w2.setCell ⟨h, 0, none⟩ (.slice (some ⟨g, 0, none⟩) n cap)) B h (ws ++ x :: data) ks pv r wv' (.slice AK ks.length cK)) ∧ Only B h W (w2.setCell ⟨h, 0, none⟩ (.slice (some ⟨g, 0, none⟩) n cap))) := Lib.hid (by
    intro w1 hb1 w2 hg g n cap hn how
    subst hn
    have hBW : B ≤ W.heap.size := Nat.le_trans hBs hW
    have o3 := (HO1.out.drew.below hb1).below ((Below.refl _ w1).alloc (Nat.le_refl _) (Obj.cells #[Value.int .u32 x] 38))
    refine ⟨⟨_, o3.putW hg how⟩, (Only.grown (w' := w1.alloc (Obj.cells #[Value.int .u32 x] 38)) ?_ hg hBW ?_).set 0 _⟩
    · exact (((Only.refl B h W).drew).below hb1 hBW).alloc _ hBW
    · intro k hk
      exact own_base o3.ow k hk)
  go_cut [] (fun w' => (∃ wv', OI w' B h (ws ++ x :: data) ks pv r wv' (.slice AK ks.length cK)) ∧ Only B h W w')
  case first =>
    --DEV<
    rcases HD.out with ⟨rfl, rfl⟩ | ⟨ad, cD, rfl, hpos, hcells, hlt, hne⟩
    · go_region_law (first
        | (go_simp; go_at_call 82; refine (E.out _ (by have := HL1.out; exact this)).mono ?_; rintro e w1 ⟨rfl, hb1⟩; have HO2 := Lib.hid (HO1.out.drew.below hb1); have q1 := HO2.out.d0; have q1a := ka (.cells #[Value.int .u32 x] 38) q1)
        | (refine ap_none 24 38 (k := .u32) (bytes := 4) Tryd.underlying24 (by kernel_rfl) rfl (.tmp 16) (.tmp 17) rfl B _ _ _ rfl hown1 rfl ?_)
        | (refine ap_step 24 38 (k := .u32) (bytes := 4) Tryd.underlying24 (by kernel_rfl) (by decide) rfl (.tmp 12) (.tmp 15) rfl B (.slice AW ws.length cW) ws.length ws rfl (pw_own_below (HO1.out.drew.below hb1).ow ((Below.refl _ _).alloc (Nat.le_refl _) _)) ⟨w1.heap.size, 0, none⟩ 1 1 [x] rfl rfl (one_new _ _ _ _) (by decide) (by omega) (by have := hb1.size; rw [World.size_alloc]; rw [World.size_drew] at this; omega) ?_; intro g1 cap1 w2 hown1 hg1 hat1 hlt1; have hq := ((HO2.out.below ((Below.refl _ _).alloc (Nat.le_refl _) _)).wGrown hg1).1; have q2 := cell_of_block hq 0; have z2 := unfrozen_of_block hq 0))
      all_goals
        go_wp2_with fail
        go_meet
        exact FIN.out w1 hb1 w2 hg1 g1 _ cap1 (by simp) hown1
    · have CELLS : Hid (∀ w1, Below W.drew.heap.size W.drew w1 → ∀ w2, (w1.alloc (.cells #[Value.int .u32 x] 38)).grownBy w2 (Value.slice AW ws.length cW).ownBlock → ∀ j u, (data.map (Value.int .u32))[j]? = some u → w2.cell? (ad.add j) = some u) := Lib.hid (by
        intro w1 hb1 w2 hg j u hu
        have h1 := ka (.cells #[Value.int .u32 x] 38) (kp hb1 (kp hb0.drew (hcells j u hu)))
        rw [hg.cell_far _ (lt_of_cell h1) (by rw [adb]; exact fun e => hne e.symm)]
        exact h1)
      go_region_law (first
        | (go_simp; go_at_call 82; refine (E.out _ (by have := HL1.out; exact this)).mono ?_; rintro e w1 ⟨rfl, hb1⟩; have HO2 := Lib.hid (HO1.out.drew.below hb1); have q1 := HO2.out.d0; have q1a := ka (.cells #[Value.int .u32 x] 38) q1)
        | (refine ap_step 24 38 (k := .u32) (bytes := 4) Tryd.underlying24 (by kernel_rfl) (by decide) rfl (.tmp 16) (.tmp 17) rfl B _ (ws.length + 1) (ws ++ [x]) rfl hown1 ad data.length cD data rfl rfl (CELLS.out w1 hb1 w2 hg1) hpos (by omega) (by have := hg1.size; have := hb1.size; rw [World.size_alloc] at *; rw [World.size_drew] at *; omega) ?_; intro g2 cap2 w3 hown2 hg2 hat2 hlt2; have hg3 := hg1.andThen hg2 (fun j hj => by cases hj; rcases hat1 with e | e; exact .inr e; exact .inl (by rw [e]; exact Nat.le_refl _)); have hq3 := ((HO2.out.below ((Below.refl _ _).alloc (Nat.le_refl _) _)).wGrown hg3).1; have q3 := cell_of_block hq3 0; have z3 := unfrozen_of_block hq3 0)
        | (refine ap_step 24 38 (k := .u32) (bytes := 4) Tryd.underlying24 (by kernel_rfl) (by decide) rfl (.tmp 12) (.tmp 15) rfl B (.slice AW ws.length cW) ws.length ws rfl (pw_own_below (HO1.out.drew.below hb1).ow ((Below.refl _ _).alloc (Nat.le_refl _) _)) ⟨w1.heap.size, 0, none⟩ 1 1 [x] rfl rfl (one_new _ _ _ _) (by decide) (by omega) (by have := hb1.size; rw [World.size_alloc]; rw [World.size_drew] at this; omega) ?_; intro g1 cap1 w2 hown1 hg1 hat1 hlt1; have hq := ((HO2.out.below ((Below.refl _ _).alloc (Nat.le_refl _) _)).wGrown hg1).1; have q2 := cell_of_block hq 0; have z2 := unfrozen_of_block hq 0))
      all_goals
        go_wp2_with fail
        go_meet
        exact FIN.out w1 hb1 w3 hg3 g2 _ cap2 (by simp; omega) (by simpa using hown2)
    --DEV>
  case rest =>
    obtain ⟨⟨wv', HA⟩, HB⟩ := hcut
    obtain ⟨AW', cW', rfl⟩ := HA.wShape
    have r1 := HA.d1
    have y1 := HA.z1
    replace HA := Lib.hid HA
    replace HB := Lib.hid HB
    have hBW : B ≤ W.heap.size := Nat.le_trans hBs hW
    clear c0 c1 c2 c3 q0 z0 FIN HO HO1 HL HL1
    obtain ⟨AD, cD, rfl⟩ : ∃ A c, dv = .slice A data.length c := by
      rcases HD.out with ⟨rfl, rfl⟩ | ⟨ad, cD, rfl, _⟩
      · exact ⟨_, _, rfl⟩
      · exact ⟨_, _, rfl⟩
    clear HD
    have hsz : B ≤ wc.heap.size := Nat.le_trans (Nat.le_trans hBs hW) HB.out.size
    go_wp2_with (at_builtin; refine ap_list 25 3 (k := .i64) (bytes := 8) Tryd.underlying25 (by kernel_rfl) (by decide) rfl (.tmp 25) (.tmp 26) rfl B _ ks.length ks rfl (pw_own_below HA.out.ok ((Below.refl _ _).alloc (Nat.le_refl _) _)) ⟨wc.heap.size, 0, none⟩ 1 1 [1] rfl rfl (one_new _ _ _ _) (by decide) (by omega) (by rw [World.size_alloc]; omega) ?_; intro g1 cap1 w2 hown1 hg1 hat1 hlt1; have hq := ((HA.out.below ((Below.refl _ _).alloc (Nat.le_refl _) _)).kGrown hg1).1; have q2 := cell_of_block hq 1; have z2 := unfrozen_of_block hq 1)
    have hA2 := (HA.out.below ((Below.refl _ _).alloc (Nat.le_refl _) _)).putK (ks' := ks ++ [1]) hg1 (by simpa using hown1)
    have hB2 := (Only.grown (HB.out.alloc _ hBW) hg1 hBW (fun k hk => own_base (pw_own_below HA.out.ok ((Below.refl _ _).alloc (Nat.le_refl _) (Obj.cells #[Value.int .i64 1] 3))) k hk)).set 1 (.slice (some ⟨g1, 0, none⟩) (ks.length + 1) cap1)
    clear r1 y1 hq q2 z2 hown1 hg1 hat1 hlt1
    have HA2 := Lib.hid hA2
    have HB2 := Lib.hid hB2
    clear HA HB hA2 hB2 hsz
    generalize (w2.setCell ⟨h, 1, none⟩ (Value.slice (some ⟨g1, 0, none⟩) (ks.length + 1) cap1)) = W2 at HA2 HB2 ⊢
    go_loopw [32] (fun s wr => ∃ j : Nat, j ≤ data.length ∧ s = .int .i64 j ∧ Hid (∃ kv', OI wr B h (ws ++ x :: data) (ks ++ 1 :: List.replicate j kind) pv r (.slice AW' (ws ++ x :: data).length cW') kv') ∧ Hid (Only B h W wr)) (fun s _ => data.length - (intOf s).toNat)
    case atStart => exact ⟨0, Nat.zero_le _, rfl, Lib.hid ⟨_, HA2.out⟩, HB2⟩
    case round =>
      obtain ⟨j, hj, rfl, hXX, HB⟩ := hrel
      obtain ⟨kv', HA⟩ := hXX.out
      clear hXX
      clear HA2 HB2
      obtain ⟨AK', cK', rfl⟩ := HA.kShape
      have hkl : (ks ++ 1 :: List.replicate j kind).length ≤ 100000000 := by simp; omega
      have hkj : ks ++ 1 :: List.replicate (j + 1) kind = (ks ++ 1 :: List.replicate j kind) ++ [kind] := by
        rw [List.replicate_succ', List.append_assoc]
        rfl
      by_cases hlt : j < data.length
      · have r1 := HA.d1
        have y1 := HA.z1
        have hsz : B ≤ wr.heap.size := Nat.le_trans hBW HB.out.size
        replace HA := Lib.hid HA
        replace hkj := Lib.hid hkj
        generalize ks ++ 1 :: List.replicate j kind = kk at HA hkl hkj r1 y1 ⊢
        go_wp2_with (at_builtin; refine ap_list 25 3 (k := .i64) (bytes := 8) Tryd.underlying25 (by kernel_rfl) (by decide) rfl (.tmp 38) (.tmp 40) rfl B _ kk.length kk rfl (pw_own_below HA.out.ok ((Below.refl _ _).alloc (Nat.le_refl _) _)) ⟨wr.heap.size, 0, none⟩ 1 1 [kind] rfl rfl (one_new _ _ _ _) (by decide) (by omega) (by rw [World.size_alloc]; omega) ?_; intro g1 cap1 w2 hown1 hg1 hat1 hlt1; have hq := ((HA.out.below ((Below.refl _ _).alloc (Nat.le_refl _) _)).kGrown hg1).1; have q2 := cell_of_block hq 1; have z2 := unfrozen_of_block hq 1)
        have hA2 := (HA.out.below ((Below.refl _ _).alloc (Nat.le_refl _) _)).putK (ks' := kk ++ [kind]) hg1 (by simpa using hown1)
        have hB2 := (Only.grown (HB.out.alloc _ hBW) hg1 hBW (fun k hk => own_base (pw_own_below HA.out.ok ((Below.refl _ _).alloc (Nat.le_refl _) (Obj.cells #[Value.int .i64 kind] 3))) k hk)).set 1 (.slice (some ⟨g1, 0, none⟩) (kk.length + 1) cap1)
        clear r1 y1 hq q2 z2 hown1 hg1 hat1 hlt1
        have HA2 := Lib.hid hA2
        have HB2 := Lib.hid hB2
        clear HA HB hA2 hB2 hsz
        generalize (w2.setCell ⟨h, 1, none⟩ (Value.slice (some ⟨g1, 0, none⟩) (kk.length + 1) cap1)) = W2 at HA2 HB2 ⊢
        go_roundw
        case rel => exact ⟨j + 1, by omega, by go_num, Lib.hid ⟨_, by rw [hkj.out]; exact HA2.out⟩, HB2⟩
        case measure => simp [intOf]; omega
      · have hjd : j = data.length := by omega
        subst hjd
        have HAB := Lib.hid (show (∃ wv' kv', OI wr B h (ws ++ x :: data) (ks ++ 1 :: List.replicate data.length kind) pv r wv' kv') ∧ Only B h w wr from ⟨⟨_, _, HA⟩, Only.trans (Only.below (Only.refl B h w) hb0 hBs) HB.out⟩)
        clear HA HB hkj hkl
        go_wp2_with fail
        go_end0
        exact ⟨rfl, HAB.out⟩

end Go.Proofs.YtamimnaafiphcaaDoor

namespace Go.Proofs.YtamimnaafiphcaaDoor
open Go.RowKit Go.Proofs.YtamimnaafiphcaaDoorW.PrintWords Go.Maps Go.Joins

/-- A label's place, as the map tells it. -/
def toW (f : Int → Option Int) (x : Int) : Int := (f x).getD 0

def lineW (f : Int → Option Int) (lg : Bool) (place : Int) (l : Line) : List Int :=
  if l.op = 0 then [] else
  if brOp l.op = true ∧ lg = false then [(enc l.op l.a l.b (toW f l.label - place - 1)).1] else
  if brOp l.op = true then (if isBr l.op = true then [(enc (otherOp l.op) l.a l.b 2).1] else []) ++ [(enc 41 0 0 0).1, toW f l.label] else
  if goOp l.op = true then [(enc l.op l.a l.b l.imm).1, toW f l.label] else
  if l.op = 2 then [(enc l.op l.a l.b l.imm).1, l.n] else
  if l.op = 42 then (enc l.op l.a l.b l.imm).1 :: (l.list.length : Int) :: l.list.map (toW f) else
  [(enc l.op l.a l.b l.imm).1]

def lineK (lg : Bool) (l : Line) : List Int :=
  if l.op = 0 then [] else
  if brOp l.op = true ∧ lg = false then [1] else
  if brOp l.op = true then (if isBr l.op = true then [1] else []) ++ [1, 2] else
  if goOp l.op = true then [1, 2] else
  if l.op = 2 then [1, 2] else
  if l.op = 42 then 1 :: 3 :: l.list.map (fun _ => 3) else
  [1]

theorem Laid.only {w w' : World} {B h : Nat} (hL : Laid w) (o : Only B h w w') (hB : 0 < B) (hh : h ≠ 0) : Laid w' :=
  ⟨Nat.lt_of_lt_of_le hL.1 o.size, fun i hi => by rw [World.cell?_of_block (o.block 0 hB (Ne.symm hh))]; exact hL.2 i hi⟩

theorem own_lt {w : World} {b e s n : Nat} {v : Value} {xs : List Value} (o : w.ownsRow b e s v n xs) (k : Nat) (hk : v.ownBlock = some k) : k < w.heap.size := by
  rcases o.2 with ⟨rfl, _⟩ | ⟨g, cap, cur, rfl, _, hg, _⟩
  · cases hk
  · cases hk
    exact (Array.getElem?_eq_some_iff.1 hg).1

theorem mapc (l : List Int) (x : Int) : l.map (fun _ => x) = List.replicate l.length x := by
  induction l with
  | nil => rfl
  | cons a l ih => rw [List.map_cons, ih]; rfl

theorem OI.wLt {w : World} {B h : Nat} {ws ks : List Int} {pv : Value} {r : Int} {wv kv : Value} (o : OI w B h ws ks pv r wv kv) (k : Nat) (hk : wv.ownBlock = some k) : k < w.heap.size := own_lt o.ow k hk

theorem data_one (w : World) (x : Int) (own : Option Nat) (ho : ∀ k, own = some k → k < w.heap.size) : DataAt (w.alloc (.cells #[.int .u32 x] 38)) own (.slice (some ⟨w.heap.size, 0, none⟩) 1 1) [x] :=
  .inr ⟨_, 1, rfl, Nat.one_pos, one_new w .u32 x _, by rw [World.size_alloc]; exact Nat.lt_succ_self _, fun e => by have := ho _ e; simp at this⟩

set_option maxRecDepth 100000 in
set_option maxHeartbeats 4000000 in
theorem line_any (w0 w9 w : World) (g mb lb pb : Nat) (A : Option Addr) (n c : Nat) (ls : List Line) (long : List Bool) (places : List Int) (words : Int) (f : Int → Option Int)
    (B h : Nat) (ws ks : List Int) (pv : Value) (r : Int) (wv kv : Value) (i : Nat) (l : Line)
    (H : LI w0 w9 w g mb lb pb A n c long places words f) (hl : Lines w0 (.slice A n c) ls) (hs : Sized ls) (hi : i < n) (hli : ls[i]? = some l)
    (hL : Laid w) (o : OI w B h ws ks pv r wv kv) (hB : B ≤ w.heap.size) (hw : ws.length ≤ 30000000) (hk : ks.length ≤ 30000000)
    (hp0 : 0 ≤ places.getD i 0) (hp1 : places.getD i 0 ≤ 100000000) (hf : ∀ x, 0 ≤ toW f x ∧ toW f x ≤ 100000000) (hlab : ∀ x ∈ l.list, (Lit.int .i64 x).wf = true) (hh : h ≠ 0) :
    Calls Tryd.prog 47 #[.pointer (some ⟨g, 0, none⟩), .pointer (some ⟨h, 0, none⟩), .int .i64 i] w
      fun e w' => e = .returned (.tuple #[]) ∧ (∃ wv' kv', OI w' B h (ws ++ lineW f (long.getD i false) (places.getD i 0) l) (ks ++ lineK (long.getD i false) l) pv r wv' kv') ∧ Only B h w w' := by
  have hlw := hl.below H.bel
  obtain ⟨ad, l', v, rfl, hli', hat, hv⟩ := hlw.at_ i hi
  obtain rfl : l = l' := Option.some.inj (hli.symm.trans hli')
  obtain ⟨k0, k1, k2, k3, k4, k5, k6⟩ := hat
  have q0 := H.c0
  have HH := Lib.hid H
  have HV := Lib.hid hv
  have HLW := Lib.hid hlw
  have HLI := Lib.hid hli
  have HO := Lib.hid o
  have HL := Lib.hid hL
  have hmem : l ∈ ls := List.mem_of_getElem? hli
  have hlist := hs.lists l hmem
  have hlbl := hs.labels l hmem
  obtain ⟨AL, cL, rfl, hr⟩ := hv
  clear hr hmem hs hl H hlw hli hli' o hL
  have HF := Lib.hid hf
  clear hf
  go_enter Tryd.func47, Tryd.ntmps47
  go_wp2_with fail
  have b0 : (w.alloc (.cells #[.int .i64 l.op, .int .i64 l.a, .int .i64 l.b, .int .i64 l.imm, .int .u32 l.n, .int .i64 l.label, .slice AL l.list.length cL] 40)).cell? ⟨w.heap.size, 0, none⟩ = some (.int .i64 l.op) := kn 0 rfl
  have b4 : (w.alloc (.cells #[.int .i64 l.op, .int .i64 l.a, .int .i64 l.b, .int .i64 l.imm, .int .u32 l.n, .int .i64 l.label, .slice AL l.list.length cL] 40)).cell? ⟨w.heap.size, 4, none⟩ = some (.int .u32 l.n) := kn 4 rfl
  have b5 : (w.alloc (.cells #[.int .i64 l.op, .int .i64 l.a, .int .i64 l.b, .int .i64 l.imm, .int .u32 l.n, .int .i64 l.label, .slice AL l.list.length cL] 40)).cell? ⟨w.heap.size, 5, none⟩ = some (.int .i64 l.label) := kn 5 rfl
  have b6 : (w.alloc (.cells #[.int .i64 l.op, .int .i64 l.a, .int .i64 l.b, .int .i64 l.imm, .int .u32 l.n, .int .i64 l.label, .slice AL l.list.length cL] 40)).cell? ⟨w.heap.size, 6, none⟩ = some (.slice AL l.list.length cL) := kn 6 rfl
  have hb0 : Below w.heap.size w (w.alloc (.cells #[.int .i64 l.op, .int .i64 l.a, .int .i64 l.b, .int .i64 l.imm, .int .u32 l.n, .int .i64 l.label, .slice AL l.list.length cL] 40)) := (Below.refl _ _).alloc (Nat.le_refl _) _
  clear k0 k1 k2 k3 k4 k5 k6 q0
  have hbS : w.heap.size < (w.alloc (.cells #[.int .i64 l.op, .int .i64 l.a, .int .i64 l.b, .int .i64 l.imm, .int .u32 l.n, .int .i64 l.label, .slice AL l.list.length cL] 40)).heap.size := by rw [World.size_alloc]; omega
  generalize (w.alloc (.cells #[.int .i64 l.op, .int .i64 l.a, .int .i64 l.b, .int .i64 l.imm, .int .u32 l.n, .int .i64 l.label, .slice AL l.list.length cL] 40)) = W0 at b0 b4 b5 b6 hb0 hbS ⊢
  refine (instruction_any l _ _).mono ?_
  rintro e w1 ⟨rfl, hb1⟩
  replace b0 := kp hb1 b0
  replace b4 := kp hb1 b4
  replace b5 := kp hb1 b5
  replace b6 := kp hb1 b6
  have hS1 : w.heap.size < w1.heap.size := Nat.lt_of_lt_of_le hbS hb1.size
  replace hb0 := bj hb0 hb1
  clear hb1 hbS
  go_wp2_with fail
  have d0 : (w1.alloc (.cells #[.int .i64 l.op, .int .i64 l.a, .int .i64 l.b, .int .i64 l.imm] 44)).cell? ⟨w1.heap.size, 0, none⟩ = some (.int .i64 l.op) := kn 0 rfl
  have d1 : (w1.alloc (.cells #[.int .i64 l.op, .int .i64 l.a, .int .i64 l.b, .int .i64 l.imm] 44)).cell? ⟨w1.heap.size, 1, none⟩ = some (.int .i64 l.a) := kn 1 rfl
  have d2 : (w1.alloc (.cells #[.int .i64 l.op, .int .i64 l.a, .int .i64 l.b, .int .i64 l.imm] 44)).cell? ⟨w1.heap.size, 2, none⟩ = some (.int .i64 l.b) := kn 2 rfl
  have d3 : (w1.alloc (.cells #[.int .i64 l.op, .int .i64 l.a, .int .i64 l.b, .int .i64 l.imm] 44)).cell? ⟨w1.heap.size, 3, none⟩ = some (.int .i64 l.imm) := kn 3 rfl
  have z0 : (w1.alloc (.cells #[.int .i64 l.op, .int .i64 l.a, .int .i64 l.b, .int .i64 l.imm] 44)).frozen? ⟨w1.heap.size, 0, none⟩ = false := unfrozen_of_block (heap_alloc_new w1 _) 0
  have z3 : (w1.alloc (.cells #[.int .i64 l.op, .int .i64 l.a, .int .i64 l.b, .int .i64 l.imm] 44)).frozen? ⟨w1.heap.size, 3, none⟩ = false := unfrozen_of_block (heap_alloc_new w1 _) 3
  replace b0 := ka (.cells #[.int .i64 l.op, .int .i64 l.a, .int .i64 l.b, .int .i64 l.imm] 44) b0
  replace b4 := ka (.cells #[.int .i64 l.op, .int .i64 l.a, .int .i64 l.b, .int .i64 l.imm] 44) b4
  replace b5 := ka (.cells #[.int .i64 l.op, .int .i64 l.a, .int .i64 l.b, .int .i64 l.imm] 44) b5
  replace b6 := ka (.cells #[.int .i64 l.op, .int .i64 l.a, .int .i64 l.b, .int .i64 l.imm] 44) b6
  replace hb0 : Below w.heap.size w (w1.alloc (.cells #[.int .i64 l.op, .int .i64 l.a, .int .i64 l.b, .int .i64 l.imm] 44)) := bj hb0 ((Below.refl _ _).alloc (Nat.le_refl _) _)
  have hS2 : w1.heap.size < (w1.alloc (.cells #[.int .i64 l.op, .int .i64 l.a, .int .i64 l.b, .int .i64 l.imm] 44)).heap.size := by rw [World.size_alloc]; omega
  generalize w1.heap.size = S1 at *
  generalize (w1.alloc (.cells #[.int .i64 l.op, .int .i64 l.a, .int .i64 l.b, .int .i64 l.imm] 44)) = W at *
  clear W0 w1
  have HW := Lib.hid (HH.out.below hb0)
  have hlk := fun q => (HW.out.map.drewN q).look l.label hlbl
  have q1 := HW.out.c1
  have hto := HF.out l.label
  have htw : toW f l.label = (f l.label).getD 0 := rfl
  rw [← htw] at hlk
  have hwr : IntKind.u32.wrap (toW f l.label) = toW f l.label := u32_own 32 (by decide) _ hto.1 (by omega)
  clear htw
  go_quiet (fail)
  generalize hWx : W.drewN _ = W2
  have hb2 : Below W.heap.size W W2 := hWx ▸ bdn W _
  have z0' := kpf hb2 d0 z0
  have z3' := kpf hb2 d3 z3
  replace b0 := kp hb2 b0
  replace b4 := kp hb2 b4
  replace b5 := kp hb2 b5
  replace b6 := kp hb2 b6
  replace d0 := kp hb2 d0
  replace d1 := kp hb2 d1
  replace d2 := kp hb2 d2
  replace d3 := kp hb2 d3
  replace hb0 := bj hb0 hb2
  have hS3 : S1 < W2.heap.size := Nat.lt_of_lt_of_le hS2 hb2.size
  have hB2 : B ≤ W2.heap.size := Nat.le_trans hB hb0.size
  have hwS : w.heap.size ≤ W2.heap.size := hb0.size
  have hhB : h < B := HO.out.hB
  have hgl : g < w.heap.size := (Array.getElem?_eq_some_iff.1 HH.out.blkG).1
  have hll : lb < w.heap.size := (Array.getElem?_eq_some_iff.1 HH.out.blkL).1
  have p2 := (HH.out.below hb0).c2
  have p3 := (HH.out.below hb0).cL i hi
  have HP := Lib.hid (show Only B h w W2 from (Only.refl B h w).below hb0 hB)
  have hi0 : (0 : Int) ≤ (i : Int) := Int.natCast_nonneg _
  have hi1 : (i : Int) < (n : Int) := by omega
  clear hWx hb2 hS2 z0 z3 HW hlk q1
  by_cases h0 : l.op = 0
  · have e1 := Lib.hid (show lineW f (long.getD i false) (places.getD i 0) l = [] by unfold lineW; rw [if_pos h0])
    have e2 := Lib.hid (show lineK (long.getD i false) l = [] by unfold lineK; rw [if_pos h0])
    go_wp2_with fail
    go_end0
    exact ⟨rfl, ⟨wv, kv, by rw [e1.out, e2.out, List.append_nil, List.append_nil]; exact HO.out.below hb0⟩, HP.out⟩
  replace h0 : (l.op == 0) = false := by simpa using h0
  have H0 := Lib.hid (show ¬ l.op = 0 by simpa using h0)
  by_cases hbr : brOp l.op = true
  · --DEV<
    cases hlg : long.getD i false with
    | false =>
      have e1 := Lib.hid (show lineW f false (places.getD i 0) l = [(enc l.op l.a l.b (toW f l.label - places.getD i 0 - 1)).1] by unfold lineW; rw [if_neg H0.out, if_pos ⟨hbr, rfl⟩])
      have e2 := Lib.hid (show lineK false l = [1] by unfold lineK; rw [if_neg H0.out, if_pos ⟨hbr, rfl⟩])
      rw [hlg] at p3
      have AW := Lib.hid (show Calls Tryd.prog 46 #[.pointer (some ⟨g, 0, none⟩), .int .i64 i] W2 fun e w' => e = .returned (.int .i64 (toW f l.label - places.getD i 0 - 1)) ∧ Below W2.heap.size W2 w' from
        away_any g mb pb W2 (some ad) n c n n ls i l (places.getD i 0) f hi (HH.out.below hb0).c0 (HH.out.below hb0).c1 (HH.out.below hb0).c3 (HLW.out.below hb0) HLI.out ((HH.out.below hb0).cP i hi) (HH.out.below hb0).map hlbl hp0 hp1 (HF.out l.label).1 (HF.out l.label).2)
      go_wp2_with (first | (go_at_call 45; refine (branch_any _ _).mono ?_; rintro e w' ⟨rfl, rfl⟩) | (go_at_call 65; refine (cond_any _ _).mono ?_; rintro e w' ⟨rfl, rfl⟩) | (go_at_call 63; refine (goes_any _ _).mono ?_; rintro e w' ⟨rfl, rfl⟩))
      refine AW.out.mono ?_
      rintro e w3 ⟨rfl, hb3⟩
      replace z3' := kpf hb3 d3 z3'
      replace d0 := kp hb3 d0
      replace d1 := kp hb3 d1
      replace d2 := kp hb3 d2
      replace d3 := kp hb3 d3
      have hb4 := (bj hb0 hb3).setCell (show w.heap.size ≤ (⟨S1, 3, none⟩ : Addr).block from Nat.le_of_lt hS1) (.int .i64 (toW f l.label - places.getD i 0 - 1))
      clear p2 p3 b0 b4 b5 b6 AW
      go_wp2_with fail
      trace_state
      refine (puts_any _ _ _ _ 0 [] _ B h ws ks pv r wv kv _ (HL.out.below hb4) (HO.out.below hb4) (Nat.le_trans hB hb4.size) (.inl ⟨rfl, rfl⟩) (by omega) (by omega) (by simp)).mono ?_
      rintro e w5 ⟨rfl, ⟨wv5, kv5, o5⟩, on5⟩
      have O5 := Lib.hid o5
      have P5 := Lib.hid (((Only.refl B h w).below hb4 hB).trans on5)
      clear o5 on5
      go_wp2_with fail
      go_end0
      exact ⟨rfl, ⟨wv5, kv5, by rw [hlg, e1.out, e2.out]; exact O5.out⟩, P5.out⟩
    | true =>
      rw [hlg] at p3
      by_cases hcb : isBr l.op = true
      · have hop : 0 ≤ l.op ∧ l.op ≤ 1000 := by
          unfold isBr within at hcb
          simp at hcb
          omega
        have e1 := Lib.hid (show lineW f true (places.getD i 0) l = [(enc (otherOp l.op) l.a l.b 2).1] ++ [(enc 41 0 0 0).1, toW f l.label] by unfold lineW; rw [if_neg H0.out, if_neg (by simp), if_pos hbr, if_pos hcb])
        have e2 := Lib.hid (show lineK true l = [1] ++ [1, 2] by unfold lineK; rw [if_neg H0.out, if_neg (by simp), if_pos hbr, if_pos hcb])
        have HOP := Lib.hid hop
        clear hop
        go_wp2_with (first | (go_at_call 45; refine (branch_any _ _).mono ?_; rintro e w' ⟨rfl, rfl⟩) | (go_at_call 65; refine (cond_any _ _).mono ?_; rintro e w' ⟨rfl, rfl⟩) | (go_at_call 63; refine (goes_any _ _).mono ?_; rintro e w' ⟨rfl, rfl⟩))
        refine (other_any _ _ HOP.out.1 HOP.out.2).mono ?_
        rintro e w' ⟨rfl, rfl⟩
        go_wp2_with fail
        have hb4 := (hb0.setCell (show w.heap.size ≤ (⟨S1, 0, none⟩ : Addr).block from Nat.le_of_lt hS1) (.int .i64 (otherOp l.op))).setCell (show w.heap.size ≤ (⟨S1, 3, none⟩ : Addr).block from Nat.le_of_lt hS1) (.int .i64 2)
        refine (puts_any _ _ _ _ 0 [] _ B h ws ks pv r wv kv _ (HL.out.below hb4) (HO.out.below hb4) (Nat.le_trans hB hb4.size) (.inl ⟨rfl, rfl⟩) (by omega) (by omega) (by simp)).mono ?_
        rintro e w5 ⟨rfl, ⟨wv5, kv5, o5⟩, on5⟩
        have O5 := Lib.hid o5
        have P5 := Lib.hid (((Only.refl B h w).below hb4 hB).trans on5)
        clear o5 on5
        go_wp2_with fail
        have hBw : B ≤ w5.heap.size := Nat.le_trans hB P5.out.size
        have L5 := HL.out.only P5.out (by omega) hh
        have hba := (Below.refl _ w5).alloc (Nat.le_refl _) (Obj.cells #[Value.int .u32 (toW f l.label)] 38)
        refine (puts_any _ _ _ _ 2 [toW f l.label] _ B h _ _ pv r wv5 kv5 _ (L5.below hba) (O5.out.below hba) (Nat.le_trans hBw hba.size) (data_one _ _ _ O5.out.wLt) (by simp; omega) (by simp; omega) (by simp)).mono ?_
        rintro e w6 ⟨rfl, ⟨wv6, kv6, o6⟩, on6⟩
        have O6 := Lib.hid o6
        have P6 := Lib.hid ((P5.out.below hba hB).trans on6)
        clear o6 on6
        go_wp2_with fail
        go_end0
        exact ⟨rfl, ⟨wv6, kv6, by rw [hlg, e1.out, e2.out, ← List.append_assoc, ← List.append_assoc]; exact O6.out⟩, P6.out⟩
      · replace hcb : isBr l.op = false := by simpa using hcb
        have e1 := Lib.hid (show lineW f true (places.getD i 0) l = [(enc 41 0 0 0).1, toW f l.label] by unfold lineW; rw [if_neg H0.out, if_neg (by simp), if_pos hbr, if_neg (by simp [hcb]), List.nil_append])
        have e2 := Lib.hid (show lineK true l = [1, 2] by unfold lineK; rw [if_neg H0.out, if_neg (by simp), if_pos hbr, if_neg (by simp [hcb]), List.nil_append])
        go_wp2_with (first | (go_at_call 45; refine (branch_any _ _).mono ?_; rintro e w' ⟨rfl, rfl⟩) | (go_at_call 65; refine (cond_any _ _).mono ?_; rintro e w' ⟨rfl, rfl⟩) | (go_at_call 63; refine (goes_any _ _).mono ?_; rintro e w' ⟨rfl, rfl⟩))
        have hba := (Below.refl _ W2).alloc (Nat.le_refl _) (Obj.cells #[Value.int .u32 (toW f l.label)] 38)
        refine (puts_any _ _ _ _ 2 [toW f l.label] _ B h ws ks pv r wv kv _ ((HL.out.below hb0).below hba) ((HO.out.below hb0).below hba) (Nat.le_trans hB2 hba.size) (data_one _ _ _ (HO.out.below hb0).wLt) (by omega) (by omega) (by simp)).mono ?_
        rintro e w6 ⟨rfl, ⟨wv6, kv6, o6⟩, on6⟩
        have O6 := Lib.hid o6
        have P6 := Lib.hid ((HP.out.below hba hB).trans on6)
        clear o6 on6
        go_wp2_with fail
        go_end0
        exact ⟨rfl, ⟨wv6, kv6, by rw [hlg, e1.out, e2.out]; exact O6.out⟩, P6.out⟩
    --DEV>
  replace hbr : brOp l.op = false := by simpa using hbr
  by_cases hgo : goOp l.op = true
  · have e1 := Lib.hid (show lineW f (long.getD i false) (places.getD i 0) l = [(enc l.op l.a l.b l.imm).1, toW f l.label] by unfold lineW; rw [if_neg H0.out, if_neg (by simp [hbr]), if_neg (by simp [hbr]), if_pos hgo])
    have e2 := Lib.hid (show lineK (long.getD i false) l = [1, 2] by unfold lineK; rw [if_neg H0.out, if_neg (by simp [hbr]), if_neg (by simp [hbr]), if_pos hgo])
    go_wp2_with (first | (go_at_call 45; refine (branch_any _ _).mono ?_; rintro e w' ⟨rfl, rfl⟩) | (go_at_call 65; refine (cond_any _ _).mono ?_; rintro e w' ⟨rfl, rfl⟩) | (go_at_call 63; refine (goes_any _ _).mono ?_; rintro e w' ⟨rfl, rfl⟩))
    have hba := (Below.refl _ W2).alloc (Nat.le_refl _) (Obj.cells #[Value.int .u32 (toW f l.label)] 38)
    refine (puts_any _ _ _ _ 2 [toW f l.label] _ B h ws ks pv r wv kv _ ((HL.out.below hb0).below hba) ((HO.out.below hb0).below hba) (Nat.le_trans hB2 hba.size) (data_one _ _ _ (HO.out.below hb0).wLt) (by omega) (by omega) (by simp)).mono ?_
    rintro e w6 ⟨rfl, ⟨wv6, kv6, o6⟩, on6⟩
    have O6 := Lib.hid o6
    have P6 := Lib.hid ((HP.out.below hba hB).trans on6)
    clear o6 on6
    go_wp2_with fail
    go_end0
    exact ⟨rfl, ⟨wv6, kv6, by rw [e1.out, e2.out]; exact O6.out⟩, P6.out⟩
  replace hgo : goOp l.op = false := by simpa using hgo
  by_cases h2 : l.op = 2
  · have e1 := Lib.hid (show lineW f (long.getD i false) (places.getD i 0) l = [(enc l.op l.a l.b l.imm).1, l.n] by unfold lineW; rw [if_neg H0.out, if_neg (by simp [hbr]), if_neg (by simp [hbr]), if_neg (by simp [hgo]), if_pos h2])
    have e2 := Lib.hid (show lineK (long.getD i false) l = [1, 2] by unfold lineK; rw [if_neg H0.out, if_neg (by simp [hbr]), if_neg (by simp [hbr]), if_neg (by simp [hgo]), if_pos h2])
    have h2' : (l.op == 2) = true := by simpa using h2
    clear h2
    go_wp2_with (first | (go_at_call 45; refine (branch_any _ _).mono ?_; rintro e w' ⟨rfl, rfl⟩) | (go_at_call 65; refine (cond_any _ _).mono ?_; rintro e w' ⟨rfl, rfl⟩) | (go_at_call 63; refine (goes_any _ _).mono ?_; rintro e w' ⟨rfl, rfl⟩))
    have hba := (Below.refl _ W2).alloc (Nat.le_refl _) (Obj.cells #[Value.int .u32 (l.n)] 38)
    refine (puts_any _ _ _ _ 2 [l.n] _ B h ws ks pv r wv kv _ ((HL.out.below hb0).below hba) ((HO.out.below hb0).below hba) (Nat.le_trans hB2 hba.size) (data_one _ _ _ (HO.out.below hb0).wLt) (by omega) (by omega) (by simp)).mono ?_
    rintro e w6 ⟨rfl, ⟨wv6, kv6, o6⟩, on6⟩
    have O6 := Lib.hid o6
    have P6 := Lib.hid ((HP.out.below hba hB).trans on6)
    clear o6 on6
    go_wp2_with fail
    go_end0
    exact ⟨rfl, ⟨wv6, kv6, by rw [e1.out, e2.out]; exact O6.out⟩, P6.out⟩
  have H2 := Lib.hid h2
  replace h2 : (l.op == 2) = false := by simpa using h2
  by_cases h42 : l.op = 42
  · have e1 := Lib.hid (show lineW f (long.getD i false) (places.getD i 0) l = (enc l.op l.a l.b l.imm).1 :: (l.list.length : Int) :: l.list.map (toW f) by unfold lineW; rw [if_neg H0.out, if_neg (by simp [hbr]), if_neg (by simp [hbr]), if_neg (by simp [hgo]), if_neg H2.out, if_pos h42])
    have e2 := Lib.hid (show lineK (long.getD i false) l = 1 :: 3 :: l.list.map (fun _ => 3) by unfold lineK; rw [if_neg H0.out, if_neg (by simp [hbr]), if_neg (by simp [hbr]), if_neg (by simp [hgo]), if_neg H2.out, if_pos h42])
    replace h42 : (l.op == 42) = true := by simpa using h42
    have hlw : IntKind.u32.wrap (l.list.length : Int) = (l.list.length : Int) := u32_own 32 (by decide) _ (Int.natCast_nonneg _) (by omega)
    have b6a := ka (.cells #[.int .u32 (l.list.length : Int)] 38) b6
    go_wp2_with (first | (go_at_call 45; refine (branch_any _ _).mono ?_; rintro e w' ⟨rfl, rfl⟩) | (go_at_call 65; refine (cond_any _ _).mono ?_; rintro e w' ⟨rfl, rfl⟩) | (go_at_call 63; refine (goes_any _ _).mono ?_; rintro e w' ⟨rfl, rfl⟩))
    --HERE
    have how0 := World.ownsRow_lit (base := W2.heap.size) (e := 38) (size := 1) W2 #[Value.int .u32 (l.list.length : Int)] 1 (Nat.le_refl _) (by decide) rfl
    have hbl := (Below.refl _ W2).alloc (Nat.le_refl _) (Obj.cells #[Value.int .u32 (l.list.length : Int)] 38)
    have HOW0 := Lib.hid how0
    have HBL := Lib.hid hbl
    have K6 := Lib.hid (fun W3 (hb : Below W2.heap.size W2 W3) => kp hb b6)
    have D0 := Lib.hid (fun W3 (hb : Below W2.heap.size W2 W3) => kp hb d0)
    have D1 := Lib.hid (fun W3 (hb : Below W2.heap.size W2 W3) => kp hb d1)
    have D2 := Lib.hid (fun W3 (hb : Below W2.heap.size W2 W3) => kp hb d2)
    have D3 := Lib.hid (fun W3 (hb : Below W2.heap.size W2 W3) => kp hb d3)
    clear how0 hbl b6a b0 b4 b5 b6 d0 d1 d2 d3 z0' z3' p2 p3
    generalize (W2.alloc (Obj.cells #[Value.int .u32 (l.list.length : Int)] 38)) = W3 at HOW0 HBL ⊢
    have b6 := K6.out W3 HBL.out
    go_loopw [9, 108] (fun s9 s wr => ∃ j gd cap : Nat, j ≤ l.list.length ∧ s = .int .i64 j ∧ s9 = .slice (some ⟨gd, 0, none⟩) (1 + j) cap ∧
      Hid (wr.ownsRow W2.heap.size 38 1 (.slice (some ⟨gd, 0, none⟩) (1 + j) cap) (1 + j) (((l.list.length : Int) :: (l.list.take j).map (toW f)).map (Value.int .u32))) ∧ Hid (Below W2.heap.size W2 wr)) (fun _ s _ => l.list.length - (intOf s).toNat)
    case atStart => exact ⟨0, W2.heap.size, 1, Nat.zero_le _, rfl, rfl, HOW0, HBL⟩
    case round =>
      obtain ⟨j, gd, cap, hj, rfl, rfl, HOW, HBr⟩ := hrel
      clear HOW0 HBL b6
      have hDw := HBr.out.size
      by_cases hlt : j < l.list.length
      · obtain ⟨ai, x, hA, hxj, hx⟩ := ((HV.out.below hb0).below HBr.out).at_ j hlt
        subst hA
        have hxm : x ∈ l.list := List.mem_of_getElem? hxj
        have HXJ := Lib.hid (show l.list.take (j + 1) = l.list.take j ++ [x] by rw [List.take_add_one, hxj]; rfl)
        have hlk := ((HH.out.below hb0).below HBr.out).map.look x (hlab x hxm)
        have hxt : toW f x = (f x).getD 0 := rfl
        rw [← hxt] at hlk
        have q1 := ((HH.out.below hb0).below HBr.out).c1
        have hto := HF.out x
        have hwr2 : IntKind.u32.wrap (toW f x) = toW f x := u32_own 32 (by decide) _ hto.1 (by omega)
        clear hxj hxt hxm
        have hi0 : (0 : Int) ≤ (j : Int) := Int.natCast_nonneg _
        go_wp2_with (at_builtin; refine ap_list 24 38 (k := .u32) (bytes := 4) Tryd.underlying24 (by kernel_rfl) (by decide) rfl (.tmp 112) (.tmp 120) rfl W2.heap.size _ (1 + j) _ rfl (pw_own_below HOW.out ((Below.refl _ _).alloc (Nat.le_refl _) _)) ⟨wr.heap.size, 0, none⟩ 1 1 [toW f x] rfl rfl (one_new _ _ _ _) (by decide) (by omega) (by rw [World.size_alloc]; omega) ?_; intro g1 cap1 w2 hown1 hg1 hat1 hlt1)
        have hbn : Below W2.heap.size W2 w2 := (HBr.out.alloc hDw (Obj.cells #[Value.int .u32 (toW f x)] 38)).grown hg1 (by rw [World.size_alloc]; omega) (fun k hk => own_base (pw_own_below HOW.out ((Below.refl _ _).alloc (Nat.le_refl _) (Obj.cells #[Value.int .u32 (toW f x)] 38))) k hk)
        have HN := Lib.hid hbn
        have HOWN : Hid (w2.ownsRow W2.heap.size 38 1 (.slice (some ⟨g1, 0, none⟩) (1 + (j + 1)) cap1) (1 + (j + 1)) (((l.list.length : Int) :: (l.list.take (j + 1)).map (toW f)).map (Value.int .u32))) := Lib.hid (by
          rw [HXJ.out, List.map_append, ← List.cons_append, ← Nat.add_assoc]
          exact hown1)
        exact ⟨⟨j + 1, g1, cap1, by omega, by go_num, by rw [Nat.add_assoc], HOWN, HN⟩, by simp [intOf]; omega⟩
      · have hjl : j = l.list.length := by omega
        subst hjl
        have d0 := D0.out wr HBr.out
        have d1 := D1.out wr HBr.out
        have d2 := D2.out wr HBr.out
        have d3 := D3.out wr HBr.out
        have hbw : Below w.heap.size w wr := bj hb0 HBr.out
        have hdv : DataAt wr wv.ownBlock (.slice (some ⟨gd, 0, none⟩) (1 + l.list.length) cap) ((l.list.length : Int) :: l.list.map (toW f)) := by
          have hgd := own_base HOW.out gd rfl
          refine .inr ⟨⟨gd, 0, none⟩, cap, by simp; omega, by simp, ?_, ?_, ?_⟩
          · intro j u hu
            have ho := HOW.out
            rw [List.take_length] at ho
            have hadd : (⟨gd, 0, none⟩ : Addr).add j = ⟨gd, j, none⟩ := by unfold Addr.add; split <;> simp_all
            rw [hadd, ho.cellAt j (by
              have := (List.getElem?_eq_some_iff.1 hu).1
              simp at this
              omega)]
            exact hu
          · exact own_lt HOW.out gd rfl
          · intro e
            have := (HO.out.below hb0).wLt gd e
            omega
        have HDV := Lib.hid hdv
        clear hdv HOW
        go_wp2_with fail
        refine (puts_any _ _ _ _ 3 ((l.list.length : Int) :: l.list.map (toW f)) _ B h ws ks pv r wv kv _ (HL.out.below hbw) (HO.out.below hbw) (Nat.le_trans hB hbw.size) HDV.out (by omega) (by omega) (by simp; omega)).mono ?_
        rintro e w6 ⟨rfl, ⟨wv6, kv6, o6⟩, on6⟩
        have HK := Lib.hid (show ks ++ 1 :: 3 :: l.list.map (fun _ => (3 : Int)) = ks ++ 1 :: List.replicate ((l.list.length : Int) :: l.list.map (toW f)).length 3 by rw [mapc]; simp [List.replicate_succ])
        have O6 := Lib.hid o6
        have P6 := Lib.hid (((Only.refl B h w).below hbw hB).trans on6)
        clear o6 on6
        go_wp2_with fail
        go_end0
        exact ⟨rfl, ⟨wv6, kv6, by rw [e1.out, e2.out, HK.out]; exact O6.out⟩, P6.out⟩
  have H42 := Lib.hid h42
  replace h42 : (l.op == 42) = false := by simpa using h42
  have e1 := Lib.hid (show lineW f (long.getD i false) (places.getD i 0) l = [(enc l.op l.a l.b l.imm).1] by unfold lineW; rw [if_neg H0.out, if_neg (by simp [hbr]), if_neg (by simp [hbr]), if_neg (by simp [hgo]), if_neg H2.out, if_neg H42.out])
  have e2 := Lib.hid (show lineK (long.getD i false) l = [1] by unfold lineK; rw [if_neg H0.out, if_neg (by simp [hbr]), if_neg (by simp [hbr]), if_neg (by simp [hgo]), if_neg H2.out, if_neg H42.out])
  go_wp2_with (first | (go_at_call 45; refine (branch_any _ _).mono ?_; rintro e w' ⟨rfl, rfl⟩) | (go_at_call 65; refine (cond_any _ _).mono ?_; rintro e w' ⟨rfl, rfl⟩) | (go_at_call 63; refine (goes_any _ _).mono ?_; rintro e w' ⟨rfl, rfl⟩))
  refine (puts_any _ _ _ _ 0 [] _ B h ws ks pv r wv kv _ (HL.out.below hb0) (HO.out.below hb0) hB2 (.inl ⟨rfl, rfl⟩) (by omega) (by omega) (by simp)).mono ?_
  rintro e w6 ⟨rfl, ⟨wv6, kv6, o6⟩, on6⟩
  have O6 := Lib.hid o6
  have P6 := Lib.hid (HP.out.trans on6)
  clear o6 on6
  go_wp2_with fail
  go_end0
  exact ⟨rfl, ⟨wv6, kv6, by rw [e1.out, e2.out]; exact O6.out⟩, P6.out⟩

end Go.Proofs.YtamimnaafiphcaaDoor
