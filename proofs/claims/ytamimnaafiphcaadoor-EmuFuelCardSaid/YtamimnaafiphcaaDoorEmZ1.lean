/- Texts joined: EmA EmB EmC EmD EmE EmF. -/
import Derived.Test.YtamimnaafiphcaaDoorEncD
import Derived.Test.YtamimnaafiphcaaDoorAp
import Derived.WalkLawsBesides
import Derived.Deep.DeepCutAuto
import Derived.Test.YtamimnaafiphcaaDoorRxG
import Derived.Laws.BitsLemmas
import Derived.Deep.QuietTactic
import Derived.BigQuiet
import Derived.Laws.Closers25
import Derived.Deep.RegionLaw
set_option linter.unusedVariables false
set_option linter.unusedSimpArgs false
namespace Go.Proofs.YtamimnaafiphcaaDoor
open Go.RowKit

/-- A machine's end, as a panic. -/
def stopE (k c : Int) : List PanicEntry := [{ v := .iface 100 (.agg #[.int .i64 k, .int .u32 c]), recovered := false }]

theorem trap_any (n : Int) (w : World) : Calls Tryd.prog 74 #[.int .u32 n] w fun e w' => e = .panicked (stopE 2 n) ∧ w = w' := by
  go_enter Tryd.func74, Tryd.ntmps74
  go_wp2
  exact ⟨rfl, rfl, rfl⟩

def oneB (b : Bool) : Int := if b then 1 else 0

theorem one_any (b : Bool) (w : World) : Calls Tryd.prog 98 #[.bool b] w fun e w' => e = .returned (.int .u32 (oneB b)) ∧ w = w' := by
  cases b <;> (go_enter Tryd.func98, Tryd.ntmps98; go_wp2; go_ret; exact ⟨rfl, rfl⟩)

end Go.Proofs.YtamimnaafiphcaaDoor

namespace Go.Proofs.YtamimnaafiphcaaDoor
open Go.RowKit Go.Proofs.YtamimnaafiphcaaDoorW.PrintWords Go.Maps Go.Joins

structure Mach where
  r : List Int
  mem : List Int
  inp : ByteArray
  calls : List Int
  place : Int
  out : List Int
  steps : Int

def W32 (x : Int) : Prop := 0 ≤ x ∧ x < 4294967296

/-- The machine's numbers are as they must be. -/
structure MOk (m : Mach) : Prop where
  nr : m.r.length = 12
  wr : ∀ x ∈ m.r, W32 x
  nm : m.mem.length = 524288
  wm : ∀ x ∈ m.mem, W32 x
  nc : m.calls.length ≤ 50
  wc : ∀ x ∈ m.calls, -1099511627776 ≤ x ∧ x ≤ 1099511627776
  wp : -1099511627776 ≤ m.place ∧ m.place ≤ 1099511627776
  ws : 0 ≤ m.steps ∧ m.steps ≤ 1000000
  no : (m.out.length : Int) ≤ m.steps
  wi : m.inp.size ≤ 10000

def gCells (A : Option Addr) (n c mb : Nat) (cv ov : Value) (m : Mach) : List Value :=
  .slice A n c :: (m.r.map (Value.int .u32) ++ [.slice (some ⟨mb, 0, none⟩) 524288 524288, .string m.inp, cv, .int .i64 m.place, ov, .int .i64 m.steps])

structure MI (w0 w9 w : World) (g mb : Nat) (A : Option Addr) (n c : Nat) (ws : List Int) (m : Mach) (cv ov : Value) : Prop where
  blkG : w.heap[g]? = some (.cells (gCells A n c mb cv ov m).toArray 98 (0, 0))
  blkM : w.heap[mb]? = some (.cells (m.mem.map (Value.int .u32)).toArray 38 (0, 0))
  words : Kd.C (Kd.int .u32) w0 A n ws
  calls : w.ownsRow w9.heap.size 3 1 cv m.calls.length (m.calls.map (Value.int .i64))
  out : w.ownsRow w9.heap.size 5 1 ov m.out.length (m.out.map (Value.int .u8))
  bel : Below w0.heap.size w0 w
  g0 : w0.heap.size ≤ g
  m0 : w0.heap.size ≤ mb
  gm : g ≠ mb
  s09 : w0.heap.size ≤ w9.heap.size
  s9 : w9.heap.size ≤ w.heap.size
  fr : ∀ i, i < w9.heap.size → i ≠ g → i ≠ mb → w.heap[i]? = w9.heap[i]?
  wf : ∀ x ∈ ws, W32 x
  nw : ws.length ≤ 65536
  ok : MOk m

namespace MI
variable {w0 w9 w w' : World} {g mb : Nat} {A : Option Addr} {n c : Nat} {ws : List Int} {m : Mach} {cv ov : Value}

theorem below (h : MI w0 w9 w g mb A n c ws m cv ov) (hb : Below w.heap.size w w') : MI w0 w9 w' g mb A n c ws m cv ov :=
  { h with blkG := below_blk hb h.blkG, blkM := below_blk hb h.blkM, calls := own_move h.calls (fun k hk => hb.block k (own_lt h.calls k hk)), out := own_move h.out (fun k hk => hb.block k (own_lt h.out k hk)), bel := h.bel.trans (hb.mono h.bel.size), s9 := Nat.le_trans h.s9 hb.size, fr := fun i hi a b => (hb.block i (Nat.lt_of_lt_of_le hi h.s9)).trans (h.fr i hi a b) }

theorem drew (h : MI w0 w9 w g mb A n c ws m cv ov) : MI w0 w9 w.drew g mb A n c ws m cv ov := h.below ((Below.refl _ _).drew)
theorem drewN (h : MI w0 w9 w g mb A n c ws m cv ov) (k : Nat) : MI w0 w9 (w.drewN k) g mb A n c ws m cv ov := by
  induction k with
  | zero => exact h
  | succ k ih => exact ih.drew
theorem alloc (h : MI w0 w9 w g mb A n c ws m cv ov) (o : Obj) : MI w0 w9 (w.alloc o) g mb A n c ws m cv ov := h.below ((Below.refl _ _).alloc (Nat.le_refl _) o)

theorem cell (h : MI w0 w9 w g mb A n c ws m cv ov) (i : Nat) : w.cell? ⟨g, i, none⟩ = (gCells A n c mb cv ov m)[i]? := by
  rw [cell_of_block h.blkG i]; simp
theorem free (h : MI w0 w9 w g mb A n c ws m cv ov) (i : Nat) : w.frozen? ⟨g, i, none⟩ = false := unfrozen_of_block h.blkG i
theorem c0 (h : MI w0 w9 w g mb A n c ws m cv ov) : w.cell? ⟨g, 0, none⟩ = some (.slice A n c) := h.cell 0
theorem back (m : Mach) (hr : m.r.length = 12) (i : Nat) : (gCells A n c mb cv ov m)[13 + i]? = [Value.slice (some ⟨mb, 0, none⟩) 524288 524288, .string m.inp, cv, .int .i64 m.place, ov, .int .i64 m.steps][i]? := by
  unfold gCells
  rw [show 13 + i = (12 + i) + 1 by omega, List.getElem?_cons_succ, List.getElem?_append_right (by simp; omega), List.length_map, hr, Nat.add_sub_cancel_left]
theorem cR (h : MI w0 w9 w g mb A n c ws m cv ov) (i : Nat) (hi : i < 12) : w.cell? ⟨g, 1 + i, none⟩ = some (.int .u32 (m.r.getD i 0)) := by
  have := h.ok.nr
  rw [h.cell, Nat.add_comm]
  unfold gCells
  rw [List.getElem?_cons_succ, List.getElem?_append_left (by simp; omega), List.getElem?_map, List.getElem?_eq_getElem (by omega)]
  simp [List.getD, show i < m.r.length by omega]
theorem c13 (h : MI w0 w9 w g mb A n c ws m cv ov) : w.cell? ⟨g, 13, none⟩ = some (.slice (some ⟨mb, 0, none⟩) 524288 524288) := by rw [h.cell, back m h.ok.nr 0]; rfl
theorem c14 (h : MI w0 w9 w g mb A n c ws m cv ov) : w.cell? ⟨g, 14, none⟩ = some (.string m.inp) := by rw [h.cell, back m h.ok.nr 1]; rfl
theorem c15 (h : MI w0 w9 w g mb A n c ws m cv ov) : w.cell? ⟨g, 15, none⟩ = some cv := by rw [h.cell, back m h.ok.nr 2]; rfl
theorem c16 (h : MI w0 w9 w g mb A n c ws m cv ov) : w.cell? ⟨g, 16, none⟩ = some (.int .i64 m.place) := by rw [h.cell, back m h.ok.nr 3]; rfl
theorem c17 (h : MI w0 w9 w g mb A n c ws m cv ov) : w.cell? ⟨g, 17, none⟩ = some ov := by rw [h.cell, back m h.ok.nr 4]; rfl
theorem c18 (h : MI w0 w9 w g mb A n c ws m cv ov) : w.cell? ⟨g, 18, none⟩ = some (.int .i64 m.steps) := by rw [h.cell, back m h.ok.nr 5]; rfl
theorem cM (h : MI w0 w9 w g mb A n c ws m cv ov) (i : Nat) (hi : i < 524288) : w.cell? ⟨mb, i, none⟩ = some (.int .u32 (m.mem.getD i 0)) := by
  have := h.ok.nm
  rw [cell_of_block h.blkM i]
  simp [List.getD, List.getElem?_eq_getElem (show i < m.mem.length by omega)]
theorem fM (h : MI w0 w9 w g mb A n c ws m cv ov) (i : Nat) : w.frozen? ⟨mb, i, none⟩ = false := unfrozen_of_block h.blkM i
theorem rng (h : MI w0 w9 w g mb A n c ws m cv ov) (i : Nat) : W32 (m.r.getD i 0) := by
  by_cases hi : i < m.r.length
  · rw [List.getD_eq_getElem?_getD, List.getElem?_eq_getElem hi]
    exact h.ok.wr _ (List.getElem_mem hi)
  · rw [List.getD_eq_getElem?_getD, List.getElem?_eq_none (by omega)]
    exact ⟨Int.le_refl _, by decide⟩
theorem rngM (h : MI w0 w9 w g mb A n c ws m cv ov) (i : Nat) : W32 (m.mem.getD i 0) := by
  by_cases hi : i < m.mem.length
  · rw [List.getD_eq_getElem?_getD, List.getElem?_eq_getElem hi]
    exact h.ok.wm _ (List.getElem_mem hi)
  · rw [List.getD_eq_getElem?_getD, List.getElem?_eq_none (by omega)]
    exact ⟨Int.le_refl _, by decide⟩

theorem cg (h : MI w0 w9 w g mb A n c ws m cv ov) (k : Nat) (hk : cv.ownBlock = some k) : k ≠ g ∧ k ≠ mb := by
  obtain ⟨cells, hc⟩ := own_typed h.calls k hk
  constructor <;> rintro rfl
  · rw [h.blkG] at hc; simp at hc
  · rw [h.blkM] at hc; simp at hc
theorem og (h : MI w0 w9 w g mb A n c ws m cv ov) (k : Nat) (hk : ov.ownBlock = some k) : k ≠ g ∧ k ≠ mb ∧ cv.ownBlock ≠ some k := by
  obtain ⟨cells, hc⟩ := own_typed h.out k hk
  refine ⟨?_, ?_, fun e => ?_⟩
  · rintro rfl; rw [h.blkG] at hc; simp at hc
  · rintro rfl; rw [h.blkM] at hc; simp at hc
  · obtain ⟨cells', hc'⟩ := own_typed h.calls k e
    rw [hc'] at hc; simp at hc

/-- A store into the machine's own block. -/
theorem setG (h : MI w0 w9 w g mb A n c ws m cv ov) (i : Nat) (v : Value) (m' : Mach) (e : (gCells A n c mb cv ov m).set i v = gCells A n c mb cv ov m') (hm : m'.mem = m.mem) (hc : m'.calls = m.calls) (ho : m'.out = m.out) (hk : MOk m') : MI w0 w9 (w.setCell ⟨g, i, none⟩ v) g mb A n c ws m' cv ov :=
  { h with
    blkG := by rw [block_setCell h.blkG v, ← e]; simp
    blkM := by rw [hm]; exact (Below.heap_setCell w ⟨g, i, none⟩ _ mb h.gm.symm).trans h.blkM
    calls := by rw [hc]; exact own_move h.calls (fun k hk => Below.heap_setCell w ⟨g, i, none⟩ _ k (h.cg k hk).1)
    out := by rw [ho]; exact own_move h.out (fun k hk => Below.heap_setCell w ⟨g, i, none⟩ _ k (h.og k hk).1)
    bel := h.bel.setCell h.g0 _
    s9 := by rw [World.size_setCell]; exact h.s9
    fr := fun k hi a b => (Below.heap_setCell w ⟨g, i, none⟩ _ k a).trans (h.fr k hi a b)
    ok := hk }

theorem setBack (m : Mach) (hr : m.r.length = 12) (i : Nat) (v : Value) : (gCells A n c mb cv ov m).set (13 + i) v = .slice A n c :: (m.r.map (Value.int .u32) ++ [Value.slice (some ⟨mb, 0, none⟩) 524288 524288, .string m.inp, cv, .int .i64 m.place, ov, .int .i64 m.steps].set i v) := by
  unfold gCells
  rw [show 13 + i = (12 + i) + 1 by omega, List.set_cons_succ, List.set_append_right _ _ (by simp; omega), List.length_map, hr, Nat.add_sub_cancel_left]

theorem setR (h : MI w0 w9 w g mb A n c ws m cv ov) (i : Nat) (hi : i < 12) (x : Int) (hx : W32 x) : MI w0 w9 (w.setCell ⟨g, 1 + i, none⟩ (.int .u32 x)) g mb A n c ws { m with r := m.r.set i x } cv ov := by
  refine h.setG (1 + i) _ _ ?_ rfl rfl rfl { h.ok with nr := by rw [List.length_set]; exact h.ok.nr, wr := fun y hy => ?_ }
  · unfold gCells
    rw [Nat.add_comm, List.set_cons_succ, List.set_append_left _ _ (by rw [List.length_map, h.ok.nr]; exact hi), List.map_set]
  · rcases List.mem_or_eq_of_mem_set hy with hy | rfl
    · exact h.ok.wr y hy
    · exact hx
theorem setIn (h : MI w0 w9 w g mb A n c ws m cv ov) (x : ByteArray) (hx : x.size ≤ 10000) : MI w0 w9 (w.setCell ⟨g, 14, none⟩ (.string x)) g mb A n c ws { m with inp := x } cv ov :=
  h.setG 14 _ _ (setBack m h.ok.nr 1 _) rfl rfl rfl { h.ok with wi := hx }
theorem setPlace (h : MI w0 w9 w g mb A n c ws m cv ov) (x : Int) (hx : -1099511627776 ≤ x ∧ x ≤ 1099511627776) : MI w0 w9 (w.setCell ⟨g, 16, none⟩ (.int .i64 x)) g mb A n c ws { m with place := x } cv ov :=
  h.setG 16 _ _ (setBack m h.ok.nr 3 _) rfl rfl rfl { h.ok with wp := hx }
theorem setSteps (h : MI w0 w9 w g mb A n c ws m cv ov) (x : Int) (hx : 0 ≤ x ∧ x ≤ 1000000) (ho : (m.out.length : Int) ≤ x) : MI w0 w9 (w.setCell ⟨g, 18, none⟩ (.int .i64 x)) g mb A n c ws { m with steps := x } cv ov :=
  h.setG 18 _ _ (setBack m h.ok.nr 5 _) rfl rfl rfl { h.ok with ws := hx, no := ho }
theorem setMem (h : MI w0 w9 w g mb A n c ws m cv ov) (i : Nat) (x : Int) (hx : W32 x) : MI w0 w9 (w.setCell ⟨mb, i, none⟩ (.int .u32 x)) g mb A n c ws { m with mem := m.mem.set i x } cv ov :=
  { h with
    blkG := (Below.heap_setCell w ⟨mb, i, none⟩ _ g h.gm).trans h.blkG
    blkM := by rw [block_setCell h.blkM _]; simp [List.map_set]
    calls := own_move h.calls (fun k hk => Below.heap_setCell w ⟨mb, i, none⟩ _ k (h.cg k hk).2)
    out := own_move h.out (fun k hk => Below.heap_setCell w ⟨mb, i, none⟩ _ k (h.og k hk).2.1)
    bel := h.bel.setCell h.m0 _
    s9 := by rw [World.size_setCell]; exact h.s9
    fr := fun k hi a b => (Below.heap_setCell w ⟨mb, i, none⟩ _ k b).trans (h.fr k hi a b)
    ok := { h.ok with nm := by rw [List.length_set]; exact h.ok.nm, wm := fun y hy => (List.mem_or_eq_of_mem_set hy).elim (h.ok.wm y) (fun e => e ▸ hx) } }

/-- A row of the machine's was appended to, and the field has the new value. -/
theorem pushCalls (h : MI w0 w9 w g mb A n c ws m cv ov) (hg : w.grownBy w' cv.ownBlock) {v : Value} {x : Int} (ho : w'.ownsRow w9.heap.size 3 1 v (m.calls.length + 1) ((m.calls ++ [x]).map (Value.int .i64))) (hx : -1099511627776 ≤ x ∧ x ≤ 1099511627776) (hl : m.calls.length < 50) :
    MI w0 w9 (w'.setCell ⟨g, 15, none⟩ v) g mb A n c ws { m with calls := m.calls ++ [x] } v ov := by
  have hgl : g < w.heap.size := (Array.getElem?_eq_some_iff.1 h.blkG).1
  have hml : mb < w.heap.size := (Array.getElem?_eq_some_iff.1 h.blkM).1
  have eg : w'.heap[g]? = w.heap[g]? := hg.block g hgl (fun e => (h.cg g e.symm).1 rfl)
  have em : w'.heap[mb]? = w.heap[mb]? := hg.block mb hml (fun e => (h.cg mb e.symm).2 rfl)
  have hv : ∀ k, v.ownBlock = some k → k ≠ g := fun k hk e => by
    obtain ⟨cells, hc⟩ := own_typed ho k hk
    rw [e, eg, h.blkG] at hc
    simp at hc
  exact { h with
    blkG := by
      rw [block_setCell (eg.trans h.blkG) v]
      congr 2
      show ((gCells A n c mb cv ov m).toArray.setIfInBounds 15 v) = (gCells A n c mb v ov _).toArray
      rw [List.setIfInBounds_toArray, setBack m h.ok.nr 2 v]
      rfl
    blkM := (Below.heap_setCell w' ⟨g, 15, none⟩ _ mb h.gm.symm).trans (em.trans h.blkM)
    calls := own_move (by simpa using ho) (fun k hk => Below.heap_setCell w' ⟨g, 15, none⟩ _ k (hv k hk))
    out := own_move h.out (fun k hk => (Below.heap_setCell w' ⟨g, 15, none⟩ _ k (h.og k hk).1).trans (hg.block k (own_lt h.out k hk) (fun e => (h.og k hk).2.2 e.symm)))
    bel := (h.bel.grown hg h.bel.size (fun k hk => Nat.le_trans h.s09 (own_base h.calls k hk))).setCell h.g0 _
    s9 := by rw [World.size_setCell]; exact Nat.le_trans h.s9 hg.size
    fr := fun k hi a b => (Below.heap_setCell w' ⟨g, 15, none⟩ _ k a).trans ((hg.block k (Nat.lt_of_lt_of_le hi h.s9) (fun e => by have := own_base h.calls k e.symm; omega)).trans (h.fr k hi a b))
    ok := { h.ok with
      nc := by simp; omega
      wc := fun y hy => by
        rcases List.mem_append.1 hy with hy | hy
        · exact h.ok.wc y hy
        · rw [List.mem_singleton.1 hy]; exact hx } }

theorem pushOut (h : MI w0 w9 w g mb A n c ws m cv ov) (hg : w.grownBy w' ov.ownBlock) {v : Value} {x : Int} (ho : w'.ownsRow w9.heap.size 5 1 v (m.out.length + 1) ((m.out ++ [x]).map (Value.int .u8))) (hl : (m.out.length : Int) < m.steps) :
    MI w0 w9 (w'.setCell ⟨g, 17, none⟩ v) g mb A n c ws { m with out := m.out ++ [x] } cv v := by
  have hgl : g < w.heap.size := (Array.getElem?_eq_some_iff.1 h.blkG).1
  have hml : mb < w.heap.size := (Array.getElem?_eq_some_iff.1 h.blkM).1
  have eg : w'.heap[g]? = w.heap[g]? := hg.block g hgl (fun e => (h.og g e.symm).1 rfl)
  have em : w'.heap[mb]? = w.heap[mb]? := hg.block mb hml (fun e => (h.og mb e.symm).2.1 rfl)
  have hv : ∀ k, v.ownBlock = some k → k ≠ g := fun k hk e => by
    obtain ⟨cells, hc⟩ := own_typed ho k hk
    rw [e, eg, h.blkG] at hc
    simp at hc
  exact { h with
    blkG := by
      rw [block_setCell (eg.trans h.blkG) v]
      congr 2
      show ((gCells A n c mb cv ov m).toArray.setIfInBounds 17 v) = (gCells A n c mb cv v _).toArray
      rw [List.setIfInBounds_toArray, setBack m h.ok.nr 4 v]
      rfl
    blkM := (Below.heap_setCell w' ⟨g, 17, none⟩ _ mb h.gm.symm).trans (em.trans h.blkM)
    out := own_move (by simpa using ho) (fun k hk => Below.heap_setCell w' ⟨g, 17, none⟩ _ k (hv k hk))
    calls := own_move h.calls (fun k hk => (Below.heap_setCell w' ⟨g, 17, none⟩ _ k (h.cg k hk).1).trans (hg.block k (own_lt h.calls k hk) (fun e => by
      have := (h.og k e.symm).2.2
      exact this hk)))
    bel := (h.bel.grown hg h.bel.size (fun k hk => Nat.le_trans h.s09 (own_base h.out k hk))).setCell h.g0 _
    s9 := by rw [World.size_setCell]; exact Nat.le_trans h.s9 hg.size
    fr := fun k hi a b => (Below.heap_setCell w' ⟨g, 17, none⟩ _ k a).trans ((hg.block k (Nat.lt_of_lt_of_le hi h.s9) (fun e => by have := own_base h.out k e.symm; omega)).trans (h.fr k hi a b))
    ok := { h.ok with no := by simp; omega } }

/-- The last of the calls is taken off. -/
theorem popCalls (h : MI w0 w9 w g mb A n c ws m cv ov) (q cap : Nat) (hc : cv = .slice (some ⟨q, 0, none⟩) m.calls.length cap) (hl : 0 < m.calls.length) :
    MI w0 w9 (w.setCell ⟨g, 15, none⟩ (.slice (some ⟨q, 0, none⟩) (m.calls.length - 1) cap)) g mb A n c ws { m with calls := m.calls.take (m.calls.length - 1) } (.slice (some ⟨q, 0, none⟩) (m.calls.length - 1) cap) ov := by
  have ho := h.calls
  have hq : q ≠ g := (h.cg q (by rw [hc]; rfl)).1
  obtain ⟨h1, h2⟩ := ho
  rw [hc] at h2
  have hlen : (m.calls.take (m.calls.length - 1)).length = m.calls.length - 1 := by rw [List.length_take]; omega
  have hown : w.ownsRow w9.heap.size 3 1 (.slice (some ⟨q, 0, none⟩) (m.calls.length - 1) cap) (m.calls.take (m.calls.length - 1)).length ((m.calls.take (m.calls.length - 1)).map (Value.int .i64)) := by
    rw [hlen]
    rcases h2 with ⟨h2, _⟩ | ⟨q', cap', cur, e, hb, hh, hn, hm, hs, ht⟩
    · cases h2
    · injection e with e1 e2 e3
      injection e1 with e1
      injection e1 with e1 _ _
      subst e1; subst e3
      refine ⟨by simp [hlen], .inr ⟨q, cap, cur, rfl, hb, hh, by omega, hm, hs, ?_⟩⟩
      rw [List.map_take, ← ht, List.take_take]
      congr 1
      omega
  exact { h with
    blkG := by
      rw [block_setCell h.blkG _]
      congr 2
      rw [List.setIfInBounds_toArray, setBack m h.ok.nr 2 _]
      rfl
    blkM := (Below.heap_setCell w ⟨g, 15, none⟩ _ mb h.gm.symm).trans h.blkM
    calls := own_move hown (fun k hk => Below.heap_setCell w ⟨g, 15, none⟩ _ k (by
      have : q = k := by simpa [Value.ownBlock] using hk
      rw [← this]; exact hq))
    out := own_move h.out (fun k hk => Below.heap_setCell w ⟨g, 15, none⟩ _ k (h.og k hk).1)
    bel := h.bel.setCell h.g0 _
    s9 := by rw [World.size_setCell]; exact h.s9
    fr := fun k hi a b => (Below.heap_setCell w ⟨g, 15, none⟩ _ k a).trans (h.fr k hi a b)
    ok := { h.ok with
      nc := by rw [hlen]; have := h.ok.nc; omega
      wc := fun y hy => h.ok.wc y (List.mem_of_mem_take hy) } }
end MI

end Go.Proofs.YtamimnaafiphcaaDoor

namespace Go.Proofs.YtamimnaafiphcaaDoor
open Go.RowKit

theorem and31 (x : Int) (h0 : 0 ≤ x) (h1 : x < 4294967296) : bits BinOp.and IntKind.u32 x 31 = x % 32 := bits_mask .u32 32 (by decide) (u32_own 32 (by decide)) 5 (by decide) x h0 (by simpa using h1)

/-- What comes of two words. -/
def reckV (op a b : Int) : Int :=
  if op = 5 then (a + b) % 4294967296 else
  if op = 6 then (a - b) % 4294967296 else
  if op = 7 then a * b % 4294967296 else
  if op = 8 then wrap32 ((wrap32 a).tdiv (wrap32 b)) % 4294967296 else
  if op = 9 then a / b else
  if op = 10 then (wrap32 a).tmod (wrap32 b) % 4294967296 else
  if op = 11 then a % b else
  if op = 12 then bits BinOp.and IntKind.u32 a b else
  if op = 13 then bits BinOp.or IntKind.u32 a b else
  if op = 14 then bits BinOp.xor IntKind.u32 a b else
  if op = 15 then a * 2 ^ (b % 32).toNat % 4294967296 else
  if op = 16 then wrap32 a / 2 ^ (b % 32).toNat % 4294967296 else
  if op = 17 then a / 2 ^ (b % 32).toNat else
  if op = 18 then oneB (a == b) else
  if op = 19 then oneB (a != b) else
  if op = 20 then oneB (decide (wrap32 a < wrap32 b)) else
  if op = 21 then oneB (decide (a < b)) else
  if op = 22 then oneB (decide (wrap32 a ≤ wrap32 b)) else
  if op = 23 then oneB (decide (a ≤ b)) else
  0

def divOp (op : Int) : Bool := op == 8 || op == 9 || op == 10 || op == 11
def reck (op a b : Int) : Option Int := if divOp op && b == 0 then none else some (reckV op a b)

theorem reckV_5 (a b : Int) : reckV 5 a b = (a + b) % 4294967296 := rfl
theorem reckV_6 (a b : Int) : reckV 6 a b = (a - b) % 4294967296 := rfl
theorem reckV_7 (a b : Int) : reckV 7 a b = a * b % 4294967296 := rfl
theorem reckV_8 (a b : Int) : reckV 8 a b = wrap32 ((wrap32 a).tdiv (wrap32 b)) % 4294967296 := rfl
theorem reckV_9 (a b : Int) : reckV 9 a b = a / b := rfl
theorem reckV_10 (a b : Int) : reckV 10 a b = (wrap32 a).tmod (wrap32 b) % 4294967296 := rfl
theorem reckV_11 (a b : Int) : reckV 11 a b = a % b := rfl
theorem reckV_12 (a b : Int) : reckV 12 a b = bits BinOp.and IntKind.u32 a b := rfl
theorem reckV_13 (a b : Int) : reckV 13 a b = bits BinOp.or IntKind.u32 a b := rfl
theorem reckV_14 (a b : Int) : reckV 14 a b = bits BinOp.xor IntKind.u32 a b := rfl
theorem reckV_15 (a b : Int) : reckV 15 a b = a * 2 ^ (b % 32).toNat % 4294967296 := rfl
theorem reckV_16 (a b : Int) : reckV 16 a b = wrap32 a / 2 ^ (b % 32).toNat % 4294967296 := rfl
theorem reckV_17 (a b : Int) : reckV 17 a b = a / 2 ^ (b % 32).toNat := rfl
theorem reckV_18 (a b : Int) : reckV 18 a b = oneB (a == b) := rfl
theorem reckV_19 (a b : Int) : reckV 19 a b = oneB (a != b) := rfl
theorem reckV_20 (a b : Int) : reckV 20 a b = oneB (decide (wrap32 a < wrap32 b)) := rfl
theorem reckV_21 (a b : Int) : reckV 21 a b = oneB (decide (a < b)) := rfl
theorem reckV_22 (a b : Int) : reckV 22 a b = oneB (decide (wrap32 a ≤ wrap32 b)) := rfl
theorem reckV_23 (a b : Int) : reckV 23 a b = oneB (decide (a ≤ b)) := rfl

theorem div_zero (op a : Int) (w : World) : Calls Tryd.prog 99 #[.int .i64 op, .int .u32 a, .int .u32 0] w fun e w' => e = .panicked (stopE 2 1) ∧ w = w' := by
  go_enter Tryd.func99, Tryd.ntmps99
  go_wp2_with (go_at_call 74; refine (trap_any _ _).mono ?_; rintro e w1 ⟨rfl, rfl⟩)
  exact ⟨rfl, rfl, rfl⟩

theorem wrap32_ne {b : Int} (h0 : 0 ≤ b) (h1 : b < 4294967296) (h : ¬ b = 0) : ¬ wrap32 b = 0 := by
  unfold wrap32
  omega

theorem div_8 (a b : Int) (w : World) (ha : 0 ≤ a) (ha2 : a < 4294967296) (hb : 0 ≤ b) (hb2 : b < 4294967296) (h0 : ¬ b = 0) :
    Calls Tryd.prog 99 #[.int .i64 8, .int .u32 a, .int .u32 b] w fun e w' => e = .returned (.int .u32 (wrap32 ((wrap32 a).tdiv (wrap32 b)) % 4294967296)) ∧ w = w' := by
  have h1 : (b == 0) = false := by simpa using h0
  have h2 := wrap32_ne hb hb2 h0
  have h3 : (wrap32 b == 0) = false := by simpa using h2
  go_enter Tryd.func99, Tryd.ntmps99
  go_wp2
  go_ret
  exact ⟨rfl, rfl⟩

theorem div_9 (a b : Int) (w : World) (ha : 0 ≤ a) (ha2 : a < 4294967296) (hb : 0 ≤ b) (hb2 : b < 4294967296) (h0 : ¬ b = 0) :
    Calls Tryd.prog 99 #[.int .i64 9, .int .u32 a, .int .u32 b] w fun e w' => e = .returned (.int .u32 (a / b)) ∧ w = w' := by
  have h1 : (b == 0) = false := by simpa using h0
  have h2 := wrap32_ne hb hb2 h0
  have h3 : (wrap32 b == 0) = false := by simpa using h2
  go_enter Tryd.func99, Tryd.ntmps99
  go_wp2
  go_ret
  exact ⟨rfl, rfl⟩

theorem div_10 (a b : Int) (w : World) (ha : 0 ≤ a) (ha2 : a < 4294967296) (hb : 0 ≤ b) (hb2 : b < 4294967296) (h0 : ¬ b = 0) :
    Calls Tryd.prog 99 #[.int .i64 10, .int .u32 a, .int .u32 b] w fun e w' => e = .returned (.int .u32 ((wrap32 a).tmod (wrap32 b) % 4294967296)) ∧ w = w' := by
  have h1 : (b == 0) = false := by simpa using h0
  have h2 := wrap32_ne hb hb2 h0
  have h3 : (wrap32 b == 0) = false := by simpa using h2
  go_enter Tryd.func99, Tryd.ntmps99
  go_wp2
  go_ret
  exact ⟨rfl, rfl⟩

theorem div_11 (a b : Int) (w : World) (ha : 0 ≤ a) (ha2 : a < 4294967296) (hb : 0 ≤ b) (hb2 : b < 4294967296) (h0 : ¬ b = 0) :
    Calls Tryd.prog 99 #[.int .i64 11, .int .u32 a, .int .u32 b] w fun e w' => e = .returned (.int .u32 (a % b)) ∧ w = w' := by
  have h1 : (b == 0) = false := by simpa using h0
  have h2 := wrap32_ne hb hb2 h0
  have h3 : (wrap32 b == 0) = false := by simpa using h2
  go_enter Tryd.func99, Tryd.ntmps99
  go_wp2
  go_ret
  exact ⟨rfl, rfl⟩

theorem reck_5 (a b : Int) (w : World) (ha : 0 ≤ a) (ha2 : a < 4294967296) (hb : 0 ≤ b) (hb2 : b < 4294967296) :
    Calls Tryd.prog 90 #[.int .i64 5, .int .u32 a, .int .u32 b] w fun e w' => e = .returned (.int .u32 ((a + b) % 4294967296)) ∧ w = w' := by
  go_enter Tryd.func90, Tryd.ntmps90
  go_wp2_with (go_at_call 98; refine (one_any _ _).mono ?_; rintro e w1 ⟨rfl, rfl⟩)
  go_ret
  exact ⟨rfl, rfl⟩

theorem reck_6 (a b : Int) (w : World) (ha : 0 ≤ a) (ha2 : a < 4294967296) (hb : 0 ≤ b) (hb2 : b < 4294967296) :
    Calls Tryd.prog 90 #[.int .i64 6, .int .u32 a, .int .u32 b] w fun e w' => e = .returned (.int .u32 ((a - b) % 4294967296)) ∧ w = w' := by
  go_enter Tryd.func90, Tryd.ntmps90
  go_wp2_with (go_at_call 98; refine (one_any _ _).mono ?_; rintro e w1 ⟨rfl, rfl⟩)
  go_ret
  exact ⟨rfl, rfl⟩

theorem reck_7 (a b : Int) (w : World) (ha : 0 ≤ a) (ha2 : a < 4294967296) (hb : 0 ≤ b) (hb2 : b < 4294967296) :
    Calls Tryd.prog 90 #[.int .i64 7, .int .u32 a, .int .u32 b] w fun e w' => e = .returned (.int .u32 (a * b % 4294967296)) ∧ w = w' := by
  go_enter Tryd.func90, Tryd.ntmps90
  go_wp2_with (go_at_call 98; refine (one_any _ _).mono ?_; rintro e w1 ⟨rfl, rfl⟩)
  go_ret
  exact ⟨rfl, rfl⟩

theorem reck_8 (a b : Int) (w : World) (ha : 0 ≤ a) (ha2 : a < 4294967296) (hb : 0 ≤ b) (hb2 : b < 4294967296) (h0 : ¬ b = 0) :
    Calls Tryd.prog 90 #[.int .i64 8, .int .u32 a, .int .u32 b] w fun e w' => e = .returned (.int .u32 (wrap32 ((wrap32 a).tdiv (wrap32 b)) % 4294967296)) ∧ w = w' := by
  go_enter Tryd.func90, Tryd.ntmps90
  go_wp2_with (go_at_call 99; refine (div_8 a b _ ha ha2 hb hb2 h0).mono ?_; rintro e w1 ⟨rfl, rfl⟩)
  go_ret
  exact ⟨rfl, rfl⟩

theorem reckz_8 (a : Int) (w : World) :
    Calls Tryd.prog 90 #[.int .i64 8, .int .u32 a, .int .u32 0] w fun e w' => e = .panicked (stopE 2 1) ∧ w = w' := by
  go_enter Tryd.func90, Tryd.ntmps90
  go_wp2_with (go_at_call 99; refine (div_zero _ a _).mono ?_; rintro e w1 ⟨rfl, rfl⟩)
  exact ⟨rfl, rfl, rfl⟩

theorem reck_9 (a b : Int) (w : World) (ha : 0 ≤ a) (ha2 : a < 4294967296) (hb : 0 ≤ b) (hb2 : b < 4294967296) (h0 : ¬ b = 0) :
    Calls Tryd.prog 90 #[.int .i64 9, .int .u32 a, .int .u32 b] w fun e w' => e = .returned (.int .u32 (a / b)) ∧ w = w' := by
  go_enter Tryd.func90, Tryd.ntmps90
  go_wp2_with (go_at_call 99; refine (div_9 a b _ ha ha2 hb hb2 h0).mono ?_; rintro e w1 ⟨rfl, rfl⟩)
  go_ret
  exact ⟨rfl, rfl⟩

theorem reckz_9 (a : Int) (w : World) :
    Calls Tryd.prog 90 #[.int .i64 9, .int .u32 a, .int .u32 0] w fun e w' => e = .panicked (stopE 2 1) ∧ w = w' := by
  go_enter Tryd.func90, Tryd.ntmps90
  go_wp2_with (go_at_call 99; refine (div_zero _ a _).mono ?_; rintro e w1 ⟨rfl, rfl⟩)
  exact ⟨rfl, rfl, rfl⟩

theorem reck_10 (a b : Int) (w : World) (ha : 0 ≤ a) (ha2 : a < 4294967296) (hb : 0 ≤ b) (hb2 : b < 4294967296) (h0 : ¬ b = 0) :
    Calls Tryd.prog 90 #[.int .i64 10, .int .u32 a, .int .u32 b] w fun e w' => e = .returned (.int .u32 ((wrap32 a).tmod (wrap32 b) % 4294967296)) ∧ w = w' := by
  go_enter Tryd.func90, Tryd.ntmps90
  go_wp2_with (go_at_call 99; refine (div_10 a b _ ha ha2 hb hb2 h0).mono ?_; rintro e w1 ⟨rfl, rfl⟩)
  go_ret
  exact ⟨rfl, rfl⟩

theorem reckz_10 (a : Int) (w : World) :
    Calls Tryd.prog 90 #[.int .i64 10, .int .u32 a, .int .u32 0] w fun e w' => e = .panicked (stopE 2 1) ∧ w = w' := by
  go_enter Tryd.func90, Tryd.ntmps90
  go_wp2_with (go_at_call 99; refine (div_zero _ a _).mono ?_; rintro e w1 ⟨rfl, rfl⟩)
  exact ⟨rfl, rfl, rfl⟩

theorem reck_11 (a b : Int) (w : World) (ha : 0 ≤ a) (ha2 : a < 4294967296) (hb : 0 ≤ b) (hb2 : b < 4294967296) (h0 : ¬ b = 0) :
    Calls Tryd.prog 90 #[.int .i64 11, .int .u32 a, .int .u32 b] w fun e w' => e = .returned (.int .u32 (a % b)) ∧ w = w' := by
  go_enter Tryd.func90, Tryd.ntmps90
  go_wp2_with (go_at_call 99; refine (div_11 a b _ ha ha2 hb hb2 h0).mono ?_; rintro e w1 ⟨rfl, rfl⟩)
  go_ret
  exact ⟨rfl, rfl⟩

theorem reckz_11 (a : Int) (w : World) :
    Calls Tryd.prog 90 #[.int .i64 11, .int .u32 a, .int .u32 0] w fun e w' => e = .panicked (stopE 2 1) ∧ w = w' := by
  go_enter Tryd.func90, Tryd.ntmps90
  go_wp2_with (go_at_call 99; refine (div_zero _ a _).mono ?_; rintro e w1 ⟨rfl, rfl⟩)
  exact ⟨rfl, rfl, rfl⟩

theorem reck_12 (a b : Int) (w : World) (ha : 0 ≤ a) (ha2 : a < 4294967296) (hb : 0 ≤ b) (hb2 : b < 4294967296) :
    Calls Tryd.prog 90 #[.int .i64 12, .int .u32 a, .int .u32 b] w fun e w' => e = .returned (.int .u32 (bits BinOp.and IntKind.u32 a b)) ∧ w = w' := by
  go_enter Tryd.func90, Tryd.ntmps90
  go_wp2_with (go_at_call 98; refine (one_any _ _).mono ?_; rintro e w1 ⟨rfl, rfl⟩)
  go_ret
  exact ⟨rfl, rfl⟩

theorem reck_13 (a b : Int) (w : World) (ha : 0 ≤ a) (ha2 : a < 4294967296) (hb : 0 ≤ b) (hb2 : b < 4294967296) :
    Calls Tryd.prog 90 #[.int .i64 13, .int .u32 a, .int .u32 b] w fun e w' => e = .returned (.int .u32 (bits BinOp.or IntKind.u32 a b)) ∧ w = w' := by
  go_enter Tryd.func90, Tryd.ntmps90
  go_wp2_with (go_at_call 98; refine (one_any _ _).mono ?_; rintro e w1 ⟨rfl, rfl⟩)
  go_ret
  exact ⟨rfl, rfl⟩

theorem reck_14 (a b : Int) (w : World) (ha : 0 ≤ a) (ha2 : a < 4294967296) (hb : 0 ≤ b) (hb2 : b < 4294967296) :
    Calls Tryd.prog 90 #[.int .i64 14, .int .u32 a, .int .u32 b] w fun e w' => e = .returned (.int .u32 (bits BinOp.xor IntKind.u32 a b)) ∧ w = w' := by
  go_enter Tryd.func90, Tryd.ntmps90
  go_wp2_with (go_at_call 98; refine (one_any _ _).mono ?_; rintro e w1 ⟨rfl, rfl⟩)
  go_ret
  exact ⟨rfl, rfl⟩

theorem reck_15 (a b : Int) (w : World) (ha : 0 ≤ a) (ha2 : a < 4294967296) (hb : 0 ≤ b) (hb2 : b < 4294967296) :
    Calls Tryd.prog 90 #[.int .i64 15, .int .u32 a, .int .u32 b] w fun e w' => e = .returned (.int .u32 (a * 2 ^ (b % 32).toNat % 4294967296)) ∧ w = w' := by
  have e := and31 b hb hb2
  have s0 : 0 ≤ b % 32 := by omega
  have s1 : b % 32 < 32 := by omega
  go_enter Tryd.func90, Tryd.ntmps90
  go_wp2_with (go_at_call 98; refine (one_any _ _).mono ?_; rintro e w1 ⟨rfl, rfl⟩)
  go_ret
  exact ⟨rfl, rfl⟩

theorem reck_16 (a b : Int) (w : World) (ha : 0 ≤ a) (ha2 : a < 4294967296) (hb : 0 ≤ b) (hb2 : b < 4294967296) :
    Calls Tryd.prog 90 #[.int .i64 16, .int .u32 a, .int .u32 b] w fun e w' => e = .returned (.int .u32 (wrap32 a / 2 ^ (b % 32).toNat % 4294967296)) ∧ w = w' := by
  have e := and31 b hb hb2
  have s0 : 0 ≤ b % 32 := by omega
  have s1 : b % 32 < 32 := by omega
  go_enter Tryd.func90, Tryd.ntmps90
  go_wp2_with (go_at_call 98; refine (one_any _ _).mono ?_; rintro e w1 ⟨rfl, rfl⟩)
  go_ret
  exact ⟨rfl, rfl⟩

theorem reck_17 (a b : Int) (w : World) (ha : 0 ≤ a) (ha2 : a < 4294967296) (hb : 0 ≤ b) (hb2 : b < 4294967296) :
    Calls Tryd.prog 90 #[.int .i64 17, .int .u32 a, .int .u32 b] w fun e w' => e = .returned (.int .u32 (a / 2 ^ (b % 32).toNat)) ∧ w = w' := by
  have e := and31 b hb hb2
  have s0 : 0 ≤ b % 32 := by omega
  have s1 : b % 32 < 32 := by omega
  go_enter Tryd.func90, Tryd.ntmps90
  go_wp2_with (go_at_call 98; refine (one_any _ _).mono ?_; rintro e w1 ⟨rfl, rfl⟩)
  go_ret
  exact ⟨rfl, rfl⟩

theorem reck_18 (a b : Int) (w : World) (ha : 0 ≤ a) (ha2 : a < 4294967296) (hb : 0 ≤ b) (hb2 : b < 4294967296) :
    Calls Tryd.prog 90 #[.int .i64 18, .int .u32 a, .int .u32 b] w fun e w' => e = .returned (.int .u32 (oneB (a == b))) ∧ w = w' := by
  go_enter Tryd.func90, Tryd.ntmps90
  go_wp2_with (go_at_call 98; refine (one_any _ _).mono ?_; rintro e w1 ⟨rfl, rfl⟩)
  go_ret
  exact ⟨rfl, rfl⟩

theorem reck_19 (a b : Int) (w : World) (ha : 0 ≤ a) (ha2 : a < 4294967296) (hb : 0 ≤ b) (hb2 : b < 4294967296) :
    Calls Tryd.prog 90 #[.int .i64 19, .int .u32 a, .int .u32 b] w fun e w' => e = .returned (.int .u32 (oneB (a != b))) ∧ w = w' := by
  go_enter Tryd.func90, Tryd.ntmps90
  go_wp2_with (go_at_call 98; refine (one_any _ _).mono ?_; rintro e w1 ⟨rfl, rfl⟩)
  go_ret
  exact ⟨rfl, rfl⟩

theorem reck_20 (a b : Int) (w : World) (ha : 0 ≤ a) (ha2 : a < 4294967296) (hb : 0 ≤ b) (hb2 : b < 4294967296) :
    Calls Tryd.prog 90 #[.int .i64 20, .int .u32 a, .int .u32 b] w fun e w' => e = .returned (.int .u32 (oneB (decide (wrap32 a < wrap32 b)))) ∧ w = w' := by
  go_enter Tryd.func90, Tryd.ntmps90
  go_wp2_with (go_at_call 98; refine (one_any _ _).mono ?_; rintro e w1 ⟨rfl, rfl⟩)
  go_ret
  exact ⟨rfl, rfl⟩

theorem reck_21 (a b : Int) (w : World) (ha : 0 ≤ a) (ha2 : a < 4294967296) (hb : 0 ≤ b) (hb2 : b < 4294967296) :
    Calls Tryd.prog 90 #[.int .i64 21, .int .u32 a, .int .u32 b] w fun e w' => e = .returned (.int .u32 (oneB (decide (a < b)))) ∧ w = w' := by
  go_enter Tryd.func90, Tryd.ntmps90
  go_wp2_with (go_at_call 98; refine (one_any _ _).mono ?_; rintro e w1 ⟨rfl, rfl⟩)
  go_ret
  exact ⟨rfl, rfl⟩

theorem reck_22 (a b : Int) (w : World) (ha : 0 ≤ a) (ha2 : a < 4294967296) (hb : 0 ≤ b) (hb2 : b < 4294967296) :
    Calls Tryd.prog 90 #[.int .i64 22, .int .u32 a, .int .u32 b] w fun e w' => e = .returned (.int .u32 (oneB (decide (wrap32 a ≤ wrap32 b)))) ∧ w = w' := by
  go_enter Tryd.func90, Tryd.ntmps90
  go_wp2_with (go_at_call 98; refine (one_any _ _).mono ?_; rintro e w1 ⟨rfl, rfl⟩)
  go_ret
  exact ⟨rfl, rfl⟩

theorem reck_23 (a b : Int) (w : World) (ha : 0 ≤ a) (ha2 : a < 4294967296) (hb : 0 ≤ b) (hb2 : b < 4294967296) :
    Calls Tryd.prog 90 #[.int .i64 23, .int .u32 a, .int .u32 b] w fun e w' => e = .returned (.int .u32 (oneB (decide (a ≤ b)))) ∧ w = w' := by
  go_enter Tryd.func90, Tryd.ntmps90
  go_wp2_with (go_at_call 98; refine (one_any _ _).mono ?_; rintro e w1 ⟨rfl, rfl⟩)
  go_ret
  exact ⟨rfl, rfl⟩

def holdsV (op a b : Int) : Bool :=
  if op = 30 then a == b else
  if op = 31 then a != b else
  if op = 32 then decide (wrap32 a < wrap32 b) else
  if op = 33 then decide (wrap32 b ≤ wrap32 a) else
  if op = 34 then decide (wrap32 a ≤ wrap32 b) else
  if op = 35 then decide (wrap32 b < wrap32 a) else
  if op = 36 then decide (a < b) else
  if op = 37 then decide (b ≤ a) else
  if op = 38 then decide (a ≤ b) else
  if op = 39 then decide (b < a) else
  false

theorem holds_30 (a b : Int) (w : World) (ha : 0 ≤ a) (ha2 : a < 4294967296) (hb : 0 ≤ b) (hb2 : b < 4294967296) :
    Calls Tryd.prog 100 #[.int .i64 30, .int .u32 a, .int .u32 b] w fun e w' => e = .returned (.bool (a == b)) ∧ w = w' := by
  go_enter Tryd.func100, Tryd.ntmps100
  go_wp2
  go_ret
  exact ⟨rfl, rfl⟩

theorem holds_31 (a b : Int) (w : World) (ha : 0 ≤ a) (ha2 : a < 4294967296) (hb : 0 ≤ b) (hb2 : b < 4294967296) :
    Calls Tryd.prog 100 #[.int .i64 31, .int .u32 a, .int .u32 b] w fun e w' => e = .returned (.bool (a != b)) ∧ w = w' := by
  go_enter Tryd.func100, Tryd.ntmps100
  go_wp2
  go_ret
  exact ⟨rfl, rfl⟩

theorem holds_32 (a b : Int) (w : World) (ha : 0 ≤ a) (ha2 : a < 4294967296) (hb : 0 ≤ b) (hb2 : b < 4294967296) :
    Calls Tryd.prog 100 #[.int .i64 32, .int .u32 a, .int .u32 b] w fun e w' => e = .returned (.bool (decide (wrap32 a < wrap32 b))) ∧ w = w' := by
  go_enter Tryd.func100, Tryd.ntmps100
  go_wp2
  go_ret
  exact ⟨rfl, rfl⟩

theorem holds_33 (a b : Int) (w : World) (ha : 0 ≤ a) (ha2 : a < 4294967296) (hb : 0 ≤ b) (hb2 : b < 4294967296) :
    Calls Tryd.prog 100 #[.int .i64 33, .int .u32 a, .int .u32 b] w fun e w' => e = .returned (.bool (decide (wrap32 b ≤ wrap32 a))) ∧ w = w' := by
  go_enter Tryd.func100, Tryd.ntmps100
  go_wp2
  go_ret
  exact ⟨rfl, rfl⟩

theorem holds_34 (a b : Int) (w : World) (ha : 0 ≤ a) (ha2 : a < 4294967296) (hb : 0 ≤ b) (hb2 : b < 4294967296) :
    Calls Tryd.prog 100 #[.int .i64 34, .int .u32 a, .int .u32 b] w fun e w' => e = .returned (.bool (decide (wrap32 a ≤ wrap32 b))) ∧ w = w' := by
  go_enter Tryd.func100, Tryd.ntmps100
  go_wp2
  go_ret
  exact ⟨rfl, rfl⟩

theorem holds_35 (a b : Int) (w : World) (ha : 0 ≤ a) (ha2 : a < 4294967296) (hb : 0 ≤ b) (hb2 : b < 4294967296) :
    Calls Tryd.prog 100 #[.int .i64 35, .int .u32 a, .int .u32 b] w fun e w' => e = .returned (.bool (decide (wrap32 b < wrap32 a))) ∧ w = w' := by
  go_enter Tryd.func100, Tryd.ntmps100
  go_wp2
  go_ret
  exact ⟨rfl, rfl⟩

theorem holds_36 (a b : Int) (w : World) (ha : 0 ≤ a) (ha2 : a < 4294967296) (hb : 0 ≤ b) (hb2 : b < 4294967296) :
    Calls Tryd.prog 100 #[.int .i64 36, .int .u32 a, .int .u32 b] w fun e w' => e = .returned (.bool (decide (a < b))) ∧ w = w' := by
  go_enter Tryd.func100, Tryd.ntmps100
  go_wp2
  go_ret
  exact ⟨rfl, rfl⟩

theorem holds_37 (a b : Int) (w : World) (ha : 0 ≤ a) (ha2 : a < 4294967296) (hb : 0 ≤ b) (hb2 : b < 4294967296) :
    Calls Tryd.prog 100 #[.int .i64 37, .int .u32 a, .int .u32 b] w fun e w' => e = .returned (.bool (decide (b ≤ a))) ∧ w = w' := by
  go_enter Tryd.func100, Tryd.ntmps100
  go_wp2
  go_ret
  exact ⟨rfl, rfl⟩

theorem holds_38 (a b : Int) (w : World) (ha : 0 ≤ a) (ha2 : a < 4294967296) (hb : 0 ≤ b) (hb2 : b < 4294967296) :
    Calls Tryd.prog 100 #[.int .i64 38, .int .u32 a, .int .u32 b] w fun e w' => e = .returned (.bool (decide (a ≤ b))) ∧ w = w' := by
  go_enter Tryd.func100, Tryd.ntmps100
  go_wp2
  go_ret
  exact ⟨rfl, rfl⟩

theorem holds_39 (a b : Int) (w : World) (ha : 0 ≤ a) (ha2 : a < 4294967296) (hb : 0 ≤ b) (hb2 : b < 4294967296) :
    Calls Tryd.prog 100 #[.int .i64 39, .int .u32 a, .int .u32 b] w fun e w' => e = .returned (.bool (decide (b < a))) ∧ w = w' := by
  go_enter Tryd.func100, Tryd.ntmps100
  go_wp2
  go_ret
  exact ⟨rfl, rfl⟩

theorem ops19 {op : Int} (h0 : 5 ≤ op) (h1 : op ≤ 23) : op = 5 ∨ op = 6 ∨ op = 7 ∨ op = 8 ∨ op = 9 ∨ op = 10 ∨ op = 11 ∨ op = 12 ∨ op = 13 ∨ op = 14 ∨ op = 15 ∨ op = 16 ∨ op = 17 ∨ op = 18 ∨ op = 19 ∨ op = 20 ∨ op = 21 ∨ op = 22 ∨ op = 23 := by omega

theorem reck_yes (op a b : Int) (w : World) (h0 : 5 ≤ op) (h1 : op ≤ 23) (ha : W32 a) (hb : W32 b) (v : Int) (h : reck op a b = some v) :
    Calls Tryd.prog 90 #[.int .i64 op, .int .u32 a, .int .u32 b] w fun e w' => e = .returned (.int .u32 v) ∧ w = w' := by
  unfold reck at h
  by_cases hz : (divOp op && b == 0) = true
  · rw [if_pos hz] at h; cases h
  rw [if_neg hz] at h
  obtain rfl := Option.some.inj h
  have hd : divOp op = true → ¬ b = 0 := fun hd e => hz (by rw [hd, e]; rfl)
  rcases ops19 h0 h1 with rfl | rfl | rfl | rfl | rfl | rfl | rfl | rfl | rfl | rfl | rfl | rfl | rfl | rfl | rfl | rfl | rfl | rfl | rfl
  · exact reck_5 a b w ha.1 ha.2 hb.1 hb.2
  · exact reck_6 a b w ha.1 ha.2 hb.1 hb.2
  · exact reck_7 a b w ha.1 ha.2 hb.1 hb.2
  · exact reck_8 a b w ha.1 ha.2 hb.1 hb.2 (hd rfl)
  · exact reck_9 a b w ha.1 ha.2 hb.1 hb.2 (hd rfl)
  · exact reck_10 a b w ha.1 ha.2 hb.1 hb.2 (hd rfl)
  · exact reck_11 a b w ha.1 ha.2 hb.1 hb.2 (hd rfl)
  · exact reck_12 a b w ha.1 ha.2 hb.1 hb.2
  · exact reck_13 a b w ha.1 ha.2 hb.1 hb.2
  · exact reck_14 a b w ha.1 ha.2 hb.1 hb.2
  · exact reck_15 a b w ha.1 ha.2 hb.1 hb.2
  · exact reck_16 a b w ha.1 ha.2 hb.1 hb.2
  · exact reck_17 a b w ha.1 ha.2 hb.1 hb.2
  · exact reck_18 a b w ha.1 ha.2 hb.1 hb.2
  · exact reck_19 a b w ha.1 ha.2 hb.1 hb.2
  · exact reck_20 a b w ha.1 ha.2 hb.1 hb.2
  · exact reck_21 a b w ha.1 ha.2 hb.1 hb.2
  · exact reck_22 a b w ha.1 ha.2 hb.1 hb.2
  · exact reck_23 a b w ha.1 ha.2 hb.1 hb.2

theorem reck_no (op a b : Int) (w : World) (h : reck op a b = none) :
    Calls Tryd.prog 90 #[.int .i64 op, .int .u32 a, .int .u32 b] w fun e w' => e = .panicked (stopE 2 1) ∧ w = w' := by
  unfold reck at h
  by_cases hz : (divOp op && b == 0) = true
  · rw [Bool.and_eq_true] at hz
    obtain rfl : b = 0 := by simpa using hz.2
    have hd := hz.1
    unfold divOp at hd
    simp only [Bool.or_eq_true, beq_iff_eq] at hd
    rcases hd with ((rfl | rfl) | rfl) | rfl
    · exact reckz_8 a w
    · exact reckz_9 a w
    · exact reckz_10 a w
    · exact reckz_11 a w
  · rw [if_neg hz] at h; cases h

theorem emuHolds_any (op a b : Int) (w : World) (h0 : 30 ≤ op) (h1 : op ≤ 39) (ha : W32 a) (hb : W32 b) :
    Calls Tryd.prog 100 #[.int .i64 op, .int .u32 a, .int .u32 b] w fun e w' => e = .returned (.bool (holdsV op a b)) ∧ w = w' := by
  have : op = 30 ∨ op = 31 ∨ op = 32 ∨ op = 33 ∨ op = 34 ∨ op = 35 ∨ op = 36 ∨ op = 37 ∨ op = 38 ∨ op = 39 := by omega
  rcases this with rfl | rfl | rfl | rfl | rfl | rfl | rfl | rfl | rfl | rfl
  · exact holds_30 a b w ha.1 ha.2 hb.1 hb.2
  · exact holds_31 a b w ha.1 ha.2 hb.1 hb.2
  · exact holds_32 a b w ha.1 ha.2 hb.1 hb.2
  · exact holds_33 a b w ha.1 ha.2 hb.1 hb.2
  · exact holds_34 a b w ha.1 ha.2 hb.1 hb.2
  · exact holds_35 a b w ha.1 ha.2 hb.1 hb.2
  · exact holds_36 a b w ha.1 ha.2 hb.1 hb.2
  · exact holds_37 a b w ha.1 ha.2 hb.1 hb.2
  · exact holds_38 a b w ha.1 ha.2 hb.1 hb.2
  · exact holds_39 a b w ha.1 ha.2 hb.1 hb.2

end Go.Proofs.YtamimnaafiphcaaDoor

namespace Go.Proofs.YtamimnaafiphcaaDoor
open Go.RowKit Go.Proofs.YtamimnaafiphcaaDoorW.PrintWords Go.Maps Go.Joins

def wordAt (ws : List Int) (p : Int) : Option Int := if 0 ≤ p ∧ p < ws.length then some (ws.getD p.toNat 0) else none

theorem word_in {w0 w9 w : World} {g mb : Nat} {A : Option Addr} {n c : Nat} {ws : List Int} {m : Mach} {cv ov : Value} (h : MI w0 w9 w g mb A n c ws m cv ov) (p : Nat) (hp : p < ws.length) :
    Calls Tryd.prog 73 #[.pointer (some ⟨g, 0, none⟩), .int .i64 p] w fun e w' => e = .returned (.int .u32 (ws.getD p 0)) ∧ w = w' := by
  have k0 := h.c0
  obtain rfl : ws.length = n := h.words.1
  have hn := h.nw
  obtain ⟨ad, c1, hA, hc⟩ : ∃ ad c1, A = some ad ∧ w0.cell? (ad.add p) = some (.int .u32 c1) ∧ c1 = ws.getD p 0 := by
    obtain ⟨ad, rfl, hh⟩ := h.words.2.2 (by omega)
    obtain ⟨cs, _, hk, hcell⟩ := hh p (ws[p]) (List.getElem?_eq_getElem hp)
    have hk' : cs = [Value.int .u32 ws[p]] := hk
    subst hk'
    have := hcell 0 _ rfl
    exact ⟨ad, ws[p], rfl, by simpa [Kd.int, Kd.scalar] using this, by simp [List.getD, hp]⟩
  subst hA
  obtain ⟨hc, hv⟩ := hc
  rw [← hv]
  clear hv
  have k1 := h.bel.cell (lt_of_cell hc)
  rw [hc] at k1
  clear hc h
  have hi0 : (0 : Int) ≤ (p : Int) := Int.natCast_nonneg _
  have hi1 : (p : Int) < (ws.length : Int) := by omega
  go_enter Tryd.func73, Tryd.ntmps73
  go_wp2_with fail
  go_ret
  exact ⟨rfl, rfl⟩

theorem word_out {w0 w9 w : World} {g mb : Nat} {A : Option Addr} {n c : Nat} {ws : List Int} {m : Mach} {cv ov : Value} (h : MI w0 w9 w g mb A n c ws m cv ov) (p : Int) (hp : p < 0 ∨ ws.length ≤ p) (hb : -4398046511104 ≤ p ∧ p ≤ 4398046511104) :
    Calls Tryd.prog 73 #[.pointer (some ⟨g, 0, none⟩), .int .i64 p] w fun e w' => e = .panicked (stopE 2 5) ∧ w = w' := by
  have k0 := h.c0
  obtain rfl : ws.length = n := h.words.1
  have hn := h.nw
  clear h
  obtain ⟨hb1, hb2⟩ := hb
  rcases hp with hp | hp
  · obtain ⟨q, hq, hq1⟩ : ∃ q : Int, IntKind.u64.wrap p = q ∧ (ws.length : Int) ≤ q := ⟨_, rfl, by simp only [IntKind.wrap, IntKind.bits, IntKind.signed]; simp; omega⟩
    have hcv : ∀ W : World, (convert 3 109 (.int .i64 p)).run Tryd.prog W = .ok (.int .u64 q) W := fun W => by
      rw [run_convert_int W 3 109 .i64 p (by kernel_rfl) (by kernel_rfl), show Tryd.prog.intKind 109 = .u64 by kernel_rfl, hq]
    clear hq
    go_enter Tryd.func73, Tryd.ntmps73
    go_wp2_with (go_at_call 74; refine (trap_any _ _).mono ?_; rintro e w1 ⟨rfl, rfl⟩)
    exact ⟨rfl, rfl, rfl⟩
  · go_enter Tryd.func73, Tryd.ntmps73
    go_wp2_with (go_at_call 74; refine (trap_any _ _).mono ?_; rintro e w1 ⟨rfl, rfl⟩)
    exact ⟨rfl, rfl, rfl⟩

end Go.Proofs.YtamimnaafiphcaaDoor

namespace Go.Proofs.YtamimnaafiphcaaDoor
open Go.RowKit Go.Proofs.YtamimnaafiphcaaDoorW.PrintWords Go.Maps Go.Joins

theorem bdrN {B : Nat} {w W : World} (h : Below B w W) (k : Nat) : Below B w (W.drewN k) := by
  induction k with
  | zero => exact h
  | succ k ih => exact ih.drew

def memAt (m : Mach) (b : Nat) (imm : Int) : Int := (m.r.getD b 0 + imm % 4294967296) % 4294967296

theorem code_box (w : World) (op a b imm : Int) : ∃ W : World, w.alloc (.cells #[.int .i64 op, .int .i64 a, .int .i64 b, .int .i64 imm] 44) = W ∧ Below w.heap.size w W ∧ W.cell? ⟨w.heap.size, 0, none⟩ = some (.int .i64 op) ∧ W.cell? ⟨w.heap.size, 1, none⟩ = some (.int .i64 a) ∧ W.cell? ⟨w.heap.size, 2, none⟩ = some (.int .i64 b) ∧ W.cell? ⟨w.heap.size, 3, none⟩ = some (.int .i64 imm) :=
  ⟨_, rfl, (Below.refl _ _).alloc (Nat.le_refl _) _, kn 0 rfl, kn 1 rfl, kn 2 rfl, kn 3 rfl⟩

set_option maxRecDepth 100000 in
theorem at_in {w0 w9 w : World} {g mb : Nat} {A : Option Addr} {n c : Nat} {ws : List Int} {m : Mach} {cv ov : Value} (h : MI w0 w9 w g mb A n c ws m cv ov) (op a : Int) (b : Nat) (imm : Int) (hb : b < 12) (hi : -32768 ≤ imm ∧ imm ≤ 32767) (q : Nat) (hq : memAt m b imm = q) (hq2 : q < 524288) :
    Calls Tryd.prog 88 #[.pointer (some ⟨g, 0, none⟩), .agg #[.int .i64 op, .int .i64 a, .int .i64 b, .int .i64 imm]] w fun e w' => e = .returned (.pointer (some ⟨mb, q, none⟩)) ∧ Below w.heap.size w w' := by
  have H := Lib.hid h
  have hr := h.rng b
  unfold memAt at hq
  clear h
  generalize hrb : m.r.getD b 0 = rb at hq hr
  have hrb' := Lib.hid hrb
  clear hrb
  obtain ⟨hr0, hr1⟩ := hr
  obtain ⟨W, hW, hbW, j0, j1, j2, j3⟩ := code_box w op a b imm
  have HW := H.out.below hbW
  have k1 := HW.cR b hb
  have k13 := HW.c13
  rw [hrb'.out] at k1
  have HBW := Lib.hid hbW
  clear HW hbW
  have hb0 : (0 : Int) ≤ (b : Int) := Int.natCast_nonneg _
  have hb1 : (b : Int) < 12 := by omega
  go_enter Tryd.func88, Tryd.ntmps88
  go_wp2_with fail
  go_quiet (fail)
  rw [hq]
  clear hq hr0 hr1 hi
  have d1 : decide ((524288 : Int) ≤ (q : Int)) = false := by simp; omega
  have hq0 : (0 : Int) ≤ (q : Int) := Int.natCast_nonneg _
  have hq1 : (q : Int) < 524288 := by omega
  go_wp2_with fail
  go_ret
  exact ⟨rfl, bdrN HBW.out _⟩

set_option maxRecDepth 100000 in
theorem at_out {w0 w9 w : World} {g mb : Nat} {A : Option Addr} {n c : Nat} {ws : List Int} {m : Mach} {cv ov : Value} (h : MI w0 w9 w g mb A n c ws m cv ov) (op a : Int) (b : Nat) (imm : Int) (hb : b < 12) (hi : -32768 ≤ imm ∧ imm ≤ 32767) (q : Int) (hq : memAt m b imm = q) (hq2 : 524288 ≤ q) :
    Calls Tryd.prog 88 #[.pointer (some ⟨g, 0, none⟩), .agg #[.int .i64 op, .int .i64 a, .int .i64 b, .int .i64 imm]] w fun e w' => e = .panicked (stopE 2 6) ∧ Below w.heap.size w w' := by
  have H := Lib.hid h
  have hr := h.rng b
  unfold memAt at hq
  clear h
  generalize hrb : m.r.getD b 0 = rb at hq hr
  have hrb' := Lib.hid hrb
  clear hrb
  obtain ⟨hr0, hr1⟩ := hr
  obtain ⟨W, hW, hbW, j0, j1, j2, j3⟩ := code_box w op a b imm
  have HW := H.out.below hbW
  have k1 := HW.cR b hb
  have k13 := HW.c13
  rw [hrb'.out] at k1
  have HBW := Lib.hid hbW
  clear HW hbW
  have hb0 : (0 : Int) ≤ (b : Int) := Int.natCast_nonneg _
  have hb1 : (b : Int) < 12 := by omega
  go_enter Tryd.func88, Tryd.ntmps88
  go_wp2_with fail
  go_quiet (fail)
  rw [hq]
  clear hq hr0 hr1 hi
  have d1 : decide ((524288 : Int) ≤ q) = true := by simpa using hq2
  go_wp2_with (go_at_call 74; refine (trap_any _ _).mono ?_; rintro e w1 ⟨rfl, rfl⟩)
  exact ⟨rfl, rfl, bdrN HBW.out _⟩

theorem getc_none {w0 w9 w : World} {g mb : Nat} {A : Option Addr} {n c : Nat} {ws : List Int} {m : Mach} {cv ov : Value} (h : MI w0 w9 w g mb A n c ws m cv ov) (he : m.inp = ⟨#[]⟩) :
    Calls Tryd.prog 89 #[.pointer (some ⟨g, 0, none⟩)] w fun e w' => e = .returned (.int .u32 4294967295) ∧ w = w' := by
  have k14 := h.c14
  rw [he] at k14
  clear h he
  go_enter Tryd.func89, Tryd.ntmps89
  go_wp2_with fail
  go_ret
  exact ⟨rfl, rfl⟩

theorem getc_some {w0 w9 w : World} {g mb : Nat} {A : Option Addr} {n c : Nat} {ws : List Int} {m : Mach} {cv ov : Value} (h : MI w0 w9 w g mb A n c ws m cv ov) (he : 0 < m.inp.size) :
    Calls Tryd.prog 89 #[.pointer (some ⟨g, 0, none⟩)] w fun e w' => e = .returned (.int .u32 (((m.inp[0]'he).toNat : Int) % 4294967296)) ∧ w.setCell ⟨g, 14, none⟩ (.string (m.inp.extract 1 m.inp.size)) = w' := by
  have k14 := h.c14
  have f14 := h.free 14
  generalize m.inp = s at k14 he ⊢
  clear h
  have hne : s.toList.isEmpty = false := by
    rw [← decide_eq_emptyBytes]
    exact decide_eq_false (fun e => by rw [e] at he; exact absurd he (by decide))
  go_enter Tryd.func89, Tryd.ntmps89
  go_wp2_with fail
  go_ret
  exact ⟨rfl, rfl⟩

end Go.Proofs.YtamimnaafiphcaaDoor

namespace Go.Proofs.YtamimnaafiphcaaDoor
open Go.RowKit Go.Proofs.YtamimnaafiphcaaDoorW.PrintWords Go.Maps Go.Joins

def trapM (m : Mach) (k : Int) : Mach × Option (Int × Int) := (m, some (2, k))

def jumpP (ws : List Int) (m : Mach) (op : Int) (a b : Nat) (imm nx : Int) : Mach × Option (Int × Int) :=
  if op = 2 then (match wordAt ws nx with | none => trapM m 5 | some v => ({ m with r := m.r.set a v, place := nx + 1 }, none)) else
  if op = 40 then ({ m with place := nx + imm }, none) else
  if op = 41 then (match wordAt ws nx with | none => trapM m 5 | some v => ({ m with place := v }, none)) else
  if op = 42 then (match wordAt ws nx with | none => trapM m 5 | some v => if v ≤ m.r.getD a 0 then trapM m 7 else (match wordAt ws (nx + 1 + m.r.getD a 0) with | none => trapM m 5 | some t => ({ m with place := t }, none))) else
  if op = 43 then (match wordAt ws nx with | none => trapM m 5 | some v => if m.calls.length = 50 then trapM m 3 else ({ m with calls := m.calls ++ [nx + 1], place := v }, none)) else
  if op = 44 then (if m.calls.length = 0 then trapM m 8 else ({ m with place := m.calls.getD (m.calls.length - 1) 0, calls := m.calls.take (m.calls.length - 1) }, none)) else
  if holdsV op (m.r.getD a 0) (m.r.getD b 0) then ({ m with place := nx + imm }, none) else (m, none)

/-- What a step of the machine comes to. -/
def Stp (w0 w9 : World) (g mb : Nat) (A : Option Addr) (n c : Nat) (ws : List Int) (res : Mach × Option (Int × Int)) (e : Ending) (w' : World) : Prop :=
  ∃ cv ov, MI w0 w9 w' g mb A n c ws res.1 cv ov ∧ e = (match res.2 with | none => .returned (.tuple #[]) | some (k, x) => .panicked (stopE k x))

theorem wordAt_some {ws : List Int} {p v : Int} (h : wordAt ws p = some v) : ∃ q : Nat, p = q ∧ q < ws.length ∧ v = ws.getD q 0 := by
  unfold wordAt at h
  by_cases hp : 0 ≤ p ∧ p < ws.length
  · rw [if_pos hp] at h
    exact ⟨p.toNat, by omega, by omega, (Option.some.inj h).symm⟩
  · rw [if_neg hp] at h; cases h
theorem wordAt_none {ws : List Int} {p : Int} (h : wordAt ws p = none) : p < 0 ∨ ws.length ≤ p := by
  unfold wordAt at h
  by_cases hp : 0 ≤ p ∧ p < ws.length
  · rw [if_pos hp] at h; cases h
  · omega

/-- For a region's way that ends in a panic: a goal is left, as the region's tactic wants one. -/
theorem spare {X : Prop} (P : Program) (w : World) (h : X) (_ : wpAny P .any #[] (fun _ _ _ => True) 0 #[] ⟨#[], []⟩ w) : X := h

section
variable {w0 w9 w : World} {g mb : Nat} {A : Option Addr} {n c : Nat} {ws : List Int} {m : Mach} {cv ov : Value}

theorem word_yes (h : MI w0 w9 w g mb A n c ws m cv ov) {p v : Int} (hv : wordAt ws p = some v) :
    Calls Tryd.prog 73 #[.pointer (some ⟨g, 0, none⟩), .int .i64 p] w fun e w' => e = .returned (.int .u32 v) ∧ w = w' := by
  obtain ⟨q, rfl, hq, rfl⟩ := wordAt_some hv
  exact word_in h q hq
theorem word_no (h : MI w0 w9 w g mb A n c ws m cv ov) {p : Int} (hv : wordAt ws p = none) (hb : -4398046511104 ≤ p ∧ p ≤ 4398046511104) :
    Calls Tryd.prog 73 #[.pointer (some ⟨g, 0, none⟩), .int .i64 p] w fun e w' => e = .panicked (stopE 2 5) ∧ w = w' := word_out h p (wordAt_none hv) hb
theorem wordAt_rng (hw : ∀ x ∈ ws, W32 x) {p v : Int} (hv : wordAt ws p = some v) : W32 v := by
  obtain ⟨q, rfl, hq, rfl⟩ := wordAt_some hv
  rw [List.getD_eq_getElem?_getD, List.getElem?_eq_getElem hq]
  exact hw _ (List.getElem_mem hq)

theorem MI.farC {w' : World} (h : MI w0 w9 w g mb A n c ws m cv ov) (hg : w.grownBy w' cv.ownBlock) : w'.heap[g]? = w.heap[g]? :=
  hg.block g (Array.getElem?_eq_some_iff.1 h.blkG).1 (fun e => (h.cg g e.symm).1 rfl)
theorem MI.farO {w' : World} (h : MI w0 w9 w g mb A n c ws m cv ov) (hg : w.grownBy w' ov.ownBlock) : w'.heap[g]? = w.heap[g]? :=
  hg.block g (Array.getElem?_eq_some_iff.1 h.blkG).1 (fun e => (h.og g e.symm).1 rfl)

theorem Stp.fin (h : MI w0 w9 w g mb A n c ws m cv ov) : Stp w0 w9 g mb A n c ws (m, none) (.returned (.tuple #[])) w := ⟨cv, ov, h, rfl⟩
theorem Stp.trap (h : MI w0 w9 w g mb A n c ws m cv ov) (k x : Int) : Stp w0 w9 g mb A n c ws (m, some (k, x)) (.panicked (stopE k x)) w := ⟨cv, ov, h, rfl⟩

set_option maxRecDepth 100000 in
theorem jump_jmp (h : MI w0 w9 w g mb A n c ws m cv ov) (a b : Nat) (imm nx : Int) (hi : -32768 ≤ imm ∧ imm ≤ 32767) (hn : -1099511527776 ≤ nx ∧ nx ≤ 1099511527776) :
    Calls Tryd.prog 91 #[.pointer (some ⟨g, 0, none⟩), .agg #[.int .i64 40, .int .i64 a, .int .i64 b, .int .i64 imm], .int .i64 nx] w (Stp w0 w9 g mb A n c ws (jumpP ws m 40 a b imm nx)) := by
  rw [show jumpP ws m 40 a b imm nx = ({ m with place := nx + imm }, none) by simp [jumpP]]
  obtain ⟨hi1, hi2⟩ := hi
  obtain ⟨hn1, hn2⟩ := hn
  obtain ⟨W, hW, hbW, j0, j1, j2, j3⟩ := code_box w 40 a b imm
  have H := Lib.hid (h.below hbW)
  have f16 := H.out.free 16
  have k16 := H.out.c16
  clear h hbW
  go_enter Tryd.func91, Tryd.ntmps91
  go_wp2_with fail
  go_end0
  exact Stp.fin (H.out.setPlace _ ⟨by omega, by omega⟩)

set_option maxRecDepth 100000 in
theorem jump_br (h : MI w0 w9 w g mb A n c ws m cv ov) (op : Int) (a b : Nat) (imm nx : Int) (ho : 30 ≤ op ∧ op ≤ 39) (ha : a < 12) (hb : b < 12) (hi : -32768 ≤ imm ∧ imm ≤ 32767) (hn : -1099511527776 ≤ nx ∧ nx ≤ 1099511527776) :
    Calls Tryd.prog 91 #[.pointer (some ⟨g, 0, none⟩), .agg #[.int .i64 op, .int .i64 a, .int .i64 b, .int .i64 imm], .int .i64 nx] w (Stp w0 w9 g mb A n c ws (jumpP ws m op a b imm nx)) := by
  rw [show jumpP ws m op a b imm nx = if holdsV op (m.r.getD a 0) (m.r.getD b 0) then ({ m with place := nx + imm }, none) else (m, none) by
    unfold jumpP; rw [if_neg (by omega), if_neg (by omega), if_neg (by omega), if_neg (by omega), if_neg (by omega), if_neg (by omega)]]
  obtain ⟨hi1, hi2⟩ := hi
  obtain ⟨hn1, hn2⟩ := hn
  obtain ⟨W, hW, hbW, j0, j1, j2, j3⟩ := code_box w op a b imm
  have H := Lib.hid (h.below hbW)
  have ra := h.rng a
  have rb := h.rng b
  have ka := H.out.cR a ha
  have kb := H.out.cR b hb
  clear h hbW
  generalize m.r.getD a 0 = va at ra ka ⊢
  generalize m.r.getD b 0 = vb at rb kb ⊢
  have HH := Lib.hid (fun W => emuHolds_any op va vb W ho.1 ho.2 ra rb)
  generalize holdsV op va vb = t at HH ⊢
  have n2 : (op == 2) = false := by simp; omega
  have n40 : (op == 40) = false := by simp; omega
  have n41 : (op == 41) = false := by simp; omega
  have n42 : (op == 42) = false := by simp; omega
  have n43 : (op == 43) = false := by simp; omega
  have n44 : (op == 44) = false := by simp; omega
  have a0 : (0 : Int) ≤ (a : Int) := Int.natCast_nonneg _
  have a1 : (a : Int) < 12 := by omega
  have b0 : (0 : Int) ≤ (b : Int) := Int.natCast_nonneg _
  have b1 : (b : Int) < 12 := by omega
  clear ra rb ho
  cases t
  · simp only [Bool.false_eq_true, if_false]
    go_enter Tryd.func91, Tryd.ntmps91
    go_wp2_with fail
    go_quiet ((go_at_call 100; exact Calls.quiet_of_same ((HH.out _).mono fun e w' h => ⟨h.1, h.2.symm⟩)))
    go_wp2_with fail
    go_end0
    exact Stp.fin (H.out.drewN _)
  · simp only [if_true]
    go_enter Tryd.func91, Tryd.ntmps91
    go_wp2_with fail
    go_quiet ((go_at_call 100; exact Calls.quiet_of_same ((HH.out _).mono fun e w' h => ⟨h.1, h.2.symm⟩)))
    have H2 := Lib.hid (H.out.drewN nq)
    have f16 := H2.out.free 16
    have k16 := H2.out.c16
    go_wp2_with fail
    go_end0
    exact Stp.fin (H2.out.setPlace _ ⟨by omega, by omega⟩)

set_option maxRecDepth 100000 in
theorem jump_jml (h : MI w0 w9 w g mb A n c ws m cv ov) (a b : Nat) (imm nx : Int) (hn : -1099511527776 ≤ nx ∧ nx ≤ 1099511527776) :
    Calls Tryd.prog 91 #[.pointer (some ⟨g, 0, none⟩), .agg #[.int .i64 41, .int .i64 a, .int .i64 b, .int .i64 imm], .int .i64 nx] w (Stp w0 w9 g mb A n c ws (jumpP ws m 41 a b imm nx)) := by
  rw [show jumpP ws m 41 a b imm nx = (match wordAt ws nx with | none => trapM m 5 | some v => ({ m with place := v }, none)) by simp [jumpP]]
  obtain ⟨W, hW, hbW, j0, j1, j2, j3⟩ := code_box w 41 a b imm
  have H := Lib.hid (h.below hbW)
  have f16 := H.out.free 16
  have k16 := H.out.c16
  clear h hbW
  cases hv : wordAt ws nx with
  | none =>
    have HN := Lib.hid (word_no H.out hv ⟨by omega, by omega⟩)
    clear hn hv
    go_enter Tryd.func91, Tryd.ntmps91
    go_wp2_with (go_at_call 73; refine HN.out.mono ?_; rintro e w1 ⟨rfl, rfl⟩)
    exact ⟨rfl, Stp.trap H.out 2 5⟩
  | some v =>
    have hr := wordAt_rng H.out.wf hv
    have HY := Lib.hid (word_yes H.out hv)
    obtain ⟨r0, r1⟩ := hr
    clear hn hv
    go_enter Tryd.func91, Tryd.ntmps91
    go_wp2_with (go_at_call 73; refine HY.out.mono ?_; rintro e w1 ⟨rfl, rfl⟩)
    go_end0
    exact Stp.fin (H.out.setPlace _ ⟨by omega, by omega⟩)

set_option maxRecDepth 100000 in
theorem jump_lit (h : MI w0 w9 w g mb A n c ws m cv ov) (a b : Nat) (imm nx : Int) (ha : a < 12) (hn : -1099511527776 ≤ nx ∧ nx ≤ 1099511527776) :
    Calls Tryd.prog 91 #[.pointer (some ⟨g, 0, none⟩), .agg #[.int .i64 2, .int .i64 a, .int .i64 b, .int .i64 imm], .int .i64 nx] w (Stp w0 w9 g mb A n c ws (jumpP ws m 2 a b imm nx)) := by
  rw [show jumpP ws m 2 a b imm nx = (match wordAt ws nx with | none => trapM m 5 | some v => ({ m with r := m.r.set a v, place := nx + 1 }, none)) by simp [jumpP]]
  obtain ⟨W, hW, hbW, j0, j1, j2, j3⟩ := code_box w 2 a b imm
  have H := Lib.hid (h.below hbW)
  have a0 : (0 : Int) ≤ (a : Int) := Int.natCast_nonneg _
  have a1 : (a : Int) < 12 := by omega
  clear h hbW
  obtain ⟨hn1, hn2⟩ := hn
  have fa := H.out.free (1 + a)
  have ka := H.out.cR a ha
  cases hv : wordAt ws nx with
  | none =>
    have HN := Lib.hid (fun W' (hM : MI w0 w9 W' g mb A n c ws m cv ov) => word_no hM hv ⟨by omega, by omega⟩)
    clear hv
    have HD := Lib.hid (fun k => H.out.drewN k)
    go_enter Tryd.func91, Tryd.ntmps91
    go_wp2_with fail
    go_region_with (go_at_call 73; refine (HN.out _ (by first | exact H.out | exact H.out.drew)).mono ?_; rintro e w1 ⟨rfl, rfl⟩; refine spare Tryd.prog w ⟨rfl, Stp.trap (by first | exact H.out | exact H.out.drew) 2 5⟩ ?_)
    all_goals trivial
  | some v =>
    have hr := wordAt_rng H.out.wf hv
    have HY := Lib.hid (fun W' (hM : MI w0 w9 W' g mb A n c ws m cv ov) => word_yes hM hv)
    obtain ⟨r0, r1⟩ := hr
    clear hv
    go_enter Tryd.func91, Tryd.ntmps91
    go_wp2_with fail
    go_region_with (go_at_call 73; refine (HY.out _ (by first | exact H.out | exact H.out.drew)).mono ?_; rintro e w1 ⟨rfl, rfl⟩)
    all_goals
      have H2 := Lib.hid ((H.out.setR a ha v ⟨r0, r1⟩).drew)
      have f16 := H2.out.free 16
      have k16 := H2.out.c16
      go_wp2_with fail
      go_end0
      exact Stp.fin (H2.out.setPlace _ ⟨by omega, by omega⟩)
end

end Go.Proofs.YtamimnaafiphcaaDoor
