/- list.text, list.Print: walked. -/
import Derived.Test.YtlhgfhmdhmgmpaaGreatDoorLiD
import Derived.Deep.RegionHeld3
import Derived.Deep.RegionLaw
set_option linter.unusedVariables false
set_option linter.unusedSimpArgs false
namespace Go.Proofs.YtlhgfhmdhmgmpaaGreatDoor
open Go.RowKit Go.Proofs.YtlhgfhmdhmgmpaaGreatDoorW.PrintWords Go.Joins Go.Maps

def opNames : List (List UInt8) := [[76, 73], [76, 73, 84], [77, 79, 86], [65, 68, 68, 73], [65, 68, 68], [83, 85, 66], [77, 85, 76], [68, 73, 86, 83], [68, 73, 86, 85], [82, 69, 77, 83], [82, 69, 77, 85], [65, 78, 68], [79, 82], [88, 79, 82], [83, 72, 76], [83, 72, 82, 83], [83, 72, 82, 85], [69, 81], [78, 69], [76, 84, 83], [76, 84, 85], [76, 69, 83], [76, 69, 85], [78, 69, 71], [78, 79, 84], [76, 79, 87], [76, 68], [83, 84], [67, 72, 75], [66, 69, 81], [66, 78, 69], [66, 76, 84, 83], [66, 71, 69, 83], [66, 76, 69, 83], [66, 71, 84, 83], [66, 76, 84, 85], [66, 71, 69, 85], [66, 76, 69, 85], [66, 71, 84, 85], [74, 77, 80], [74, 77, 76], [74, 84, 65, 66], [67, 65, 76, 76], [82, 69, 84], [71, 69, 84, 67], [80, 85, 84, 67], [69, 88, 73, 84], [84, 82, 65, 80]]
def namesL : List UInt8 := [76, 73, 32, 76, 73, 84, 32, 77, 79, 86, 32, 65, 68, 68, 73, 32, 65, 68, 68, 32, 83, 85, 66, 32, 77, 85, 76, 32, 68, 73, 86, 83, 32, 68, 73, 86, 85, 32, 82, 69, 77, 83, 32, 82, 69, 77, 85, 32, 65, 78, 68, 32, 79, 82, 32, 88, 79, 82, 32, 83, 72, 76, 32, 83, 72, 82, 83, 32, 83, 72, 82, 85, 32, 69, 81, 32, 78, 69, 32, 76, 84, 83, 32, 76, 84, 85, 32, 76, 69, 83, 32, 76, 69, 85, 32, 78, 69, 71, 32, 78, 79, 84, 32, 76, 79, 87, 32, 76, 68, 32, 83, 84, 32, 67, 72, 75, 32, 66, 69, 81, 32, 66, 78, 69, 32, 66, 76, 84, 83, 32, 66, 71, 69, 83, 32, 66, 76, 69, 83, 32, 66, 71, 84, 83, 32, 66, 76, 84, 85, 32, 66, 71, 69, 85, 32, 66, 76, 69, 85, 32, 66, 71, 84, 85, 32, 74, 77, 80, 32, 74, 77, 76, 32, 74, 84, 65, 66, 32, 67, 65, 76, 76, 32, 82, 69, 84, 32, 71, 69, 84, 67, 32, 80, 85, 84, 67, 32, 69, 88, 73, 84, 32, 84, 82, 65, 80]

set_option maxRecDepth 100000 in
theorem fields_namesL : Lib.fields namesL = opNames := by kernel_rfl
theorem opNames_len : opNames.length = 48 := by kernel_rfl
theorem namesL_ascii : namesL.all (fun b => decide (b.toNat < 128)) = true := by kernel_rfl
theorem namesL_len : namesL.length = 206 := by kernel_rfl

def nameS (k : Nat) : ByteArray := ⟨(opNames.getD k []).toArray⟩
def namesO : Obj := .cells (opNames.map fun l => Value.string ⟨l.toArray⟩).toArray 9

theorem names_cell (k : Nat) (hk : k < 48) (W : World) : (W.alloc namesO).cell? ⟨W.heap.size, k, none⟩ = some (.string (nameS k)) := by
  unfold namesO
  rw [World.cell?_alloc_new]
  have hk' : k < opNames.length := by rw [opNames_len]; exact hk
  simp [nameS, List.getElem?_eq_getElem hk', List.getD_eq_getElem?_getD]

theorem fields_names (s : ByteArray) (hs : s.data.toList = namesL) (w : World) (hL : LLaid w) :
    Calls Tryz.prog 51 #[.string s] w fun e w' => e = .returned (.slice (some ⟨w.heap.size, 0, none⟩) 48 48) ∧ w' = w.alloc namesO := by
  have hsz : s.size = 206 := by show s.data.size = _; rw [← Array.length_toList, hs, namesL_len]
  have h := Tryz.strings_Fields s w (by omega) (fun j b hj => by
    rw [hs] at hj
    exact of_decide_eq_true (List.all_eq_true.1 namesL_ascii b (List.mem_of_getElem? hj))) hL.spc
  rw [hs, fields_namesL, opNames_len] at h
  exact h

/-! ### the text of a line -/
def fieldI (l : Line) (o : Nat) : Int := if o = 1 then l.a else if o = 2 then l.b else l.imm

def partT (l : Line) : Part → List UInt8
  | .reg o => 82 :: Lib.itoa (fieldI l o)
  | .num => Lib.itoa l.imm
  | .word => Lib.itoa l.n
  | .place => 76 :: Lib.itoa l.label
  | .places => Lib.join (l.list.map fun n => 76 :: Lib.itoa n) [32]

def textP (l : Line) : List UInt8 :=
  if l.op = 0 then (76 :: Lib.itoa l.label) ++ [58]
  else Lib.join (opNames.getD (l.op.toNat - 1) [] :: (partsP l.op).map (partT l)) [32]

/-- The numbers of a line that are in range. -/
structure WfL (l : Line) : Prop where
  a0 : -9223372036854775808 ≤ l.a
  a1 : l.a ≤ 9223372036854775807
  b0 : -9223372036854775808 ≤ l.b
  b1 : l.b ≤ 9223372036854775807
  i0 : -9223372036854775808 ≤ l.imm
  i1 : l.imm ≤ 9223372036854775807
  n0 : 0 ≤ l.n
  n1 : l.n ≤ 4294967295
  l0 : -9223372036854775808 ≤ l.label
  l1 : l.label ≤ 9223372036854775807
  ls : ∀ x ∈ l.list, -9223372036854775808 ≤ x ∧ x ≤ 9223372036854775807

theorem fieldI_rng {l : Line} (h : WfL l) (o : Nat) : -9223372036854775808 ≤ fieldI l o ∧ fieldI l o ≤ 9223372036854775807 := by
  unfold fieldI
  split
  · exact ⟨h.a0, h.a1⟩
  · split
    · exact ⟨h.b0, h.b1⟩
    · exact ⟨h.i0, h.i1⟩

/-- A line in memory. -/
structure LineM (w : World) (b : Nat) (l : Line) (A : Option Addr) (c : Nat) : Prop where
  blk : w.heap[b]? = some (.cells #[.int .i64 l.op, .int .i64 l.a, .int .i64 l.b, .int .i64 l.imm, .int .u32 l.n, .int .i64 l.label, .slice A l.list.length c] 49 (0, 0))
  row : kInt.C w A l.list.length l.list

theorem LineM.below {w w' : World} {b : Nat} {l : Line} {A : Option Addr} {c : Nat} (h : LineM w b l A c) (hb : Below w.heap.size w w') : LineM w' b l A c :=
  ⟨(hb.block b (Array.getElem?_eq_some_iff.1 h.blk).1).trans h.blk, Kd.C_below h.row hb⟩

/-- What is known of a part of a line that may be. -/
def PartOk (l : Line) : Part → Prop
  | .reg o => o = 1 ∨ o = 2 ∨ o = 3
  | .places => l.list ≠ [] ∧ l.list.length ≤ 400
  | _ => True

theorem written_part (p : Part) (b : Nat) (l : Line) (A : Option Addr) (c : Nat) (w : World) (hL : LLaid w) (hm : LineM w b l A c) (hwf : WfL l) (hp : PartOk l p) :
    Calls Tryz.prog 50 #[pv b p] w fun e w' => e = .returned (.string ⟨(partT l p).toArray⟩) ∧ Below w.heap.size w w' := by
  cases p with
  | reg o =>
    have hr := fieldI_rng hwf o
    refine written_reg b o (fieldI l o) w hL ?_ hr.1 hr.2
    rw [cell_of_block hm.blk]
    rcases hp with rfl | rfl | rfl <;> rfl
  | num => exact written_num b l.imm w hL (by rw [cell_of_block hm.blk]; rfl) hwf.i0 hwf.i1
  | word => exact written_word b l.n w hL (by rw [cell_of_block hm.blk]; rfl) hwf.n0 hwf.n1
  | place => exact written_place b l.label w hL (by rw [cell_of_block hm.blk]; rfl) hwf.l0 hwf.l1
  | places => exact written_places b A c l.list w hL (by rw [cell_of_block hm.blk]; rfl) hm.row hwf.ls hp.1 (by have := hp.2; omega)

theorem partsP_reg (op : Int) (o : Nat) (h : Part.reg o ∈ partsP op) : o = 1 ∨ o = 2 ∨ o = 3 := by
  unfold partsP at h
  repeat' split at h
  all_goals (simp only [List.mem_cons, List.not_mem_nil, Part.reg.injEq, reduceCtorEq, or_false, false_or] at h; try omega)

theorem partsP_places (op : Int) (h : Part.places ∈ partsP op) : op = 42 := by
  unfold partsP at h
  repeat' split at h
  all_goals (simp only [List.mem_cons, List.not_mem_nil, reduceCtorEq, or_false, false_or] at h; try assumption)

theorem partOk_of {l : Line} (hm : fitsP l = true) {p : Part} (h : p ∈ partsP l.op) : PartOk l p := by
  cases p with
  | reg o => exact partsP_reg _ _ h
  | places =>
    have h42 := partsP_places _ h
    unfold fitsP at hm
    simp only [Bool.and_eq_true, decide_eq_true_eq] at hm
    refine ⟨fun e => ?_, hm.2⟩
    have := hm.1.2
    rw [e, h42] at this
    simp at this
  | num => trivial
  | word => trivial
  | place => trivial

theorem partT_len {l : Line} (hwf : WfL l) {p : Part} (hp : PartOk l p) : (partT l p).length ≤ 10000 := by
  cases p with
  | reg o => have := itoa_len _ (fieldI_rng hwf o).1 (fieldI_rng hwf o).2; show (82 :: _).length ≤ _; rw [List.length_cons]; omega
  | num => have := itoa_len _ hwf.i0 hwf.i1; show (Lib.itoa l.imm).length ≤ _; omega
  | word => have := itoa_len l.n (by have := hwf.n0; omega) (by have := hwf.n1; omega); show (Lib.itoa l.n).length ≤ _; omega
  | place => have := itoa_len _ hwf.l0 hwf.l1; show (76 :: _).length ≤ _; rw [List.length_cons]; omega
  | places =>
    have := join_len 22 (l.list.map fun n => 76 :: Lib.itoa n) (fun y hy => by
      rw [List.mem_map] at hy
      obtain ⟨n, hn, rfl⟩ := hy
      have := itoa_len n (hwf.ls n hn).1 (hwf.ls n hn).2
      rw [List.length_cons]; omega)
    rw [List.length_map] at this
    have := hp.2
    show (Lib.join _ _).length ≤ _
    omega

end Go.Proofs.YtlhgfhmdhmgmpaaGreatDoor
