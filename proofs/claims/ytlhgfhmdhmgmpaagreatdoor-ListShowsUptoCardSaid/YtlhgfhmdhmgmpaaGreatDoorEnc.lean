import Derived.Test.YtlhgfhmdhmgmpaaGreatDoorProg
import Derived.WalkKit
import Derived.Below
import Derived.Deep.QuietTactic
import Derived.BigQuiet
import Derived.RowKit
import Derived.Lib.Hide
namespace Go.Proofs.YtlhgfhmdhmgmpaaGreatDoor
open Go.RowKit

def tbl : List Int := [9, 1, 2, 3, 4, 5, 5, 5, 5, 5, 5, 5, 5, 5, 5, 5, 5, 5, 5, 5, 5, 5, 5, 5, 3, 3, 3, 4, 4, 3, 6, 6, 6, 6, 6, 6, 6, 6, 6, 6, 7, 0, 2, 0, 0, 2, 2, 2, 8]

def Laid (w : World) : Prop := 1 < w.heap.size ∧ ∀ i, i < 49 → w.cell? ⟨1, i, none⟩ = some (.int .u8 (tbl.getD i 9))

theorem Laid.below {w w' : World} (h : Laid w) (hb : Below w.heap.size w w') : Laid w' :=
  ⟨Nat.lt_of_lt_of_le h.1 hb.size, fun i hi => by rw [hb.cell (p := ⟨1, i, none⟩) h.1]; exact h.2 i hi⟩

def formOf (op : Int) : Int := if 0 ≤ op ∧ op < 49 then tbl.getD op.toNat 9 else 9

theorem form_any (op : Int) (w : World) (hL : Laid w) :
    Calls Tryz.prog 87 #[.int .i64 op] w fun e w' => e = .returned (.int .u8 (formOf op)) ∧ w = w' := by
  by_cases h0 : op < 0
  · have e : formOf op = 9 := by unfold formOf; rw [if_neg (by omega)]
    rw [e]
    go_enter Tryz.func87, Tryz.ntmps87
    go_wp2
    go_ret
    exact ⟨rfl, rfl⟩
  · by_cases h1 : op < 49
    · have e : formOf op = tbl.getD op.toNat 9 := by unfold formOf; rw [if_pos (by omega)]
      rw [e]
      have hc := hL.2 op.toNat (by omega)
      generalize tbl.getD op.toNat 9 = v at hc ⊢
      go_enter Tryz.func87, Tryz.ntmps87
      go_wp2
      go_ret
      exact ⟨rfl, rfl⟩
    · have e : formOf op = 9 := by unfold formOf; rw [if_neg (by omega)]
      rw [e]
      go_enter Tryz.func87, Tryz.ntmps87
      go_wp2
      go_ret
      exact ⟨rfl, rfl⟩

def within (lo hi n : Int) : Bool := decide (lo ≤ n) && decide (n ≤ hi)

theorem fields_0 (w : World) :
    Calls Tryz.prog 88 #[.int .u8 0] w fun e w' => e = .returned (.tuple #[.agg #[.int .i64 0, .int .i64 0], .agg #[.int .i64 0, .int .i64 0], .agg #[.int .i64 0, .int .i64 0]]) ∧ Below w.heap.size w w' := by
  go_enter Tryz.func88, Tryz.ntmps88
  go_wp2
  go_region
  all_goals go_wp2
  all_goals refine bodyPost_ret (v := .tuple #[.agg #[.int .i64 0, .int .i64 0], .agg #[.int .i64 0, .int .i64 0], .agg #[.int .i64 0, .int .i64 0]]) (by simp [results, Tryz.results88, go_sem]) rfl ⟨rfl, ?_⟩
  all_goals repeat (first | exact Below.refl _ _ | refine Below.drew ?_ | refine Below.alloc ?_ (by first | (simp; done) | (simp; omega)) _)

theorem fields_1 (w : World) :
    Calls Tryz.prog 88 #[.int .u8 1] w fun e w' => e = .returned (.tuple #[.agg #[.int .i64 0, .int .i64 11], .agg #[.int .i64 0, .int .i64 0], .agg #[.int .i64 (-32768), .int .i64 32767]]) ∧ Below w.heap.size w w' := by
  go_enter Tryz.func88, Tryz.ntmps88
  go_wp2
  go_region
  all_goals go_wp2
  go_region
  all_goals go_wp2
  all_goals refine bodyPost_ret (v := .tuple #[.agg #[.int .i64 0, .int .i64 11], .agg #[.int .i64 0, .int .i64 0], .agg #[.int .i64 (-32768), .int .i64 32767]]) (by simp [results, Tryz.results88, go_sem]) rfl ⟨rfl, ?_⟩
  all_goals repeat (first | exact Below.refl _ _ | refine Below.drew ?_ | refine Below.alloc ?_ (by first | (simp; done) | (simp; omega)) _)

theorem fields_2 (w : World) :
    Calls Tryz.prog 88 #[.int .u8 2] w fun e w' => e = .returned (.tuple #[.agg #[.int .i64 0, .int .i64 11], .agg #[.int .i64 0, .int .i64 0], .agg #[.int .i64 0, .int .i64 0]]) ∧ Below w.heap.size w w' := by
  go_enter Tryz.func88, Tryz.ntmps88
  go_wp2
  go_region
  all_goals go_wp2
  all_goals refine bodyPost_ret (v := .tuple #[.agg #[.int .i64 0, .int .i64 11], .agg #[.int .i64 0, .int .i64 0], .agg #[.int .i64 0, .int .i64 0]]) (by simp [results, Tryz.results88, go_sem]) rfl ⟨rfl, ?_⟩
  all_goals repeat (first | exact Below.refl _ _ | refine Below.drew ?_ | refine Below.alloc ?_ (by first | (simp; done) | (simp; omega)) _)

theorem fields_3 (w : World) :
    Calls Tryz.prog 88 #[.int .u8 3] w fun e w' => e = .returned (.tuple #[.agg #[.int .i64 0, .int .i64 11], .agg #[.int .i64 0, .int .i64 11], .agg #[.int .i64 0, .int .i64 0]]) ∧ Below w.heap.size w w' := by
  go_enter Tryz.func88, Tryz.ntmps88
  go_wp2
  go_region
  all_goals go_wp2
  all_goals refine bodyPost_ret (v := .tuple #[.agg #[.int .i64 0, .int .i64 11], .agg #[.int .i64 0, .int .i64 11], .agg #[.int .i64 0, .int .i64 0]]) (by simp [results, Tryz.results88, go_sem]) rfl ⟨rfl, ?_⟩
  all_goals repeat (first | exact Below.refl _ _ | refine Below.drew ?_ | refine Below.alloc ?_ (by first | (simp; done) | (simp; omega)) _)

theorem fields_4 (w : World) :
    Calls Tryz.prog 88 #[.int .u8 4] w fun e w' => e = .returned (.tuple #[.agg #[.int .i64 0, .int .i64 11], .agg #[.int .i64 0, .int .i64 11], .agg #[.int .i64 (-32768), .int .i64 32767]]) ∧ Below w.heap.size w w' := by
  go_enter Tryz.func88, Tryz.ntmps88
  go_wp2
  go_region
  all_goals go_wp2
  go_region
  all_goals go_wp2
  all_goals refine bodyPost_ret (v := .tuple #[.agg #[.int .i64 0, .int .i64 11], .agg #[.int .i64 0, .int .i64 11], .agg #[.int .i64 (-32768), .int .i64 32767]]) (by simp [results, Tryz.results88, go_sem]) rfl ⟨rfl, ?_⟩
  all_goals repeat (first | exact Below.refl _ _ | refine Below.drew ?_ | refine Below.alloc ?_ (by first | (simp; done) | (simp; omega)) _)

theorem fields_5 (w : World) :
    Calls Tryz.prog 88 #[.int .u8 5] w fun e w' => e = .returned (.tuple #[.agg #[.int .i64 0, .int .i64 11], .agg #[.int .i64 0, .int .i64 11], .agg #[.int .i64 0, .int .i64 11]]) ∧ Below w.heap.size w w' := by
  go_enter Tryz.func88, Tryz.ntmps88
  go_wp2
  go_region
  all_goals go_wp2
  all_goals refine bodyPost_ret (v := .tuple #[.agg #[.int .i64 0, .int .i64 11], .agg #[.int .i64 0, .int .i64 11], .agg #[.int .i64 0, .int .i64 11]]) (by simp [results, Tryz.results88, go_sem]) rfl ⟨rfl, ?_⟩
  all_goals repeat (first | exact Below.refl _ _ | refine Below.drew ?_ | refine Below.alloc ?_ (by first | (simp; done) | (simp; omega)) _)

theorem fields_6 (w : World) :
    Calls Tryz.prog 88 #[.int .u8 6] w fun e w' => e = .returned (.tuple #[.agg #[.int .i64 0, .int .i64 11], .agg #[.int .i64 0, .int .i64 11], .agg #[.int .i64 (-128), .int .i64 127]]) ∧ Below w.heap.size w w' := by
  go_enter Tryz.func88, Tryz.ntmps88
  go_wp2
  go_region
  all_goals go_wp2
  go_region
  all_goals go_wp2
  all_goals refine bodyPost_ret (v := .tuple #[.agg #[.int .i64 0, .int .i64 11], .agg #[.int .i64 0, .int .i64 11], .agg #[.int .i64 (-128), .int .i64 127]]) (by simp [results, Tryz.results88, go_sem]) rfl ⟨rfl, ?_⟩
  all_goals repeat (first | exact Below.refl _ _ | refine Below.drew ?_ | refine Below.alloc ?_ (by first | (simp; done) | (simp; omega)) _)

theorem fields_7 (w : World) :
    Calls Tryz.prog 88 #[.int .u8 7] w fun e w' => e = .returned (.tuple #[.agg #[.int .i64 0, .int .i64 0], .agg #[.int .i64 0, .int .i64 0], .agg #[.int .i64 (-128), .int .i64 127]]) ∧ Below w.heap.size w w' := by
  go_enter Tryz.func88, Tryz.ntmps88
  go_wp2
  go_region
  all_goals go_wp2
  all_goals refine bodyPost_ret (v := .tuple #[.agg #[.int .i64 0, .int .i64 0], .agg #[.int .i64 0, .int .i64 0], .agg #[.int .i64 (-128), .int .i64 127]]) (by simp [results, Tryz.results88, go_sem]) rfl ⟨rfl, ?_⟩
  all_goals repeat (first | exact Below.refl _ _ | refine Below.drew ?_ | refine Below.alloc ?_ (by first | (simp; done) | (simp; omega)) _)

theorem fields_8 (w : World) :
    Calls Tryz.prog 88 #[.int .u8 8] w fun e w' => e = .returned (.tuple #[.agg #[.int .i64 0, .int .i64 0], .agg #[.int .i64 0, .int .i64 0], .agg #[.int .i64 0, .int .i64 255]]) ∧ Below w.heap.size w w' := by
  go_enter Tryz.func88, Tryz.ntmps88
  go_wp2
  go_region
  all_goals go_wp2
  all_goals refine bodyPost_ret (v := .tuple #[.agg #[.int .i64 0, .int .i64 0], .agg #[.int .i64 0, .int .i64 0], .agg #[.int .i64 0, .int .i64 255]]) (by simp [results, Tryz.results88, go_sem]) rfl ⟨rfl, ?_⟩
  all_goals repeat (first | exact Below.refl _ _ | refine Below.drew ?_ | refine Below.alloc ?_ (by first | (simp; done) | (simp; omega)) _)

/-- The bounds of the fields A, B and Imm, by a form. -/
def bd (f : Int) : (Int × Int) × (Int × Int) × (Int × Int) :=
  if f = 1 then ((0, 11), (0, 0), (-32768, 32767)) else
  if f = 2 then ((0, 11), (0, 0), (0, 0)) else
  if f = 3 then ((0, 11), (0, 11), (0, 0)) else
  if f = 4 then ((0, 11), (0, 11), (-32768, 32767)) else
  if f = 5 then ((0, 11), (0, 11), (0, 11)) else
  if f = 6 then ((0, 11), (0, 11), (-128, 127)) else
  if f = 7 then ((0, 0), (0, 0), (-128, 127)) else
  if f = 8 then ((0, 0), (0, 0), (0, 255)) else
  ((0, 0), (0, 0), (0, 0))

theorem fields_any (f : Int) (w : World) (h0 : 0 ≤ f) (h8 : f ≤ 8) :
    Calls Tryz.prog 88 #[.int .u8 f] w fun e w' => e = .returned (.tuple #[.agg #[.int .i64 (bd f).1.1, .int .i64 (bd f).1.2], .agg #[.int .i64 (bd f).2.1.1, .int .i64 (bd f).2.1.2], .agg #[.int .i64 (bd f).2.2.1, .int .i64 (bd f).2.2.2]]) ∧ Below w.heap.size w w' := by
  have h : f = 0 ∨ f = 1 ∨ f = 2 ∨ f = 3 ∨ f = 4 ∨ f = 5 ∨ f = 6 ∨ f = 7 ∨ f = 8 := by omega
  rcases h with rfl | rfl | rfl | rfl | rfl | rfl | rfl | rfl | rfl
  · exact fields_0 w
  · exact fields_1 w
  · exact fields_2 w
  · exact fields_3 w
  · exact fields_4 w
  · exact fields_5 w
  · exact fields_6 w
  · exact fields_7 w
  · exact fields_8 w

end Go.Proofs.YtlhgfhmdhmgmpaaGreatDoor
