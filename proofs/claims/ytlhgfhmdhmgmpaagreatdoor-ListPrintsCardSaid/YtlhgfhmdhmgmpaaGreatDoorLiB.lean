/- list.parts, walked. -/
import Derived.Test.YtlhgfhmdhmgmpaaGreatDoorLiA
import Derived.BigRegion
import Derived.RegionTactic
set_option linter.unusedVariables false
set_option linter.unusedSimpArgs false
namespace Go.Proofs.YtlhgfhmdhmgmpaaGreatDoor
open Go.RowKit

/-- What region 1 of parts leaves: three variables, each a pointer into the line. -/
def PV (b : Nat) (w : World) (t3 t4 t5 : Value) (wx : World) : Prop :=
  ∃ x y z : Nat, t3 = .pointer (some ⟨x, 0, none⟩) ∧ t4 = .pointer (some ⟨y, 0, none⟩) ∧ t5 = .pointer (some ⟨z, 0, none⟩) ∧
    wx.cell? ⟨x, 0, none⟩ = some (.pointer (some ⟨b, 1, none⟩)) ∧ wx.cell? ⟨y, 0, none⟩ = some (.pointer (some ⟨b, 2, none⟩)) ∧ wx.cell? ⟨z, 0, none⟩ = some (.pointer (some ⟨b, 3, none⟩)) ∧ Below w.heap.size w wx

/-- What parts answers: a slice of these parts, in a new block. -/
def PR (ps : List Part) (b : Nat) (w : World) (e : Ending) (w' : World) : Prop :=
  ∃ A c, e = .returned (.slice A ps.length c) ∧ (∀ i p, ps[i]? = some p → ∃ g, A = some ⟨g, 0, none⟩ ∧ w.heap.size ≤ g ∧ w'.cell? ⟨g, i, none⟩ = some (pv b p)) ∧ Below w.heap.size w w'

theorem PR_mk {ps : List Part} {b g : Nat} {w w2 : World} {n : Nat} (hn : n = ps.length) (hc : w2.heap[g]? = some (.cells (ps.map (pv b)).toArray 20 (0, 0))) (hg : w.heap.size ≤ g) (hb : Below w.heap.size w w2) :
    PR ps b w (.returned (.slice (some ⟨g, 0, none⟩) n n)) w2 := by
  subst hn
  refine ⟨_, _, rfl, fun i p hp => ⟨_, rfl, hg, ?_⟩, hb⟩
  rw [Go.Joins.cell_of_block hc]
  simp [hp]

theorem PR_nil {b : Nat} {w w2 : World} (hb : Below w.heap.size w w2) : PR [] b w (.returned (.slice none 0 0)) w2 := ⟨_, _, rfl, fun i p hp => by simp at hp, hb⟩

theorem knA {w : World} {cs : Array Value} {t : TypeId} {v : Value} {g : Nat} (hg : g = w.heap.size) (i : Nat) (h : cs[i]? = some v) : (w.alloc (.cells cs t)).cell? ⟨g, i, none⟩ = some v := by
  subst hg
  exact kn i h

theorem drew_blk {w : World} {g : Nat} {o : Obj} (h : w.heap[g]? = some o) : w.drew.heap[g]? = some o := h

set_option maxHeartbeats 2000000 in
set_option maxRecDepth 100000 in
theorem parts_any (b : Nat) (op : Int) (w : World) (hc : w.cell? ⟨b, 0, none⟩ = some (.int .i64 op)) :
    Calls Tryz.prog 46 #[.pointer (some ⟨b, 0, none⟩)] w (PR (partsP op) b w) := by
  go_enter Tryz.func46, Tryz.ntmps46
  go_upto_region 1 with fail
  go_cut [3, 4, 5] from 7 to 18 (fun t3 t4 t5 wx => PV b w t3 t4 t5 wx)
  case first =>
    go_region
    all_goals go_wp2_with fail
    all_goals go_meet
    all_goals exact ⟨_, _, _, rfl, rfl, rfl, by simp only [World.cell?_drew]; first | exact knA (by simp) 0 rfl | exact ka _ (knA (by simp) 0 rfl) | exact ka _ (ka _ (knA (by simp) 0 rfl)), by simp only [World.cell?_drew]; first | exact knA (by simp) 0 rfl | exact ka _ (knA (by simp) 0 rfl) | exact ka _ (ka _ (knA (by simp) 0 rfl)), by simp only [World.cell?_drew]; first | exact knA (by simp) 0 rfl | exact ka _ (knA (by simp) 0 rfl) | exact ka _ (ka _ (knA (by simp) 0 rfl)), by repeat (first | exact Below.refl _ _ | (refine Below.alloc ?_ (by simp; try omega) _) | refine Below.drew ?_)⟩
  case rest =>
    obtain ⟨x, y, z, rfl, rfl, rfl, hx, hy, hz, hb⟩ := hcut
    have hc' := kp hb hc
    have HB := Lib.hid hb
    have HC := Lib.hid hc
    clear hb hc
    by_cases q0 : op = 1
    · subst q0
      have e : partsP 1 = [.reg 1, .num] := by decide
      have HE := Lib.hid e
      clear e
      go_wp2_with fail
      go_ret
      rw [HE.out]
      exact PR_mk rfl (by first | exact heap_alloc_new wc _ | exact drew_blk (heap_alloc_new wc _)) HB.out.size (by repeat (first | exact HB.out | (refine Below.alloc ?_ HB.out.size _) | refine Below.drew ?_))
    by_cases q1 : op = 2
    · subst q1
      have e : partsP 2 = [.reg 1, .word] := by decide
      have HE := Lib.hid e
      clear e
      go_wp2_with fail
      go_region
      go_wp2_with fail
      go_ret
      rw [HE.out]
      exact PR_mk rfl (by first | exact heap_alloc_new wc _ | exact drew_blk (heap_alloc_new wc _)) HB.out.size (by repeat (first | exact HB.out | (refine Below.alloc ?_ HB.out.size _) | refine Below.drew ?_))
    by_cases q2 : op = 42
    · subst q2
      have e : partsP 42 = [.reg 1, .places] := by decide
      have HE := Lib.hid e
      clear e
      go_wp2_with fail
      go_region
      go_wp2_with fail
      go_ret
      rw [HE.out]
      exact PR_mk rfl (by first | exact heap_alloc_new wc _ | exact drew_blk (heap_alloc_new wc _)) HB.out.size (by repeat (first | exact HB.out | (refine Below.alloc ?_ HB.out.size _) | refine Below.drew ?_))
    by_cases q3 : op = 45
    · subst q3
      have e : partsP 45 = [.reg 1] := by decide
      have HE := Lib.hid e
      clear e
      go_wp2_with fail
      go_ret
      rw [HE.out]
      exact PR_mk rfl (by first | exact heap_alloc_new wc _ | exact drew_blk (heap_alloc_new wc _)) HB.out.size (by repeat (first | exact HB.out | (refine Below.alloc ?_ HB.out.size _) | refine Below.drew ?_))
    by_cases q4 : op = 46
    · subst q4
      have e : partsP 46 = [.reg 1] := by decide
      have HE := Lib.hid e
      clear e
      go_wp2_with fail
      go_ret
      rw [HE.out]
      exact PR_mk rfl (by first | exact heap_alloc_new wc _ | exact drew_blk (heap_alloc_new wc _)) HB.out.size (by repeat (first | exact HB.out | (refine Below.alloc ?_ HB.out.size _) | refine Below.drew ?_))
    by_cases q5 : op = 47
    · subst q5
      have e : partsP 47 = [.reg 1] := by decide
      have HE := Lib.hid e
      clear e
      go_wp2_with fail
      go_ret
      rw [HE.out]
      exact PR_mk rfl (by first | exact heap_alloc_new wc _ | exact drew_blk (heap_alloc_new wc _)) HB.out.size (by repeat (first | exact HB.out | (refine Below.alloc ?_ HB.out.size _) | refine Below.drew ?_))
    by_cases q6 : op = 4
    · subst q6
      have e : partsP 4 = [.reg 1, .reg 2, .num] := by decide
      have HE := Lib.hid e
      clear e
      go_wp2_with fail
      go_ret
      rw [HE.out]
      exact PR_mk rfl (by first | exact heap_alloc_new wc _ | exact drew_blk (heap_alloc_new wc _)) HB.out.size (by repeat (first | exact HB.out | (refine Below.alloc ?_ HB.out.size _) | refine Below.drew ?_))
    by_cases q7 : op = 27
    · subst q7
      have e : partsP 27 = [.reg 1, .reg 2, .num] := by decide
      have HE := Lib.hid e
      clear e
      go_wp2_with fail
      go_ret
      rw [HE.out]
      exact PR_mk rfl (by first | exact heap_alloc_new wc _ | exact drew_blk (heap_alloc_new wc _)) HB.out.size (by repeat (first | exact HB.out | (refine Below.alloc ?_ HB.out.size _) | refine Below.drew ?_))
    by_cases q8 : op = 28
    · subst q8
      have e : partsP 28 = [.reg 1, .reg 2, .num] := by decide
      have HE := Lib.hid e
      clear e
      go_wp2_with fail
      go_ret
      rw [HE.out]
      exact PR_mk rfl (by first | exact heap_alloc_new wc _ | exact drew_blk (heap_alloc_new wc _)) HB.out.size (by repeat (first | exact HB.out | (refine Below.alloc ?_ HB.out.size _) | refine Below.drew ?_))
    by_cases q9 : 5 ≤ op ∧ op ≤ 23
    · obtain ⟨qa, qb⟩ := q9
      have e : partsP op = [.reg 1, .reg 2, .reg 3] := by unfold partsP; rw [if_neg (by omega)]; rw [if_neg (by omega)]; rw [if_neg (by omega)]; rw [if_neg (by omega)]; rw [if_neg (by omega)]; rw [if_pos (by omega)]
      have HE := Lib.hid e
      clear e
      go_wp2_with fail
      go_region
      go_wp2_with fail
      go_ret
      rw [HE.out]
      exact PR_mk rfl (by first | exact heap_alloc_new wc _ | exact drew_blk (heap_alloc_new wc _)) HB.out.size (by repeat (first | exact HB.out | (refine Below.alloc ?_ HB.out.size _) | refine Below.drew ?_))
    by_cases q10 : 30 ≤ op ∧ op ≤ 39
    · obtain ⟨qa, qb⟩ := q10
      have e : partsP op = [.reg 1, .reg 2, .place] := by unfold partsP; rw [if_neg (by omega)]; rw [if_neg (by omega)]; rw [if_neg (by omega)]; rw [if_neg (by omega)]; rw [if_neg (by omega)]; rw [if_neg (by omega)]; rw [if_pos (by omega)]
      have HE := Lib.hid e
      clear e
      go_wp2_with fail
      go_region
      go_wp2_with fail
      go_ret
      rw [HE.out]
      exact PR_mk rfl (by first | exact heap_alloc_new wc _ | exact drew_blk (heap_alloc_new wc _)) HB.out.size (by repeat (first | exact HB.out | (refine Below.alloc ?_ HB.out.size _) | refine Below.drew ?_))
    by_cases q11 : op = 40
    · subst q11
      have e : partsP 40 = [.place] := by decide
      have HE := Lib.hid e
      clear e
      go_wp2_with fail
      go_ret
      rw [HE.out]
      exact PR_mk rfl (by first | exact heap_alloc_new wc _ | exact drew_blk (heap_alloc_new wc _)) HB.out.size (by repeat (first | exact HB.out | (refine Below.alloc ?_ HB.out.size _) | refine Below.drew ?_))
    by_cases q12 : op = 41
    · subst q12
      have e : partsP 41 = [.place] := by decide
      have HE := Lib.hid e
      clear e
      go_wp2_with fail
      go_ret
      rw [HE.out]
      exact PR_mk rfl (by first | exact heap_alloc_new wc _ | exact drew_blk (heap_alloc_new wc _)) HB.out.size (by repeat (first | exact HB.out | (refine Below.alloc ?_ HB.out.size _) | refine Below.drew ?_))
    by_cases q13 : op = 43
    · subst q13
      have e : partsP 43 = [.place] := by decide
      have HE := Lib.hid e
      clear e
      go_wp2_with fail
      go_ret
      rw [HE.out]
      exact PR_mk rfl (by first | exact heap_alloc_new wc _ | exact drew_blk (heap_alloc_new wc _)) HB.out.size (by repeat (first | exact HB.out | (refine Below.alloc ?_ HB.out.size _) | refine Below.drew ?_))
    by_cases q14 : op = 44
    · subst q14
      have e : partsP 44 = [] := by decide
      have HE := Lib.hid e
      clear e
      go_wp2_with fail
      go_ret
      rw [HE.out]
      exact PR_nil HB.out
    by_cases q15 : op = 48
    · subst q15
      have e : partsP 48 = [.num] := by decide
      have HE := Lib.hid e
      clear e
      go_wp2_with fail
      go_ret
      rw [HE.out]
      exact PR_mk rfl (by first | exact heap_alloc_new wc _ | exact drew_blk (heap_alloc_new wc _)) HB.out.size (by repeat (first | exact HB.out | (refine Below.alloc ?_ HB.out.size _) | refine Below.drew ?_))
    have e : partsP op = [.reg 1, .reg 2] := by unfold partsP; rw [if_neg (by omega)]; rw [if_neg (by omega)]; rw [if_neg (by omega)]; rw [if_neg (by omega)]; rw [if_neg (by omega)]; rw [if_neg (by omega)]; rw [if_neg (by omega)]; rw [if_neg (by omega)]; rw [if_neg (by omega)]; rw [if_neg (by omega)]
    have HE := Lib.hid e
    clear e
    go_wp2_with fail
    all_goals go_ret
    all_goals rw [HE.out]
    all_goals exact PR_mk rfl (by first | exact heap_alloc_new wc _ | exact drew_blk (heap_alloc_new wc _)) HB.out.size (by repeat (first | exact HB.out | (refine Below.alloc ?_ HB.out.size _) | refine Below.drew ?_))
end Go.Proofs.YtlhgfhmdhmgmpaaGreatDoor
