import Derived.Test.YtamimnaafiphcaaDoorEncM
import Derived.Test.YtamimnaafiphcaaDoorEncD
namespace Go.Proofs.YtamimnaafiphcaaDoor
open Go.RowKit

/-- What the reference's Encode tells. -/
def encR (op a b c : Int) : Int × Int := if isOp op = false then (0, 160) else if mayR op a b c = false then (0, 161) else (word op a b c, 0)

theorem mayR_in {op a b c : Int} (h : mayR op a b c = true) : 1 ≤ op ∧ op ≤ 48 ∧ 0 ≤ a ∧ a ≤ 11 ∧ 0 ≤ b ∧ b ≤ 11 ∧ -32768 ≤ c ∧ c ≤ 32767 := by
  unfold mayR at h
  repeat' split at h
  all_goals first | exact absurd h Bool.false_ne_true | (simp only [reg, wide, near, isBr, within, Bool.and_eq_true, decide_eq_true_eq, beq_iff_eq] at *; omega)

theorem encR_any (op a b c : Int) (w : World) :
    Calls Tryd.prog 84 #[.agg #[.int .i64 op, .int .i64 a, .int .i64 b, .int .i64 c]] w fun e w' => e = .returned (.tuple #[.int .u32 (encR op a b c).1, .int .i64 (encR op a b c).2]) ∧ Below w.heap.size w w' := by
  have key : ∀ r : Int × Int, encR op a b c = r → Calls Tryd.prog 84 #[.agg #[.int .i64 op, .int .i64 a, .int .i64 b, .int .i64 c]] w (fun e w' => e = .returned (.tuple #[.int .u32 r.1, .int .i64 r.2]) ∧ Below w.heap.size w w') → Calls Tryd.prog 84 #[.agg #[.int .i64 op, .int .i64 a, .int .i64 b, .int .i64 c]] w fun e w' => e = .returned (.tuple #[.int .u32 (encR op a b c).1, .int .i64 (encR op a b c).2]) ∧ Below w.heap.size w w' := fun r h => by rw [h]; exact id
  by_cases ho : isOp op = false
  · refine key (0, 160) (by unfold encR; rw [if_pos ho]) ?_
    clear key
    go_enter Tryd.func84, Tryd.ntmps84
    go_wp2_with fail
    refine (op_any _ _).mono ?_
    rintro e w' ⟨rfl, rfl⟩
    go_wp2_with fail
    go_ret2
    exact ⟨rfl, by go_grown⟩
  · have ho1 : isOp op = true := by simpa using ho
    by_cases hm : mayR op a b c = false
    · refine key (0, 161) (by unfold encR; rw [if_neg ho, if_pos hm]) ?_
      clear key ho
      go_enter Tryd.func84, Tryd.ntmps84
      go_wp2_with fail
      refine (op_any _ _).mono ?_
      rintro e w' ⟨rfl, rfl⟩
      go_wp2_with fail
      refine (may_any _ _ _ _ _).mono ?_
      rintro e w2 ⟨rfl, hb2⟩
      have hb3 : Below w.heap.size w w2 := Below.trans (b := w.alloc (.cells #[.int .i64 op, .int .i64 a, .int .i64 b, .int .i64 c] 44)) (by go_grown) (hb2.mono (by simp))
      go_wp2_with fail
      go_ret2
      exact ⟨rfl, by go_grown⟩
    · have hm1 : mayR op a b c = true := by simpa using hm
      refine key (word op a b c, 0) (by unfold encR; rw [if_neg ho, if_neg hm]) ?_
      obtain ⟨o0, o1, a0, a1, b0, b1, c0, c1⟩ := mayR_in hm1
      clear key ho hm
      by_cases hc : c < 0
      · have W := Lib.hid (show op * 16777216 + a * 1048576 + b * 65536 + (c + 65536) = word op a b c by unfold word; omega)
        go_enter Tryd.func84, Tryd.ntmps84
        go_wp2_with fail
        refine (op_any _ _).mono ?_
        rintro e w' ⟨rfl, rfl⟩
        go_wp2_with fail
        refine (may_any _ _ _ _ _).mono ?_
        rintro e w2 ⟨rfl, hb2⟩
        obtain ⟨hc2, hf2⟩ := bcell hb2
        have k0 : w2.cell? ⟨w.heap.size, 0, none⟩ = some (.int .i64 op) := by rw [hc2 _ _ (by simp)]; simp
        have k1 : w2.cell? ⟨w.heap.size, 1, none⟩ = some (.int .i64 a) := by rw [hc2 _ _ (by simp)]; simp
        have k2 : w2.cell? ⟨w.heap.size, 2, none⟩ = some (.int .i64 b) := by rw [hc2 _ _ (by simp)]; simp
        have k3 : w2.cell? ⟨w.heap.size, 3, none⟩ = some (.int .i64 c) := by rw [hc2 _ _ (by simp)]; simp
        have hb3 : Below w.heap.size w w2 := Below.trans (b := w.alloc (.cells #[.int .i64 op, .int .i64 a, .int .i64 b, .int .i64 c] 44)) (by go_grown) (hb2.mono (by simp))
        clear hc2 hf2
        go_wp2_with fail
        go_ret2
        exact ⟨by rw [← W.out]; rfl, by go_grown⟩
      · have W := Lib.hid (show op * 16777216 + a * 1048576 + b * 65536 + c = word op a b c by unfold word; omega)
        go_enter Tryd.func84, Tryd.ntmps84
        go_wp2_with fail
        refine (op_any _ _).mono ?_
        rintro e w' ⟨rfl, rfl⟩
        go_wp2_with fail
        refine (may_any _ _ _ _ _).mono ?_
        rintro e w2 ⟨rfl, hb2⟩
        obtain ⟨hc2, hf2⟩ := bcell hb2
        have k0 : w2.cell? ⟨w.heap.size, 0, none⟩ = some (.int .i64 op) := by rw [hc2 _ _ (by simp)]; simp
        have k1 : w2.cell? ⟨w.heap.size, 1, none⟩ = some (.int .i64 a) := by rw [hc2 _ _ (by simp)]; simp
        have k2 : w2.cell? ⟨w.heap.size, 2, none⟩ = some (.int .i64 b) := by rw [hc2 _ _ (by simp)]; simp
        have k3 : w2.cell? ⟨w.heap.size, 3, none⟩ = some (.int .i64 c) := by rw [hc2 _ _ (by simp)]; simp
        have hb3 : Below w.heap.size w w2 := Below.trans (b := w.alloc (.cells #[.int .i64 op, .int .i64 a, .int .i64 b, .int .i64 c] 44)) (by go_grown) (hb2.mono (by simp))
        clear hc2 hf2
        go_wp2_with fail
        go_ret2
        exact ⟨by rw [← W.out]; rfl, by go_grown⟩

end Go.Proofs.YtamimnaafiphcaaDoor
