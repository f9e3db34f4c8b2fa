import Derived.Test.YtlhgfhmdhmgmpaaGreatDoorEncC
namespace Go.Proofs.YtlhgfhmdhmgmpaaGreatDoor
open Go.RowKit

set_option maxRecDepth 100000 in
set_option maxHeartbeats 4000000 in
theorem may_anyX (op a b c : Int) (w : World) :
    Calls Tryz.prog 94 #[.agg #[.int .i64 op, .int .i64 a, .int .i64 b, .int .i64 c]] w fun e w' => e = .returned (.bool (mayR op a b c)) ∧ Below w.heap.size w w' := by
  go_enter Tryz.func94, Tryz.ntmps94
  go_wp2_with fail
  refine (reg_any a _).mono ?_
  rintro e w' ⟨rfl, rfl⟩
  go_wp2_with fail
  refine (reg_any b _).mono ?_
  rintro e w' ⟨rfl, rfl⟩
  go_upto_region 3 with fail
  go_cut [5] (fun s5 w' => s5 = .bool (wide c) ∧ w' = w.alloc (.cells #[.int .i64 op, .int .i64 a, .int .i64 b, .int .i64 c] 99))
  case first =>
    go_wp2_with fail
    all_goals go_meet
    all_goals refine ⟨?_, rfl⟩
    all_goals (simp only [wide, within, Value.bool.injEq]; first | (simp only [*]; done) | (simp [*]; done) | (simp; omega))
  case rest =>
    obtain ⟨rfl, rfl⟩ := hcut
    go_upto_region 4 with fail
    go_cut [6] (fun s6 w' => s6 = .bool (near c) ∧ w' = w.alloc (.cells #[.int .i64 op, .int .i64 a, .int .i64 b, .int .i64 c] 99))
    case first =>
      go_wp2_with fail
      all_goals go_meet
      all_goals refine ⟨?_, rfl⟩
      all_goals (simp only [near, within, Value.bool.injEq]; first | (simp only [*]; done) | (simp [*]; done) | (simp; omega))
    case rest =>
      obtain ⟨rfl, rfl⟩ := hcut
      go_wp2_with (first | (go_at_call 115; refine (reg_any _ _).mono ?_; rintro e w' ⟨rfl, rfl⟩) | (go_at_call 79; refine (br_any _ _).mono ?_; rintro e w' ⟨rfl, rfl⟩))
      all_goals (go_ret; refine ⟨?_, by go_grown⟩; simp only [Ending.returned.injEq]; unfold mayR; simp_all)
      all_goals first | (intros; exfalso; omega) | (intros; exfalso; have hb := ‹isBr op = true›; simp only [isBr, within, Bool.and_eq_true, decide_eq_true_eq] at hb; omega) | (unfold within; simp; omega) | (unfold within; simp only [*]; done)

end Go.Proofs.YtlhgfhmdhmgmpaaGreatDoor
