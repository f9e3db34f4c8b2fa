/- What Print answers, plainly: sizes. -/
import Derived.Test.YtlhgfhmdhmgmpaaGreatDoorLiZ
set_option linter.unusedVariables false
set_option linter.unusedSimpArgs false
namespace Go.Proofs.YtlhgfhmdhmgmpaaGreatDoor
open Go.RowKit Go.Proofs.YtlhgfhmdhmgmpaaGreatDoorW.PrintWords Go.Joins Go.Maps

theorem print_good {ls : List Line} (h : (printP ls).2 = 0) : ls.length ≤ 60000 ∧ ls.all mayP = true ∧ (printP ls).1 = bodyP ls := by
  unfold printP at h ⊢
  split at h
  · exact absurd h (by decide)
  · rename_i hlen
    rw [if_neg hlen]
    split at h
    · rename_i hall
      rw [if_pos hall]
      exact ⟨by omega, hall, rfl⟩
    · exact absurd h (by decide)

theorem may_short {l : Line} (h : mayP l = true) : l.list.length ≤ 400 := by
  unfold mayP at h
  split at h
  · unfold labelP at h
    simp only [Bool.and_eq_true, decide_eq_true_eq] at h
    omega
  · unfold fitsP at h
    simp only [Bool.and_eq_true, decide_eq_true_eq] at h
    exact h.1.2

theorem print_size {ls : List Line} (hwf : ∀ l ∈ ls, WfL l) (h : (printP ls).2 = 0) : (baL (printP ls).1).size ≤ 4294967290 := by
  obtain ⟨h1, h2, h3⟩ := print_good h
  rw [baL_size, h3]
  have := bodyP_len ls fun l hl => ⟨hwf l hl, List.all_eq_true.1 h2 l hl⟩
  have h4 : 40005 * ls.length ≤ 40005 * 60000 := Nat.mul_le_mul_left _ h1
  omega

theorem print_bad {ls : List Line} (h : (printP ls).2 ≠ 0) : ((printP ls).2 == 0) = false := by
  exact beq_eq_false_iff_ne.mpr h

end Go.Proofs.YtlhgfhmdhmgmpaaGreatDoor
