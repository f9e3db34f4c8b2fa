/- list's law ListBack: walked. -/
import Derived.Test.YtlhgfhmdhmgmpaaDoorLiZ
set_option linter.unusedVariables false
set_option linter.unusedSimpArgs false
namespace Go.Proofs.YtlhgfhmdhmgmpaaDoor
open Go.RowKit Go.Proofs.YtlhgfhmdhmgmpaaDoorW.PrintWords Go.Joins Go.Maps

theorem print_good {ls : List Line} (h : (printP ls).2 = 0) : ls.length ≤ 60000 ∧ ls.all mayP = true ∧ (printP ls).1 = bodyP ls := by
  unfold printP at h ⊢
  split at h
  · exact absurd h (by decide)
  · rename_i hlen
    rw [if_neg hlen]
    split at h
    · rename_i hall
      rw [if_pos hall]
      exact ⟨by omega, hall, rfl⟩
    · exact absurd h (by decide)

theorem may_short {l : Line} (h : mayP l = true) : l.list.length ≤ 400 := by
  unfold mayP at h
  split at h
  · unfold labelP at h
    simp only [Bool.and_eq_true, decide_eq_true_eq] at h
    omega
  · unfold fitsP at h
    simp only [Bool.and_eq_true, decide_eq_true_eq] at h
    exact h.1.2

theorem print_size {ls : List Line} (hwf : ∀ l ∈ ls, WfL l) (h : (printP ls).2 = 0) : (baL (printP ls).1).size ≤ 4294967290 := by
  obtain ⟨h1, h2, h3⟩ := print_good h
  rw [baL_size, h3]
  have := bodyP_len ls fun l hl => ⟨hwf l hl, List.all_eq_true.1 h2 l hl⟩
  have h4 : 40005 * ls.length ≤ 40005 * 60000 := Nat.mul_le_mul_left _ h1
  omega

theorem print_bad {ls : List Line} (h : (printP ls).2 ≠ 0) : ((printP ls).2 == 0) = false := by
  exact beq_eq_false_iff_ne.mpr h

set_option maxRecDepth 100000 in
set_option maxHeartbeats 4000000 in
theorem back_any (ls : List Line) (A : Option Addr) (c : Nat) (w : World) (hL : LLaid w) (hl : Lines w (.slice A ls.length c) ls) (hwf : ∀ l ∈ ls, WfL l) :
    Calls Tryd.prog 3 #[.slice A ls.length c] w fun e w' => e = .returned (.bool true) ∧ Below w.heap.size w w' := by
  have HL := Lib.hid hL
  have HLN := Lib.hid hl
  have HWF := Lib.hid hwf
  clear hL hl hwf
  go_enter Tryd.func3, Tryd.ntmps3
  go_wp2_with fail
  have P := print_any ls A c w HL.out HLN.out HWF.out
  refine P.mono ?_
  rintro e w2 ⟨rfl, hb2⟩
  have HL2 := Lib.hid (HL.out.below hb2)
  have HW2 := Lib.hid hb2
  clear P hb2
  by_cases h0 : (printP ls).2 = 0
  · rw [h0]
    have HP := Lib.hid (parse_print HWF.out h0)
    have HSZ := Lib.hid (print_size HWF.out h0)
    have HG := Lib.hid (print_good h0)
    go_wp2_with fail
    have Q := parse_any (baL (printP ls).1) w2 HL2.out HSZ.out
    rw [HP.out] at Q
    refine Q.mono ?_
    rintro e w3 ⟨v, rfl, hLR, hb3⟩
    obtain ⟨A3, c3, rfl⟩ := hLR.slice
    have HLR := Lib.hid hLR.lines
    have HL3 := Lib.hid (HL2.out.below hb3)
    have HW3 := Lib.hid (bj HW2.out hb3)
    clear Q hLR hb3
    go_wp2_with fail
    refine (live_any _ HL3.out).mono ?_
    rintro e w4 ⟨rfl, hb4⟩
    have HLR4 := Lib.hid (HLR.out.below hb4)
    have HW4 := Lib.hid (bj HW3.out hb4)
    clear hb4
    go_wp2_with fail
    refine (same_lines ls A3 A c3 c _ HLR4.out (HLN.out.below HW4.out) (by have := HG.out.1; omega) (fun l hl => by have := may_short (List.all_eq_true.1 HG.out.2.1 l hl); omega)).mono ?_
    rintro e w5 ⟨rfl, hb5⟩
    have HW5 := Lib.hid (bj HW4.out hb5)
    clear hb5
    go_wp2_with fail
    go_ret
    exact ⟨rfl, HW5.out⟩
  · have hf := print_fail h0
    have hb := print_bad h0
    have HWq := HW2
    rw [hf]
    go_wp2_with fail
    refine (live_any _ HL2.out).mono ?_
    rintro e w4 ⟨rfl, hb4⟩
    have HW4 := Lib.hid (bj HW2.out hb4)
    clear hb4
    go_wp2_with fail
    go_ret
    exact ⟨rfl, HW4.out⟩

end Go.Proofs.YtlhgfhmdhmgmpaaDoor
