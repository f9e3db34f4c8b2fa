/- list's law ListAgain: walked. -/
import Derived.Test.YtlhgfhmdhmgmpaaDoorLiZ1
import Derived.Test.YtlhgfhmdhmgmpaaDoorLpG
set_option linter.unusedVariables false
set_option linter.unusedSimpArgs false
namespace Go.Proofs.YtlhgfhmdhmgmpaaDoor
open Go.RowKit Go.Proofs.YtlhgfhmdhmgmpaaDoorW.PrintWords Go.Joins Go.Maps

theorem print_of {ls : List Line} (h : ls.length ≤ 60000) (hm : ∀ l ∈ ls, WfL l ∧ mayP l = true) : (printP ls).2 = 0 := by
  unfold printP
  rw [if_neg (by omega), if_pos (List.all_eq_true.2 fun l hl => (hm l hl).2)]

theorem len_beq (ls : List Line) (h : ls = []) : ((ls.length : Int) == 0) = true := by subst h; rfl

set_option maxRecDepth 100000 in
set_option maxHeartbeats 4000000 in
theorem again_any (s : ByteArray) (w : World) (hL : LLaid w) (hs : s.size ≤ 4294967290) :
    Calls Tryd.prog 4 #[.string s] w fun e w' => e = .returned (.bool true) ∧ Below w.heap.size w w' := by
  have HL := Lib.hid hL
  clear hL
  have HG := parse_good s.size s 0 [] (by simp)
  rw [show parseF s.size s 0 [] = parseR s from rfl] at HG
  go_enter Tryd.func4, Tryd.ntmps4
  go_wp2_with fail
  have P := parse_any s w HL.out hs
  obtain ⟨ls, n, er, hR⟩ : ∃ ls n er, parseR s = (ls, n, er) := ⟨_, _, _, rfl⟩
  rw [hR] at P HG
  refine P.mono ?_
  rintro e w2 ⟨v, rfl, hLR, hb2⟩
  obtain ⟨A2, c2, rfl⟩ := hLR.slice
  have HLN := Lib.hid hLR.lines
  have HL2 := Lib.hid (HL.out.below hb2)
  have HW2 := Lib.hid hb2
  clear P hLR hb2 hR
  simp only at HG HLN
  rcases HG with ⟨rfl, rfl, hlen, hgood⟩ | ⟨hne, rfl, hn⟩
  · have HWF := Lib.hid (show ∀ l ∈ ls, WfL l from fun l hl => (hgood l hl).1)
    have h0 := print_of hlen hgood
    have HSH := Lib.hid (show ∀ l ∈ ls, l.list.length ≤ 400 from fun l hl => may_short (hgood l hl).2)
    have HP := Lib.hid (parse_print HWF.out h0)
    have HSZ := Lib.hid (print_size HWF.out h0)
    clear hgood
    go_wp2_with fail
    refine (print_any ls A2 c2 w2 HL2.out HLN.out HWF.out).mono ?_
    rintro e w3 ⟨rfl, hb3⟩
    have HL3 := Lib.hid (HL2.out.below hb3)
    have HLN3 := Lib.hid (HLN.out.below hb3)
    have HW3 := Lib.hid (bj HW2.out hb3)
    clear hb3
    rw [h0]
    go_wp2_with fail
    have Q := parse_any (baL (printP ls).1) w3 HL3.out HSZ.out
    rw [HP.out] at Q
    refine Q.mono ?_
    rintro e w4 ⟨v, rfl, hLR, hb4⟩
    obtain ⟨A4, c4, rfl⟩ := hLR.slice
    have HLR := Lib.hid hLR.lines
    have HL4 := Lib.hid (HL3.out.below hb4)
    have HLN4 := Lib.hid (HLN3.out.below hb4)
    have HW4 := Lib.hid (bj HW3.out hb4)
    clear Q hLR hb4
    go_wp2_with fail
    refine (live_any _ HL4.out).mono ?_
    rintro e w5 ⟨rfl, hb5⟩
    have HLR5 := Lib.hid (HLR.out.below hb5)
    have HLN5 := Lib.hid (HLN4.out.below hb5)
    have HW5 := Lib.hid (bj HW4.out hb5)
    clear hb5
    go_wp2_with fail
    refine (same_lines ls A4 A2 c4 c2 _ HLR5.out HLN5.out (by omega) (fun l hl => by have := HSH.out l hl; omega)).mono ?_
    rintro e w6 ⟨rfl, hb6⟩
    have HW6 := Lib.hid (bj HW5.out hb6)
    clear hb6
    go_wp2_with fail
    go_ret
    exact ⟨rfl, HW6.out⟩
  · have hb : (er == 0) = false := beq_eq_false_iff_ne.mpr hne
    have hn0 : decide (0 ≤ n) = true := decide_eq_true hn
    go_wp2_with fail
    refine (live_any _ HL2.out).mono ?_
    rintro e w4 ⟨rfl, hb4⟩
    have HW4 := Lib.hid (bj HW2.out hb4)
    clear hb4
    go_wp2_with fail
    go_ret
    exact ⟨rfl, HW4.out⟩

end Go.Proofs.YtlhgfhmdhmgmpaaDoor
