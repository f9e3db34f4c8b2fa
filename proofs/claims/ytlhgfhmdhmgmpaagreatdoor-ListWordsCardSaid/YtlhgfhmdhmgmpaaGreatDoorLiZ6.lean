/- list's law ListWords: walked. -/
import Derived.Test.YtlhgfhmdhmgmpaaGreatDoorLiZ0
import Derived.Test.YtlhgfhmdhmgmpaaGreatDoorRxS
set_option linter.unusedVariables false
set_option linter.unusedSimpArgs false
namespace Go.Proofs.YtlhgfhmdhmgmpaaGreatDoor
open Go.RowKit Go.Proofs.YtlhgfhmdhmgmpaaGreatDoorW.PrintWords Go.Joins Go.Maps

theorem asm_few {ls : List Line} (hsz : Sized ls) (hn : ls.length ≤ 60000) : (asm ls).words.length ≤ 100000000 ∧ (asm ls).kinds.length ≤ 100000000 ∧ (asm ls).places.length ≤ 100000000 := by
  have h1 := wordsOf_len ls (fin ls).1 hsz ls.length
  have h2 := kindsOf_len ls (fin ls).1 hsz ls.length
  unfold asm
  split
  · exact ⟨Nat.zero_le _, Nat.zero_le _, Nat.zero_le _⟩
  · split
    · exact ⟨Nat.zero_le _, Nat.zero_le _, Nat.zero_le _⟩
    · refine ⟨?_, ?_, ?_⟩
      · show (wordsOf _ _ _).length ≤ _; omega
      · show (kindsOf _ _ _).length ≤ _; omega
      · show ((List.range _).map _).length ≤ _; rw [List.length_map, List.length_range]; omega

theorem wf_lit {n : Int} (h0 : -9223372036854775808 ≤ n) (h1 : n ≤ 9223372036854775807) : (Lit.int .i64 n).wf = true := by
  simp [Lit.wf, IntKind.min, IntKind.max, IntKind.signed, IntKind.bits]; omega

set_option maxRecDepth 100000 in
set_option maxHeartbeats 4000000 in
theorem listWords_any (ls : List Line) (A : Option Addr) (c : Nat) (w : World) (hL : LLaid w) (hl : Lines w (.slice A ls.length c) ls) (hwf : ∀ l ∈ ls, WfL l) :
    Calls Tryz.prog 6 #[.slice A ls.length c] w fun e w' => e = .returned (.bool true) ∧ Below w.heap.size w w' := by
  have HL := Lib.hid hL
  have HLN := Lib.hid hl
  have HWF := Lib.hid hwf
  clear hL hl hwf
  go_enter Tryz.func6, Tryz.ntmps6
  go_wp2_with fail
  have P := print_any ls A c w HL.out HLN.out HWF.out
  refine P.mono ?_
  rintro e w2 ⟨rfl, hb2⟩
  have HL2 := Lib.hid (HL.out.below hb2)
  have HLN2 := Lib.hid (HLN.out.below hb2)
  have HW2 := Lib.hid hb2
  clear P hb2
  by_cases h0 : (printP ls).2 = 0
  · rw [h0]
    have HP := Lib.hid (parse_print HWF.out h0)
    have HSZ := Lib.hid (print_size HWF.out h0)
    have hg := print_good h0
    have hn := hg.1
    have HWW := Lib.hid (show ∀ l ∈ ls, (Lit.int .i64 l.label).wf = true ∧ ∀ x ∈ l.list, (Lit.int .i64 x).wf = true from fun l hl => by
      have h := HWF.out l hl
      exact ⟨wf_lit h.l0 h.l1, fun x hx => by have := h.ls x hx; exact wf_lit this.1 this.2⟩)
    have HSMALL := Lib.hid (asm_few (show Sized ls from ⟨hn, fun l hl => may_short (List.all_eq_true.1 hg.2.1 l hl), fun l hl => (HWW.out l hl).1⟩) hn)
    clear hg hn
    go_wp2_with fail
    have Q := parse_any (baL (printP ls).1) w2 HL2.out HSZ.out
    rw [HP.out] at Q
    refine Q.mono ?_
    rintro e w3 ⟨v, rfl, hLR, hb3⟩
    obtain ⟨A3, c3, rfl⟩ := hLR.slice
    have HLR := Lib.hid hLR.lines
    have HL3 := Lib.hid (HL2.out.below hb3)
    have HLN3 := Lib.hid (HLN2.out.below hb3)
    have HW3 := Lib.hid (bj HW2.out hb3)
    clear Q hLR hb3 h0 HP HSZ
    obtain ⟨a, ha⟩ : ∃ a, asm ls = a := ⟨_, rfl⟩
    have HA := Lib.hid ha
    rw [ha] at HSMALL
    go_wp2_with fail
    have Q := asm_any ls _ w3 HL3.out.forms HLN3.out HWW.out
    rw [ha] at Q
    clear ha
    refine Q.mono ?_
    rintro e w4 ⟨wv, kv, pv, rfl, hat, hb4⟩
    have RD := Lib.hid (show AsmRd w4 a.words a.kinds a.places wv kv pv from ⟨Nums.own hat.ow HSMALL.out.1, Nums.own hat.ok HSMALL.out.2.1, Nums.own hat.op HSMALL.out.2.2⟩)
    have HL4 := Lib.hid (HL3.out.below hb4)
    have HLR4 := Lib.hid (HLR.out.below hb4)
    have HW4 := Lib.hid (bj HW3.out hb4)
    clear Q hat hb4
    obtain ⟨AW, cW, rfl, -, -⟩ := id RD.out.nw
    obtain ⟨AK, cK, rfl, -, -⟩ := id RD.out.nk
    obtain ⟨AP, cP, rfl, -, -⟩ := id RD.out.np
    have HBA := Lib.hid (show Below w4.heap.size w4 (w4.alloc (.cells #[.slice AW a.words.length cW, .slice AK a.kinds.length cK, .slice AP a.places.length cP, .int .i64 a.rounds] 43)) from (Below.refl _ _).alloc (Nat.le_refl _) _)
    have BK := Lib.hid (heap_alloc_new w4 (.cells #[.slice AW a.words.length cW, .slice AK a.kinds.length cK, .slice AP a.places.length cP, .int .i64 a.rounds] 43))
    go_wp2_with fail
    have Q := asm_any ls _ _ (HL4.out.below HBA.out).forms (HLR4.out.below HBA.out) HWW.out
    rw [HA.out] at Q
    refine Q.mono ?_
    rintro e w5 ⟨wv2, kv2, pv2, rfl, hat, hb5⟩
    have RE := Lib.hid (show AsmRd w5 a.words a.kinds a.places wv2 kv2 pv2 from ⟨Nums.own hat.ow HSMALL.out.1, Nums.own hat.ok HSMALL.out.2.1, Nums.own hat.op HSMALL.out.2.2⟩)
    have HL5 := Lib.hid ((HL4.out.below HBA.out).below hb5)
    have RD5 := Lib.hid ((RD.out.below HBA.out).below hb5)
    have BK5 := Lib.hid (below_blk hb5 BK.out)
    have HW5 := Lib.hid (bj (bj HW4.out HBA.out) hb5)
    clear Q hat hb5
    obtain ⟨AW2, cW2, rfl, -, -⟩ := id RE.out.nw
    obtain ⟨AK2, cK2, rfl, -, -⟩ := id RE.out.nk
    obtain ⟨AP2, cP2, rfl, -, -⟩ := id RE.out.np
    have HBC := Lib.hid (show Below w5.heap.size w5 (w5.alloc (.cells #[.slice AW2 a.words.length cW2, .slice AK2 a.kinds.length cK2, .slice AP2 a.places.length cP2, .int .i64 a.rounds] 43)) from (Below.refl _ _).alloc (Nat.le_refl _) _)
    have BL := Lib.hid (heap_alloc_new w5 (.cells #[.slice AW2 a.words.length cW2, .slice AK2 a.kinds.length cK2, .slice AP2 a.places.length cP2, .int .i64 a.rounds] 43))
    go_wp2_with fail
    refine (live_any _ (HL5.out.below HBC.out)).mono ?_
    rintro e w6 ⟨rfl, hb6⟩
    have RD6 := Lib.hid ((RD5.out.below HBC.out).below hb6)
    have RE6 := Lib.hid ((RE.out.below HBC.out).below hb6)
    have HW6 := Lib.hid (bj (bj HW5.out HBC.out) hb6)
    have c1 := cell_of_block (below_blk hb6 (below_blk HBC.out BK5.out))
    have c2 := cell_of_block (below_blk hb6 BL.out)
    have q0 := c1 0
    have q1 := c1 1
    have q2 := c1 2
    have q3 := c1 3
    have r0 := c2 0
    have r1 := c2 1
    have r2 := c2 2
    have r3 := c2 3
    clear hb6 c1 c2
    simp only [show ∀ (x0 x1 x2 x3 : Value), (#[x0, x1, x2, x3] : Array Value)[0]? = some x0 from fun _ _ _ _ => rfl, show ∀ (x0 x1 x2 x3 : Value), (#[x0, x1, x2, x3] : Array Value)[1]? = some x1 from fun _ _ _ _ => rfl, show ∀ (x0 x1 x2 x3 : Value), (#[x0, x1, x2, x3] : Array Value)[2]? = some x2 from fun _ _ _ _ => rfl, show ∀ (x0 x1 x2 x3 : Value), (#[x0, x1, x2, x3] : Array Value)[3]? = some x3 from fun _ _ _ _ => rfl] at q0 q1 q2 q3 r0 r1 r2 r3
    go_wp2_with fail
    refine (same_any _ _ _ _ _ _ _ _ _ _ _ _ _ _ _ RD6.out RE6.out).mono ?_
    rintro e w7 ⟨rfl, hb7⟩
    have HW7 := Lib.hid (bj HW6.out hb7)
    clear hb7
    rw [decide_eq_true (show (a.rounds : Int) = a.rounds ∧ a.words = a.words ∧ a.kinds = a.kinds ∧ a.places = a.places from ⟨rfl, rfl, rfl, rfl⟩)]
    go_wp2_with fail
    go_ret
    exact ⟨rfl, HW7.out⟩
  · have hf := print_fail h0
    have hb := print_bad h0
    rw [hf]
    go_wp2_with fail
    refine (live_any _ HL2.out).mono ?_
    rintro e w4 ⟨rfl, hb4⟩
    have HW4 := Lib.hid (bj HW2.out hb4)
    clear hb4
    go_wp2_with fail
    go_ret
    exact ⟨rfl, HW4.out⟩

end Go.Proofs.YtlhgfhmdhmgmpaaGreatDoor
