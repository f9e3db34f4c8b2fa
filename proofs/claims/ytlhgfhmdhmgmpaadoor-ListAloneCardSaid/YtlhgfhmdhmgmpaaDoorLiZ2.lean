/- list's law ListAlone: walked. -/
import Derived.Test.YtlhgfhmdhmgmpaaDoorLiZ1
set_option linter.unusedVariables false
set_option linter.unusedSimpArgs false
namespace Go.Proofs.YtlhgfhmdhmgmpaaDoor
open Go.RowKit Go.Proofs.YtlhgfhmdhmgmpaaDoorW.PrintWords Go.Joins Go.Maps

theorem add_twice (a : Addr) (i j : Nat) : (a.add i).add j = a.add (i + j) := by
  unfold Addr.add
  split <;> split <;> simp_all [Nat.add_assoc]

theorem Lines.part {w : World} {A : Option Addr} {n c : Nat} {ls : List Line} (h : Lines w (.slice A n c) ls) (i : Nat) (hi : i < n) (c' : Nat) :
    ∃ ad l, A = some ad ∧ ls[i]? = some l ∧ Lines w (.slice (some (ad.add (i * 7))) 1 c') [l] := by
  obtain ⟨A', c0, e, hr⟩ := h
  injection e with e1 e2 e3
  subst e1; subst e2
  obtain ⟨ad, rfl, hc⟩ := hr.2.2 (by omega)
  obtain ⟨cs, hs, hk, hcell⟩ := hc i (ls[i]) (List.getElem?_eq_getElem hi)
  refine ⟨ad, ls[i], rfl, List.getElem?_eq_getElem hi, some (ad.add (i * 7)), c', rfl, rfl, by simp, fun _ => ⟨ad.add (i * 7), rfl, fun j x hx => ?_⟩⟩
  have hj : j = 0 := by have := (List.getElem?_eq_some_iff.1 hx).1; simpa using this
  subst hj
  cases hx
  refine ⟨cs, hs, hk, fun k u hu => ?_⟩
  have := hcell k u hu
  rw [add_twice, Nat.zero_mul, Nat.zero_add]
  exact this

theorem Lines.take {w : World} {A : Option Addr} {n c : Nat} {ls : List Line} (h : Lines w (.slice A n c) ls) (k : Nat) (hk : k ≤ n) (c' : Nat) : Lines w (.slice A k c') (ls.take k) ∧ (ls.take k).length = k := by
  obtain ⟨A', c0, e, hr⟩ := h
  injection e with e1 e2 e3
  subst e1; subst e2
  have hl : (ls.take k).length = k := by rw [List.length_take]; omega
  refine ⟨⟨A, c', by rw [hl], rfl, by rw [hl]; have := hr.2.1; omega, fun hp => ?_⟩, hl⟩
  rw [hl] at hp
  obtain ⟨ad, e, hc⟩ := hr.2.2 (by omega)
  refine ⟨ad, e, fun j x hx => hc j x ?_⟩
  rw [List.getElem?_take] at hx
  split at hx
  · exact hx
  · cases hx

set_option maxRecDepth 100000 in
set_option maxHeartbeats 4000000 in
theorem alone_any (ls : List Line) (A : Option Addr) (c : Nat) (w : World) (hL : LLaid w) (hl : Lines w (.slice A ls.length c) ls) (hwf : ∀ l ∈ ls, WfL l) (hcap : ls.length ≤ c) :
    Calls Tryd.prog 7 #[.slice A ls.length c] w fun e w' => e = .returned (.bool true) ∧ Below w.heap.size w w' := by
  have HL := Lib.hid hL
  have HLN := Lib.hid hl
  have HWF := Lib.hid hwf
  clear hL hl hwf
  by_cases h500 : 500 < ls.length
  · have hd : decide ((500 : Int) < (ls.length : Int)) = true := decide_eq_true (by omega)
    obtain ⟨ad, l0, _, hA, _⟩ := HLN.out.at_ 0 (by omega)
    subst hA
    have hT := HLN.out.take 500 (by omega) c
    have HT := Lib.hid hT.1
    have hTl := hT.2
    have HTW := Lib.hid (show ∀ l ∈ ls.take 500, WfL l from fun l hl => HWF.out l (List.mem_of_mem_take hl))
    clear hT
    generalize ls.take 500 = LS at HT hTl HTW
    go_enter Tryd.func7, Tryd.ntmps7
    go_wp2_with fail
    go_loopw [3] (fun s wr => ∃ i : Nat, i ≤ 500 ∧ s = .int .i64 i ∧ Hid (Below w.heap.size w wr)) (fun s _ => 500 - (intOf s).toNat)
    case atStart => exact ⟨0, Nat.zero_le _, rfl, Lib.hid (Below.refl _ _)⟩
    case round =>
      obtain ⟨i, hi, rfl, HB⟩ := hrel
      by_cases hlt : i < 500
      · obtain ⟨ad', l, hA, hli, hp⟩ := (HT.out.below HB.out).part i hlt (c - i)
        cases hA
        have HP := Lib.hid hp
        have HPW := Lib.hid (show ∀ m ∈ [l], WfL m from fun m hm => by rw [List.mem_singleton.1 hm]; exact HTW.out l (List.mem_of_getElem? hli))
        clear hp
        have hi1 : (i : Int) < 500 := by omega
        go_wp2_with fail
        refine (print_any [l] _ (c - i) _ (HL.out.below HB.out) HP.out HPW.out).mono ?_
        rintro e w2 ⟨rfl, hb2⟩
        have HL2 := Lib.hid ((HL.out.below HB.out).below hb2)
        have HP2 := Lib.hid (HP.out.below hb2)
        have HW2 := Lib.hid (bj HB.out hb2)
        clear hb2
        by_cases h0 : (printP [l]).2 = 0
        · rw [h0]
          have HPP := Lib.hid (parse_print HPW.out h0)
          have HSZ := Lib.hid (print_size HPW.out h0)
          have HG := Lib.hid (print_good h0)
          go_wp2_with fail
          have Q := parse_any (baL (printP [l]).1) w2 HL2.out HSZ.out
          rw [HPP.out] at Q
          refine Q.mono ?_
          rintro e w3 ⟨v, rfl, hLR, hb3⟩
          obtain ⟨A3, c3, rfl⟩ := hLR.slice
          have HLR := Lib.hid hLR.lines
          have HW3 := Lib.hid (bj HW2.out hb3)
          have HP3 := Lib.hid (HP2.out.below hb3)
          clear Q hLR hb3
          go_wp2_with fail
          refine (same_lines [l] A3 _ c3 (c - i) _ HLR.out HP3.out (by simp) (fun m hm => by have := may_short (List.all_eq_true.1 HG.out.2.1 m hm); omega)).mono ?_
          rintro e w5 ⟨rfl, hb5⟩
          have HW5 := Lib.hid (bj HW3.out hb5)
          clear hb5
          go_wp2_with fail
          exact ⟨⟨i + 1, by omega, by go_num, HW5⟩, by simp [intOf]; omega⟩
        · have hb := print_bad h0
          go_wp2_with fail
          refine (live_any _ HL2.out).mono ?_
          rintro e w4 ⟨rfl, hb4⟩
          have HW4 := Lib.hid (bj HW2.out hb4)
          clear hb4
          go_wp2_with fail
          go_ret
          exact ⟨rfl, HW4.out⟩
      · go_wp2_with fail
        refine (live_any _ (HL.out.below HB.out)).mono ?_
        rintro e w4 ⟨rfl, hb4⟩
        have HW4 := Lib.hid (bj HB.out hb4)
        clear hb4
        go_wp2_with fail
        go_ret
        exact ⟨rfl, HW4.out⟩
  · have hd : decide ((500 : Int) < (ls.length : Int)) = false := decide_eq_false (by omega)
    go_enter Tryd.func7, Tryd.ntmps7
    go_wp2_with fail
    go_loopw [3] (fun s wr => ∃ i : Nat, i ≤ ls.length ∧ s = .int .i64 i ∧ Hid (Below w.heap.size w wr)) (fun s _ => ls.length - (intOf s).toNat)
    case atStart => exact ⟨0, Nat.zero_le _, rfl, Lib.hid (Below.refl _ _)⟩
    case round =>
      obtain ⟨i, hi, rfl, HB⟩ := hrel
      by_cases hlt : i < ls.length
      · obtain ⟨ad', l, hA, hli, hp⟩ := (HLN.out.below HB.out).part i hlt (c - i)
        subst hA
        have HP := Lib.hid hp
        have HPW := Lib.hid (show ∀ m ∈ [l], WfL m from fun m hm => by rw [List.mem_singleton.1 hm]; exact HWF.out l (List.mem_of_getElem? hli))
        clear hp
        have hi1 : (i : Int) < (ls.length : Int) := by omega
        go_wp2_with fail
        refine (print_any [l] _ (c - i) _ (HL.out.below HB.out) HP.out HPW.out).mono ?_
        rintro e w2 ⟨rfl, hb2⟩
        have HL2 := Lib.hid ((HL.out.below HB.out).below hb2)
        have HP2 := Lib.hid (HP.out.below hb2)
        have HW2 := Lib.hid (bj HB.out hb2)
        clear hb2
        by_cases h0 : (printP [l]).2 = 0
        · rw [h0]
          have HPP := Lib.hid (parse_print HPW.out h0)
          have HSZ := Lib.hid (print_size HPW.out h0)
          have HG := Lib.hid (print_good h0)
          go_wp2_with fail
          have Q := parse_any (baL (printP [l]).1) w2 HL2.out HSZ.out
          rw [HPP.out] at Q
          refine Q.mono ?_
          rintro e w3 ⟨v, rfl, hLR, hb3⟩
          obtain ⟨A3, c3, rfl⟩ := hLR.slice
          have HLR := Lib.hid hLR.lines
          have HW3 := Lib.hid (bj HW2.out hb3)
          have HP3 := Lib.hid (HP2.out.below hb3)
          clear Q hLR hb3
          go_wp2_with fail
          refine (same_lines [l] A3 _ c3 (c - i) _ HLR.out HP3.out (by simp) (fun m hm => by have := may_short (List.all_eq_true.1 HG.out.2.1 m hm); omega)).mono ?_
          rintro e w5 ⟨rfl, hb5⟩
          have HW5 := Lib.hid (bj HW3.out hb5)
          clear hb5
          go_wp2_with fail
          exact ⟨⟨i + 1, by omega, by go_num, HW5⟩, by simp [intOf]; omega⟩
        · have hb := print_bad h0
          go_wp2_with fail
          refine (live_any _ HL2.out).mono ?_
          rintro e w4 ⟨rfl, hb4⟩
          have HW4 := Lib.hid (bj HW2.out hb4)
          clear hb4
          go_wp2_with fail
          go_ret
          exact ⟨rfl, HW4.out⟩
      · go_wp2_with fail
        refine (live_any _ (HL.out.below HB.out)).mono ?_
        rintro e w4 ⟨rfl, hb4⟩
        have HW4 := Lib.hid (bj HB.out hb4)
        clear hb4
        go_wp2_with fail
        go_ret
        exact ⟨rfl, HW4.out⟩

end Go.Proofs.YtlhgfhmdhmgmpaaDoor
