/- list's law ListBlanks: walked. -/
import Derived.Test.YtlhgfhmdhmgmpaaDoorLiZ1
import Derived.Test.YtlhgfhmdhmgmpaaDoorLpH
set_option linter.unusedVariables false
set_option linter.unusedSimpArgs false
namespace Go.Proofs.YtlhgfhmdhmgmpaaDoor
open Go.RowKit Go.Proofs.YtlhgfhmdhmgmpaaDoorW.PrintWords Go.Joins Go.Maps

theorem pick_any (c : Int) (w : World) (h0 : -9223372036854775808 ≤ c) (h1 : c ≤ 9223372036854775807) :
    Calls Tryd.prog 12 #[.int .i64 c, .int .i64 6] w fun e w' => e = .returned (.int .i64 (pickP c)) ∧ Below w.heap.size w w' := by
  unfold pickP
  by_cases hc : c < 0
  · rw [if_pos hc, Int.neg_tmod]
    go_enter Tryd.func12, Tryd.ntmps12
    go_wp2_with fail
    go_ret
    exact ⟨rfl, Below.refl _ _⟩
  · rw [if_neg hc, Int.tmod_eq_emod_of_nonneg (by omega)]
    go_enter Tryd.func12, Tryd.ntmps12
    go_wp2_with fail
    go_ret
    exact ⟨rfl, Below.refl _ _⟩

theorem baL_cat (a b : List UInt8) : baL a ++ baL b = baL (a ++ b) := ba_cat a b

theorem baL_get (l : List UInt8) (i : Nat) (x : UInt8) (hx : l[i]? = some x) : ∀ h : i < (baL l).size, (((baL l)[i]'h).toNat : Int) = (x.toNat : Int) := by
  intro h
  obtain ⟨h1, h2⟩ := List.getElem?_eq_some_iff.1 hx
  rw [← h2]
  rfl

theorem baL_cut (l : List UInt8) (i : Nat) (x : UInt8) (hx : l[i]? = some x) : (baL l).extract i (i + 1) = baL [x] := by
  obtain ⟨h1, h2⟩ := List.getElem?_eq_some_iff.1 hx
  apply ByteArray.ext
  apply Array.toList_inj.1
  rw [Lib.extract_data, baL_list, baL_list, List.drop_eq_getElem_cons h1, h2, Nat.add_sub_cancel_left]
  rfl

/-- One byte more: its piece, and the rest. -/
theorem blank_step {how : List Int} {n i : Nat} {L u T : List UInt8} {x : UInt8} (hx : L[i]? = some x) (h : u ++ blankB how n (L.drop i) = T) :
    (gapB how x = true → (u ++ pieceB x (kAt how n)) ++ blankB how (n + 1) (L.drop (i + 1)) = T) ∧ (gapB how x = false → (u ++ [x]) ++ blankB how n (L.drop (i + 1)) = T) := by
  obtain ⟨h1, h2⟩ := List.getElem?_eq_some_iff.1 hx
  rw [List.drop_eq_getElem_cons h1, h2, blankB] at h
  constructor
  · intro hg
    rw [if_pos hg, ← List.append_assoc] at h
    exact h
  · intro hg
    rw [hg, if_neg (by simp)] at h
    rw [List.append_assoc]
    exact h

theorem piece_other (x : UInt8) (k : Int) (h32 : x = 32 → k ≠ 1 ∧ k ≠ 2) (h10 : x = 10 → k ≠ 1 ∧ k ≠ 2 ∧ k ≠ 3) : pieceB x k = [x] := by
  unfold pieceB
  rw [if_neg (fun h => (h32 h.1).1 h.2), if_neg (fun h => (h32 h.1).2 h.2), if_neg (fun h => (h10 h.1).1 h.2), if_neg (fun h => (h10 h.1).2.1 h.2), if_neg (fun h => (h10 h.1).2.2 h.2)]

set_option maxRecDepth 100000 in
set_option maxHeartbeats 16000000 in
theorem blanks_any (ls : List Line) (A : Option Addr) (c : Nat) (how : List Int) (A1 : Option Addr) (c1 : Nat) (w : World) (hL : LLaid w) (hl : Lines w (.slice A ls.length c) ls) (hwf : ∀ l ∈ ls, WfL l) (hk : kInt.C w A1 how.length how) (hkw : ∀ y ∈ how, (Lit.int .i64 y).wf = true) :
    Calls Tryd.prog 5 #[.slice A ls.length c, .slice A1 how.length c1] w fun e w' => e = .returned (.bool true) ∧ Below w.heap.size w w' := by
  have HL := Lib.hid hL
  have HLN := Lib.hid hl
  have HWF := Lib.hid hwf
  have HK := Lib.hid hk
  have HKW := Lib.hid hkw
  clear hL hl hwf hk hkw
  go_enter Tryd.func5, Tryd.ntmps5
  go_wp2_with fail
  refine (print_any ls A c w HL.out HLN.out HWF.out).mono ?_
  rintro e w2 ⟨rfl, hb2⟩
  have HL2 := Lib.hid (HL.out.below hb2)
  have HLN2 := Lib.hid (HLN.out.below hb2)
  have HK2 := Lib.hid (Kd.C_below HK.out hb2)
  have HW2 := Lib.hid hb2
  clear hb2
  by_cases h0 : (printP ls).2 = 0
  · rw [h0]
    have HP := Lib.hid (parse_blanks how HWF.out h0)
    have HSZ := Lib.hid (blank_size how HWF.out h0)
    have HG := Lib.hid (print_good h0)
    rw [show (⟨(printP ls).1.toArray⟩ : ByteArray) = baL (printP ls).1 from rfl]
    have HGL := Lib.hid (show ls.length ≤ 60000 from HG.out.1)
    have HGM := Lib.hid (fun l hl => may_short (List.all_eq_true.1 HG.out.2.1 l hl))
    clear HG
    generalize (printP ls).1 = L at HP HSZ
    obtain ⟨T, hT⟩ : ∃ T, blankB how 0 L = T := ⟨_, rfl⟩
    rw [hT] at HP HSZ
    have HTT := Lib.hid hT
    clear hT
    have hls : L.length ≤ 4294967290 := HSZ.out.2
    have hsz : (baL L).size = L.length := baL_size L
    go_wp2_with fail
    go_loopw [7, 8, 9] (fun v7 v8 v9 wr => ∃ (u : List UInt8) (n i : Nat), v7 = .string (baL u) ∧ v8 = .int .i64 n ∧ v9 = .int .i64 i ∧ i ≤ L.length ∧ n ≤ i ∧ Hid (u ++ blankB how n (L.drop i) = T) ∧ Hid (Below w2.heap.size w2 wr)) (fun _ _ v9 _ => L.length - (intOf v9).toNat)
    case atStart => exact ⟨[], 0, 0, rfl, rfl, rfl, Nat.zero_le _, Nat.le_refl _, HTT, Lib.hid (Below.refl _ _)⟩
    case round =>
      obtain ⟨u, n, i, rfl, rfl, rfl, hi, hn, HU, HB⟩ := hrel
      by_cases hlt : i < L.length
      · obtain ⟨x, hx⟩ : ∃ x, L[i]? = some x := ⟨_, List.getElem?_eq_getElem hlt⟩
        have hxi := baL_get L i x hx
        have hcut := baL_cut L i x hx
        have hi1 : (i : Int) < (L.length : Int) := by omega
        have hi2 : (i : Int) < ((baL L).size : Int) := by omega
        have hul : u.length ≤ 4294967290 := by
          have h := congrArg List.length HU.out
          rw [List.length_append] at h
          have := HSZ.out.1
          omega
        have hsu : (baL u).size = u.length := baL_size u
        have hs1 : (9223372036854775807 < u.length + (baL [x]).size) = False := eq_false (by rw [baL_size]; simp only [List.length_cons, List.length_nil]; omega)
        have hs2 : (9223372036854775807 < u.length + 2) = False := eq_false (by omega)
        have hs3 : (9223372036854775807 < u.length + 3) = False := eq_false (by omega)
        have hs7 : (9223372036854775807 < u.length + 7) = False := eq_false (by omega)
        have hs17 : (9223372036854775807 < u.length + 17) = False := eq_false (by omega)
        have STEP := Lib.hid (blank_step hx HU.out)
        by_cases hw : how = []
        · subst hw
          have hg : gapB [] x = false := rfl
          by_cases h32 : x = 32
          · subst h32
            have hxc : ∀ h : i < (baL L).size, (((baL L)[i]'h).toNat : Int) = 32 := hxi
            have hg : gapB [] 32 = false := rfl
            have HU2 := Lib.hid (show (u ++ [32]) ++ blankB [] (n) (L.drop (i + 1)) = T from by
              exact STEP.out.2 hg)
            go_wp2_with fail
            go_roundw
            case rel => exact ⟨u ++ [32], n, i + 1, congrArg Value.string (baL_cat u [32]), by go_num, by go_num, by omega, by omega, HU2, HB⟩
            case measure => simp [intOf]; omega
          · by_cases h10 : x = 10
            · subst h10
              have hxc : ∀ h : i < (baL L).size, (((baL L)[i]'h).toNat : Int) = 10 := hxi
              have hg : gapB [] 10 = false := rfl
              have HU2 := Lib.hid (show (u ++ [10]) ++ blankB [] (n) (L.drop (i + 1)) = T from by
                exact STEP.out.2 hg)
              go_wp2_with fail
              go_roundw
              case rel => exact ⟨u ++ [10], n, i + 1, congrArg Value.string (baL_cat u [10]), by go_num, by go_num, by omega, by omega, HU2, HB⟩
              case measure => simp [intOf]; omega
            · have b32 : ((x.toNat : Int) == 32) = false := beq_eq_false_iff_ne.mpr (fun e => h32 (UInt8.toNat_inj.1 (by show x.toNat = 32; omega)))
              have b10 : ((x.toNat : Int) == 10) = false := beq_eq_false_iff_ne.mpr (fun e => h10 (UInt8.toNat_inj.1 (by show x.toNat = 10; omega)))
              have hg : gapB [] x = false := gap_no _ h32 h10
              have HU2 := Lib.hid (show (u ++ [x]) ++ blankB [] (n) (L.drop (i + 1)) = T from by
                exact STEP.out.2 hg)
              go_wp2_with fail
              go_roundw
              case rel => exact ⟨u ++ [x], n, i + 1, congrArg Value.string (baL_cat u [x]), by go_num, by go_num, by omega, by omega, HU2, HB⟩
              case measure => simp [intOf]; omega
        · have hpos : 0 < how.length := List.length_pos_iff.2 hw
          have hhl : (0 : Int) < (how.length : Int) := by omega
          obtain ⟨ad, y, hA1, hy, hcell⟩ := kints_at (Kd.C_below HK2.out HB.out) (n % how.length) (Nat.mod_lt _ hpos)
          subst hA1
          have HHY := Lib.hid hy
          have hyw := bounds_i64 (HKW.out y (List.mem_of_getElem? hy))
          have hkat : kAt how n = pickP y := by unfold kAt; rw [List.getD_eq_getElem?_getD, hy]; rfl
          obtain ⟨m, hm⟩ : ∃ m, n % how.length = m := ⟨_, rfl⟩
          have hml : m < how.length := by rw [← hm]; exact Nat.mod_lt _ hpos
          have hmi : (n : Int) % (how.length : Int) = (m : Int) := by rw [← hm]; exact (Int.natCast_emod n how.length).symm
          have hmt : (n : Int).tmod (how.length : Int) = (m : Int) := by rw [Int.tmod_eq_emod_of_nonneg (by omega)]; exact hmi
          have hm0 : (0 : Int) ≤ (m : Int) := by omega
          have hm1 : (m : Int) < (how.length : Int) := by omega
          have hh0 : ((how.length : Int) == 0) = false := beq_eq_false_iff_ne.mpr (by omega)
          rw [hm] at hcell
          have HHM := Lib.hid hm
          clear hm hy
          by_cases h32 : x = 32
          · subst h32
            have hxc : ∀ h : i < (baL L).size, (((baL L)[i]'h).toNat : Int) = 32 := hxi
            have hg : gapB how 32 = true := by unfold gapB; simp [hw]
            go_wp2_with fail
            refine (pick_any y _ hyw.1 hyw.2).mono ?_
            rintro e w3 ⟨rfl, hb3⟩
            have HB3 := Lib.hid (bj HB.out hb3)
            clear hb3
            by_cases h1 : pickP y = 1
            · rw [h1]
              have HU2 := Lib.hid (show (u ++ [9, 32]) ++ blankB how (n + 1) (L.drop (i + 1)) = T from by
                have h := STEP.out.1 hg
                rw [hkat, h1] at h
                exact h)
              go_wp2_with fail
              go_roundw
              case rel => exact ⟨u ++ [9, 32], n + 1, i + 1, congrArg Value.string (baL_cat u [9, 32]), by go_num, by go_num, by omega, by omega, HU2, HB3⟩
              case measure => simp [intOf]; omega
            · have b1 : (pickP y == 1) = false := beq_eq_false_iff_ne.mpr h1
              by_cases h2 : pickP y = 2
              · rw [h2]
                have HU2 := Lib.hid (show (u ++ [32, 32, 32]) ++ blankB how (n + 1) (L.drop (i + 1)) = T from by
                  have h := STEP.out.1 hg
                  rw [hkat, h2] at h
                  exact h)
                go_wp2_with fail
                go_roundw
                case rel => exact ⟨u ++ [32, 32, 32], n + 1, i + 1, congrArg Value.string (baL_cat u [32, 32, 32]), by go_num, by go_num, by omega, by omega, HU2, HB3⟩
                case measure => simp [intOf]; omega
              · have b2 : (pickP y == 2) = false := beq_eq_false_iff_ne.mpr h2
                have HU2 := Lib.hid (show (u ++ [32]) ++ blankB how (n + 1) (L.drop (i + 1)) = T from by
                  have h := STEP.out.1 hg
                  rw [hkat, piece_other 32 _ (fun _ => ⟨h1, h2⟩) (fun e => absurd e (by decide))] at h
                  exact h)
                go_wp2_with fail
                go_roundw
                case rel => exact ⟨u ++ [32], n + 1, i + 1, congrArg Value.string (baL_cat u [32]), by go_num, by go_num, by omega, by omega, HU2, HB3⟩
                case measure => simp [intOf]; omega
          · by_cases h10 : x = 10
            · subst h10
              have hxc : ∀ h : i < (baL L).size, (((baL L)[i]'h).toNat : Int) = 10 := hxi
              have hg : gapB how 10 = true := by unfold gapB; simp [hw]
              go_wp2_with fail
              refine (pick_any y _ hyw.1 hyw.2).mono ?_
              rintro e w3 ⟨rfl, hb3⟩
              have HB3 := Lib.hid (bj HB.out hb3)
              clear hb3
              by_cases h1 : pickP y = 1
              · rw [h1]
                have HU2 := Lib.hid (show (u ++ [32, 10]) ++ blankB how (n + 1) (L.drop (i + 1)) = T from by
                  have h := STEP.out.1 hg
                  rw [hkat, h1] at h
                  exact h)
                go_wp2_with fail
                go_roundw
                case rel => exact ⟨u ++ [32, 10], n + 1, i + 1, congrArg Value.string (baL_cat u [32, 10]), by go_num, by go_num, by omega, by omega, HU2, HB3⟩
                case measure => simp [intOf]; omega
              · have b1 : (pickP y == 1) = false := beq_eq_false_iff_ne.mpr h1
                by_cases h2 : pickP y = 2
                · rw [h2]
                  have HU2 := Lib.hid (show (u ++ remB) ++ blankB how (n + 1) (L.drop (i + 1)) = T from by
                    have h := STEP.out.1 hg
                    rw [hkat, h2] at h
                    exact h)
                  go_wp2_with fail
                  go_roundw
                  case rel => exact ⟨u ++ remB, n + 1, i + 1, congrArg Value.string (baL_cat u remB), by go_num, by go_num, by omega, by omega, HU2, HB3⟩
                  case measure => simp [intOf]; omega
                · have b2 : (pickP y == 2) = false := beq_eq_false_iff_ne.mpr h2
                  by_cases h3 : pickP y = 3
                  · rw [h3]
                    have HU2 := Lib.hid (show (u ++ [10, 10, 32, 9, 59, 10, 9]) ++ blankB how (n + 1) (L.drop (i + 1)) = T from by
                      have h := STEP.out.1 hg
                      rw [hkat, h3] at h
                      exact h)
                    go_wp2_with fail
                    go_roundw
                    case rel => exact ⟨u ++ [10, 10, 32, 9, 59, 10, 9], n + 1, i + 1, congrArg Value.string (baL_cat u [10, 10, 32, 9, 59, 10, 9]), by go_num, by go_num, by omega, by omega, HU2, HB3⟩
                    case measure => simp [intOf]; omega
                  · have b3 : (pickP y == 3) = false := beq_eq_false_iff_ne.mpr h3
                    have HU2 := Lib.hid (show (u ++ [10]) ++ blankB how (n + 1) (L.drop (i + 1)) = T from by
                      have h := STEP.out.1 hg
                      rw [hkat, piece_other 10 _ (fun e => absurd e (by decide)) (fun _ => ⟨h1, h2, h3⟩)] at h
                      exact h)
                    go_wp2_with fail
                    go_roundw
                    case rel => exact ⟨u ++ [10], n + 1, i + 1, congrArg Value.string (baL_cat u [10]), by go_num, by go_num, by omega, by omega, HU2, HB3⟩
                    case measure => simp [intOf]; omega
            · have b32 : ((x.toNat : Int) == 32) = false := beq_eq_false_iff_ne.mpr (fun e => h32 (UInt8.toNat_inj.1 (by show x.toNat = 32; omega)))
              have b10 : ((x.toNat : Int) == 10) = false := beq_eq_false_iff_ne.mpr (fun e => h10 (UInt8.toNat_inj.1 (by show x.toNat = 10; omega)))
              have hg : gapB how x = false := gap_no _ h32 h10
              have HU2 := Lib.hid (show (u ++ [x]) ++ blankB how (n) (L.drop (i + 1)) = T from by
                exact STEP.out.2 hg)
              go_wp2_with fail
              go_roundw
              case rel => exact ⟨u ++ [x], n, i + 1, congrArg Value.string (baL_cat u [x]), by go_num, by go_num, by omega, by omega, HU2, HB⟩
              case measure => simp [intOf]; omega
      · have hie : i = L.length := by omega
        subst hie
        have hu : u = T := by
          have h := HU.out
          rw [List.drop_length, blankB, List.append_nil] at h
          exact h
        subst hu
        clear HU HTT hlt hi
        go_wp2_with fail
        have Q := parse_any (baL u) wr (HL2.out.below HB.out) (by rw [baL_size]; exact HSZ.out.1)
        rw [HP.out] at Q
        refine Q.mono ?_
        rintro e w3 ⟨v, rfl, hLR, hb3⟩
        obtain ⟨A3, c3, rfl⟩ := hLR.slice
        have HLR := Lib.hid hLR.lines
        have HL3 := Lib.hid ((HL2.out.below HB.out).below hb3)
        have HLN3 := Lib.hid ((HLN2.out.below HB.out).below hb3)
        have HW3 := Lib.hid (bj (bj HW2.out HB.out) hb3)
        clear Q hLR hb3
        go_wp2_with fail
        refine (live_any _ HL3.out).mono ?_
        rintro e w4 ⟨rfl, hb4⟩
        have HLR4 := Lib.hid (HLR.out.below hb4)
        have HLN4 := Lib.hid (HLN3.out.below hb4)
        have HW4 := Lib.hid (bj HW3.out hb4)
        clear hb4
        go_wp2_with fail
        refine (same_lines ls A3 A c3 c _ HLR4.out HLN4.out (by have := HGL.out; omega) (fun l hl => by have := HGM.out l hl; omega)).mono ?_
        rintro e w5 ⟨rfl, hb5⟩
        have HW5 := Lib.hid (bj HW4.out hb5)
        clear hb5
        go_wp2_with fail
        go_ret
        exact ⟨rfl, HW5.out⟩
  · have hb := print_bad h0
    go_wp2_with fail
    refine (live_any _ HL2.out).mono ?_
    rintro e w4 ⟨rfl, hb4⟩
    have HW4 := Lib.hid (bj HW2.out hb4)
    clear hb4
    go_wp2_with fail
    go_ret
    exact ⟨rfl, HW4.out⟩

end Go.Proofs.YtlhgfhmdhmgmpaaDoor
