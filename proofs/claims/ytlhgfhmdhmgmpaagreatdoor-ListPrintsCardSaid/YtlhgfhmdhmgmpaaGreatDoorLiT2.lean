/- list.takes of a number that is a word: walked. -/
import Derived.Test.YtlhgfhmdhmgmpaaGreatDoorLiT
import Derived.Test.YtlhgfhmdhmgmpaaGreatDoorEncB
set_option linter.unusedVariables false
set_option linter.unusedSimpArgs false
namespace Go.Proofs.YtlhgfhmdhmgmpaaGreatDoor
open Go.RowKit Go.Proofs.YtlhgfhmdhmgmpaaGreatDoorW.PrintWords Go.Joins Go.Maps
attribute [local go_sem] as_reg_reg as_reg_num as_reg_word as_reg_place as_reg_places as_num_reg as_num_num as_num_word as_num_place as_num_places as_word_reg as_word_num as_word_word as_word_place as_word_places as_place_reg as_place_num as_place_word as_place_place as_place_places as_places_reg as_places_num as_places_word as_places_place as_places_places

set_option maxHeartbeats 4000000 in
set_option maxRecDepth 100000 in
theorem takes_word (b : Nat) (l : Line) (v : Value) (V : Value) (ws : List ByteArray) (w : World) (hL : LLaid w) (hx : LineX w b l v) (hw : WS w b V ws) (hsz : ∀ s ∈ ws, s.size ≤ 281474976710656) :
    Calls Tryz.prog 63 #[pv b .word, V] w (TakesR b l v .word ws w) := by
  obtain ⟨A, c, rfl, hc, hbb, hcells⟩ := hw
  show Calls Tryz.prog _ #[.iface 89 (.agg #[.pointer (some ⟨b, 4, none⟩)]), _] w _
  cases ws with
  | nil =>
    have HX := Lib.hid hx
    clear hL hx hcells hsz
    go_enter Tryz.func63, Tryz.ntmps63
    go_wp2_with fail
    go_ret2
    exact ⟨false, _, l, [], rfl, (((Below.refl _ _).alloc (Nat.le_refl _) _).block b (Array.getElem?_eq_some_iff.1 HX.out).1).trans HX.out, rfl, (fun h => by cases h), Just.of_below ((Below.refl _ _).alloc (Nat.le_refl _) _)⟩
  | cons s r =>
    obtain ⟨ad, rfl, hs0⟩ := hcells 0 s rfl
    have HBB := Lib.hid (hbb ad rfl)
    clear hbb
    have hs1 : w.cell? ad = some (.string s) := hs0
    have hbl : b < w.heap.size := (Array.getElem?_eq_some_iff.1 hx).1
    obtain ⟨u, hu⟩ : ∃ u, w.cell? ⟨b, 4, none⟩ = some (.int .u32 u) := ⟨_, by rw [cell_of_block hx]; rfl⟩
    have hf := unfrozen_of_block hx 4
    have HS := Lib.hid (fun W (h : Below w.heap.size w W) => value_any s W (hL.below h) (hsz s (by simp)))
    have HX := Lib.hid hx
    have HU := Lib.hid hu
    have HF := Lib.hid hf
    have HS1 := Lib.hid hs1
    have HC := Lib.hid hc
    have HCE := Lib.hid hcells
    have hz : (0 : Int) < (((s :: r).length : Nat) : Int) := by simp only [List.length_cons]; omega
    have hln : ((((s :: r).length : Nat) : Int) == 0) = false := beq_eq_false_iff_ne.mpr (by omega)
    generalize hV : valueP s.data.toList = VV at HS
    have HVV := Lib.hid hV
    have hlc : 1 ≤ (s :: r).length := by simp
    have hlc2 : (s :: r).length ≤ c := hc
    obtain ⟨n, hn⟩ : ∃ n, n = (s :: r).length := ⟨_, rfl⟩
    rw [← hn] at hz hln hlc hlc2 ⊢
    have HN := Lib.hid hn
    clear hL hx hu hf hs0 hs1 hV hcells hsz hc hn
    obtain ⟨vn, vb⟩ := VV
    simp only at HS
    go_enter Tryz.func63, Tryz.ntmps63
    go_upto_block 2 with fail
    go_cut [12] from 13 to 114 (fun s12 wx => s12 = .bool (vb && decide (0 ≤ vn) && decide (vn < 4294967296)) ∧ Hid (∃ w1, Below w.heap.size w w1 ∧ wx = w1.setCell ⟨b, 4, none⟩ (.int .u32 (IntKind.u32.wrap vn))))
    case first =>
      go_upto_region 28 with fail
      obtain ⟨W, hW⟩ : ∃ W, W = (w.alloc (.cells #[.pointer none] 95)).alloc (.cells #[.pointer (some ⟨b, 4, none⟩)] 89) := ⟨_, rfl⟩
      rw [← hW]
      have hbW : Below w.heap.size w W := by rw [hW]; exact ((Below.refl _ _).alloc (Nat.le_refl _) _).alloc (by simp) _
      have p0 : W.cell? ⟨w.heap.size + 1, 0, none⟩ = some (.pointer (some ⟨b, 4, none⟩)) := by rw [hW]; exact knA (by simp) 0 rfl
      have p1 := kp hbW HS1.out
      have p2 := kp hbW HU.out
      have p3 := kpf hbW HU.out HF.out
      have HBW := Lib.hid hbW
      clear hW hbW
      go_wp2_with fail
      refine (HS.out _ HBW.out).mono ?_
      rintro e w1 ⟨rfl, hb⟩
      have q0 := kp hb p0
      have q2 := kp hb p2
      have q3 := kpf hb p2 p3
      have HB := Lib.hid (bj HBW.out hb)
      clear hb p0 p1 p2 p3
      cases vb with
      | false =>
        go_wp2_with fail
        go_meet
        exact ⟨rfl, Lib.hid ⟨_, HB.out, rfl⟩⟩
      | true =>
        by_cases h0 : 0 ≤ vn
        · have d0 : decide (0 ≤ vn) = true := decide_eq_true h0
          by_cases h1 : vn < 4294967296
          · have d1 : decide (vn < 4294967296) = true := decide_eq_true h1
            go_wp2_with fail
            go_meet
            exact ⟨by first | rfl | (simp only [d0, d1]; rfl), Lib.hid ⟨_, HB.out, by first | rfl | (rw [u32_own 32 (by omega) vn h0 (by omega)])⟩⟩
          · have d1 : decide (vn < 4294967296) = false := decide_eq_false h1
            go_wp2_with fail
            go_meet
            exact ⟨by first | rfl | (simp only [d0, d1]; rfl), Lib.hid ⟨_, HB.out, rfl⟩⟩
        · have d0 : decide (0 ≤ vn) = false := decide_eq_false h0
          go_wp2_with fail
          go_meet
          exact ⟨by first | rfl | (simp only [d0]; rfl), Lib.hid ⟨_, HB.out, rfl⟩⟩
    case rest =>
      obtain ⟨rfl, hWX⟩ := hcut
      obtain ⟨w1, hb1, rfl⟩ := hWX.out
      have HE := Lib.hid (fun (V' : Value) (hV : V' = .slice (if c = 1 then some ad else some (ad.add 1)) (n - 1) (c - 1)) => takes_end (p := .word) (v := v) (u := .int .u32 u) (vb := vb && decide (0 ≤ vn) && decide (vn < 4294967296)) (HX.out) hb1 HU.out HBB.out HC.out HCE.out (LineX.set_word ((hb1.block b hbl).trans HX.out) (IntKind.u32.wrap vn)) (by
        show (if ((valueP s.data.toList).2 && decide (0 ≤ (valueP s.data.toList).1) && decide ((valueP s.data.toList).1 < 4294967296)) = true then some ({ l with n := (valueP s.data.toList).1 }, r) else none) = _
        rw [HVV.out]
        split
        · rename_i hh
          simp only [Bool.and_eq_true, decide_eq_true_eq] at hh
          rw [u32_own 32 (by omega) vn hh.1.2 (by omega)]
        · rfl) HN.out hV)
      clear hb1 hWX
      by_cases h1 : c = 1
      · subst h1
        go_wp2_with fail
        go_ret2
        exact HE.out _ (by rw [if_pos trivial, show n - 1 = 0 by omega]; rfl)
      · go_wp2_with fail
        go_ret2
        exact HE.out _ (by rw [if_neg h1]; rfl)

end Go.Proofs.YtlhgfhmdhmgmpaaGreatDoor
