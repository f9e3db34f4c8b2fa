/- lex.number, walked. -/
import Derived.Test.YtjoboaaambdpoaaDoorLxN
set_option linter.unusedVariables false
set_option linter.unusedSimpArgs false
namespace Go.Proofs.YtjoboaaambdpoaaDoor
open Go.RowKit

def digitsOf (s : List UInt8) : List UInt8 := Lib.trimSuffix (Lib.trimSuffix s [117]) [85]

/-- A number's base, and its digits. -/
def baseOf (d : List UInt8) : Nat × List UInt8 := if Lib.hasPrefix d [48, 120] = true ∨ Lib.hasPrefix d [48, 88] = true then (16, d.drop 2) else if Lib.hasPrefix d [48] = true then (8, d) else (10, d)

/-- lex.number's answer. -/
def numP (s : List UInt8) : Int × Bool × Bool :=
  if 1 < s.length - (digitsOf s).length then (0, false, false) else
  if Lib.contains (baseOf (digitsOf s)).2 [95] = true then (0, false, false) else
  (puVal (puOf (baseOf (digitsOf s)).1 (baseOf (digitsOf s)).2), decide ((digitsOf s).length < s.length) || decide (2147483647 < puVal (puOf (baseOf (digitsOf s)).1 (baseOf (digitsOf s)).2)), puOk (puOf (baseOf (digitsOf s)).1 (baseOf (digitsOf s)).2))

theorem trim_len (s p : List UInt8) : (Lib.trimSuffix s p).length ≤ s.length := by
  unfold Lib.trimSuffix
  split
  · rw [List.length_take]; omega
  · exact Nat.le_refl _

theorem base_in (d : List UInt8) : (baseOf d).1 = 8 ∨ (baseOf d).1 = 10 ∨ (baseOf d).1 = 16 := by
  unfold baseOf
  split
  · exact .inr (.inr rfl)
  · split
    · exact .inl rfl
    · exact .inr (.inl rfl)

theorem prefix_len {s p : List UInt8} (h : Lib.hasPrefix s p = true) : p.length ≤ s.length := by
  unfold Lib.hasPrefix at h
  exact (List.isPrefixOf_iff_prefix.1 h).length_le

theorem ext_drop (D : ByteArray) (n : Nat) : (D.extract n D.size).data.toList = D.data.toList.drop n := by
  rw [ByteArray.data_extract, Array.toList_extract]
  show (D.data.toList.drop n).take (D.size - n) = _
  exact List.take_of_length_le (by rw [List.length_drop, show D.data.toList.length = D.size from Array.length_toList]; omega)

theorem bdn (w : World) (n : Nat) : Below w.heap.size w (w.drewN n) := ⟨rfl, rfl, rfl, Nat.le_refl _, fun _ _ => rfl⟩

theorem arr_size (l : List UInt8) : (⟨l.toArray⟩ : ByteArray).size = l.length := by
  show l.toArray.size = _
  simp

set_option maxRecDepth 100000 in
set_option maxHeartbeats 2000000 in
theorem number_any (s : ByteArray) (w : World) (hL : Laid w) (hs : s.size ≤ 1000000) :
    Calls Tryd.prog 30 #[.string s] w fun e w' => e = .returned (.tuple #[.int .u32 (numP s.data.toList).1, .bool (numP s.data.toList).2.1, .bool (numP s.data.toList).2.2]) ∧ Below w.heap.size w w' := by
  have HL := Lib.hid hL
  clear hL
  have hsl : s.data.toList.length = s.size := Array.length_toList
  generalize hR : numP s.data.toList = R
  have HR := Lib.hid hR
  clear hR
  go_enter Tryd.func30, Tryd.ntmps30
  go_wp2_with fail
  refine (Tryd.strings_TrimSuffix s _ _ (by omega)).mono ?_
  rintro e w' ⟨rfl, rfl⟩
  have hd1 := trim_len s.data.toList [117]
  have hd2 := trim_len (Lib.trimSuffix s.data.toList [117]) [85]
  obtain ⟨D, hD⟩ : ∃ D : ByteArray, D = ⟨(digitsOf s.data.toList).toArray⟩ := ⟨_, rfl⟩
  have hT := Lib.hid (fun W => show Calls Tryd.prog 42 #[.string ⟨(Lib.trimSuffix s.data.toList [117]).toArray⟩, .string ⟨#[85]⟩] W fun e w' => e = .returned (.string D) ∧ w' = W from by rw [hD]; exact Tryd.strings_TrimSuffix ⟨(Lib.trimSuffix s.data.toList [117]).toArray⟩ ⟨#[85]⟩ W (by rw [arr_size]; omega))
  have hDl : D.data.toList = digitsOf s.data.toList := by rw [hD]
  have hDs : D.size = (digitsOf s.data.toList).length := by rw [hD, arr_size]
  have hle : D.size ≤ s.size := by rw [hDs, ← hsl]; exact Nat.le_trans hd2 hd1
  clear hD hd1 hd2
  go_wp2_with fail
  refine (hT.out _).mono ?_
  rintro e w' ⟨rfl, rfl⟩
  have HB := Lib.hid (Below.refl w'.heap.size w')
  have hR1 : numP s.data.toList = if 1 < s.size - D.size then (0, false, false) else if Lib.contains (baseOf D.data.toList).2 [95] = true then (0, false, false) else (puVal (puOf (baseOf D.data.toList).1 (baseOf D.data.toList).2), decide (D.size < s.size) || decide (2147483647 < puVal (puOf (baseOf D.data.toList).1 (baseOf D.data.toList).2)), puOk (puOf (baseOf D.data.toList).1 (baseOf D.data.toList).2)) := by
    unfold numP
    rw [hDl, hDs, ← hsl]
  have HR1 := Lib.hid (HR.out.symm.trans hR1)
  have hDn : D.data.toList.length = D.size := Array.length_toList
  clear hR1 HR hT hDl hDs hsl
  by_cases h1 : 1 < s.size - D.size
  · have HE := Lib.hid (show R = (0, false, false) by rw [HR1.out, if_pos h1])
    have h1i : 1 < (s.size : Int) - (D.size : Int) := by omega
    clear HR1 h1
    go_wp2_with fail
    go_ret3
    exact ⟨by rw [HE.out]; rfl, HB.out⟩
  · have h1i : ¬ 1 < (s.size : Int) - (D.size : Int) := by omega
    have hus : Hid (decide ((D.size : Int) < (s.size : Int)) = decide (D.size < s.size)) := Lib.hid (by simp)
    have HPX := Lib.hid (fun W => Tryd.strings_HasPrefix D ⟨#[48, 120]⟩ W)
    have HPY := Lib.hid (fun W => Tryd.strings_HasPrefix D ⟨#[48, 88]⟩ W)
    have HPZ := Lib.hid (fun W => Tryd.strings_HasPrefix D ⟨#[48]⟩ W)
    by_cases p1 : Lib.hasPrefix D.data.toList [48, 120] = true
    · have hb : baseOf D.data.toList = (16, D.data.toList.drop 2) := by unfold baseOf; rw [if_pos (.inl p1)]
      have HP1 := Lib.hid (fun W => show Calls Tryd.prog 43 #[.string D, .string ⟨#[48, 120]⟩] W fun e w' => e = .returned (.bool true) ∧ w' = W from by have := HPX.out W; rwa [show Lib.hasPrefix D.data.toList (⟨#[48, 120]⟩ : ByteArray).data.toList = true from p1] at this)
      go_wp2_with (first | (go_at_call 43; refine (HP1.out _).mono ?_; rintro e w' ⟨rfl, rfl⟩))
      have hpl := prefix_len p1
      have h2 : 2 ≤ D.size := by rw [← hDn]; exact hpl
      have h2i : (2 : Int) ≤ (D.size : Int) := by omega
      go_quiet (fail)
      have hbn := bdn w' nq
      generalize w'.drewN nq = W2 at hbn ⊢
      have HBW := Lib.hid hbn
      have HLW := Lib.hid (HL.out.below hbn)
      obtain ⟨E, hE⟩ : ∃ E, E = D.extract 2 D.size := ⟨_, rfl⟩
      have hEl : E.data.toList = D.data.toList.drop 2 := by rw [hE]; exact ext_drop D 2
      have hEs : E.size ≤ D.size := by rw [← hDn, show E.size = E.data.toList.length from Array.length_toList.symm, hEl, List.length_drop]; omega
      rw [← hE]
      rw [← hEl] at hb
      clear hE hEl hbn
      obtain ⟨m, hm⟩ := HLW.out.m
      have HC := Lib.hid (fun W (h : Laid W) => by obtain ⟨m, hm⟩ := h.m; exact Tryd.strings_Contains E ⟨#[95]⟩ m W (by omega) hm)
      clear hm
      by_cases hc : Lib.contains E.data.toList [95] = true
      · have HE := Lib.hid (show R = (0, false, false) by rw [HR1.out, if_neg h1, hb, if_pos hc])
        have HC1 := Lib.hid (fun W (h : Laid W) => show Calls Tryd.prog 28 #[.string E, .string ⟨#[95]⟩] W fun e w' => e = .returned (.bool true) ∧ w' = W from by have := HC.out W h; rwa [show Lib.contains E.data.toList (⟨#[95]⟩ : ByteArray).data.toList = true from hc] at this)
        clear HC HR1 hb
        go_wp2_with fail
        refine (HC1.out _ HLW.out).mono ?_
        rintro e w4 ⟨rfl, rfl⟩
        go_wp2_with fail
        go_ret3
        exact ⟨by rw [HE.out]; rfl, HBW.out⟩
      · have hcf : Lib.contains E.data.toList [95] = false := by simpa using hc
        have HC1 := Lib.hid (fun W (h : Laid W) => show Calls Tryd.prog 28 #[.string E, .string ⟨#[95]⟩] W fun e w' => e = .returned (.bool false) ∧ w' = W from by have := HC.out W h; rwa [show Lib.contains E.data.toList (⟨#[95]⟩ : ByteArray).data.toList = false from hcf] at this)
        have HE := Lib.hid (show R = (puVal (puOf 16 E.data.toList), decide (D.size < s.size) || decide (2147483647 < puVal (puOf 16 E.data.toList)), puOk (puOf 16 E.data.toList)) by rw [HR1.out, if_neg h1, hb, if_neg hc])
        have hrg := puVal_range 16 E.data.toList
        have HPU := Lib.hid (fun W (h : Laid W) => parse_any 16 (by decide) E (by omega) W h)
        clear HC HR1 hb hc hcf
        generalize puVal (puOf 16 E.data.toList) = v at HE hrg HPU
        generalize puOk (puOf 16 E.data.toList) = o at HE HPU
        have hvw : IntKind.u32.wrap v = v := by rw [IntKind.wrap_u32]; omega
        go_wp2_with fail
        refine (HC1.out _ HLW.out).mono ?_
        rintro e w4 ⟨rfl, rfl⟩
        go_wp2_with fail
        refine (HPU.out _ HLW.out).mono ?_
        rintro e w5 ⟨ev, rfl, hev, hb5⟩
        have HB5 := Lib.hid (HBW.out.trans (hb5.mono HBW.out.size))
        clear hb5
        by_cases hu : D.size < s.size
        · have hut : decide (D.size < s.size) = true := decide_eq_true hu
          rw [hut] at HE ⊢
          rcases hev with ⟨ho, rfl⟩ | ⟨ho, te, pe, rfl⟩
          all_goals
            subst ho
            go_wp2_with fail
            go_quiet (fail)
            go_wp2_with fail
            go_ret3
            exact ⟨by rw [HE.out]; rfl, HB5.out.trans ((bdn _ _).mono HB5.out.size)⟩
        · have huf : decide (D.size < s.size) = false := decide_eq_false hu
          rw [huf] at HE ⊢
          by_cases hv2 : 2147483647 < v
          · have hvt : decide (2147483647 < v) = true := decide_eq_true hv2
            rcases hev with ⟨ho, rfl⟩ | ⟨ho, te, pe, rfl⟩
            all_goals
              subst ho
              go_wp2_with fail
              go_quiet (fail)
              go_wp2_with fail
              go_ret3
              exact ⟨by rw [HE.out, hvt]; rfl, HB5.out.trans ((bdn _ _).mono HB5.out.size)⟩
          · have hvf : decide (2147483647 < v) = false := decide_eq_false hv2
            rcases hev with ⟨ho, rfl⟩ | ⟨ho, te, pe, rfl⟩
            all_goals
              subst ho
              go_wp2_with fail
              go_quiet (fail)
              go_wp2_with fail
              go_ret3
              exact ⟨by rw [HE.out, hvf]; rfl, HB5.out.trans ((bdn _ _).mono HB5.out.size)⟩
    · have p1f : Lib.hasPrefix D.data.toList [48, 120] = false := by simpa using p1
      have HP1 := Lib.hid (fun W => show Calls Tryd.prog 43 #[.string D, .string ⟨#[48, 120]⟩] W fun e w' => e = .returned (.bool false) ∧ w' = W from by have := HPX.out W; rwa [show Lib.hasPrefix D.data.toList (⟨#[48, 120]⟩ : ByteArray).data.toList = false from p1f] at this)
      by_cases p2 : Lib.hasPrefix D.data.toList [48, 88] = true
      · have hb : baseOf D.data.toList = (16, D.data.toList.drop 2) := by unfold baseOf; rw [if_pos (.inr p2)]
        have HP2 := Lib.hid (fun W => show Calls Tryd.prog 43 #[.string D, .string ⟨#[48, 88]⟩] W fun e w' => e = .returned (.bool true) ∧ w' = W from by have := HPY.out W; rwa [show Lib.hasPrefix D.data.toList (⟨#[48, 88]⟩ : ByteArray).data.toList = true from p2] at this)
        go_wp2_with (first | (go_at_call 43; refine (HP1.out _).mono ?_; rintro e w' ⟨rfl, rfl⟩) | (go_at_call 43; refine (HP2.out _).mono ?_; rintro e w' ⟨rfl, rfl⟩))
        have hpl := prefix_len p2
        have h2 : 2 ≤ D.size := by rw [← hDn]; exact hpl
        have h2i : (2 : Int) ≤ (D.size : Int) := by omega
        go_quiet (fail)
        have hbn := bdn w' nq
        generalize w'.drewN nq = W2 at hbn ⊢
        have HBW := Lib.hid hbn
        have HLW := Lib.hid (HL.out.below hbn)
        obtain ⟨E, hE⟩ : ∃ E, E = D.extract 2 D.size := ⟨_, rfl⟩
        have hEl : E.data.toList = D.data.toList.drop 2 := by rw [hE]; exact ext_drop D 2
        have hEs : E.size ≤ D.size := by rw [← hDn, show E.size = E.data.toList.length from Array.length_toList.symm, hEl, List.length_drop]; omega
        rw [← hE]
        rw [← hEl] at hb
        clear hE hEl hbn
        obtain ⟨m, hm⟩ := HLW.out.m
        have HC := Lib.hid (fun W (h : Laid W) => by obtain ⟨m, hm⟩ := h.m; exact Tryd.strings_Contains E ⟨#[95]⟩ m W (by omega) hm)
        clear hm
        by_cases hc : Lib.contains E.data.toList [95] = true
        · have HE := Lib.hid (show R = (0, false, false) by rw [HR1.out, if_neg h1, hb, if_pos hc])
          have HC1 := Lib.hid (fun W (h : Laid W) => show Calls Tryd.prog 28 #[.string E, .string ⟨#[95]⟩] W fun e w' => e = .returned (.bool true) ∧ w' = W from by have := HC.out W h; rwa [show Lib.contains E.data.toList (⟨#[95]⟩ : ByteArray).data.toList = true from hc] at this)
          clear HC HR1 hb
          go_wp2_with fail
          refine (HC1.out _ HLW.out).mono ?_
          rintro e w4 ⟨rfl, rfl⟩
          go_wp2_with fail
          go_ret3
          exact ⟨by rw [HE.out]; rfl, HBW.out⟩
        · have hcf : Lib.contains E.data.toList [95] = false := by simpa using hc
          have HC1 := Lib.hid (fun W (h : Laid W) => show Calls Tryd.prog 28 #[.string E, .string ⟨#[95]⟩] W fun e w' => e = .returned (.bool false) ∧ w' = W from by have := HC.out W h; rwa [show Lib.contains E.data.toList (⟨#[95]⟩ : ByteArray).data.toList = false from hcf] at this)
          have HE := Lib.hid (show R = (puVal (puOf 16 E.data.toList), decide (D.size < s.size) || decide (2147483647 < puVal (puOf 16 E.data.toList)), puOk (puOf 16 E.data.toList)) by rw [HR1.out, if_neg h1, hb, if_neg hc])
          have hrg := puVal_range 16 E.data.toList
          have HPU := Lib.hid (fun W (h : Laid W) => parse_any 16 (by decide) E (by omega) W h)
          clear HC HR1 hb hc hcf
          generalize puVal (puOf 16 E.data.toList) = v at HE hrg HPU
          generalize puOk (puOf 16 E.data.toList) = o at HE HPU
          have hvw : IntKind.u32.wrap v = v := by rw [IntKind.wrap_u32]; omega
          go_wp2_with fail
          refine (HC1.out _ HLW.out).mono ?_
          rintro e w4 ⟨rfl, rfl⟩
          go_wp2_with fail
          refine (HPU.out _ HLW.out).mono ?_
          rintro e w5 ⟨ev, rfl, hev, hb5⟩
          have HB5 := Lib.hid (HBW.out.trans (hb5.mono HBW.out.size))
          clear hb5
          by_cases hu : D.size < s.size
          · have hut : decide (D.size < s.size) = true := decide_eq_true hu
            rw [hut] at HE ⊢
            rcases hev with ⟨ho, rfl⟩ | ⟨ho, te, pe, rfl⟩
            all_goals
              subst ho
              go_wp2_with fail
              go_quiet (fail)
              go_wp2_with fail
              go_ret3
              exact ⟨by rw [HE.out]; rfl, HB5.out.trans ((bdn _ _).mono HB5.out.size)⟩
          · have huf : decide (D.size < s.size) = false := decide_eq_false hu
            rw [huf] at HE ⊢
            by_cases hv2 : 2147483647 < v
            · have hvt : decide (2147483647 < v) = true := decide_eq_true hv2
              rcases hev with ⟨ho, rfl⟩ | ⟨ho, te, pe, rfl⟩
              all_goals
                subst ho
                go_wp2_with fail
                go_quiet (fail)
                go_wp2_with fail
                go_ret3
                exact ⟨by rw [HE.out, hvt]; rfl, HB5.out.trans ((bdn _ _).mono HB5.out.size)⟩
            · have hvf : decide (2147483647 < v) = false := decide_eq_false hv2
              rcases hev with ⟨ho, rfl⟩ | ⟨ho, te, pe, rfl⟩
              all_goals
                subst ho
                go_wp2_with fail
                go_quiet (fail)
                go_wp2_with fail
                go_ret3
                exact ⟨by rw [HE.out, hvf]; rfl, HB5.out.trans ((bdn _ _).mono HB5.out.size)⟩
      · have p2f : Lib.hasPrefix D.data.toList [48, 88] = false := by simpa using p2
        have HP2 := Lib.hid (fun W => show Calls Tryd.prog 43 #[.string D, .string ⟨#[48, 88]⟩] W fun e w' => e = .returned (.bool false) ∧ w' = W from by have := HPY.out W; rwa [show Lib.hasPrefix D.data.toList (⟨#[48, 88]⟩ : ByteArray).data.toList = false from p2f] at this)
        have HBW := HB
        have HLW := HL
        by_cases p3 : Lib.hasPrefix D.data.toList [48] = true
        · have hb : baseOf D.data.toList = (8, D.data.toList) := by unfold baseOf; rw [if_neg (by simp [p1f, p2f]), if_pos p3]
          have HP3 := Lib.hid (fun W => show Calls Tryd.prog 43 #[.string D, .string ⟨#[48]⟩] W fun e w' => e = .returned (.bool true) ∧ w' = W from by have := HPZ.out W; rwa [show Lib.hasPrefix D.data.toList (⟨#[48]⟩ : ByteArray).data.toList = true from p3] at this)
          go_wp2_with (first | (go_at_call 43; refine (HP1.out _).mono ?_; rintro e w' ⟨rfl, rfl⟩) | (go_at_call 43; refine (HP2.out _).mono ?_; rintro e w' ⟨rfl, rfl⟩) | (go_at_call 43; refine (HP3.out _).mono ?_; rintro e w' ⟨rfl, rfl⟩))
          obtain ⟨m, hm⟩ := HLW.out.m
          have HC := Lib.hid (fun W (h : Laid W) => by obtain ⟨m, hm⟩ := h.m; exact Tryd.strings_Contains D ⟨#[95]⟩ m W (by omega) hm)
          clear hm
          by_cases hc : Lib.contains D.data.toList [95] = true
          · have HE := Lib.hid (show R = (0, false, false) by rw [HR1.out, if_neg h1, hb, if_pos hc])
            have HC1 := Lib.hid (fun W (h : Laid W) => show Calls Tryd.prog 28 #[.string D, .string ⟨#[95]⟩] W fun e w' => e = .returned (.bool true) ∧ w' = W from by have := HC.out W h; rwa [show Lib.contains D.data.toList (⟨#[95]⟩ : ByteArray).data.toList = true from hc] at this)
            clear HC HR1 hb
            go_wp2_with fail
            refine (HC1.out _ HLW.out).mono ?_
            rintro e w4 ⟨rfl, rfl⟩
            go_wp2_with fail
            go_ret3
            exact ⟨by rw [HE.out]; rfl, HBW.out⟩
          · have hcf : Lib.contains D.data.toList [95] = false := by simpa using hc
            have HC1 := Lib.hid (fun W (h : Laid W) => show Calls Tryd.prog 28 #[.string D, .string ⟨#[95]⟩] W fun e w' => e = .returned (.bool false) ∧ w' = W from by have := HC.out W h; rwa [show Lib.contains D.data.toList (⟨#[95]⟩ : ByteArray).data.toList = false from hcf] at this)
            have HE := Lib.hid (show R = (puVal (puOf 8 D.data.toList), decide (D.size < s.size) || decide (2147483647 < puVal (puOf 8 D.data.toList)), puOk (puOf 8 D.data.toList)) by rw [HR1.out, if_neg h1, hb, if_neg hc])
            have hrg := puVal_range 8 D.data.toList
            have HPU := Lib.hid (fun W (h : Laid W) => parse_any 8 (by decide) D (by omega) W h)
            clear HC HR1 hb hc hcf
            generalize puVal (puOf 8 D.data.toList) = v at HE hrg HPU
            generalize puOk (puOf 8 D.data.toList) = o at HE HPU
            have hvw : IntKind.u32.wrap v = v := by rw [IntKind.wrap_u32]; omega
            go_wp2_with fail
            refine (HC1.out _ HLW.out).mono ?_
            rintro e w4 ⟨rfl, rfl⟩
            go_wp2_with fail
            refine (HPU.out _ HLW.out).mono ?_
            rintro e w5 ⟨ev, rfl, hev, hb5⟩
            have HB5 := Lib.hid (HBW.out.trans (hb5.mono HBW.out.size))
            clear hb5
            by_cases hu : D.size < s.size
            · have hut : decide (D.size < s.size) = true := decide_eq_true hu
              rw [hut] at HE ⊢
              rcases hev with ⟨ho, rfl⟩ | ⟨ho, te, pe, rfl⟩
              all_goals
                subst ho
                go_wp2_with fail
                go_quiet (fail)
                go_wp2_with fail
                go_ret3
                exact ⟨by rw [HE.out]; rfl, HB5.out.trans ((bdn _ _).mono HB5.out.size)⟩
            · have huf : decide (D.size < s.size) = false := decide_eq_false hu
              rw [huf] at HE ⊢
              by_cases hv2 : 2147483647 < v
              · have hvt : decide (2147483647 < v) = true := decide_eq_true hv2
                rcases hev with ⟨ho, rfl⟩ | ⟨ho, te, pe, rfl⟩
                all_goals
                  subst ho
                  go_wp2_with fail
                  go_quiet (fail)
                  go_wp2_with fail
                  go_ret3
                  exact ⟨by rw [HE.out, hvt]; rfl, HB5.out.trans ((bdn _ _).mono HB5.out.size)⟩
              · have hvf : decide (2147483647 < v) = false := decide_eq_false hv2
                rcases hev with ⟨ho, rfl⟩ | ⟨ho, te, pe, rfl⟩
                all_goals
                  subst ho
                  go_wp2_with fail
                  go_quiet (fail)
                  go_wp2_with fail
                  go_ret3
                  exact ⟨by rw [HE.out, hvf]; rfl, HB5.out.trans ((bdn _ _).mono HB5.out.size)⟩
        · have p3f : Lib.hasPrefix D.data.toList [48] = false := by simpa using p3
          have hb : baseOf D.data.toList = (10, D.data.toList) := by unfold baseOf; rw [if_neg (by simp [p1f, p2f]), if_neg p3]
          have HP3 := Lib.hid (fun W => show Calls Tryd.prog 43 #[.string D, .string ⟨#[48]⟩] W fun e w' => e = .returned (.bool false) ∧ w' = W from by have := HPZ.out W; rwa [show Lib.hasPrefix D.data.toList (⟨#[48]⟩ : ByteArray).data.toList = false from p3f] at this)
          go_wp2_with (first | (go_at_call 43; refine (HP1.out _).mono ?_; rintro e w' ⟨rfl, rfl⟩) | (go_at_call 43; refine (HP2.out _).mono ?_; rintro e w' ⟨rfl, rfl⟩) | (go_at_call 43; refine (HP3.out _).mono ?_; rintro e w' ⟨rfl, rfl⟩))
          obtain ⟨m, hm⟩ := HLW.out.m
          have HC := Lib.hid (fun W (h : Laid W) => by obtain ⟨m, hm⟩ := h.m; exact Tryd.strings_Contains D ⟨#[95]⟩ m W (by omega) hm)
          clear hm
          by_cases hc : Lib.contains D.data.toList [95] = true
          · have HE := Lib.hid (show R = (0, false, false) by rw [HR1.out, if_neg h1, hb, if_pos hc])
            have HC1 := Lib.hid (fun W (h : Laid W) => show Calls Tryd.prog 28 #[.string D, .string ⟨#[95]⟩] W fun e w' => e = .returned (.bool true) ∧ w' = W from by have := HC.out W h; rwa [show Lib.contains D.data.toList (⟨#[95]⟩ : ByteArray).data.toList = true from hc] at this)
            clear HC HR1 hb
            go_wp2_with fail
            refine (HC1.out _ HLW.out).mono ?_
            rintro e w4 ⟨rfl, rfl⟩
            go_wp2_with fail
            go_ret3
            exact ⟨by rw [HE.out]; rfl, HBW.out⟩
          · have hcf : Lib.contains D.data.toList [95] = false := by simpa using hc
            have HC1 := Lib.hid (fun W (h : Laid W) => show Calls Tryd.prog 28 #[.string D, .string ⟨#[95]⟩] W fun e w' => e = .returned (.bool false) ∧ w' = W from by have := HC.out W h; rwa [show Lib.contains D.data.toList (⟨#[95]⟩ : ByteArray).data.toList = false from hcf] at this)
            have HE := Lib.hid (show R = (puVal (puOf 10 D.data.toList), decide (D.size < s.size) || decide (2147483647 < puVal (puOf 10 D.data.toList)), puOk (puOf 10 D.data.toList)) by rw [HR1.out, if_neg h1, hb, if_neg hc])
            have hrg := puVal_range 10 D.data.toList
            have HPU := Lib.hid (fun W (h : Laid W) => parse_any 10 (by decide) D (by omega) W h)
            clear HC HR1 hb hc hcf
            generalize puVal (puOf 10 D.data.toList) = v at HE hrg HPU
            generalize puOk (puOf 10 D.data.toList) = o at HE HPU
            have hvw : IntKind.u32.wrap v = v := by rw [IntKind.wrap_u32]; omega
            go_wp2_with fail
            refine (HC1.out _ HLW.out).mono ?_
            rintro e w4 ⟨rfl, rfl⟩
            go_wp2_with fail
            refine (HPU.out _ HLW.out).mono ?_
            rintro e w5 ⟨ev, rfl, hev, hb5⟩
            have HB5 := Lib.hid (HBW.out.trans (hb5.mono HBW.out.size))
            clear hb5
            by_cases hu : D.size < s.size
            · have hut : decide (D.size < s.size) = true := decide_eq_true hu
              rw [hut] at HE ⊢
              rcases hev with ⟨ho, rfl⟩ | ⟨ho, te, pe, rfl⟩
              all_goals
                subst ho
                go_wp2_with fail
                go_quiet (fail)
                go_wp2_with fail
                go_ret3
                exact ⟨by rw [HE.out]; rfl, HB5.out.trans ((bdn _ _).mono HB5.out.size)⟩
            · have huf : decide (D.size < s.size) = false := decide_eq_false hu
              rw [huf] at HE ⊢
              by_cases hv2 : 2147483647 < v
              · have hvt : decide (2147483647 < v) = true := decide_eq_true hv2
                rcases hev with ⟨ho, rfl⟩ | ⟨ho, te, pe, rfl⟩
                all_goals
                  subst ho
                  go_wp2_with fail
                  go_quiet (fail)
                  go_wp2_with fail
                  go_ret3
                  exact ⟨by rw [HE.out, hvt]; rfl, HB5.out.trans ((bdn _ _).mono HB5.out.size)⟩
              · have hvf : decide (2147483647 < v) = false := decide_eq_false hv2
                rcases hev with ⟨ho, rfl⟩ | ⟨ho, te, pe, rfl⟩
                all_goals
                  subst ho
                  go_wp2_with fail
                  go_quiet (fail)
                  go_wp2_with fail
                  go_ret3
                  exact ⟨by rw [HE.out, hvf]; rfl, HB5.out.trans ((bdn _ _).mono HB5.out.size)⟩

end Go.Proofs.YtjoboaaambdpoaaDoor
