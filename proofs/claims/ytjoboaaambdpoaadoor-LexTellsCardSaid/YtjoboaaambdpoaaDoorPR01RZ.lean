/- Texts joined: PR01x54 PR01x55 PR01x56 PR01x57 PR01x58 PR01x59 PR01x60 PR01x61. -/
import Derived.Test.YtjoboaaambdpoaaDoorPR01x0
-- Written by gp.py for this claim.
namespace Go.Proofs.YtjoboaaambdpoaaDoor.PR01
open Go.RowKit Go.Proofs.YtjoboaaambdpoaaDoorW.PrintWords Go.Proofs.YtjoboaaambdpoaaDoorW.PrintLast Go.Proofs.YtjoboaaambdpoaaDoorW.PrintMore
attribute [local go_sem] max2_int min2_int max_two min_two max_three min_three max_four min_four   -- for this text's walks alone
set_option linter.unusedVariables false
set_option linter.unusedSimpArgs false

/-! ### switchbackref01_letter: function 33 -/
def switchbackref01_letter.f (a0 : Int) : Option (Bool) := if a0 ≥ 97 then (if a0 ≤ 122 then (some true) else (if a0 ≥ 65 then (if a0 ≤ 90 then (some true) else (some (a0 == 95))) else (some (a0 == 95)))) else (if a0 ≥ 65 then (if a0 ≤ 90 then (some true) else (some (a0 == 95))) else (some (a0 == 95)))
set_option maxHeartbeats 8000000 in
set_option maxRecDepth 100000 in
theorem switchbackref01_letter.calls (a0 : Int) (r : Bool) (w : World) (h : switchbackref01_letter.f a0 = some r) :
    Calls Tryd.prog 33 #[.int .u8 a0] w fun e w' => e = .returned (.bool r) ∧ Drawn0 w w' := by
  have H : (if a0 ≥ 97 then (if a0 ≤ 122 then (some true) else (if a0 ≥ 65 then (if a0 ≤ 90 then (some true) else (some (a0 == 95))) else (some (a0 == 95)))) else (if a0 ≥ 65 then (if a0 ≤ 90 then (some true) else (some (a0 == 95))) else (some (a0 == 95)))) = some r := h
  clear h
  by_cases c2 : a0 ≥ 97
  · rw [if_pos c2] at H
    have c2b0 : decide (97 ≤ a0) = true := decide_eq_true c2
    clear c2
    by_cases c3 : a0 ≤ 122
    · rw [if_pos c3] at H
      have c3b0 : decide (a0 ≤ 122) = true := decide_eq_true c3
      clear c3
      obtain rfl := Option.some.inj H
      go_enter Tryd.func33, Tryd.ntmps33
      go_wp2
      go_ret
      exact ⟨by first | rfl | (simp; done) | (simp [*]; done), by repeat (first | exact Drawn0.refl _ | apply Drawn0.step)⟩
    · rw [if_neg c3] at H
      have c3b0 : decide (a0 ≤ 122) = false := decide_eq_false c3
      clear c3
      by_cases c4 : a0 ≥ 65
      · rw [if_pos c4] at H
        have c4b0 : decide (65 ≤ a0) = true := decide_eq_true c4
        clear c4
        by_cases c5 : a0 ≤ 90
        · rw [if_pos c5] at H
          have c5b0 : decide (a0 ≤ 90) = true := decide_eq_true c5
          clear c5
          obtain rfl := Option.some.inj H
          go_enter Tryd.func33, Tryd.ntmps33
          go_wp2
          go_ret
          exact ⟨by first | rfl | (simp; done) | (simp [*]; done), by repeat (first | exact Drawn0.refl _ | apply Drawn0.step)⟩
        · rw [if_neg c5] at H
          have c5b0 : decide (a0 ≤ 90) = false := decide_eq_false c5
          clear c5
          obtain rfl := Option.some.inj H
          go_enter Tryd.func33, Tryd.ntmps33
          go_wp2
          go_ret
          exact ⟨by first | rfl | (simp; done) | (simp [*]; done), by repeat (first | exact Drawn0.refl _ | apply Drawn0.step)⟩
      · rw [if_neg c4] at H
        have c4b0 : decide (65 ≤ a0) = false := decide_eq_false c4
        clear c4
        obtain rfl := Option.some.inj H
        go_enter Tryd.func33, Tryd.ntmps33
        go_wp2
        go_ret
        exact ⟨by first | rfl | (simp; done) | (simp [*]; done), by repeat (first | exact Drawn0.refl _ | apply Drawn0.step)⟩
  · rw [if_neg c2] at H
    have c2b0 : decide (97 ≤ a0) = false := decide_eq_false c2
    clear c2
    by_cases c6 : a0 ≥ 65
    · rw [if_pos c6] at H
      have c6b0 : decide (65 ≤ a0) = true := decide_eq_true c6
      clear c6
      by_cases c7 : a0 ≤ 90
      · rw [if_pos c7] at H
        have c7b0 : decide (a0 ≤ 90) = true := decide_eq_true c7
        clear c7
        obtain rfl := Option.some.inj H
        go_enter Tryd.func33, Tryd.ntmps33
        go_wp2
        go_ret
        exact ⟨by first | rfl | (simp; done) | (simp [*]; done), by repeat (first | exact Drawn0.refl _ | apply Drawn0.step)⟩
      · rw [if_neg c7] at H
        have c7b0 : decide (a0 ≤ 90) = false := decide_eq_false c7
        clear c7
        obtain rfl := Option.some.inj H
        go_enter Tryd.func33, Tryd.ntmps33
        go_wp2
        go_ret
        exact ⟨by first | rfl | (simp; done) | (simp [*]; done), by repeat (first | exact Drawn0.refl _ | apply Drawn0.step)⟩
    · rw [if_neg c6] at H
      have c6b0 : decide (65 ≤ a0) = false := decide_eq_false c6
      clear c6
      obtain rfl := Option.some.inj H
      go_enter Tryd.func33, Tryd.ntmps33
      go_wp2
      go_ret
      exact ⟨by first | rfl | (simp; done) | (simp [*]; done), by repeat (first | exact Drawn0.refl _ | apply Drawn0.step)⟩

end Go.Proofs.YtjoboaaambdpoaaDoor.PR01

-- Written by gp.py for this claim.
namespace Go.Proofs.YtjoboaaambdpoaaDoor.PR01
open Go.RowKit Go.Proofs.YtjoboaaambdpoaaDoorW.PrintWords Go.Proofs.YtjoboaaambdpoaaDoorW.PrintLast Go.Proofs.YtjoboaaambdpoaaDoorW.PrintMore
attribute [local go_sem] max2_int min2_int max_two min_two max_three min_three max_four min_four   -- for this text's walks alone
set_option linter.unusedVariables false
set_option linter.unusedSimpArgs false

/-! ### switchbackref01_digit: function 36 -/
def switchbackref01_digit.f (a0 : Int) : Option (Bool) := if a0 ≥ 48 then (some (decide (a0 ≤ 57))) else (some false)
set_option maxHeartbeats 8000000 in
set_option maxRecDepth 100000 in
theorem switchbackref01_digit.calls (a0 : Int) (r : Bool) (w : World) (h : switchbackref01_digit.f a0 = some r) :
    Calls Tryd.prog 36 #[.int .u8 a0] w fun e w' => e = .returned (.bool r) ∧ Drawn0 w w' := by
  have H : (if a0 ≥ 48 then (some (decide (a0 ≤ 57))) else (some false)) = some r := h
  clear h
  by_cases c2 : a0 ≥ 48
  · rw [if_pos c2] at H
    have c2b0 : decide (48 ≤ a0) = true := decide_eq_true c2
    clear c2
    obtain rfl := Option.some.inj H
    go_enter Tryd.func36, Tryd.ntmps36
    go_wp2
    go_ret
    exact ⟨by first | rfl | (simp; done) | (simp [*]; done), by repeat (first | exact Drawn0.refl _ | apply Drawn0.step)⟩
  · rw [if_neg c2] at H
    have c2b0 : decide (48 ≤ a0) = false := decide_eq_false c2
    clear c2
    obtain rfl := Option.some.inj H
    go_enter Tryd.func36, Tryd.ntmps36
    go_wp2
    go_ret
    exact ⟨by first | rfl | (simp; done) | (simp [*]; done), by repeat (first | exact Drawn0.refl _ | apply Drawn0.step)⟩

end Go.Proofs.YtjoboaaambdpoaaDoor.PR01

-- Written by gp.py for this claim.
namespace Go.Proofs.YtjoboaaambdpoaaDoor.PR01
open Go.RowKit Go.Proofs.YtjoboaaambdpoaaDoorW.PrintWords Go.Proofs.YtjoboaaambdpoaaDoorW.PrintLast Go.Proofs.YtjoboaaambdpoaaDoorW.PrintMore
attribute [local go_sem] max2_int min2_int max_two min_two max_three min_three max_four min_four   -- for this text's walks alone
set_option linter.unusedVariables false
set_option linter.unusedSimpArgs false

/-! ### switchbackref01_run: function 34 -/
mutual
def switchbackref01_run.l0 : Nat → ByteArray → Int → Option (Int)
  | 0, _, _ => none
  | k + 1, x0, x1 => if x1 < (x0.size : Int) then (if 0 ≤ x1 then ((switchbackref01_letter.f (bt x0 x1)).bind fun t179 => (if t179 = true then (switchbackref01_run.j1 k x0 x1 true) else ((switchbackref01_digit.f (bt x0 x1)).bind fun t180 => (switchbackref01_run.j1 k x0 x1 t180)))) else (none)) else (switchbackref01_run.j1 k x0 x1 false)
def switchbackref01_run.j1 : Nat → ByteArray → Int → Bool → Option (Int)
  | 0, _, _, _ => none
  | k + 1, x0, x1, x20 => if x20 = true then (switchbackref01_run.l0 k x0 (wrap64 (x1 + 1))) else (some x1)
end
def switchbackref01_run.f (k : Nat) (a0 : ByteArray) (a1 : Int) : Option (Int) := switchbackref01_run.l0 k a0 a1
theorem switchbackref01_run.mono_l : ∀ k, (∀ y0 y1, LeO (switchbackref01_run.l0 k y0 y1) (switchbackref01_run.l0 (k + 1) y0 y1)) ∧ (∀ y0 y1 y2, LeO (switchbackref01_run.j1 k y0 y1 y2) (switchbackref01_run.j1 (k + 1) y0 y1 y2))
  | 0 => ⟨fun _ _ r h => by simp [switchbackref01_run.l0] at h, fun _ _ _ r h => by simp [switchbackref01_run.j1] at h⟩
  | k + 1 => by
    obtain ⟨ih0, ih1⟩ := switchbackref01_run.mono_l k
    refine ⟨?_, ?_⟩
    · intro y0 y1
      unfold switchbackref01_run.l0
      repeat' first
      | (with_reducible exact ih0 _ _)
      | (with_reducible exact ih1 _ _ _)
      | (with_reducible exact LeO.refl _)
      | (with_reducible exact LeO.none _)
      | (with_reducible refine LeO.ite ?_ ?_)
      | (with_reducible refine LeO.bind ?_ (fun _ => ?_))
      | exact ih0 _ _
      | exact ih1 _ _ _
      | exact LeO.none _
      | refine LeO.ite ?_ ?_
      | refine LeO.bind ?_ (fun _ => ?_)
    · intro y0 y1 y2
      unfold switchbackref01_run.j1
      repeat' first
      | (with_reducible exact ih0 _ _)
      | (with_reducible exact ih1 _ _ _)
      | (with_reducible exact LeO.refl _)
      | (with_reducible exact LeO.none _)
      | (with_reducible refine LeO.ite ?_ ?_)
      | (with_reducible refine LeO.bind ?_ (fun _ => ?_))
      | exact ih0 _ _
      | exact ih1 _ _ _
      | exact LeO.none _
      | refine LeO.ite ?_ ?_
      | refine LeO.bind ?_ (fun _ => ?_)
theorem switchbackref01_run.mono : ∀ a0 a1 k, LeO (switchbackref01_run.f k a0 a1) (switchbackref01_run.f (k + 1) a0 a1) := by
  intro a0 a1 k
  obtain ⟨ih0, ih1⟩ := switchbackref01_run.mono_l k
  unfold switchbackref01_run.f
  repeat' first
      | (with_reducible exact ih0 _ _)
      | (with_reducible exact ih1 _ _ _)
      | (with_reducible exact LeO.refl _)
      | (with_reducible exact LeO.none _)
      | (with_reducible refine LeO.ite ?_ ?_)
      | (with_reducible refine LeO.bind ?_ (fun _ => ?_))
      | exact ih0 _ _
      | exact ih1 _ _ _
      | exact LeO.none _
      | refine LeO.ite ?_ ?_
      | refine LeO.bind ?_ (fun _ => ?_)
set_option maxHeartbeats 8000000 in
set_option maxRecDepth 100000 in
theorem switchbackref01_run.calls (k : Nat) (a0 : ByteArray) (a1 : Int) (r : Int) (w : World) (h : switchbackref01_run.f k a0 a1 = some r) :
    Calls Tryd.prog 34 #[.string a0, .int .i64 a1] w fun e w' => e = .returned (.int .i64 r) ∧ Drawn0 w w' := by
  have H : (switchbackref01_run.l0 k a0 a1) = some r := h
  clear h
  have H' := Aside0.mk H
  clear H
  go_enter Tryd.func34, Tryd.ntmps34
  go_wp2
  go_loopg [1] k (fun kq v1 w' => ∃ (x1_1 : Int), v1 = .int .i64 x1_1 ∧ Aside0 (switchbackref01_run.l0 kq a0 x1_1 = some r) ∧ Aside0 (kq ≤ k) ∧ Drawn0 w w')
  case atStart => exact ⟨(a1), (by first | rfl | (simp; done) | (simp [*]; done)), H', ⟨Nat.le_refl _⟩, by repeat (first | exact Drawn0.refl _ | apply Drawn0.step)⟩
  case round =>
    clear H'
    try clear p2
    obtain ⟨x1_1, rfl, HA, HK1, ⟨m1, rfl⟩⟩ := hrel
    cases gk with
    | zero => exact absurd HA.out (by simp [switchbackref01_run.l0])
    | succ k1 =>
      have H := HA.out
      clear HA
      simp only [switchbackref01_run.l0] at H
      have HC3 := Aside0.mk H
      clear H
      go_upto_region 1 with (fail)
      go_cut [20] (fun v20 wc => ∃ (kq : Nat) (x20_2 : Bool), v20 = .bool x20_2 ∧ Aside0 (switchbackref01_run.j1 kq a0 x1_1 x20_2 = some r) ∧ Aside0 (kq ≤ k1) ∧ Drawn0 w wc)
      case first =>
        have H := HC3.out
        clear HC3
        by_cases c4 : x1_1 < (a0.size : Int)
        · rw [if_pos c4] at H
          have c4b0 : decide (x1_1 < (a0.size : Int)) = true := decide_eq_true c4
          clear c4
          (first | rw [c4b0] | (simp only [i64_w, i32_w]; rw [c4b0]) | skip)
          by_cases c5 : 0 ≤ x1_1
          · rw [if_pos c5] at H
            have c5b0 : decide (0 ≤ x1_1) = true := decide_eq_true c5
            clear c5
            replace H := Option.bind_eq_some_iff.mp H
            obtain ⟨t179, A70, H⟩ := H
            replace H : (if t179 = true then (switchbackref01_run.j1 k1 a0 x1_1 true) else ((switchbackref01_digit.f (bt a0 x1_1)).bind fun t180 => (switchbackref01_run.j1 k1 a0 x1_1 t180))) = some r := H
            have A7 := Aside0.mk A70
            clear A70
            by_cases c8 : t179 = true
            · subst c8
              have H1 : (switchbackref01_run.j1 k1 a0 x1_1 true) = some r := by rw [if_pos rfl] at H; exact H
              clear H
              have H := H1
              clear H1
              have H' := Aside0.mk H
              clear H
              have p6 : 0 ≤ (x1_1 : Int) := of_decide_eq_true (by first | (with_reducible assumption) | assumption)
              have q6 : x1_1 < (a0.size : Int) := of_decide_eq_true (by first | (with_reducible assumption) | assumption)
              have hx6 := bt_at a0 x1_1
              replace p6 := eq_true p6
              replace q6 := eq_true q6
              go_wp2_with (first | (go_at_call 33; (with_reducible refine (switchbackref01_letter.calls (bt a0 x1_1) true _ A7.out).mono ?_); rintro e w' ⟨rfl, ⟨nd, rfl⟩⟩))
              go_meet
              case rel => exact ⟨_, (true), (by first | rfl | (simp; done) | (simp [*]; done)), H', ⟨by have := HK1.out; first | omega | exact Nat.le_refl _⟩, by repeat (first | exact Drawn0.refl _ | apply Drawn0.step)⟩
            · replace c8 := Bool.eq_false_iff.mpr c8
              subst c8
              have H1 : ((switchbackref01_digit.f (bt a0 x1_1)).bind fun t180 => (switchbackref01_run.j1 k1 a0 x1_1 t180)) = some r := by rw [if_neg (show ¬ (false = true) by decide)] at H; exact H
              clear H
              have H := H1
              clear H1
              replace H := Option.bind_eq_some_iff.mp H
              obtain ⟨t180, A100, H⟩ := H
              replace H : (switchbackref01_run.j1 k1 a0 x1_1 t180) = some r := H
              have A10 := Aside0.mk A100
              clear A100
              have H' := Aside0.mk H
              clear H
              have p6 : 0 ≤ (x1_1 : Int) := of_decide_eq_true (by first | (with_reducible assumption) | assumption)
              have q6 : x1_1 < (a0.size : Int) := of_decide_eq_true (by first | (with_reducible assumption) | assumption)
              have hx6 := bt_at a0 x1_1
              replace p6 := eq_true p6
              replace q6 := eq_true q6
              go_wp2_with (first | (go_at_call 33; (with_reducible refine (switchbackref01_letter.calls (bt a0 x1_1) false _ A7.out).mono ?_); rintro e w' ⟨rfl, ⟨nd, rfl⟩⟩; have p9 : 0 ≤ (x1_1 : Int) := of_decide_eq_true (by first | (with_reducible assumption) | assumption); have q9 : x1_1 < (a0.size : Int) := of_decide_eq_true (by first | (with_reducible assumption) | assumption); have hx9 := bt_at a0 x1_1; replace p9 := eq_true p9; replace q9 := eq_true q9) | (go_at_call 36; (with_reducible refine (switchbackref01_digit.calls (bt a0 x1_1) t180 _ A10.out).mono ?_); rintro e w' ⟨rfl, ⟨nd, rfl⟩⟩))
              go_meet
              case rel => exact ⟨_, (t180), (by first | rfl | (simp; done) | (simp [*]; done)), H', ⟨by have := HK1.out; first | omega | exact Nat.le_refl _⟩, by repeat (first | exact Drawn0.refl _ | apply Drawn0.step)⟩
          · rw [if_neg c5] at H
            exact absurd H (by simp)
        · rw [if_neg c4] at H
          have c4b0 : decide (x1_1 < (a0.size : Int)) = false := decide_eq_false c4
          clear c4
          (first | rw [c4b0] | (simp only [i64_w, i32_w]; rw [c4b0]) | skip)
          have H' := Aside0.mk H
          clear H
          go_wp2
          go_meet
          case rel => exact ⟨_, (false), (by first | rfl | (simp; done) | (simp [*]; done)), H', ⟨by have := HK1.out; first | omega | exact Nat.le_refl _⟩, by repeat (first | exact Drawn0.refl _ | apply Drawn0.step)⟩
      case rest =>
        clear HC3
        try clear p2
        try clear c3
        try clear c4
        try clear c4b0
        try clear c5
        try clear c5b0
        try clear p6
        try clear q6
        try clear hx6
        try clear c8
        try clear p9
        try clear q9
        try clear hx9
        try clear p2
        try clear p6
        try clear p9
        try clear q6
        try clear q9
        obtain ⟨kq, x20_2, rfl, HA, HJ2, ⟨mc2, rfl⟩⟩ := hcut
        cases kq with
        | zero => exact absurd HA.out (by simp [switchbackref01_run.j1])
        | succ kj2 =>
          have H := HA.out
          clear HA
          simp only [switchbackref01_run.j1] at H
          by_cases c11 : x20_2 = true
          · subst c11
            have H1 : (switchbackref01_run.l0 kj2 a0 (wrap64 (x1_1 + 1))) = some r := by rw [if_pos rfl] at H; exact H
            clear H
            have H := H1
            clear H1
            have H' := Aside0.mk H
            clear H
            go_wp2
            go_roundg kj2
            case measure => have := HK1.out; have := HJ2.out; omega
            case rel => exact ⟨(wrap64 (x1_1 + 1)), (by first | rfl | (simp; done) | (simp [*]; done)), H', ⟨by have := HK1.out; have := HJ2.out; omega⟩, by repeat (first | exact Drawn0.refl _ | apply Drawn0.step)⟩
          · replace c11 := Bool.eq_false_iff.mpr c11
            subst c11
            have H1 : (some x1_1) = some r := by rw [if_neg (show ¬ (false = true) by decide)] at H; exact H
            clear H
            have H := H1
            clear H1
            obtain rfl := Option.some.inj H
            go_wp2
            go_ret
            exact ⟨by first | rfl | (simp; done) | (simp [*]; done), by repeat (first | exact Drawn0.refl _ | apply Drawn0.step)⟩

end Go.Proofs.YtjoboaaambdpoaaDoor.PR01

-- Written by gp.py for this claim.
namespace Go.Proofs.YtjoboaaambdpoaaDoor.PR01
open Go.RowKit Go.Proofs.YtjoboaaambdpoaaDoorW.PrintWords Go.Proofs.YtjoboaaambdpoaaDoorW.PrintLast Go.Proofs.YtjoboaaambdpoaaDoorW.PrintMore
attribute [local go_sem] max2_int min2_int max_two min_two max_three min_three max_four min_four   -- for this text's walks alone
set_option linter.unusedVariables false
set_option linter.unusedSimpArgs false

namespace q_switchbackref01_word
theorem uZ {p : Prop} (h : p) : Aside0 p := ⟨h⟩
end q_switchbackref01_word
open q_switchbackref01_word

/-! ### switchbackref01_word: function 35 -/
def switchbackref01_word.j0 : Nat → Bool → Option (Bool)
  | 0, _ => none
  | k + 1, x4 => if x4 = true then (some true) else (some false)
def switchbackref01_word.f (k : Nat) (a0 : ByteArray) : Option (Bool) := if a0.toList = ([98, 114, 101, 97, 107] : List UInt8) then (switchbackref01_word.j0 k (a0.toList == ([98, 114, 101, 97, 107] : List UInt8))) else (if a0.toList = ([99, 97, 115, 101] : List UInt8) then (switchbackref01_word.j0 k (a0.toList == ([99, 97, 115, 101] : List UInt8))) else (if a0.toList = ([99, 104, 97, 114] : List UInt8) then (switchbackref01_word.j0 k (a0.toList == ([99, 104, 97, 114] : List UInt8))) else (if a0.toList = ([99, 111, 110, 116, 105, 110, 117, 101] : List UInt8) then (switchbackref01_word.j0 k (a0.toList == ([99, 111, 110, 116, 105, 110, 117, 101] : List UInt8))) else (if a0.toList = ([100, 101, 102, 97, 117, 108, 116] : List UInt8) then (switchbackref01_word.j0 k (a0.toList == ([100, 101, 102, 97, 117, 108, 116] : List UInt8))) else (if a0.toList = ([100, 111] : List UInt8) then (switchbackref01_word.j0 k (a0.toList == ([100, 111] : List UInt8))) else (if a0.toList = ([101, 108, 115, 101] : List UInt8) then (switchbackref01_word.j0 k (a0.toList == ([101, 108, 115, 101] : List UInt8))) else (if a0.toList = ([101, 110, 117, 109] : List UInt8) then (switchbackref01_word.j0 k (a0.toList == ([101, 110, 117, 109] : List UInt8))) else (if a0.toList = ([102, 111, 114] : List UInt8) then (switchbackref01_word.j0 k (a0.toList == ([102, 111, 114] : List UInt8))) else (if a0.toList = ([103, 111, 116, 111] : List UInt8) then (switchbackref01_word.j0 k (a0.toList == ([103, 111, 116, 111] : List UInt8))) else (if a0.toList = ([105, 102] : List UInt8) then (switchbackref01_word.j0 k (a0.toList == ([105, 102] : List UInt8))) else (if a0.toList = ([105, 110, 116] : List UInt8) then (switchbackref01_word.j0 k (a0.toList == ([105, 110, 116] : List UInt8))) else (if a0.toList = ([114, 101, 116, 117, 114, 110] : List UInt8) then (switchbackref01_word.j0 k (a0.toList == ([114, 101, 116, 117, 114, 110] : List UInt8))) else (if a0.toList = ([115, 119, 105, 116, 99, 104] : List UInt8) then (switchbackref01_word.j0 k (a0.toList == ([115, 119, 105, 116, 99, 104] : List UInt8))) else (if a0.toList = ([117, 110, 115, 105, 103, 110, 101, 100] : List UInt8) then (switchbackref01_word.j0 k (a0.toList == ([117, 110, 115, 105, 103, 110, 101, 100] : List UInt8))) else (if a0.toList = ([118, 111, 105, 100] : List UInt8) then (switchbackref01_word.j0 k (a0.toList == ([118, 111, 105, 100] : List UInt8))) else (switchbackref01_word.j0 k (a0.toList == ([119, 104, 105, 108, 101] : List UInt8))))))))))))))))))
theorem switchbackref01_word.mono_l : ∀ k, (∀ y0, LeO (switchbackref01_word.j0 k y0) (switchbackref01_word.j0 (k + 1) y0))
  | 0 => fun _ r h => by simp [switchbackref01_word.j0] at h
  | k + 1 => by
    have ih0 := switchbackref01_word.mono_l k
    · intro y0
      unfold switchbackref01_word.j0
      repeat' first
      | (with_reducible exact ih0 _)
      | (with_reducible exact LeO.refl _)
      | (with_reducible exact LeO.none _)
      | (with_reducible refine LeO.ite ?_ ?_)
      | (with_reducible refine LeO.bind ?_ (fun _ => ?_))
      | exact ih0 _
      | exact LeO.none _
      | refine LeO.ite ?_ ?_
      | refine LeO.bind ?_ (fun _ => ?_)
theorem switchbackref01_word.mono : ∀ a0 k, LeO (switchbackref01_word.f k a0) (switchbackref01_word.f (k + 1) a0) := by
  intro a0 k
  have ih0 := switchbackref01_word.mono_l k
  unfold switchbackref01_word.f
  repeat' first
      | (with_reducible exact ih0 _)
      | (with_reducible exact LeO.refl _)
      | (with_reducible exact LeO.none _)
      | (with_reducible refine LeO.ite ?_ ?_)
      | (with_reducible refine LeO.bind ?_ (fun _ => ?_))
      | exact ih0 _
      | exact LeO.none _
      | refine LeO.ite ?_ ?_
      | refine LeO.bind ?_ (fun _ => ?_)
set_option maxHeartbeats 8000000 in
set_option maxRecDepth 100000 in
theorem switchbackref01_word.calls (k : Nat) (a0 : ByteArray) (r : Bool) (w : World) (h : switchbackref01_word.f k a0 = some r) :
    Calls Tryd.prog 35 #[.string a0] w fun e w' => e = .returned (.bool r) ∧ Drawn0 w w' := by
 have H : (if a0.toList = ([98, 114, 101, 97, 107] : List UInt8) then (switchbackref01_word.j0 k (a0.toList == ([98, 114, 101, 97, 107] : List UInt8))) else (if a0.toList = ([99, 97, 115, 101] : List UInt8) then (switchbackref01_word.j0 k (a0.toList == ([99, 97, 115, 101] : List UInt8))) else (if a0.toList = ([99, 104, 97, 114] : List UInt8) then (switchbackref01_word.j0 k (a0.toList == ([99, 104, 97, 114] : List UInt8))) else (if a0.toList = ([99, 111, 110, 116, 105, 110, 117, 101] : List UInt8) then (switchbackref01_word.j0 k (a0.toList == ([99, 111, 110, 116, 105, 110, 117, 101] : List UInt8))) else (if a0.toList = ([100, 101, 102, 97, 117, 108, 116] : List UInt8) then (switchbackref01_word.j0 k (a0.toList == ([100, 101, 102, 97, 117, 108, 116] : List UInt8))) else (if a0.toList = ([100, 111] : List UInt8) then (switchbackref01_word.j0 k (a0.toList == ([100, 111] : List UInt8))) else (if a0.toList = ([101, 108, 115, 101] : List UInt8) then (switchbackref01_word.j0 k (a0.toList == ([101, 108, 115, 101] : List UInt8))) else (if a0.toList = ([101, 110, 117, 109] : List UInt8) then (switchbackref01_word.j0 k (a0.toList == ([101, 110, 117, 109] : List UInt8))) else (if a0.toList = ([102, 111, 114] : List UInt8) then (switchbackref01_word.j0 k (a0.toList == ([102, 111, 114] : List UInt8))) else (if a0.toList = ([103, 111, 116, 111] : List UInt8) then (switchbackref01_word.j0 k (a0.toList == ([103, 111, 116, 111] : List UInt8))) else (if a0.toList = ([105, 102] : List UInt8) then (switchbackref01_word.j0 k (a0.toList == ([105, 102] : List UInt8))) else (if a0.toList = ([105, 110, 116] : List UInt8) then (switchbackref01_word.j0 k (a0.toList == ([105, 110, 116] : List UInt8))) else (if a0.toList = ([114, 101, 116, 117, 114, 110] : List UInt8) then (switchbackref01_word.j0 k (a0.toList == ([114, 101, 116, 117, 114, 110] : List UInt8))) else (if a0.toList = ([115, 119, 105, 116, 99, 104] : List UInt8) then (switchbackref01_word.j0 k (a0.toList == ([115, 119, 105, 116, 99, 104] : List UInt8))) else (if a0.toList = ([117, 110, 115, 105, 103, 110, 101, 100] : List UInt8) then (switchbackref01_word.j0 k (a0.toList == ([117, 110, 115, 105, 103, 110, 101, 100] : List UInt8))) else (if a0.toList = ([118, 111, 105, 100] : List UInt8) then (switchbackref01_word.j0 k (a0.toList == ([118, 111, 105, 100] : List UInt8))) else (switchbackref01_word.j0 k (a0.toList == ([119, 104, 105, 108, 101] : List UInt8))))))))))))))))))) = some r := h
 clear h
 have HC2 := uZ H
 clear H
 go_enter Tryd.func35, Tryd.ntmps35
 go_upto_if 4 with (fail)
 go_cut [4] (fun v4 wc => ∃ (kq : Nat) (x4_1 : Bool), v4 = .bool x4_1 ∧ Aside0 (switchbackref01_word.j0 kq x4_1 = some r) ∧ Aside0 (kq ≤ k) ∧ Drawn0 w wc)
 case first =>
  have H := HC2.out
  clear HC2
  by_cases c3 : a0.toList = ([98, 114, 101, 97, 107] : List UInt8)
  ·rw [if_pos c3] at H
   have c3b0 : (a0.toList == ([98, 114, 101, 97, 107] : List UInt8)) = true := beq_iff_eq.mpr c3
   have c3b1 : (a0.toList != ([98, 114, 101, 97, 107] : List UInt8)) = false := bne_eq_false_iff_eq.mpr c3
   clear c3
   (first | rw [c3b0] | (simp only [i64_w, i32_w]; rw [c3b0]) | skip)
   have H' := uZ H
   clear H
   go_wp2
   go_meet
   case rel => exact ⟨_, ((a0.toList == ([98, 114, 101, 97, 107] : List UInt8))), (by first | rfl | (simp; done) | (simp [*]; done)), H', ⟨by first | omega | exact Nat.le_refl _⟩, by repeat (first | exact Drawn0.refl _ | apply Drawn0.step)⟩
  rw [if_neg c3] at H
  have c3b0 : (a0.toList == ([98, 114, 101, 97, 107] : List UInt8)) = false := beq_eq_false_iff_ne.mpr c3
  have c3b1 : (a0.toList != ([98, 114, 101, 97, 107] : List UInt8)) = true := bne_iff_ne.mpr c3
  (first | rw [c3b0] | (simp only [i64_w, i32_w]; rw [c3b0]) | skip)
  by_cases c4 : a0.toList = ([99, 97, 115, 101] : List UInt8)
  ·rw [if_pos c4] at H
   have c4b0 : (a0.toList == ([99, 97, 115, 101] : List UInt8)) = true := beq_iff_eq.mpr c4
   have c4b1 : (a0.toList != ([99, 97, 115, 101] : List UInt8)) = false := bne_eq_false_iff_eq.mpr c4
   clear c4
   have H' := uZ H
   clear H
   go_wp2
   go_meet
   case rel => exact ⟨_, ((a0.toList == ([99, 97, 115, 101] : List UInt8))), (by first | rfl | (simp; done) | (simp [*]; done)), H', ⟨by first | omega | exact Nat.le_refl _⟩, by repeat (first | exact Drawn0.refl _ | apply Drawn0.step)⟩
  rw [if_neg c4] at H
  have c4b0 : (a0.toList == ([99, 97, 115, 101] : List UInt8)) = false := beq_eq_false_iff_ne.mpr c4
  have c4b1 : (a0.toList != ([99, 97, 115, 101] : List UInt8)) = true := bne_iff_ne.mpr c4
  by_cases c5 : a0.toList = ([99, 104, 97, 114] : List UInt8)
  ·rw [if_pos c5] at H
   have c5b0 : (a0.toList == ([99, 104, 97, 114] : List UInt8)) = true := beq_iff_eq.mpr c5
   have c5b1 : (a0.toList != ([99, 104, 97, 114] : List UInt8)) = false := bne_eq_false_iff_eq.mpr c5
   clear c5
   have H' := uZ H
   clear H
   go_wp2
   go_meet
   case rel => exact ⟨_, ((a0.toList == ([99, 104, 97, 114] : List UInt8))), (by first | rfl | (simp; done) | (simp [*]; done)), H', ⟨by first | omega | exact Nat.le_refl _⟩, by repeat (first | exact Drawn0.refl _ | apply Drawn0.step)⟩
  rw [if_neg c5] at H
  have c5b0 : (a0.toList == ([99, 104, 97, 114] : List UInt8)) = false := beq_eq_false_iff_ne.mpr c5
  have c5b1 : (a0.toList != ([99, 104, 97, 114] : List UInt8)) = true := bne_iff_ne.mpr c5
  by_cases c6 : a0.toList = ([99, 111, 110, 116, 105, 110, 117, 101] : List UInt8)
  ·rw [if_pos c6] at H
   have c6b0 : (a0.toList == ([99, 111, 110, 116, 105, 110, 117, 101] : List UInt8)) = true := beq_iff_eq.mpr c6
   have c6b1 : (a0.toList != ([99, 111, 110, 116, 105, 110, 117, 101] : List UInt8)) = false := bne_eq_false_iff_eq.mpr c6
   clear c6
   have H' := uZ H
   clear H
   go_wp2
   go_meet
   case rel => exact ⟨_, ((a0.toList == ([99, 111, 110, 116, 105, 110, 117, 101] : List UInt8))), (by first | rfl | (simp; done) | (simp [*]; done)), H', ⟨by first | omega | exact Nat.le_refl _⟩, by repeat (first | exact Drawn0.refl _ | apply Drawn0.step)⟩
  rw [if_neg c6] at H
  have c6b0 : (a0.toList == ([99, 111, 110, 116, 105, 110, 117, 101] : List UInt8)) = false := beq_eq_false_iff_ne.mpr c6
  have c6b1 : (a0.toList != ([99, 111, 110, 116, 105, 110, 117, 101] : List UInt8)) = true := bne_iff_ne.mpr c6
  by_cases c7 : a0.toList = ([100, 101, 102, 97, 117, 108, 116] : List UInt8)
  ·rw [if_pos c7] at H
   have c7b0 : (a0.toList == ([100, 101, 102, 97, 117, 108, 116] : List UInt8)) = true := beq_iff_eq.mpr c7
   have c7b1 : (a0.toList != ([100, 101, 102, 97, 117, 108, 116] : List UInt8)) = false := bne_eq_false_iff_eq.mpr c7
   clear c7
   have H' := uZ H
   clear H
   go_wp2
   go_meet
   case rel => exact ⟨_, ((a0.toList == ([100, 101, 102, 97, 117, 108, 116] : List UInt8))), (by first | rfl | (simp; done) | (simp [*]; done)), H', ⟨by first | omega | exact Nat.le_refl _⟩, by repeat (first | exact Drawn0.refl _ | apply Drawn0.step)⟩
  rw [if_neg c7] at H
  have c7b0 : (a0.toList == ([100, 101, 102, 97, 117, 108, 116] : List UInt8)) = false := beq_eq_false_iff_ne.mpr c7
  have c7b1 : (a0.toList != ([100, 101, 102, 97, 117, 108, 116] : List UInt8)) = true := bne_iff_ne.mpr c7
  by_cases c8 : a0.toList = ([100, 111] : List UInt8)
  ·rw [if_pos c8] at H
   have c8b0 : (a0.toList == ([100, 111] : List UInt8)) = true := beq_iff_eq.mpr c8
   have c8b1 : (a0.toList != ([100, 111] : List UInt8)) = false := bne_eq_false_iff_eq.mpr c8
   clear c8
   have H' := uZ H
   clear H
   go_wp2
   go_meet
   case rel => exact ⟨_, ((a0.toList == ([100, 111] : List UInt8))), (by first | rfl | (simp; done) | (simp [*]; done)), H', ⟨by first | omega | exact Nat.le_refl _⟩, by repeat (first | exact Drawn0.refl _ | apply Drawn0.step)⟩
  rw [if_neg c8] at H
  have c8b0 : (a0.toList == ([100, 111] : List UInt8)) = false := beq_eq_false_iff_ne.mpr c8
  have c8b1 : (a0.toList != ([100, 111] : List UInt8)) = true := bne_iff_ne.mpr c8
  by_cases c9 : a0.toList = ([101, 108, 115, 101] : List UInt8)
  ·rw [if_pos c9] at H
   have c9b0 : (a0.toList == ([101, 108, 115, 101] : List UInt8)) = true := beq_iff_eq.mpr c9
   have c9b1 : (a0.toList != ([101, 108, 115, 101] : List UInt8)) = false := bne_eq_false_iff_eq.mpr c9
   clear c9
   have H' := uZ H
   clear H
   go_wp2
   go_meet
   case rel => exact ⟨_, ((a0.toList == ([101, 108, 115, 101] : List UInt8))), (by first | rfl | (simp; done) | (simp [*]; done)), H', ⟨by first | omega | exact Nat.le_refl _⟩, by repeat (first | exact Drawn0.refl _ | apply Drawn0.step)⟩
  rw [if_neg c9] at H
  have c9b0 : (a0.toList == ([101, 108, 115, 101] : List UInt8)) = false := beq_eq_false_iff_ne.mpr c9
  have c9b1 : (a0.toList != ([101, 108, 115, 101] : List UInt8)) = true := bne_iff_ne.mpr c9
  by_cases c10 : a0.toList = ([101, 110, 117, 109] : List UInt8)
  ·rw [if_pos c10] at H
   have c10b0 : (a0.toList == ([101, 110, 117, 109] : List UInt8)) = true := beq_iff_eq.mpr c10
   have c10b1 : (a0.toList != ([101, 110, 117, 109] : List UInt8)) = false := bne_eq_false_iff_eq.mpr c10
   clear c10
   have H' := uZ H
   clear H
   go_wp2
   go_meet
   case rel => exact ⟨_, ((a0.toList == ([101, 110, 117, 109] : List UInt8))), (by first | rfl | (simp; done) | (simp [*]; done)), H', ⟨by first | omega | exact Nat.le_refl _⟩, by repeat (first | exact Drawn0.refl _ | apply Drawn0.step)⟩
  rw [if_neg c10] at H
  have c10b0 : (a0.toList == ([101, 110, 117, 109] : List UInt8)) = false := beq_eq_false_iff_ne.mpr c10
  have c10b1 : (a0.toList != ([101, 110, 117, 109] : List UInt8)) = true := bne_iff_ne.mpr c10
  by_cases c11 : a0.toList = ([102, 111, 114] : List UInt8)
  ·rw [if_pos c11] at H
   have c11b0 : (a0.toList == ([102, 111, 114] : List UInt8)) = true := beq_iff_eq.mpr c11
   have c11b1 : (a0.toList != ([102, 111, 114] : List UInt8)) = false := bne_eq_false_iff_eq.mpr c11
   clear c11
   have H' := uZ H
   clear H
   go_wp2
   go_meet
   case rel => exact ⟨_, ((a0.toList == ([102, 111, 114] : List UInt8))), (by first | rfl | (simp; done) | (simp [*]; done)), H', ⟨by first | omega | exact Nat.le_refl _⟩, by repeat (first | exact Drawn0.refl _ | apply Drawn0.step)⟩
  rw [if_neg c11] at H
  have c11b0 : (a0.toList == ([102, 111, 114] : List UInt8)) = false := beq_eq_false_iff_ne.mpr c11
  have c11b1 : (a0.toList != ([102, 111, 114] : List UInt8)) = true := bne_iff_ne.mpr c11
  by_cases c12 : a0.toList = ([103, 111, 116, 111] : List UInt8)
  ·rw [if_pos c12] at H
   have c12b0 : (a0.toList == ([103, 111, 116, 111] : List UInt8)) = true := beq_iff_eq.mpr c12
   have c12b1 : (a0.toList != ([103, 111, 116, 111] : List UInt8)) = false := bne_eq_false_iff_eq.mpr c12
   clear c12
   have H' := uZ H
   clear H
   go_wp2
   go_meet
   case rel => exact ⟨_, ((a0.toList == ([103, 111, 116, 111] : List UInt8))), (by first | rfl | (simp; done) | (simp [*]; done)), H', ⟨by first | omega | exact Nat.le_refl _⟩, by repeat (first | exact Drawn0.refl _ | apply Drawn0.step)⟩
  rw [if_neg c12] at H
  have c12b0 : (a0.toList == ([103, 111, 116, 111] : List UInt8)) = false := beq_eq_false_iff_ne.mpr c12
  have c12b1 : (a0.toList != ([103, 111, 116, 111] : List UInt8)) = true := bne_iff_ne.mpr c12
  by_cases c13 : a0.toList = ([105, 102] : List UInt8)
  ·rw [if_pos c13] at H
   have c13b0 : (a0.toList == ([105, 102] : List UInt8)) = true := beq_iff_eq.mpr c13
   have c13b1 : (a0.toList != ([105, 102] : List UInt8)) = false := bne_eq_false_iff_eq.mpr c13
   clear c13
   have H' := uZ H
   clear H
   go_wp2
   go_meet
   case rel => exact ⟨_, ((a0.toList == ([105, 102] : List UInt8))), (by first | rfl | (simp; done) | (simp [*]; done)), H', ⟨by first | omega | exact Nat.le_refl _⟩, by repeat (first | exact Drawn0.refl _ | apply Drawn0.step)⟩
  rw [if_neg c13] at H
  have c13b0 : (a0.toList == ([105, 102] : List UInt8)) = false := beq_eq_false_iff_ne.mpr c13
  have c13b1 : (a0.toList != ([105, 102] : List UInt8)) = true := bne_iff_ne.mpr c13
  by_cases c14 : a0.toList = ([105, 110, 116] : List UInt8)
  ·rw [if_pos c14] at H
   have c14b0 : (a0.toList == ([105, 110, 116] : List UInt8)) = true := beq_iff_eq.mpr c14
   have c14b1 : (a0.toList != ([105, 110, 116] : List UInt8)) = false := bne_eq_false_iff_eq.mpr c14
   clear c14
   have H' := uZ H
   clear H
   go_wp2
   go_meet
   case rel => exact ⟨_, ((a0.toList == ([105, 110, 116] : List UInt8))), (by first | rfl | (simp; done) | (simp [*]; done)), H', ⟨by first | omega | exact Nat.le_refl _⟩, by repeat (first | exact Drawn0.refl _ | apply Drawn0.step)⟩
  rw [if_neg c14] at H
  have c14b0 : (a0.toList == ([105, 110, 116] : List UInt8)) = false := beq_eq_false_iff_ne.mpr c14
  have c14b1 : (a0.toList != ([105, 110, 116] : List UInt8)) = true := bne_iff_ne.mpr c14
  by_cases c15 : a0.toList = ([114, 101, 116, 117, 114, 110] : List UInt8)
  ·rw [if_pos c15] at H
   have c15b0 : (a0.toList == ([114, 101, 116, 117, 114, 110] : List UInt8)) = true := beq_iff_eq.mpr c15
   have c15b1 : (a0.toList != ([114, 101, 116, 117, 114, 110] : List UInt8)) = false := bne_eq_false_iff_eq.mpr c15
   clear c15
   have H' := uZ H
   clear H
   go_wp2
   go_meet
   case rel => exact ⟨_, ((a0.toList == ([114, 101, 116, 117, 114, 110] : List UInt8))), (by first | rfl | (simp; done) | (simp [*]; done)), H', ⟨by first | omega | exact Nat.le_refl _⟩, by repeat (first | exact Drawn0.refl _ | apply Drawn0.step)⟩
  rw [if_neg c15] at H
  have c15b0 : (a0.toList == ([114, 101, 116, 117, 114, 110] : List UInt8)) = false := beq_eq_false_iff_ne.mpr c15
  have c15b1 : (a0.toList != ([114, 101, 116, 117, 114, 110] : List UInt8)) = true := bne_iff_ne.mpr c15
  by_cases c16 : a0.toList = ([115, 119, 105, 116, 99, 104] : List UInt8)
  ·rw [if_pos c16] at H
   have c16b0 : (a0.toList == ([115, 119, 105, 116, 99, 104] : List UInt8)) = true := beq_iff_eq.mpr c16
   have c16b1 : (a0.toList != ([115, 119, 105, 116, 99, 104] : List UInt8)) = false := bne_eq_false_iff_eq.mpr c16
   clear c16
   have H' := uZ H
   clear H
   go_wp2
   go_meet
   case rel => exact ⟨_, ((a0.toList == ([115, 119, 105, 116, 99, 104] : List UInt8))), (by first | rfl | (simp; done) | (simp [*]; done)), H', ⟨by first | omega | exact Nat.le_refl _⟩, by repeat (first | exact Drawn0.refl _ | apply Drawn0.step)⟩
  rw [if_neg c16] at H
  have c16b0 : (a0.toList == ([115, 119, 105, 116, 99, 104] : List UInt8)) = false := beq_eq_false_iff_ne.mpr c16
  have c16b1 : (a0.toList != ([115, 119, 105, 116, 99, 104] : List UInt8)) = true := bne_iff_ne.mpr c16
  by_cases c17 : a0.toList = ([117, 110, 115, 105, 103, 110, 101, 100] : List UInt8)
  ·rw [if_pos c17] at H
   have c17b0 : (a0.toList == ([117, 110, 115, 105, 103, 110, 101, 100] : List UInt8)) = true := beq_iff_eq.mpr c17
   have c17b1 : (a0.toList != ([117, 110, 115, 105, 103, 110, 101, 100] : List UInt8)) = false := bne_eq_false_iff_eq.mpr c17
   clear c17
   have H' := uZ H
   clear H
   go_wp2
   go_meet
   case rel => exact ⟨_, ((a0.toList == ([117, 110, 115, 105, 103, 110, 101, 100] : List UInt8))), (by first | rfl | (simp; done) | (simp [*]; done)), H', ⟨by first | omega | exact Nat.le_refl _⟩, by repeat (first | exact Drawn0.refl _ | apply Drawn0.step)⟩
  rw [if_neg c17] at H
  have c17b0 : (a0.toList == ([117, 110, 115, 105, 103, 110, 101, 100] : List UInt8)) = false := beq_eq_false_iff_ne.mpr c17
  have c17b1 : (a0.toList != ([117, 110, 115, 105, 103, 110, 101, 100] : List UInt8)) = true := bne_iff_ne.mpr c17
  by_cases c18 : a0.toList = ([118, 111, 105, 100] : List UInt8)
  ·rw [if_pos c18] at H
   have c18b0 : (a0.toList == ([118, 111, 105, 100] : List UInt8)) = true := beq_iff_eq.mpr c18
   have c18b1 : (a0.toList != ([118, 111, 105, 100] : List UInt8)) = false := bne_eq_false_iff_eq.mpr c18
   clear c18
   have H' := uZ H
   clear H
   go_wp2
   go_meet
   case rel => exact ⟨_, ((a0.toList == ([118, 111, 105, 100] : List UInt8))), (by first | rfl | (simp; done) | (simp [*]; done)), H', ⟨by first | omega | exact Nat.le_refl _⟩, by repeat (first | exact Drawn0.refl _ | apply Drawn0.step)⟩
  rw [if_neg c18] at H
  have c18b0 : (a0.toList == ([118, 111, 105, 100] : List UInt8)) = false := beq_eq_false_iff_ne.mpr c18
  have c18b1 : (a0.toList != ([118, 111, 105, 100] : List UInt8)) = true := bne_iff_ne.mpr c18
  have H' := uZ H
  clear H
  go_wp2
  go_meet
  case rel => exact ⟨_, ((a0.toList == ([119, 104, 105, 108, 101] : List UInt8))), (by first | rfl | (simp; done) | (simp [*]; done)), H', ⟨by first | omega | exact Nat.le_refl _⟩, by repeat (first | exact Drawn0.refl _ | apply Drawn0.step)⟩
 case rest =>
  clear HC2
  try clear c1
  try clear p2
  try clear c3
  try clear c3b0
  try clear c3b1
  try clear c4
  try clear c4b0
  try clear c4b1
  try clear c5
  try clear c5b0
  try clear c5b1
  try clear c6
  try clear c6b0
  try clear c6b1
  try clear c7
  try clear c7b0
  try clear c7b1
  try clear c8
  try clear c8b0
  try clear c8b1
  try clear c9
  try clear c9b0
  try clear c9b1
  try clear c10
  try clear c10b0
  try clear c10b1
  try clear c11
  try clear c11b0
  try clear c11b1
  try clear c12
  try clear c12b0
  try clear c12b1
  try clear c13
  try clear c13b0
  try clear c13b1
  try clear c14
  try clear c14b0
  try clear c14b1
  try clear c15
  try clear c15b0
  try clear c15b1
  try clear c16
  try clear c16b0
  try clear c16b1
  try clear c17
  try clear c17b0
  try clear c17b1
  try clear c18
  try clear c18b0
  try clear c18b1
  obtain ⟨kq, x4_1, rfl, HA, HJ1, ⟨mc1, rfl⟩⟩ := hcut
  cases kq with
  | zero => exact absurd HA.out (by simp [switchbackref01_word.j0])
  | succ kj1 =>
   have H := HA.out
   clear HA
   simp only [switchbackref01_word.j0] at H
   by_cases c19 : x4_1 = true
   ·subst c19
    have H1 : (some true) = some r := by rw [if_pos rfl] at H; exact H
    clear H
    have H := H1
    clear H1
    obtain rfl := Option.some.inj H
    go_wp2
    go_ret
    exact ⟨by first | rfl | (simp; done) | (simp [*]; done), by repeat (first | exact Drawn0.refl _ | apply Drawn0.step)⟩
   replace c19 := Bool.eq_false_iff.mpr c19
   subst c19
   have H1 : (some false) = some r := by rw [if_neg (show ¬ (false = true) by decide)] at H; exact H
   clear H
   have H := H1
   clear H1
   obtain rfl := Option.some.inj H
   go_wp2
   go_ret
   exact ⟨by first | rfl | (simp; done) | (simp [*]; done), by repeat (first | exact Drawn0.refl _ | apply Drawn0.step)⟩

end Go.Proofs.YtjoboaaambdpoaaDoor.PR01

-- Written by gp.py for this claim.
namespace Go.Proofs.YtjoboaaambdpoaaDoor.PR01
open Go.RowKit Go.Proofs.YtjoboaaambdpoaaDoorW.PrintWords Go.Proofs.YtjoboaaambdpoaaDoorW.PrintLast Go.Proofs.YtjoboaaambdpoaaDoorW.PrintMore
attribute [local go_sem] max2_int min2_int max_two min_two max_three min_three max_four min_four   -- for this text's walks alone
set_option linter.unusedVariables false
set_option linter.unusedSimpArgs false

/-! ### switchbackref01_value: function 45 -/
def switchbackref01_value.j0 : Nat → Int → Bool → Option (Int)
  | 0, _, _ => none
  | k + 1, x0, x9 => if x9 = true then (some (((x0 - 97) % 256) + 10)) else (if x0 ≥ 65 then (if x0 ≤ 70 then (some (((x0 - 65) % 256) + 10)) else (some 99)) else (some 99))
def switchbackref01_value.f (k : Nat) (a0 : Int) : Option (Int) := (switchbackref01_digit.f a0).bind fun t181 => (if t181 = true then (some ((a0 - 48) % 256)) else (if a0 ≥ 97 then (switchbackref01_value.j0 k a0 (decide (a0 ≤ 102))) else (switchbackref01_value.j0 k a0 false)))
theorem switchbackref01_value.mono_l : ∀ k, (∀ y0 y1, LeO (switchbackref01_value.j0 k y0 y1) (switchbackref01_value.j0 (k + 1) y0 y1))
  | 0 => fun _ _ r h => by simp [switchbackref01_value.j0] at h
  | k + 1 => by
    have ih0 := switchbackref01_value.mono_l k
    · intro y0 y1
      unfold switchbackref01_value.j0
      repeat' first
      | (with_reducible exact ih0 _ _)
      | (with_reducible exact LeO.refl _)
      | (with_reducible exact LeO.none _)
      | (with_reducible refine LeO.ite ?_ ?_)
      | (with_reducible refine LeO.bind ?_ (fun _ => ?_))
      | exact ih0 _ _
      | exact LeO.none _
      | refine LeO.ite ?_ ?_
      | refine LeO.bind ?_ (fun _ => ?_)
theorem switchbackref01_value.mono : ∀ a0 k, LeO (switchbackref01_value.f k a0) (switchbackref01_value.f (k + 1) a0) := by
  intro a0 k
  have ih0 := switchbackref01_value.mono_l k
  unfold switchbackref01_value.f
  repeat' first
      | (with_reducible exact ih0 _ _)
      | (with_reducible exact LeO.refl _)
      | (with_reducible exact LeO.none _)
      | (with_reducible refine LeO.ite ?_ ?_)
      | (with_reducible refine LeO.bind ?_ (fun _ => ?_))
      | exact ih0 _ _
      | exact LeO.none _
      | refine LeO.ite ?_ ?_
      | refine LeO.bind ?_ (fun _ => ?_)
set_option maxHeartbeats 8000000 in
set_option maxRecDepth 100000 in
theorem switchbackref01_value.calls (k : Nat) (a0 : Int) (r : Int) (w : World) (h : switchbackref01_value.f k a0 = some r) :
    Calls Tryd.prog 45 #[.int .u8 a0] w fun e w' => e = .returned (.int .u64 r) ∧ Drawn0 w w' := by
  have H : ((switchbackref01_digit.f a0).bind fun t181 => (if t181 = true then (some ((a0 - 48) % 256)) else (if a0 ≥ 97 then (switchbackref01_value.j0 k a0 (decide (a0 ≤ 102))) else (switchbackref01_value.j0 k a0 false)))) = some r := h
  clear h
  replace H := Option.bind_eq_some_iff.mp H
  obtain ⟨t181, A20, H⟩ := H
  replace H : (if t181 = true then (some ((a0 - 48) % 256)) else (if a0 ≥ 97 then (switchbackref01_value.j0 k a0 (decide (a0 ≤ 102))) else (switchbackref01_value.j0 k a0 false))) = some r := H
  have A2 := Aside0.mk A20
  clear A20
  by_cases c3 : t181 = true
  · subst c3
    have H1 : (some ((a0 - 48) % 256)) = some r := by rw [if_pos rfl] at H; exact H
    clear H
    have H := H1
    clear H1
    obtain rfl := Option.some.inj H
    go_enter Tryd.func45, Tryd.ntmps45
    go_wp2_with (first | ((with_reducible refine gate_callee (f := 36) rfl ?_); refine goesL_ (some 5) rfl rfl Tryd.func36 (by kernel_rfl) rfl #[.int .u8 a0] rfl (by (try simp only [List.map_toArray, List.map_cons, List.map_nil]); first | done | rfl | (simp only [List.length_drop, List.length_take]; rfl)) ?_; (with_reducible refine (switchbackref01_digit.calls a0 true _ A2.out).mono ?_); rintro e w' ⟨rfl, ⟨nd, rfl⟩⟩; refine ⟨_, rfl, ?_⟩))
    go_ret
    exact ⟨by first | rfl | (simp; done) | (simp [*]; done), by repeat (first | exact Drawn0.refl _ | apply Drawn0.step)⟩
  · replace c3 := Bool.eq_false_iff.mpr c3
    subst c3
    have H1 : (if a0 ≥ 97 then (switchbackref01_value.j0 k a0 (decide (a0 ≤ 102))) else (switchbackref01_value.j0 k a0 false)) = some r := by rw [if_neg (show ¬ (false = true) by decide)] at H; exact H
    clear H
    have H := H1
    clear H1
    have HC4 := Aside0.mk H
    clear H
    go_enter Tryd.func45, Tryd.ntmps45
    go_upto_region 3 with (first | ((with_reducible refine gate_callee (f := 36) rfl ?_); refine goesL_ (some 5) rfl rfl Tryd.func36 (by kernel_rfl) rfl #[.int .u8 a0] rfl (by (try simp only [List.map_toArray, List.map_cons, List.map_nil]); first | done | rfl | (simp only [List.length_drop, List.length_take]; rfl)) ?_; (with_reducible refine (switchbackref01_digit.calls a0 false _ A2.out).mono ?_); rintro e w' ⟨rfl, ⟨nd, rfl⟩⟩; refine ⟨_, rfl, ?_⟩))
    (try simp only [Act.put, List.setIfInBounds_toArray, List.set_cons_zero, List.set_cons_succ])
    go_cut [9] (fun v9 wc => ∃ (kq : Nat) (x9_3 : Bool), v9 = .bool x9_3 ∧ Aside0 (switchbackref01_value.j0 kq a0 x9_3 = some r) ∧ Aside0 (kq ≤ k) ∧ Drawn0 w wc)
    case first =>
      have H := HC4.out
      clear HC4
      by_cases c5 : a0 ≥ 97
      · rw [if_pos c5] at H
        have c5b0 : decide (97 ≤ a0) = true := decide_eq_true c5
        clear c5
        (first | rw [c5b0] | (simp only [i64_w, i32_w]; rw [c5b0]) | skip)
        have H' := Aside0.mk H
        clear H
        go_wp2
        go_meet
        case rel => exact ⟨_, (decide (a0 ≤ 102)), (by first | rfl | (simp; done) | (simp [*]; done)), H', ⟨by first | omega | exact Nat.le_refl _⟩, by repeat (first | exact Drawn0.refl _ | apply Drawn0.step)⟩
      · rw [if_neg c5] at H
        have c5b0 : decide (97 ≤ a0) = false := decide_eq_false c5
        clear c5
        (first | rw [c5b0] | (simp only [i64_w, i32_w]; rw [c5b0]) | skip)
        have H' := Aside0.mk H
        clear H
        go_wp2
        go_meet
        case rel => exact ⟨_, (false), (by first | rfl | (simp; done) | (simp [*]; done)), H', ⟨by first | omega | exact Nat.le_refl _⟩, by repeat (first | exact Drawn0.refl _ | apply Drawn0.step)⟩
    case rest =>
      clear HC4
      try clear p2
      try clear c3
      try clear c4
      try clear c5
      try clear c5b0
      obtain ⟨kq, x9_3, rfl, HA, HJ3, ⟨mc3, rfl⟩⟩ := hcut
      cases kq with
      | zero => exact absurd HA.out (by simp [switchbackref01_value.j0])
      | succ kj3 =>
        have H := HA.out
        clear HA
        simp only [switchbackref01_value.j0] at H
        by_cases c6 : x9_3 = true
        · subst c6
          have H1 : (some (((a0 - 97) % 256) + 10)) = some r := by rw [if_pos rfl] at H; exact H
          clear H
          have H := H1
          clear H1
          obtain rfl := Option.some.inj H
          go_wp2
          go_ret
          exact ⟨by first | rfl | (simp; done) | (simp [*]; done), by repeat (first | exact Drawn0.refl _ | apply Drawn0.step)⟩
        · replace c6 := Bool.eq_false_iff.mpr c6
          subst c6
          have H1 : (if a0 ≥ 65 then (if a0 ≤ 70 then (some (((a0 - 65) % 256) + 10)) else (some 99)) else (some 99)) = some r := by rw [if_neg (show ¬ (false = true) by decide)] at H; exact H
          clear H
          have H := H1
          clear H1
          by_cases c7 : a0 ≥ 65
          · rw [if_pos c7] at H
            have c7b0 : decide (65 ≤ a0) = true := decide_eq_true c7
            clear c7
            by_cases c8 : a0 ≤ 70
            · rw [if_pos c8] at H
              have c8b0 : decide (a0 ≤ 70) = true := decide_eq_true c8
              clear c8
              obtain rfl := Option.some.inj H
              go_wp2
              go_ret
              exact ⟨by first | rfl | (simp; done) | (simp [*]; done), by repeat (first | exact Drawn0.refl _ | apply Drawn0.step)⟩
            · rw [if_neg c8] at H
              have c8b0 : decide (a0 ≤ 70) = false := decide_eq_false c8
              clear c8
              obtain rfl := Option.some.inj H
              go_wp2
              go_ret
              exact ⟨by first | rfl | (simp; done) | (simp [*]; done), by repeat (first | exact Drawn0.refl _ | apply Drawn0.step)⟩
          · rw [if_neg c7] at H
            have c7b0 : decide (65 ≤ a0) = false := decide_eq_false c7
            clear c7
            obtain rfl := Option.some.inj H
            go_wp2
            go_ret
            exact ⟨by first | rfl | (simp; done) | (simp [*]; done), by repeat (first | exact Drawn0.refl _ | apply Drawn0.step)⟩

end Go.Proofs.YtjoboaaambdpoaaDoor.PR01

-- Written by gp.py for this claim.
namespace Go.Proofs.YtjoboaaambdpoaaDoor.PR01
open Go.RowKit Go.Proofs.YtjoboaaambdpoaaDoorW.PrintWords Go.Proofs.YtjoboaaambdpoaaDoorW.PrintLast Go.Proofs.YtjoboaaambdpoaaDoorW.PrintMore
attribute [local go_sem] max2_int min2_int max_two min_two max_three min_three max_four min_four   -- for this text's walks alone
set_option linter.unusedVariables false
set_option linter.unusedSimpArgs false

namespace q_switchbackref01_Number
theorem uZ {p : Prop} (h : p) : Aside0 p := ⟨h⟩
theorem uA {p : Prop} [Decidable p] (h : decide p = true := by first | (with_reducible assumption) | assumption) : p := of_decide_eq_true h
end q_switchbackref01_Number
open q_switchbackref01_Number

/-! ### switchbackref01_Number: function 37 -/
mutual
def switchbackref01_Number.j0 : Nat → ByteArray → Bool → Bool → Option (Int × Bool × Bool)
  | 0, _, _, _ => none
  | k + 1, x0, x5, x22 => if x22 = true then (if 0 ≤ (wrap64 ((x0.size : Int) - 1)) then (if (wrap64 ((x0.size : Int) - 1)) ≤ (x0.size : Int) then (switchbackref01_Number.j1 k (x0.extract 0 ((wrap64 ((x0.size : Int) - 1)) : Int).toNat) true) else (none)) else (none)) else (switchbackref01_Number.j1 k x0 x5)
def switchbackref01_Number.j1 : Nat → ByteArray → Bool → Option (Int × Bool × Bool)
  | 0, _, _ => none
  | k + 1, x0, x5 => if (x0.size : Int) > 0 then (if 0 < (x0.size : Int) then (switchbackref01_Number.j2 k x0 x5 10 0 ((bt x0 0) == 48)) else (none)) else (switchbackref01_Number.j2 k x0 x5 10 0 false)
def switchbackref01_Number.j2 : Nat → ByteArray → Bool → Int → Int → Bool → Option (Int × Bool × Bool)
  | 0, _, _, _, _, _ => none
  | k + 1, x0, x5, x7, x8, x35 => if x35 = true then (if (x0.size : Int) > 1 then (if 1 < (x0.size : Int) then (if (bt x0 1) = 120 then (switchbackref01_Number.j3 k x0 x5 8 x8 true) else (switchbackref01_Number.j3 k x0 x5 8 x8 ((bt x0 1) == 88))) else (none)) else (switchbackref01_Number.j3 k x0 x5 8 x8 false)) else (switchbackref01_Number.j4 k x0 x5 x7 x8)
def switchbackref01_Number.j4 : Nat → ByteArray → Bool → Int → Int → Option (Int × Bool × Bool)
  | 0, _, _, _, _ => none
  | k + 1, x0, x5, x7, x8 => if x8 ≥ (x0.size : Int) then (some (0, false, false)) else (switchbackref01_Number.l0 k x0 x5 x7 0 x8)
def switchbackref01_Number.l0 : Nat → ByteArray → Bool → Int → Int → Int → Option (Int × Bool × Bool)
  | 0, _, _, _, _, _ => none
  | k + 1, x0, x5, x7, x9, x10 => if x10 < (x0.size : Int) then (if 0 ≤ x10 then ((switchbackref01_value.f k (bt x0 x10)).bind fun t182 => (if t182 ≥ x7 then (some (0, false, false)) else (if (IntKind.u64.wrap ((IntKind.u64.wrap (x9 * x7)) + t182)) > 4294967295 then (some (0, false, false)) else (switchbackref01_Number.l0 k x0 x5 x7 (IntKind.u64.wrap ((IntKind.u64.wrap (x9 * x7)) + t182)) (wrap64 (x10 + 1)))))) else (none)) else (if x5 = true then (some ((x9) % 4294967296, true, true)) else (some ((x9) % 4294967296, decide (x9 > 2147483647), true)))
def switchbackref01_Number.j3 : Nat → ByteArray → Bool → Int → Int → Bool → Option (Int × Bool × Bool)
  | 0, _, _, _, _, _ => none
  | k + 1, x0, x5, x7, x8, x48 => if x48 = true then (switchbackref01_Number.j4 k x0 x5 16 2) else (switchbackref01_Number.j4 k x0 x5 x7 x8)
end
def switchbackref01_Number.f (k : Nat) (a0 : ByteArray) : Option (Int × Bool × Bool) := if 0 ≤ (wrap64 ((a0.size : Int) - 1)) then (if (wrap64 ((a0.size : Int) - 1)) < (a0.size : Int) then (if (bt a0 (wrap64 ((a0.size : Int) - 1))) = 117 then (switchbackref01_Number.j0 k a0 false true) else (switchbackref01_Number.j0 k a0 false ((bt a0 (wrap64 ((a0.size : Int) - 1))) == 85))) else (none)) else (none)
theorem switchbackref01_Number.mono_l : ∀ k, (∀ y0 y1 y2, LeO (switchbackref01_Number.j0 k y0 y1 y2) (switchbackref01_Number.j0 (k + 1) y0 y1 y2)) ∧ (∀ y0 y1, LeO (switchbackref01_Number.j1 k y0 y1) (switchbackref01_Number.j1 (k + 1) y0 y1)) ∧ (∀ y0 y1 y2 y3 y4, LeO (switchbackref01_Number.j2 k y0 y1 y2 y3 y4) (switchbackref01_Number.j2 (k + 1) y0 y1 y2 y3 y4)) ∧ (∀ y0 y1 y2 y3, LeO (switchbackref01_Number.j4 k y0 y1 y2 y3) (switchbackref01_Number.j4 (k + 1) y0 y1 y2 y3)) ∧ (∀ y0 y1 y2 y3 y4, LeO (switchbackref01_Number.l0 k y0 y1 y2 y3 y4) (switchbackref01_Number.l0 (k + 1) y0 y1 y2 y3 y4)) ∧ (∀ y0 y1 y2 y3 y4, LeO (switchbackref01_Number.j3 k y0 y1 y2 y3 y4) (switchbackref01_Number.j3 (k + 1) y0 y1 y2 y3 y4))
  | 0 => ⟨fun _ _ _ r h => by simp [switchbackref01_Number.j0] at h, fun _ _ r h => by simp [switchbackref01_Number.j1] at h, fun _ _ _ _ _ r h => by simp [switchbackref01_Number.j2] at h, fun _ _ _ _ r h => by simp [switchbackref01_Number.j4] at h, fun _ _ _ _ _ r h => by simp [switchbackref01_Number.l0] at h, fun _ _ _ _ _ r h => by simp [switchbackref01_Number.j3] at h⟩
  | k + 1 => by
    obtain ⟨ih0, ih1, ih2, ih3, ih4, ih5⟩ := switchbackref01_Number.mono_l k
    refine ⟨?_, ?_, ?_, ?_, ?_, ?_⟩
    · intro y0 y1 y2
      unfold switchbackref01_Number.j0
      repeat' first
      | (with_reducible exact ih0 _ _ _)
      | (with_reducible exact ih1 _ _)
      | (with_reducible exact ih2 _ _ _ _ _)
      | (with_reducible exact ih3 _ _ _ _)
      | (with_reducible exact ih4 _ _ _ _ _)
      | (with_reducible exact ih5 _ _ _ _ _)
      | (with_reducible exact switchbackref01_value.mono _ _)
      | (with_reducible exact LeO.refl _)
      | (with_reducible exact LeO.none _)
      | (with_reducible refine LeO.ite ?_ ?_)
      | (with_reducible refine LeO.bind ?_ (fun _ => ?_))
      | exact ih0 _ _ _
      | exact ih1 _ _
      | exact ih2 _ _ _ _ _
      | exact ih3 _ _ _ _
      | exact ih4 _ _ _ _ _
      | exact ih5 _ _ _ _ _
      | exact switchbackref01_value.mono _ _
      | exact LeO.none _
      | refine LeO.ite ?_ ?_
      | refine LeO.bind ?_ (fun _ => ?_)
    · intro y0 y1
      unfold switchbackref01_Number.j1
      repeat' first
      | (with_reducible exact ih0 _ _ _)
      | (with_reducible exact ih1 _ _)
      | (with_reducible exact ih2 _ _ _ _ _)
      | (with_reducible exact ih3 _ _ _ _)
      | (with_reducible exact ih4 _ _ _ _ _)
      | (with_reducible exact ih5 _ _ _ _ _)
      | (with_reducible exact switchbackref01_value.mono _ _)
      | (with_reducible exact LeO.refl _)
      | (with_reducible exact LeO.none _)
      | (with_reducible refine LeO.ite ?_ ?_)
      | (with_reducible refine LeO.bind ?_ (fun _ => ?_))
      | exact ih0 _ _ _
      | exact ih1 _ _
      | exact ih2 _ _ _ _ _
      | exact ih3 _ _ _ _
      | exact ih4 _ _ _ _ _
      | exact ih5 _ _ _ _ _
      | exact switchbackref01_value.mono _ _
      | exact LeO.none _
      | refine LeO.ite ?_ ?_
      | refine LeO.bind ?_ (fun _ => ?_)
    · intro y0 y1 y2 y3 y4
      unfold switchbackref01_Number.j2
      repeat' first
      | (with_reducible exact ih0 _ _ _)
      | (with_reducible exact ih1 _ _)
      | (with_reducible exact ih2 _ _ _ _ _)
      | (with_reducible exact ih3 _ _ _ _)
      | (with_reducible exact ih4 _ _ _ _ _)
      | (with_reducible exact ih5 _ _ _ _ _)
      | (with_reducible exact switchbackref01_value.mono _ _)
      | (with_reducible exact LeO.refl _)
      | (with_reducible exact LeO.none _)
      | (with_reducible refine LeO.ite ?_ ?_)
      | (with_reducible refine LeO.bind ?_ (fun _ => ?_))
      | exact ih0 _ _ _
      | exact ih1 _ _
      | exact ih2 _ _ _ _ _
      | exact ih3 _ _ _ _
      | exact ih4 _ _ _ _ _
      | exact ih5 _ _ _ _ _
      | exact switchbackref01_value.mono _ _
      | exact LeO.none _
      | refine LeO.ite ?_ ?_
      | refine LeO.bind ?_ (fun _ => ?_)
    · intro y0 y1 y2 y3
      unfold switchbackref01_Number.j4
      repeat' first
      | (with_reducible exact ih0 _ _ _)
      | (with_reducible exact ih1 _ _)
      | (with_reducible exact ih2 _ _ _ _ _)
      | (with_reducible exact ih3 _ _ _ _)
      | (with_reducible exact ih4 _ _ _ _ _)
      | (with_reducible exact ih5 _ _ _ _ _)
      | (with_reducible exact switchbackref01_value.mono _ _)
      | (with_reducible exact LeO.refl _)
      | (with_reducible exact LeO.none _)
      | (with_reducible refine LeO.ite ?_ ?_)
      | (with_reducible refine LeO.bind ?_ (fun _ => ?_))
      | exact ih0 _ _ _
      | exact ih1 _ _
      | exact ih2 _ _ _ _ _
      | exact ih3 _ _ _ _
      | exact ih4 _ _ _ _ _
      | exact ih5 _ _ _ _ _
      | exact switchbackref01_value.mono _ _
      | exact LeO.none _
      | refine LeO.ite ?_ ?_
      | refine LeO.bind ?_ (fun _ => ?_)
    · intro y0 y1 y2 y3 y4
      unfold switchbackref01_Number.l0
      repeat' first
      | (with_reducible exact ih0 _ _ _)
      | (with_reducible exact ih1 _ _)
      | (with_reducible exact ih2 _ _ _ _ _)
      | (with_reducible exact ih3 _ _ _ _)
      | (with_reducible exact ih4 _ _ _ _ _)
      | (with_reducible exact ih5 _ _ _ _ _)
      | (with_reducible exact switchbackref01_value.mono _ _)
      | (with_reducible exact LeO.refl _)
      | (with_reducible exact LeO.none _)
      | (with_reducible refine LeO.ite ?_ ?_)
      | (with_reducible refine LeO.bind ?_ (fun _ => ?_))
      | exact ih0 _ _ _
      | exact ih1 _ _
      | exact ih2 _ _ _ _ _
      | exact ih3 _ _ _ _
      | exact ih4 _ _ _ _ _
      | exact ih5 _ _ _ _ _
      | exact switchbackref01_value.mono _ _
      | exact LeO.none _
      | refine LeO.ite ?_ ?_
      | refine LeO.bind ?_ (fun _ => ?_)
    · intro y0 y1 y2 y3 y4
      unfold switchbackref01_Number.j3
      repeat' first
      | (with_reducible exact ih0 _ _ _)
      | (with_reducible exact ih1 _ _)
      | (with_reducible exact ih2 _ _ _ _ _)
      | (with_reducible exact ih3 _ _ _ _)
      | (with_reducible exact ih4 _ _ _ _ _)
      | (with_reducible exact ih5 _ _ _ _ _)
      | (with_reducible exact switchbackref01_value.mono _ _)
      | (with_reducible exact LeO.refl _)
      | (with_reducible exact LeO.none _)
      | (with_reducible refine LeO.ite ?_ ?_)
      | (with_reducible refine LeO.bind ?_ (fun _ => ?_))
      | exact ih0 _ _ _
      | exact ih1 _ _
      | exact ih2 _ _ _ _ _
      | exact ih3 _ _ _ _
      | exact ih4 _ _ _ _ _
      | exact ih5 _ _ _ _ _
      | exact switchbackref01_value.mono _ _
      | exact LeO.none _
      | refine LeO.ite ?_ ?_
      | refine LeO.bind ?_ (fun _ => ?_)
theorem switchbackref01_Number.mono : ∀ a0 k, LeO (switchbackref01_Number.f k a0) (switchbackref01_Number.f (k + 1) a0) := by
  intro a0 k
  obtain ⟨ih0, ih1, ih2, ih3, ih4, ih5⟩ := switchbackref01_Number.mono_l k
  unfold switchbackref01_Number.f
  repeat' first
      | (with_reducible exact ih0 _ _ _)
      | (with_reducible exact ih1 _ _)
      | (with_reducible exact ih2 _ _ _ _ _)
      | (with_reducible exact ih3 _ _ _ _)
      | (with_reducible exact ih4 _ _ _ _ _)
      | (with_reducible exact ih5 _ _ _ _ _)
      | (with_reducible exact switchbackref01_value.mono _ _)
      | (with_reducible exact LeO.refl _)
      | (with_reducible exact LeO.none _)
      | (with_reducible refine LeO.ite ?_ ?_)
      | (with_reducible refine LeO.bind ?_ (fun _ => ?_))
      | exact ih0 _ _ _
      | exact ih1 _ _
      | exact ih2 _ _ _ _ _
      | exact ih3 _ _ _ _
      | exact ih4 _ _ _ _ _
      | exact ih5 _ _ _ _ _
      | exact switchbackref01_value.mono _ _
      | exact LeO.none _
      | refine LeO.ite ?_ ?_
      | refine LeO.bind ?_ (fun _ => ?_)
set_option maxHeartbeats 8000000 in
set_option maxRecDepth 100000 in
theorem switchbackref01_Number.calls (k : Nat) (a0 : ByteArray) (r1 : Int) (r2 : Bool) (r3 : Bool) (w : World) (h : switchbackref01_Number.f k a0 = some (r1, r2, r3)) :
    Calls Tryd.prog 37 #[.string a0] w fun e w' => e = .returned (.tuple #[.int .u32 r1, .bool r2, .bool r3]) ∧ Drawn0 w w' := by
 have H : (if 0 ≤ (wrap64 ((a0.size : Int) - 1)) then (if (wrap64 ((a0.size : Int) - 1)) < (a0.size : Int) then (if (bt a0 (wrap64 ((a0.size : Int) - 1))) = 117 then (switchbackref01_Number.j0 k a0 false true) else (switchbackref01_Number.j0 k a0 false ((bt a0 (wrap64 ((a0.size : Int) - 1))) == 85))) else (none)) else (none)) = some (r1, r2, r3) := h
 clear h
 obtain ⟨ji2, hji2⟩ : ∃ j_ : Int, (wrap64 ((a0.size : Int) - 1)) = j_ := ⟨_, rfl⟩
 replace H : (if 0 ≤ (ji2) then (if (ji2) < (a0.size : Int) then (if (bt a0 (ji2)) = 117 then (switchbackref01_Number.j0 k a0 false true) else (switchbackref01_Number.j0 k a0 false ((bt a0 (ji2)) == 85))) else (none)) else (none)) = some (r1, r2, r3) := by first | (rw [hji2] at H; exact H) | (simp only [hji2] at H ⊢; exact H)
 have hji2w : (IntKind.i64.wrap ((a0.size : Int) - 1)) = ji2 := (i64_w _).trans hji2
 by_cases c3 : 0 ≤ (ji2)
 ·rw [if_pos c3] at H
  have c3b0 : decide (0 ≤ (ji2)) = true := decide_eq_true c3
  clear c3
  by_cases c4 : (ji2) < (a0.size : Int)
  ·rw [if_pos c4] at H
   have c4b0 : decide ((ji2) < (a0.size : Int)) = true := decide_eq_true c4
   clear c4
   have HC6 := uZ H
   clear H
   have p5 : 0 ≤ ((ji2) : Int) := uA
   have q5 : (ji2) < (a0.size : Int) := uA
   have hx5 := bt_at a0 (ji2)
   replace p5 := eq_true p5
   replace q5 := eq_true q5
   go_enter Tryd.func37, Tryd.ntmps37
   go_upto_region 3 with (fail)
   go_cut [22] (fun v22 wc => ∃ (kq : Nat) (x22_5 : Bool), v22 = .bool x22_5 ∧ Aside0 (switchbackref01_Number.j0 kq a0 false x22_5 = some (r1, r2, r3)) ∧ Aside0 (kq ≤ k) ∧ Drawn0 w wc)
   case first =>
    have H := HC6.out
    clear HC6
    by_cases c7 : (bt a0 (ji2)) = 117
    ·rw [if_pos c7] at H
     have c7b0 : ((bt a0 (ji2)) == 117) = true := beq_iff_eq.mpr c7
     have c7b1 : ((bt a0 (ji2)) != 117) = false := bne_eq_false_iff_eq.mpr c7
     clear c7
     (first | rw [c7b0] | (simp only [i64_w, i32_w]; rw [c7b0]) | skip)
     have H' := uZ H
     clear H
     go_wp2
     go_meet
     case rel => exact ⟨_, (true), (by first | rfl | (simp; done) | (simp [*]; done)), H', ⟨by first | omega | exact Nat.le_refl _⟩, by repeat (first | exact Drawn0.refl _ | apply Drawn0.step)⟩
    rw [if_neg c7] at H
    have c7b0 : ((bt a0 (ji2)) == 117) = false := beq_eq_false_iff_ne.mpr c7
    have c7b1 : ((bt a0 (ji2)) != 117) = true := bne_iff_ne.mpr c7
    (first | rw [c7b0] | (simp only [i64_w, i32_w]; rw [c7b0]) | skip)
    have H' := uZ H
    clear H
    go_wp2
    go_meet
    case rel => exact ⟨_, (((bt a0 (ji2)) == 85)), (by first | rfl | (simp; done) | (simp only [← hji2] <;> (first | rfl | (simp; done))) | (simp [*]; done)), H', ⟨by first | omega | exact Nat.le_refl _⟩, by repeat (first | exact Drawn0.refl _ | apply Drawn0.step)⟩
   case rest =>
    clear HC6
    try clear p2
    try clear c3
    try clear c3b0
    try clear c4
    try clear c4b0
    try clear p5
    try clear q5
    try clear hx5
    try clear p6
    try clear c7
    try clear c7b0
    try clear c7b1
    try clear p5
    try clear q5
    obtain ⟨kq, x22_5, rfl, HA, HJ5, ⟨mc5, rfl⟩⟩ := hcut
    cases kq with
    | zero => exact absurd HA.out (by simp [switchbackref01_Number.j0])
    | succ kj5 =>
     have H := HA.out
     clear HA
     simp only [switchbackref01_Number.j0] at H
     have HC8 := uZ H
     clear H
     go_upto_if 22 with (fail)
     go_cut [0, 5] (fun v0 v5 wc => ∃ (kq : Nat) (a1 : ByteArray) (a4 : Bool), v0 = .string a1 ∧ v5 = .bool a4 ∧ Aside0 (switchbackref01_Number.j1 kq a1 a4 = some (r1, r2, r3)) ∧ Aside0 (kq ≤ kj5) ∧ Drawn0 w wc)
     case first =>
      have H := HC8.out
      clear HC8
      by_cases c9 : x22_5 = true
      ·subst c9
       have H1 : (if 0 ≤ (wrap64 ((a0.size : Int) - 1)) then (if (wrap64 ((a0.size : Int) - 1)) ≤ (a0.size : Int) then (switchbackref01_Number.j1 kj5 (a0.extract 0 ((wrap64 ((a0.size : Int) - 1)) : Int).toNat) true) else (none)) else (none)) = some (r1, r2, r3) := by rw [if_pos rfl] at H; exact H
       clear H
       have H := H1
       clear H1
       obtain ⟨ji10, hji10⟩ : ∃ j_ : Int, (wrap64 ((a0.size : Int) - 1)) = j_ := ⟨_, rfl⟩
       replace H : (if 0 ≤ (ji10) then (if (ji10) ≤ (a0.size : Int) then (switchbackref01_Number.j1 kj5 (a0.extract 0 ((ji10) : Int).toNat) true) else (none)) else (none)) = some (r1, r2, r3) := by first | (rw [hji10] at H; exact H) | (simp only [hji10] at H ⊢; exact H)
       have hji10w : (IntKind.i64.wrap ((a0.size : Int) - 1)) = ji10 := (i64_w _).trans hji10
       obtain rfl : ji10 = ji2 := hji10.symm.trans hji2
       by_cases c11 : 0 ≤ (ji10)
       ·rw [if_pos c11] at H
        have c11b0 := eq_true c11
        have c11b1 : decide (0 ≤ (ji10)) = true := decide_eq_true c11
        clear c11
        by_cases c12 : (ji10) ≤ (a0.size : Int)
        ·rw [if_pos c12] at H
         have c12b0 := eq_true c12
         have c12b1 : decide ((ji10) ≤ (a0.size : Int)) = true := decide_eq_true c12
         clear c12
         have H' := uZ H
         clear H
         go_wp2
         go_meet
         case rel => exact ⟨_, (a0.extract 0 ((ji10) : Int).toNat), (true), (by first | rfl | (simp; done) | (simp only [← hji10] <;> (first | rfl | (simp; done))) | (simp [*]; done)), (by first | rfl | (simp; done) | (simp [*]; done)), H', ⟨by have := HJ5.out; first | omega | exact Nat.le_refl _⟩, by repeat (first | exact Drawn0.refl _ | apply Drawn0.step)⟩
        rw [if_neg c12] at H
        exact absurd H (by simp)
       rw [if_neg c11] at H
       exact absurd H (by simp)
      replace c9 := Bool.eq_false_iff.mpr c9
      subst c9
      have H1 : (switchbackref01_Number.j1 kj5 a0 false) = some (r1, r2, r3) := by rw [if_neg (show ¬ (false = true) by decide)] at H; exact H
      clear H
      have H := H1
      clear H1
      have H' := uZ H
      clear H
      go_wp2
      go_meet
      case rel => exact ⟨_, (a0), (false), (by first | rfl | (simp; done) | (simp [*]; done)), (by first | rfl | (simp; done) | (simp [*]; done)), H', ⟨by have := HJ5.out; first | omega | exact Nat.le_refl _⟩, by repeat (first | exact Drawn0.refl _ | apply Drawn0.step)⟩
     case rest =>
      clear HC8
      try clear c1
      try clear p2
      try clear c3
      try clear c3b0
      try clear c4
      try clear c4b0
      try clear c5
      try clear p5
      try clear q5
      try clear hx5
      try clear p6
      try clear c7
      try clear c7b0
      try clear c7b1
      try clear c9
      try clear c11
      try clear c11b0
      try clear c11b1
      try clear c12
      try clear c12b0
      try clear c12b1
      try clear p2
      try clear p5
      try clear p6
      try clear q5
      obtain ⟨kq, a1, a4, rfl, rfl, HA, HJ7, ⟨mc7, rfl⟩⟩ := hcut
      cases kq with
      | zero => exact absurd HA.out (by simp [switchbackref01_Number.j1])
      | succ kj7 =>
       have H := HA.out
       clear HA
       simp only [switchbackref01_Number.j1] at H
       have HC13 := uZ H
       clear H
       go_upto_region 8 with (fail)
       go_cut [35] (fun v35 wc => ∃ (kq : Nat) (x35_12 : Bool), v35 = .bool x35_12 ∧ Aside0 (switchbackref01_Number.j2 kq a1 a4 10 0 x35_12 = some (r1, r2, r3)) ∧ Aside0 (kq ≤ kj7) ∧ Drawn0 w wc)
       case first =>
        have H := HC13.out
        clear HC13
        by_cases c14 : (a1.size : Int) > 0
        ·rw [if_pos c14] at H
         have c14b0 : decide (0 < (a1.size : Int)) = true := decide_eq_true c14
         have c14b1 : decide (0 < a1.size) = true := decide_eq_true (by omega)
         clear c14
         (first | rw [c14b0] | (simp only [i64_w, i32_w]; rw [c14b0]) | skip)
         by_cases c15 : 0 < (a1.size : Int)
         ·rw [if_pos c15] at H
          have c15b0 : decide (0 < (a1.size : Int)) = true := decide_eq_true c15
          have c15b1 : decide (0 < a1.size) = true := decide_eq_true (by omega)
          clear c15
          have H' := uZ H
          clear H
          have p16 : 0 ≤ (0 : Int) := (by omega)
          have q16 : 0 < a1.size := (by have : (0 : Int) < (a1.size : Int) := uA; omega)
          have hx16 : ∀ h : 0 < a1.size, ((a1[0]'h).toNat : Int) = bt a1 0 := bt_at a1 0
          clear p16
          have qi16 : (0 < (a1.size : Int)) = True := eq_true (uA)
          replace q16 := eq_true q16
          go_wp2
          go_meet
          case rel => exact ⟨_, (((bt a1 0) == 48)), (by first | rfl | (simp; done) | (simp [*]; done)), H', ⟨by have := HJ5.out; have := HJ7.out; first | omega | exact Nat.le_refl _⟩, by repeat (first | exact Drawn0.refl _ | apply Drawn0.step)⟩
         rw [if_neg c15] at H
         exact absurd H (by simp)
        rw [if_neg c14] at H
        have c14b0 : decide (0 < (a1.size : Int)) = false := decide_eq_false c14
        have c14b1 : decide (0 < a1.size) = false := decide_eq_false (by omega)
        clear c14
        (first | rw [c14b0] | (simp only [i64_w, i32_w]; rw [c14b0]) | skip)
        have H' := uZ H
        clear H
        go_wp2
        go_meet
        case rel => exact ⟨_, (false), (by first | rfl | (simp; done) | (simp [*]; done)), H', ⟨by have := HJ5.out; have := HJ7.out; first | omega | exact Nat.le_refl _⟩, by repeat (first | exact Drawn0.refl _ | apply Drawn0.step)⟩
       case rest =>
        clear HC13
        try clear c1
        try clear p1
        try clear q1
        try clear hx1
        try clear qi1
        try clear p2
        try clear c3
        try clear c3b0
        try clear c4
        try clear c4b0
        try clear c5
        try clear p5
        try clear q5
        try clear hx5
        try clear p6
        try clear c7
        try clear c7b0
        try clear c7b1
        try clear c9
        try clear c11
        try clear c11b0
        try clear c11b1
        try clear c12
        try clear c12b0
        try clear c12b1
        try clear c14
        try clear c14b0
        try clear c14b1
        try clear c15
        try clear c15b0
        try clear c15b1
        try clear p16
        try clear q16
        try clear hx16
        try clear qi16
        try clear p16
        try clear p2
        try clear p5
        try clear p6
        try clear q16
        try clear q5
        obtain ⟨kq, x35_12, rfl, HA, HJ12, ⟨mc12, rfl⟩⟩ := hcut
        cases kq with
        | zero => exact absurd HA.out (by simp [switchbackref01_Number.j2])
        | succ kj12 =>
         have H := HA.out
         clear HA
         simp only [switchbackref01_Number.j2] at H
         have HC17 := uZ H
         clear H
         go_upto_if 35 with (fail)
         go_cut [7, 8] (fun v7 v8 wc => ∃ (kq : Nat) (a3 : Int) (x8_16 : Int), v7 = .int .u64 a3 ∧ v8 = .int .i64 x8_16 ∧ Aside0 (switchbackref01_Number.j4 kq a1 a4 a3 x8_16 = some (r1, r2, r3)) ∧ Aside0 (kq ≤ kj12) ∧ Drawn0 w wc)
         case first =>
          have H := HC17.out
          clear HC17
          by_cases c18 : x35_12 = true
          ·subst c18
           have H1 : (if (a1.size : Int) > 1 then (if 1 < (a1.size : Int) then (if (bt a1 1) = 120 then (switchbackref01_Number.j3 kj12 a1 a4 8 0 true) else (switchbackref01_Number.j3 kj12 a1 a4 8 0 ((bt a1 1) == 88))) else (none)) else (switchbackref01_Number.j3 kj12 a1 a4 8 0 false)) = some (r1, r2, r3) := by rw [if_pos rfl] at H; exact H
           clear H
           have H := H1
           clear H1
           have HC19 := uZ H
           clear H
           go_upto_region 10 with (fail)
           go_cut [48] (fun v48 wc => ∃ (kq : Nat) (x48_18 : Bool), v48 = .bool x48_18 ∧ Aside0 (switchbackref01_Number.j3 kq a1 a4 8 0 x48_18 = some (r1, r2, r3)) ∧ Aside0 (kq ≤ kj12) ∧ Drawn0 w wc)
           case first =>
            have H := HC19.out
            clear HC19
            by_cases c20 : (a1.size : Int) > 1
            ·rw [if_pos c20] at H
             have c20b0 : decide (1 < (a1.size : Int)) = true := decide_eq_true c20
             have c20b1 : decide (1 < a1.size) = true := decide_eq_true (by omega)
             clear c20
             (first | rw [c20b0] | (simp only [i64_w, i32_w]; rw [c20b0]) | skip)
             by_cases c21 : 1 < (a1.size : Int)
             ·rw [if_pos c21] at H
              have c21b0 : decide (1 < (a1.size : Int)) = true := decide_eq_true c21
              have c21b1 : decide (1 < a1.size) = true := decide_eq_true (by omega)
              clear c21
              by_cases c23 : (bt a1 1) = 120
              ·rw [if_pos c23] at H
               have c23b0 : ((bt a1 1) == 120) = true := beq_iff_eq.mpr c23
               have c23b1 : ((bt a1 1) != 120) = false := bne_eq_false_iff_eq.mpr c23
               clear c23
               have H' := uZ H
               clear H
               have p22 : 0 ≤ (1 : Int) := (by omega)
               have q22 : 1 < a1.size := (by have : (1 : Int) < (a1.size : Int) := uA; omega)
               have hx22 : ∀ h : 1 < a1.size, ((a1[1]'h).toNat : Int) = bt a1 1 := bt_at a1 1
               clear p22
               have qi22 : (1 < (a1.size : Int)) = True := eq_true (uA)
               replace q22 := eq_true q22
               go_wp2
               go_meet
               case rel => exact ⟨_, (true), (by first | rfl | (simp; done) | (simp [*]; done)), H', ⟨by have := HJ5.out; have := HJ7.out; have := HJ12.out; first | omega | exact Nat.le_refl _⟩, by repeat (first | exact Drawn0.refl _ | apply Drawn0.step)⟩
              rw [if_neg c23] at H
              have c23b0 : ((bt a1 1) == 120) = false := beq_eq_false_iff_ne.mpr c23
              have c23b1 : ((bt a1 1) != 120) = true := bne_iff_ne.mpr c23
              have H' := uZ H
              clear H
              have p22 : 0 ≤ (1 : Int) := (by omega)
              have q22 : 1 < a1.size := (by have : (1 : Int) < (a1.size : Int) := uA; omega)
              have hx22 : ∀ h : 1 < a1.size, ((a1[1]'h).toNat : Int) = bt a1 1 := bt_at a1 1
              clear p22
              have qi22 : (1 < (a1.size : Int)) = True := eq_true (uA)
              replace q22 := eq_true q22
              have p24 : 0 ≤ (1 : Int) := (by omega)
              have q24 : 1 < a1.size := (by have : (1 : Int) < (a1.size : Int) := uA; omega)
              have hx24 : ∀ h : 1 < a1.size, ((a1[1]'h).toNat : Int) = bt a1 1 := bt_at a1 1
              clear p24
              have qi24 : (1 < (a1.size : Int)) = True := eq_true (uA)
              replace q24 := eq_true q24
              go_wp2
              go_meet
              case rel => exact ⟨_, (((bt a1 1) == 88)), (by first | rfl | (simp; done) | (simp [*]; done)), H', ⟨by have := HJ5.out; have := HJ7.out; have := HJ12.out; first | omega | exact Nat.le_refl _⟩, by repeat (first | exact Drawn0.refl _ | apply Drawn0.step)⟩
             rw [if_neg c21] at H
             exact absurd H (by simp)
            rw [if_neg c20] at H
            have c20b0 : decide (1 < (a1.size : Int)) = false := decide_eq_false c20
            have c20b1 : decide (1 < a1.size) = false := decide_eq_false (by omega)
            clear c20
            (first | rw [c20b0] | (simp only [i64_w, i32_w]; rw [c20b0]) | skip)
            have H' := uZ H
            clear H
            go_wp2
            go_meet
            case rel => exact ⟨_, (false), (by first | rfl | (simp; done) | (simp [*]; done)), H', ⟨by have := HJ5.out; have := HJ7.out; have := HJ12.out; first | omega | exact Nat.le_refl _⟩, by repeat (first | exact Drawn0.refl _ | apply Drawn0.step)⟩
           case rest =>
            clear HC19
            try clear c1
            try clear p1
            try clear q1
            try clear hx1
            try clear qi1
            try clear c2
            try clear p2
            try clear q2
            try clear hx2
            try clear qi2
            try clear c3
            try clear c3b0
            try clear c4
            try clear c4b0
            try clear c5
            try clear p5
            try clear q5
            try clear hx5
            try clear p6
            try clear c7
            try clear c7b0
            try clear c7b1
            try clear c9
            try clear c11
            try clear c11b0
            try clear c11b1
            try clear c12
            try clear c12b0
            try clear c12b1
            try clear c14
            try clear c14b0
            try clear c14b1
            try clear c15
            try clear c15b0
            try clear c15b1
            try clear p16
            try clear q16
            try clear hx16
            try clear qi16
            try clear c18
            try clear c20
            try clear c20b0
            try clear c20b1
            try clear c21
            try clear c21b0
            try clear c21b1
            try clear p22
            try clear q22
            try clear hx22
            try clear qi22
            try clear c23
            try clear c23b0
            try clear c23b1
            try clear p24
            try clear q24
            try clear hx24
            try clear qi24
            try clear p1
            try clear p16
            try clear p2
            try clear p22
            try clear p24
            try clear p5
            try clear p6
            try clear q1
            try clear q16
            try clear q22
            try clear q24
            try clear q5
            obtain ⟨kq, x48_18, rfl, HA, HJ18, ⟨mc18, rfl⟩⟩ := hcut
            cases kq with
            | zero => exact absurd HA.out (by simp [switchbackref01_Number.j3])
            | succ kj18 =>
             have H := HA.out
             clear HA
             simp only [switchbackref01_Number.j3] at H
             by_cases c25 : x48_18 = true
             ·subst c25
              have H1 : (switchbackref01_Number.j4 kj18 a1 a4 16 2) = some (r1, r2, r3) := by rw [if_pos rfl] at H; exact H
              clear H
              have H := H1
              clear H1
              have H' := uZ H
              clear H
              go_wp2
              go_meet
              case rel => exact ⟨_, (16), (2), (by first | rfl | (simp; done) | (simp [*]; done)), (by first | rfl | (simp; done) | (simp [*]; done)), H', ⟨by have := HJ5.out; have := HJ7.out; have := HJ12.out; have := HJ18.out; first | omega | exact Nat.le_refl _⟩, by repeat (first | exact Drawn0.refl _ | apply Drawn0.step)⟩
             replace c25 := Bool.eq_false_iff.mpr c25
             subst c25
             have H1 : (switchbackref01_Number.j4 kj18 a1 a4 8 0) = some (r1, r2, r3) := by rw [if_neg (show ¬ (false = true) by decide)] at H; exact H
             clear H
             have H := H1
             clear H1
             have H' := uZ H
             clear H
             go_wp2
             go_meet
             case rel => exact ⟨_, (8), (0), (by first | rfl | (simp; done) | (simp [*]; done)), (by first | rfl | (simp; done) | (simp [*]; done)), H', ⟨by have := HJ5.out; have := HJ7.out; have := HJ12.out; have := HJ18.out; first | omega | exact Nat.le_refl _⟩, by repeat (first | exact Drawn0.refl _ | apply Drawn0.step)⟩
          replace c18 := Bool.eq_false_iff.mpr c18
          subst c18
          have H1 : (switchbackref01_Number.j4 kj12 a1 a4 10 0) = some (r1, r2, r3) := by rw [if_neg (show ¬ (false = true) by decide)] at H; exact H
          clear H
          have H := H1
          clear H1
          have H' := uZ H
          clear H
          go_wp2
          go_meet
          case rel => exact ⟨_, (10), (0), (by first | rfl | (simp; done) | (simp [*]; done)), (by first | rfl | (simp; done) | (simp [*]; done)), H', ⟨by have := HJ5.out; have := HJ7.out; have := HJ12.out; first | omega | exact Nat.le_refl _⟩, by repeat (first | exact Drawn0.refl _ | apply Drawn0.step)⟩
         case rest =>
          clear HC17
          try clear c1
          try clear p1
          try clear q1
          try clear hx1
          try clear qi1
          try clear c2
          try clear p2
          try clear q2
          try clear hx2
          try clear qi2
          try clear c3
          try clear c3b0
          try clear c4
          try clear c4b0
          try clear c5
          try clear p5
          try clear q5
          try clear hx5
          try clear p6
          try clear c7
          try clear c7b0
          try clear c7b1
          try clear c9
          try clear c11
          try clear c11b0
          try clear c11b1
          try clear c12
          try clear c12b0
          try clear c12b1
          try clear c14
          try clear c14b0
          try clear c14b1
          try clear c15
          try clear c15b0
          try clear c15b1
          try clear p16
          try clear q16
          try clear hx16
          try clear qi16
          try clear c18
          try clear c20
          try clear c20b0
          try clear c20b1
          try clear c21
          try clear c21b0
          try clear c21b1
          try clear p22
          try clear q22
          try clear hx22
          try clear qi22
          try clear c23
          try clear c23b0
          try clear c23b1
          try clear p24
          try clear q24
          try clear hx24
          try clear qi24
          try clear c25
          try clear p1
          try clear p16
          try clear p2
          try clear p22
          try clear p24
          try clear p5
          try clear p6
          try clear q1
          try clear q16
          try clear q2
          try clear q22
          try clear q24
          try clear q5
          obtain ⟨kq, a3, x8_16, rfl, rfl, HA, HJ16, ⟨mc16, rfl⟩⟩ := hcut
          cases kq with
          | zero => exact absurd HA.out (by simp [switchbackref01_Number.j4])
          | succ kj16 =>
           have H := HA.out
           clear HA
           simp only [switchbackref01_Number.j4] at H
           by_cases c26 : x8_16 ≥ (a1.size : Int)
           ·rw [if_pos c26] at H
            have c26b0 : decide ((a1.size : Int) ≤ x8_16) = true := decide_eq_true c26
            clear c26
            simp only [Option.some.injEq, Prod.mk.injEq] at H
            obtain ⟨rfl, rfl, rfl⟩ := H
            go_wp2
            go_ret3
            exact ⟨by first | rfl | (simp; done) | (simp only [← hji2] <;> (first | rfl | (simp; done))) | (simp [*]; done), by repeat (first | exact Drawn0.refl _ | apply Drawn0.step)⟩
           rw [if_neg c26] at H
           have c26b0 : decide ((a1.size : Int) ≤ x8_16) = false := decide_eq_false c26
           clear c26
           have H' := uZ H
           clear H
           go_wp2
           go_loopg [9, 10] kj16 (fun kq v9 v10 w' => ∃ (x9_5 : Int) (a2 : Int), v9 = .int .u64 x9_5 ∧ v10 = .int .i64 a2 ∧ Aside0 (switchbackref01_Number.l0 kq a1 a4 a3 x9_5 a2 = some (r1, r2, r3)) ∧ Aside0 (kq ≤ kj16) ∧ Drawn0 w w')
           case atStart => exact ⟨(0), (x8_16), (by first | rfl | (simp; done) | (simp [*]; done)), (by first | rfl | (simp; done) | (simp [*]; done)), H', ⟨Nat.le_refl _⟩, by repeat (first | exact Drawn0.refl _ | apply Drawn0.step)⟩
           case round =>
            clear H'
            try clear c1
            try clear p1
            try clear q1
            try clear hx1
            try clear qi1
            try clear c2
            try clear p2
            try clear q2
            try clear hx2
            try clear qi2
            try clear c3
            try clear c3b0
            try clear c4
            try clear c4b0
            try clear c5
            try clear p5
            try clear q5
            try clear hx5
            try clear p6
            try clear c7
            try clear c7b0
            try clear c7b1
            try clear c9
            try clear c11
            try clear c11b0
            try clear c11b1
            try clear c12
            try clear c12b0
            try clear c12b1
            try clear c14
            try clear c14b0
            try clear c14b1
            try clear c15
            try clear c15b0
            try clear c15b1
            try clear c16
            try clear p16
            try clear q16
            try clear hx16
            try clear qi16
            try clear c18
            try clear c20
            try clear c20b0
            try clear c20b1
            try clear c21
            try clear c21b0
            try clear c21b1
            try clear p22
            try clear q22
            try clear hx22
            try clear qi22
            try clear c23
            try clear c23b0
            try clear c23b1
            try clear p24
            try clear q24
            try clear hx24
            try clear qi24
            try clear c25
            try clear c26
            try clear c26b0
            try clear p1
            try clear p16
            try clear p2
            try clear p22
            try clear p24
            try clear p5
            try clear p6
            try clear q1
            try clear q16
            try clear q2
            try clear q22
            try clear q24
            try clear q5
            obtain ⟨x9_5, a2, rfl, rfl, HA, HK5, ⟨m5, rfl⟩⟩ := hrel
            cases gk with
            | zero => exact absurd HA.out (by simp [switchbackref01_Number.l0])
            | succ k5 =>
             have H := HA.out
             clear HA
             simp only [switchbackref01_Number.l0] at H
             by_cases c27 : a2 < (a1.size : Int)
             ·rw [if_pos c27] at H
              have c27b0 : decide (a2 < (a1.size : Int)) = true := decide_eq_true c27
              clear c27
              by_cases c28 : 0 ≤ a2
              ·rw [if_pos c28] at H
               have c28b0 : decide (0 ≤ a2) = true := decide_eq_true c28
               clear c28
               replace H := Option.bind_eq_some_iff.mp H
               obtain ⟨t182, A300, H⟩ := H
               replace H : (if t182 ≥ a3 then (some (0, false, false)) else (if (IntKind.u64.wrap ((IntKind.u64.wrap (x9_5 * a3)) + t182)) > 4294967295 then (some (0, false, false)) else (switchbackref01_Number.l0 k5 a1 a4 a3 (IntKind.u64.wrap ((IntKind.u64.wrap (x9_5 * a3)) + t182)) (wrap64 (a2 + 1))))) = some (r1, r2, r3) := H
               have A30 := uZ A300
               clear A300
               by_cases c31 : t182 ≥ a3
               ·rw [if_pos c31] at H
                have c31b0 : decide (a3 ≤ t182) = true := decide_eq_true c31
                clear c31
                simp only [Option.some.injEq, Prod.mk.injEq] at H
                obtain ⟨rfl, rfl, rfl⟩ := H
                have p29 : 0 ≤ (a2 : Int) := uA
                have q29 : a2 < (a1.size : Int) := uA
                have hx29 := bt_at a1 a2
                replace p29 := eq_true p29
                replace q29 := eq_true q29
                go_wp2_with (first | ((with_reducible refine gate_callee (f := 45) rfl ?_); refine goesL_ (some 63) rfl rfl Tryd.func45 (by kernel_rfl) rfl #[.int .u8 (bt a1 a2)] rfl (by (try simp only [List.map_toArray, List.map_cons, List.map_nil]); first | done | rfl | (simp only [List.length_drop, List.length_take]; rfl)) ?_; (with_reducible refine (switchbackref01_value.calls k5 (bt a1 a2) t182 _ A30.out).mono ?_); rintro e w' ⟨rfl, ⟨nd, rfl⟩⟩; refine ⟨_, rfl, ?_⟩))
                go_ret3
                exact ⟨by first | rfl | (simp; done) | (simp only [← hji2] <;> (first | rfl | (simp; done))) | (simp [*]; done), by repeat (first | exact Drawn0.refl _ | apply Drawn0.step)⟩
               rw [if_neg c31] at H
               have c31b0 : decide (a3 ≤ t182) = false := decide_eq_false c31
               clear c31
               by_cases c32 : (IntKind.u64.wrap ((IntKind.u64.wrap (x9_5 * a3)) + t182)) > 4294967295
               ·rw [if_pos c32] at H
                have c32b0 : decide (4294967295 < (IntKind.u64.wrap ((IntKind.u64.wrap (x9_5 * a3)) + t182))) = true := decide_eq_true c32
                clear c32
                simp only [Option.some.injEq, Prod.mk.injEq] at H
                obtain ⟨rfl, rfl, rfl⟩ := H
                have p29 : 0 ≤ (a2 : Int) := uA
                have q29 : a2 < (a1.size : Int) := uA
                have hx29 := bt_at a1 a2
                replace p29 := eq_true p29
                replace q29 := eq_true q29
                go_wp2_with (first | ((with_reducible refine gate_callee (f := 45) rfl ?_); refine goesL_ (some 63) rfl rfl Tryd.func45 (by kernel_rfl) rfl #[.int .u8 (bt a1 a2)] rfl (by (try simp only [List.map_toArray, List.map_cons, List.map_nil]); first | done | rfl | (simp only [List.length_drop, List.length_take]; rfl)) ?_; (with_reducible refine (switchbackref01_value.calls k5 (bt a1 a2) t182 _ A30.out).mono ?_); rintro e w' ⟨rfl, ⟨nd, rfl⟩⟩; refine ⟨_, rfl, ?_⟩))
                go_ret3
                exact ⟨by first | rfl | (simp; done) | (simp only [← hji2] <;> (first | rfl | (simp; done))) | (simp [*]; done), by repeat (first | exact Drawn0.refl _ | apply Drawn0.step)⟩
               rw [if_neg c32] at H
               have c32b0 : decide (4294967295 < (IntKind.u64.wrap ((IntKind.u64.wrap (x9_5 * a3)) + t182))) = false := decide_eq_false c32
               clear c32
               have H' := uZ H
               clear H
               have p29 : 0 ≤ (a2 : Int) := uA
               have q29 : a2 < (a1.size : Int) := uA
               have hx29 := bt_at a1 a2
               replace p29 := eq_true p29
               replace q29 := eq_true q29
               go_wp2_with (first | ((with_reducible refine gate_callee (f := 45) rfl ?_); refine goesL_ (some 63) rfl rfl Tryd.func45 (by kernel_rfl) rfl #[.int .u8 (bt a1 a2)] rfl (by (try simp only [List.map_toArray, List.map_cons, List.map_nil]); first | done | rfl | (simp only [List.length_drop, List.length_take]; rfl)) ?_; (with_reducible refine (switchbackref01_value.calls k5 (bt a1 a2) t182 _ A30.out).mono ?_); rintro e w' ⟨rfl, ⟨nd, rfl⟩⟩; refine ⟨_, rfl, ?_⟩))
               go_roundg k5
               case measure => have := HJ5.out; have := HJ7.out; have := HJ12.out; have := HJ16.out; have := HK5.out; omega
               case rel => exact ⟨(IntKind.u64.wrap ((IntKind.u64.wrap (x9_5 * a3)) + t182)), (wrap64 (a2 + 1)), (by first | rfl | (simp; done) | (simp [*]; done)), (by first | rfl | (simp; done) | (simp [*]; done)), H', ⟨by have := HJ5.out; have := HJ7.out; have := HJ12.out; have := HJ16.out; have := HK5.out; omega⟩, by repeat (first | exact Drawn0.refl _ | apply Drawn0.step)⟩
              rw [if_neg c28] at H
              exact absurd H (by simp)
             rw [if_neg c27] at H
             have c27b0 : decide (a2 < (a1.size : Int)) = false := decide_eq_false c27
             clear c27
             by_cases c33 : a4 = true
             ·subst c33
              have H1 : (some ((x9_5) % 4294967296, true, true)) = some (r1, r2, r3) := by rw [if_pos rfl] at H; exact H
              clear H
              have H := H1
              clear H1
              simp only [Option.some.injEq, Prod.mk.injEq] at H
              obtain ⟨rfl, rfl, rfl⟩ := H
              go_wp2
              go_ret3
              exact ⟨by first | rfl | (simp; done) | (simp only [← hji2] <;> (first | rfl | (simp; done))) | (simp [*]; done), by repeat (first | exact Drawn0.refl _ | apply Drawn0.step)⟩
             replace c33 := Bool.eq_false_iff.mpr c33
             subst c33
             have H1 : (some ((x9_5) % 4294967296, decide (x9_5 > 2147483647), true)) = some (r1, r2, r3) := by rw [if_neg (show ¬ (false = true) by decide)] at H; exact H
             clear H
             have H := H1
             clear H1
             simp only [Option.some.injEq, Prod.mk.injEq] at H
             obtain ⟨rfl, rfl, rfl⟩ := H
             go_wp2
             go_ret3
             exact ⟨by first | rfl | (simp; done) | (simp only [← hji2] <;> (first | rfl | (simp; done))) | (simp [*]; done), by repeat (first | exact Drawn0.refl _ | apply Drawn0.step)⟩
  rw [if_neg c4] at H
  exact absurd H (by simp)
 rw [if_neg c3] at H
 exact absurd H (by simp)

end Go.Proofs.YtjoboaaambdpoaaDoor.PR01

-- Written by gp.py for this claim.
namespace Go.Proofs.YtjoboaaambdpoaaDoor.PR01
open Go.RowKit Go.Proofs.YtjoboaaambdpoaaDoorW.PrintWords Go.Proofs.YtjoboaaambdpoaaDoorW.PrintLast Go.Proofs.YtjoboaaambdpoaaDoorW.PrintMore
attribute [local go_sem] max2_int min2_int max_two min_two max_three min_three max_four min_four   -- for this text's walks alone
set_option linter.unusedVariables false
set_option linter.unusedSimpArgs false

namespace q_switchbackref01_character
theorem uZ {p : Prop} (h : p) : Aside0 p := ⟨h⟩
theorem uA {p : Prop} [Decidable p] (h : decide p = true := by first | (with_reducible assumption) | assumption) : p := of_decide_eq_true h
end q_switchbackref01_character
open q_switchbackref01_character

/-! ### switchbackref01_character: function 38 -/
mutual
def switchbackref01_character.j1 : Nat → ByteArray → Int → Bool → Option (Int × Int)
  | 0, _, _, _ => none
  | k + 1, x0, x1, x53 => if x53 = true then (some (0, (-1))) else (if 0 ≤ (wrap64 (x1 + 2)) then (if (wrap64 (x1 + 2)) < (x0.size : Int) then (if (bt x0 (wrap64 (x1 + 2))) = 110 then (some (10, wrap64 (x1 + 4))) else (if (bt x0 (wrap64 (x1 + 2))) = 116 then (some (9, wrap64 (x1 + 4))) else (if (bt x0 (wrap64 (x1 + 2))) = 114 then (some (13, wrap64 (x1 + 4))) else (if (bt x0 (wrap64 (x1 + 2))) = 48 then (some (0, wrap64 (x1 + 4))) else (if (bt x0 (wrap64 (x1 + 2))) = 92 then (switchbackref01_character.j2 k x0 x1 ((bt x0 (wrap64 (x1 + 2))) == 92)) else (if (bt x0 (wrap64 (x1 + 2))) = 39 then (switchbackref01_character.j2 k x0 x1 ((bt x0 (wrap64 (x1 + 2))) == 39)) else (switchbackref01_character.j2 k x0 x1 ((bt x0 (wrap64 (x1 + 2))) == 34)))))))) else (none)) else (none))
def switchbackref01_character.j2 : Nat → ByteArray → Int → Bool → Option (Int × Int)
  | 0, _, _, _ => none
  | k + 1, x0, x1, x74 => if x74 = true then (if 0 ≤ (wrap64 (x1 + 2)) then (if (wrap64 (x1 + 2)) < (x0.size : Int) then (some ((bt x0 (wrap64 (x1 + 2))) % 4294967296, wrap64 (x1 + 4))) else (none)) else (none)) else (some (0, (-1)))
def switchbackref01_character.j0 : Nat → ByteArray → Int → Bool → Option (Int × Int)
  | 0, _, _, _ => none
  | k + 1, x0, x1, x34 => if x34 = true then (some (0, (-1))) else (if 0 ≤ (wrap64 (x1 + 1)) then (if (wrap64 (x1 + 1)) < (x0.size : Int) then (some ((bt x0 (wrap64 (x1 + 1))) % 4294967296, wrap64 (x1 + 3))) else (none)) else (none))
end
def switchbackref01_character.f (k : Nat) (a0 : ByteArray) (a1 : Int) : Option (Int × Int) := if (wrap64 (a1 + 3)) > (a0.size : Int) then (some (0, (-1))) else (if 0 ≤ (wrap64 (a1 + 1)) then (if (wrap64 (a1 + 1)) < (a0.size : Int) then (if (bt a0 (wrap64 (a1 + 1))) = 92 then (if (wrap64 (a1 + 4)) > (a0.size : Int) then (switchbackref01_character.j1 k a0 a1 true) else (if 0 ≤ (wrap64 (a1 + 3)) then (if (wrap64 (a1 + 3)) < (a0.size : Int) then (switchbackref01_character.j1 k a0 a1 ((bt a0 (wrap64 (a1 + 3))) != 39)) else (none)) else (none))) else (if (bt a0 (wrap64 (a1 + 1))) = 39 then (switchbackref01_character.j0 k a0 a1 true) else (if (bt a0 (wrap64 (a1 + 1))) = 10 then (switchbackref01_character.j0 k a0 a1 true) else (if 0 ≤ (wrap64 (a1 + 2)) then (if (wrap64 (a1 + 2)) < (a0.size : Int) then (switchbackref01_character.j0 k a0 a1 ((bt a0 (wrap64 (a1 + 2))) != 39)) else (none)) else (none))))) else (none)) else (none))
theorem switchbackref01_character.mono_l : ∀ k, (∀ y0 y1 y2, LeO (switchbackref01_character.j1 k y0 y1 y2) (switchbackref01_character.j1 (k + 1) y0 y1 y2)) ∧ (∀ y0 y1 y2, LeO (switchbackref01_character.j2 k y0 y1 y2) (switchbackref01_character.j2 (k + 1) y0 y1 y2)) ∧ (∀ y0 y1 y2, LeO (switchbackref01_character.j0 k y0 y1 y2) (switchbackref01_character.j0 (k + 1) y0 y1 y2))
  | 0 => ⟨fun _ _ _ r h => by simp [switchbackref01_character.j1] at h, fun _ _ _ r h => by simp [switchbackref01_character.j2] at h, fun _ _ _ r h => by simp [switchbackref01_character.j0] at h⟩
  | k + 1 => by
    obtain ⟨ih0, ih1, ih2⟩ := switchbackref01_character.mono_l k
    refine ⟨?_, ?_, ?_⟩
    · intro y0 y1 y2
      unfold switchbackref01_character.j1
      repeat' first
      | (with_reducible exact ih0 _ _ _)
      | (with_reducible exact ih1 _ _ _)
      | (with_reducible exact ih2 _ _ _)
      | (with_reducible exact LeO.refl _)
      | (with_reducible exact LeO.none _)
      | (with_reducible refine LeO.ite ?_ ?_)
      | (with_reducible refine LeO.bind ?_ (fun _ => ?_))
      | exact ih0 _ _ _
      | exact ih1 _ _ _
      | exact ih2 _ _ _
      | exact LeO.none _
      | refine LeO.ite ?_ ?_
      | refine LeO.bind ?_ (fun _ => ?_)
    · intro y0 y1 y2
      unfold switchbackref01_character.j2
      repeat' first
      | (with_reducible exact ih0 _ _ _)
      | (with_reducible exact ih1 _ _ _)
      | (with_reducible exact ih2 _ _ _)
      | (with_reducible exact LeO.refl _)
      | (with_reducible exact LeO.none _)
      | (with_reducible refine LeO.ite ?_ ?_)
      | (with_reducible refine LeO.bind ?_ (fun _ => ?_))
      | exact ih0 _ _ _
      | exact ih1 _ _ _
      | exact ih2 _ _ _
      | exact LeO.none _
      | refine LeO.ite ?_ ?_
      | refine LeO.bind ?_ (fun _ => ?_)
    · intro y0 y1 y2
      unfold switchbackref01_character.j0
      repeat' first
      | (with_reducible exact ih0 _ _ _)
      | (with_reducible exact ih1 _ _ _)
      | (with_reducible exact ih2 _ _ _)
      | (with_reducible exact LeO.refl _)
      | (with_reducible exact LeO.none _)
      | (with_reducible refine LeO.ite ?_ ?_)
      | (with_reducible refine LeO.bind ?_ (fun _ => ?_))
      | exact ih0 _ _ _
      | exact ih1 _ _ _
      | exact ih2 _ _ _
      | exact LeO.none _
      | refine LeO.ite ?_ ?_
      | refine LeO.bind ?_ (fun _ => ?_)
theorem switchbackref01_character.mono : ∀ a0 a1 k, LeO (switchbackref01_character.f k a0 a1) (switchbackref01_character.f (k + 1) a0 a1) := by
  intro a0 a1 k
  obtain ⟨ih0, ih1, ih2⟩ := switchbackref01_character.mono_l k
  unfold switchbackref01_character.f
  repeat' first
      | (with_reducible exact ih0 _ _ _)
      | (with_reducible exact ih1 _ _ _)
      | (with_reducible exact ih2 _ _ _)
      | (with_reducible exact LeO.refl _)
      | (with_reducible exact LeO.none _)
      | (with_reducible refine LeO.ite ?_ ?_)
      | (with_reducible refine LeO.bind ?_ (fun _ => ?_))
      | exact ih0 _ _ _
      | exact ih1 _ _ _
      | exact ih2 _ _ _
      | exact LeO.none _
      | refine LeO.ite ?_ ?_
      | refine LeO.bind ?_ (fun _ => ?_)
set_option maxHeartbeats 8000000 in
set_option maxRecDepth 100000 in
theorem switchbackref01_character.calls (k : Nat) (a0 : ByteArray) (a1 : Int) (r1 : Int) (r2 : Int) (w : World) (h : switchbackref01_character.f k a0 a1 = some (r1, r2)) :
    Calls Tryd.prog 38 #[.string a0, .int .i64 a1] w fun e w' => e = .returned (.tuple #[.int .u32 r1, .int .i64 r2]) ∧ Drawn0 w w' := by
 have H : (if (wrap64 (a1 + 3)) > (a0.size : Int) then (some (0, (-1))) else (if 0 ≤ (wrap64 (a1 + 1)) then (if (wrap64 (a1 + 1)) < (a0.size : Int) then (if (bt a0 (wrap64 (a1 + 1))) = 92 then (if (wrap64 (a1 + 4)) > (a0.size : Int) then (switchbackref01_character.j1 k a0 a1 true) else (if 0 ≤ (wrap64 (a1 + 3)) then (if (wrap64 (a1 + 3)) < (a0.size : Int) then (switchbackref01_character.j1 k a0 a1 ((bt a0 (wrap64 (a1 + 3))) != 39)) else (none)) else (none))) else (if (bt a0 (wrap64 (a1 + 1))) = 39 then (switchbackref01_character.j0 k a0 a1 true) else (if (bt a0 (wrap64 (a1 + 1))) = 10 then (switchbackref01_character.j0 k a0 a1 true) else (if 0 ≤ (wrap64 (a1 + 2)) then (if (wrap64 (a1 + 2)) < (a0.size : Int) then (switchbackref01_character.j0 k a0 a1 ((bt a0 (wrap64 (a1 + 2))) != 39)) else (none)) else (none))))) else (none)) else (none))) = some (r1, r2) := h
 clear h
 by_cases c3 : (wrap64 (a1 + 3)) > (a0.size : Int)
 ·rw [if_pos c3] at H
  have c3b0 : decide ((a0.size : Int) < (wrap64 (a1 + 3))) = true := decide_eq_true c3
  clear c3
  simp only [Option.some.injEq, Prod.mk.injEq] at H
  obtain ⟨rfl, rfl⟩ := H
  go_enter Tryd.func38, Tryd.ntmps38
  go_wp2
  go_ret2
  exact ⟨by first | rfl | (simp; done) | (simp [*]; done), by repeat (first | exact Drawn0.refl _ | apply Drawn0.step)⟩
 rw [if_neg c3] at H
 have c3b0 : decide ((a0.size : Int) < (wrap64 (a1 + 3))) = false := decide_eq_false c3
 clear c3
 obtain ⟨ji4, hji4⟩ : ∃ j_ : Int, (wrap64 (a1 + 1)) = j_ := ⟨_, rfl⟩
 replace H : (if 0 ≤ (ji4) then (if (ji4) < (a0.size : Int) then (if (bt a0 (ji4)) = 92 then (if (wrap64 (a1 + 4)) > (a0.size : Int) then (switchbackref01_character.j1 k a0 a1 true) else (if 0 ≤ (wrap64 (a1 + 3)) then (if (wrap64 (a1 + 3)) < (a0.size : Int) then (switchbackref01_character.j1 k a0 a1 ((bt a0 (wrap64 (a1 + 3))) != 39)) else (none)) else (none))) else (if (bt a0 (ji4)) = 39 then (switchbackref01_character.j0 k a0 a1 true) else (if (bt a0 (ji4)) = 10 then (switchbackref01_character.j0 k a0 a1 true) else (if 0 ≤ (wrap64 (a1 + 2)) then (if (wrap64 (a1 + 2)) < (a0.size : Int) then (switchbackref01_character.j0 k a0 a1 ((bt a0 (wrap64 (a1 + 2))) != 39)) else (none)) else (none))))) else (none)) else (none)) = some (r1, r2) := by first | (rw [hji4] at H; exact H) | (simp only [hji4] at H ⊢; exact H)
 have hji4w : (IntKind.i64.wrap (a1 + 1)) = ji4 := (i64_w _).trans hji4
 by_cases c5 : 0 ≤ (ji4)
 ·rw [if_pos c5] at H
  have c5b0 : decide (0 ≤ (ji4)) = true := decide_eq_true c5
  clear c5
  by_cases c6 : (ji4) < (a0.size : Int)
  ·rw [if_pos c6] at H
   have c6b0 : decide ((ji4) < (a0.size : Int)) = true := decide_eq_true c6
   clear c6
   by_cases c8 : (bt a0 (ji4)) = 92
   ·rw [if_pos c8] at H
    have c8b0 : ((bt a0 (ji4)) == 92) = true := beq_iff_eq.mpr c8
    have c8b1 : ((bt a0 (ji4)) != 92) = false := bne_eq_false_iff_eq.mpr c8
    clear c8
    have HC9 := uZ H
    clear H
    have p7 : 0 ≤ ((ji4) : Int) := uA
    have q7 : (ji4) < (a0.size : Int) := uA
    have hx7 := bt_at a0 (ji4)
    replace p7 := eq_true p7
    replace q7 := eq_true q7
    go_enter Tryd.func38, Tryd.ntmps38
    go_upto_region 7 with (fail)
    go_cut [53] (fun v53 wc => ∃ (kq : Nat) (x53_8 : Bool), v53 = .bool x53_8 ∧ Aside0 (switchbackref01_character.j1 kq a0 a1 x53_8 = some (r1, r2)) ∧ Aside0 (kq ≤ k) ∧ Drawn0 w wc)
    case first =>
     have H := HC9.out
     clear HC9
     by_cases c10 : (wrap64 (a1 + 4)) > (a0.size : Int)
     ·rw [if_pos c10] at H
      have c10b0 : decide ((a0.size : Int) < (wrap64 (a1 + 4))) = true := decide_eq_true c10
      clear c10
      (first | rw [c10b0] | (simp only [i64_w, i32_w]; rw [c10b0]) | skip)
      have H' := uZ H
      clear H
      go_wp2
      go_meet
      case rel => exact ⟨_, (true), (by first | rfl | (simp; done) | (simp [*]; done)), H', ⟨by first | omega | exact Nat.le_refl _⟩, by repeat (first | exact Drawn0.refl _ | apply Drawn0.step)⟩
     rw [if_neg c10] at H
     have c10b0 : decide ((a0.size : Int) < (wrap64 (a1 + 4))) = false := decide_eq_false c10
     clear c10
     (first | rw [c10b0] | (simp only [i64_w, i32_w]; rw [c10b0]) | skip)
     obtain ⟨ji11, hji11⟩ : ∃ j_ : Int, (wrap64 (a1 + 3)) = j_ := ⟨_, rfl⟩
     replace H : (if 0 ≤ (ji11) then (if (ji11) < (a0.size : Int) then (switchbackref01_character.j1 k a0 a1 ((bt a0 (ji11)) != 39)) else (none)) else (none)) = some (r1, r2) := by first | (rw [hji11] at H; exact H) | (simp only [hji11] at H ⊢; exact H)
     (try rw [hji11] at c3b0)
     have hji11w : (IntKind.i64.wrap (a1 + 3)) = ji11 := (i64_w _).trans hji11
     by_cases c12 : 0 ≤ (ji11)
     ·rw [if_pos c12] at H
      have c12b0 : decide (0 ≤ (ji11)) = true := decide_eq_true c12
      clear c12
      by_cases c13 : (ji11) < (a0.size : Int)
      ·rw [if_pos c13] at H
       have c13b0 : decide ((ji11) < (a0.size : Int)) = true := decide_eq_true c13
       clear c13
       have H' := uZ H
       clear H
       have p14 : 0 ≤ ((ji11) : Int) := uA
       have q14 : (ji11) < (a0.size : Int) := uA
       have hx14 := bt_at a0 (ji11)
       replace p14 := eq_true p14
       replace q14 := eq_true q14
       go_wp2
       go_meet
       case rel => exact ⟨_, (((bt a0 (ji11)) != 39)), (by first | rfl | (simp; done) | (simp only [← hji11] <;> (first | rfl | (simp; done))) | (simp [*]; done)), H', ⟨by first | omega | exact Nat.le_refl _⟩, by repeat (first | exact Drawn0.refl _ | apply Drawn0.step)⟩
      rw [if_neg c13] at H
      exact absurd H (by simp)
     rw [if_neg c12] at H
     exact absurd H (by simp)
    case rest =>
     clear HC9
     try clear c1
     try clear p1
     try clear q1
     try clear hx1
     try clear p2
     try clear c3
     try clear c3b0
     try clear c5
     try clear c5b0
     try clear c6
     try clear c6b0
     try clear p6
     try clear p7
     try clear q7
     try clear hx7
     try clear c8
     try clear c8b0
     try clear c8b1
     try clear c10
     try clear c10b0
     try clear c12
     try clear c12b0
     try clear c13
     try clear c13b0
     try clear p14
     try clear q14
     try clear hx14
     try clear p14
     try clear p7
     try clear q14
     try clear q7
     obtain ⟨kq, x53_8, rfl, HA, HJ8, ⟨mc8, rfl⟩⟩ := hcut
     cases kq with
     | zero => exact absurd HA.out (by simp [switchbackref01_character.j1])
     | succ kj8 =>
      have H := HA.out
      clear HA
      simp only [switchbackref01_character.j1] at H
      by_cases c15 : x53_8 = true
      ·subst c15
       have H1 : (some (0, (-1))) = some (r1, r2) := by rw [if_pos rfl] at H; exact H
       clear H
       have H := H1
       clear H1
       simp only [Option.some.injEq, Prod.mk.injEq] at H
       obtain ⟨rfl, rfl⟩ := H
       go_wp2
       go_ret2
       exact ⟨by first | rfl | (simp; done) | (simp only [← hji4] <;> (first | rfl | (simp; done))) | (simp [*]; done), by repeat (first | exact Drawn0.refl _ | apply Drawn0.step)⟩
      replace c15 := Bool.eq_false_iff.mpr c15
      subst c15
      have H1 : (if 0 ≤ (wrap64 (a1 + 2)) then (if (wrap64 (a1 + 2)) < (a0.size : Int) then (if (bt a0 (wrap64 (a1 + 2))) = 110 then (some (10, wrap64 (a1 + 4))) else (if (bt a0 (wrap64 (a1 + 2))) = 116 then (some (9, wrap64 (a1 + 4))) else (if (bt a0 (wrap64 (a1 + 2))) = 114 then (some (13, wrap64 (a1 + 4))) else (if (bt a0 (wrap64 (a1 + 2))) = 48 then (some (0, wrap64 (a1 + 4))) else (if (bt a0 (wrap64 (a1 + 2))) = 92 then (switchbackref01_character.j2 kj8 a0 a1 ((bt a0 (wrap64 (a1 + 2))) == 92)) else (if (bt a0 (wrap64 (a1 + 2))) = 39 then (switchbackref01_character.j2 kj8 a0 a1 ((bt a0 (wrap64 (a1 + 2))) == 39)) else (switchbackref01_character.j2 kj8 a0 a1 ((bt a0 (wrap64 (a1 + 2))) == 34)))))))) else (none)) else (none)) = some (r1, r2) := by rw [if_neg (show ¬ (false = true) by decide)] at H; exact H
      clear H
      have H := H1
      clear H1
      obtain ⟨a2, hji16⟩ : ∃ j_ : Int, (wrap64 (a1 + 2)) = j_ := ⟨_, rfl⟩
      replace H : (if 0 ≤ (a2) then (if (a2) < (a0.size : Int) then (if (bt a0 (a2)) = 110 then (some (10, wrap64 (a1 + 4))) else (if (bt a0 (a2)) = 116 then (some (9, wrap64 (a1 + 4))) else (if (bt a0 (a2)) = 114 then (some (13, wrap64 (a1 + 4))) else (if (bt a0 (a2)) = 48 then (some (0, wrap64 (a1 + 4))) else (if (bt a0 (a2)) = 92 then (switchbackref01_character.j2 kj8 a0 a1 ((bt a0 (a2)) == 92)) else (if (bt a0 (a2)) = 39 then (switchbackref01_character.j2 kj8 a0 a1 ((bt a0 (a2)) == 39)) else (switchbackref01_character.j2 kj8 a0 a1 ((bt a0 (a2)) == 34)))))))) else (none)) else (none)) = some (r1, r2) := by first | (rw [hji16] at H; exact H) | (simp only [hji16] at H ⊢; exact H)
      have hji16w : (IntKind.i64.wrap (a1 + 2)) = a2 := (i64_w _).trans hji16
      by_cases c17 : 0 ≤ (a2)
      ·rw [if_pos c17] at H
       have c17b0 : decide (0 ≤ (a2)) = true := decide_eq_true c17
       clear c17
       by_cases c18 : (a2) < (a0.size : Int)
       ·rw [if_pos c18] at H
        have c18b0 : decide ((a2) < (a0.size : Int)) = true := decide_eq_true c18
        clear c18
        by_cases c20 : (bt a0 (a2)) = 110
        ·rw [if_pos c20] at H
         have c20b0 : ((bt a0 (a2)) == 110) = true := beq_iff_eq.mpr c20
         have c20b1 : ((bt a0 (a2)) != 110) = false := bne_eq_false_iff_eq.mpr c20
         clear c20
         simp only [Option.some.injEq, Prod.mk.injEq] at H
         obtain ⟨rfl, rfl⟩ := H
         have p19 : 0 ≤ ((a2) : Int) := uA
         have q19 : (a2) < (a0.size : Int) := uA
         have hx19 := bt_at a0 (a2)
         replace p19 := eq_true p19
         replace q19 := eq_true q19
         go_wp2
         go_ret2
         exact ⟨by first | rfl | (simp; done) | (simp only [← hji4, ← hji16] <;> (first | rfl | (simp; done))) | (simp [*]; done), by repeat (first | exact Drawn0.refl _ | apply Drawn0.step)⟩
        rw [if_neg c20] at H
        have c20b0 : ((bt a0 (a2)) == 110) = false := beq_eq_false_iff_ne.mpr c20
        have c20b1 : ((bt a0 (a2)) != 110) = true := bne_iff_ne.mpr c20
        by_cases c21 : (bt a0 (a2)) = 116
        ·rw [if_pos c21] at H
         have c21b0 : ((bt a0 (a2)) == 116) = true := beq_iff_eq.mpr c21
         have c21b1 : ((bt a0 (a2)) != 116) = false := bne_eq_false_iff_eq.mpr c21
         clear c21
         simp only [Option.some.injEq, Prod.mk.injEq] at H
         obtain ⟨rfl, rfl⟩ := H
         have p19 : 0 ≤ ((a2) : Int) := uA
         have q19 : (a2) < (a0.size : Int) := uA
         have hx19 := bt_at a0 (a2)
         replace p19 := eq_true p19
         replace q19 := eq_true q19
         go_wp2
         go_ret2
         exact ⟨by first | rfl | (simp; done) | (simp only [← hji4, ← hji16] <;> (first | rfl | (simp; done))) | (simp [*]; done), by repeat (first | exact Drawn0.refl _ | apply Drawn0.step)⟩
        rw [if_neg c21] at H
        have c21b0 : ((bt a0 (a2)) == 116) = false := beq_eq_false_iff_ne.mpr c21
        have c21b1 : ((bt a0 (a2)) != 116) = true := bne_iff_ne.mpr c21
        by_cases c22 : (bt a0 (a2)) = 114
        ·rw [if_pos c22] at H
         have c22b0 : ((bt a0 (a2)) == 114) = true := beq_iff_eq.mpr c22
         have c22b1 : ((bt a0 (a2)) != 114) = false := bne_eq_false_iff_eq.mpr c22
         clear c22
         simp only [Option.some.injEq, Prod.mk.injEq] at H
         obtain ⟨rfl, rfl⟩ := H
         have p19 : 0 ≤ ((a2) : Int) := uA
         have q19 : (a2) < (a0.size : Int) := uA
         have hx19 := bt_at a0 (a2)
         replace p19 := eq_true p19
         replace q19 := eq_true q19
         go_wp2
         go_ret2
         exact ⟨by first | rfl | (simp; done) | (simp only [← hji4, ← hji16] <;> (first | rfl | (simp; done))) | (simp [*]; done), by repeat (first | exact Drawn0.refl _ | apply Drawn0.step)⟩
        rw [if_neg c22] at H
        have c22b0 : ((bt a0 (a2)) == 114) = false := beq_eq_false_iff_ne.mpr c22
        have c22b1 : ((bt a0 (a2)) != 114) = true := bne_iff_ne.mpr c22
        by_cases c23 : (bt a0 (a2)) = 48
        ·rw [if_pos c23] at H
         have c23b0 : ((bt a0 (a2)) == 48) = true := beq_iff_eq.mpr c23
         have c23b1 : ((bt a0 (a2)) != 48) = false := bne_eq_false_iff_eq.mpr c23
         clear c23
         simp only [Option.some.injEq, Prod.mk.injEq] at H
         obtain ⟨rfl, rfl⟩ := H
         have p19 : 0 ≤ ((a2) : Int) := uA
         have q19 : (a2) < (a0.size : Int) := uA
         have hx19 := bt_at a0 (a2)
         replace p19 := eq_true p19
         replace q19 := eq_true q19
         go_wp2
         go_ret2
         exact ⟨by first | rfl | (simp; done) | (simp only [← hji4, ← hji16] <;> (first | rfl | (simp; done))) | (simp [*]; done), by repeat (first | exact Drawn0.refl _ | apply Drawn0.step)⟩
        rw [if_neg c23] at H
        have c23b0 : ((bt a0 (a2)) == 48) = false := beq_eq_false_iff_ne.mpr c23
        have c23b1 : ((bt a0 (a2)) != 48) = true := bne_iff_ne.mpr c23
        have HC24 := uZ H
        clear H
        have p19 : 0 ≤ ((a2) : Int) := uA
        have q19 : (a2) < (a0.size : Int) := uA
        have hx19 := bt_at a0 (a2)
        replace p19 := eq_true p19
        replace q19 := eq_true q19
        go_upto_if 74 with (fail)
        go_cut [74] (fun v74 wc => ∃ (kq : Nat) (x74_23 : Bool), v74 = .bool x74_23 ∧ Aside0 (switchbackref01_character.j2 kq a0 a1 x74_23 = some (r1, r2)) ∧ Aside0 (kq ≤ kj8) ∧ Drawn0 w wc)
        case first =>
         have H := HC24.out
         clear HC24
         by_cases c25 : (bt a0 (a2)) = 92
         ·rw [if_pos c25] at H
          have c25b0 : ((bt a0 (a2)) == 92) = true := beq_iff_eq.mpr c25
          have c25b1 : ((bt a0 (a2)) != 92) = false := bne_eq_false_iff_eq.mpr c25
          clear c25
          (first | rw [c25b0] | (simp only [i64_w, i32_w]; rw [c25b0]) | skip)
          have H' := uZ H
          clear H
          go_wp2
          go_meet
          case rel => exact ⟨_, (((bt a0 (a2)) == 92)), (by first | rfl | (simp; done) | (simp only [← hji16] <;> (first | rfl | (simp; done))) | (simp [*]; done)), H', ⟨by have := HJ8.out; first | omega | exact Nat.le_refl _⟩, by repeat (first | exact Drawn0.refl _ | apply Drawn0.step)⟩
         rw [if_neg c25] at H
         have c25b0 : ((bt a0 (a2)) == 92) = false := beq_eq_false_iff_ne.mpr c25
         have c25b1 : ((bt a0 (a2)) != 92) = true := bne_iff_ne.mpr c25
         (first | rw [c25b0] | (simp only [i64_w, i32_w]; rw [c25b0]) | skip)
         by_cases c26 : (bt a0 (a2)) = 39
         ·rw [if_pos c26] at H
          have c26b0 : ((bt a0 (a2)) == 39) = true := beq_iff_eq.mpr c26
          have c26b1 : ((bt a0 (a2)) != 39) = false := bne_eq_false_iff_eq.mpr c26
          clear c26
          have H' := uZ H
          clear H
          go_wp2
          go_meet
          case rel => exact ⟨_, (((bt a0 (a2)) == 39)), (by first | rfl | (simp; done) | (simp only [← hji16] <;> (first | rfl | (simp; done))) | (simp [*]; done)), H', ⟨by have := HJ8.out; first | omega | exact Nat.le_refl _⟩, by repeat (first | exact Drawn0.refl _ | apply Drawn0.step)⟩
         rw [if_neg c26] at H
         have c26b0 : ((bt a0 (a2)) == 39) = false := beq_eq_false_iff_ne.mpr c26
         have c26b1 : ((bt a0 (a2)) != 39) = true := bne_iff_ne.mpr c26
         have H' := uZ H
         clear H
         go_wp2
         go_meet
         case rel => exact ⟨_, (((bt a0 (a2)) == 34)), (by first | rfl | (simp; done) | (simp only [← hji16] <;> (first | rfl | (simp; done))) | (simp [*]; done)), H', ⟨by have := HJ8.out; first | omega | exact Nat.le_refl _⟩, by repeat (first | exact Drawn0.refl _ | apply Drawn0.step)⟩
        case rest =>
         clear HC24
         try clear c1
         try clear p1
         try clear q1
         try clear hx1
         try clear c2
         try clear p2
         try clear c3
         try clear c3b0
         try clear c5
         try clear c5b0
         try clear c6
         try clear c6b0
         try clear p6
         try clear p7
         try clear q7
         try clear hx7
         try clear c8
         try clear c8b0
         try clear c8b1
         try clear c10
         try clear c10b0
         try clear c12
         try clear c12b0
         try clear c13
         try clear c13b0
         try clear p14
         try clear q14
         try clear hx14
         try clear c15
         try clear c17
         try clear c17b0
         try clear c18
         try clear c18b0
         try clear p19
         try clear q19
         try clear hx19
         try clear c20
         try clear c20b0
         try clear c20b1
         try clear c21
         try clear c21b0
         try clear c21b1
         try clear c22
         try clear c22b0
         try clear c22b1
         try clear c23
         try clear c23b0
         try clear c23b1
         try clear c25
         try clear c25b0
         try clear c25b1
         try clear c26
         try clear c26b0
         try clear c26b1
         try clear p1
         try clear p14
         try clear p19
         try clear p2
         try clear p6
         try clear p7
         try clear q1
         try clear q14
         try clear q19
         try clear q7
         obtain ⟨kq, x74_23, rfl, HA, HJ23, ⟨mc23, rfl⟩⟩ := hcut
         cases kq with
         | zero => exact absurd HA.out (by simp [switchbackref01_character.j2])
         | succ kj23 =>
          have H := HA.out
          clear HA
          simp only [switchbackref01_character.j2] at H
          by_cases c27 : x74_23 = true
          ·subst c27
           have H1 : (if 0 ≤ (wrap64 (a1 + 2)) then (if (wrap64 (a1 + 2)) < (a0.size : Int) then (some ((bt a0 (wrap64 (a1 + 2))) % 4294967296, wrap64 (a1 + 4))) else (none)) else (none)) = some (r1, r2) := by rw [if_pos rfl] at H; exact H
           clear H
           have H := H1
           clear H1
           obtain ⟨ji28, hji28⟩ : ∃ j_ : Int, (wrap64 (a1 + 2)) = j_ := ⟨_, rfl⟩
           replace H : (if 0 ≤ (ji28) then (if (ji28) < (a0.size : Int) then (some ((bt a0 (ji28)) % 4294967296, wrap64 (a1 + 4))) else (none)) else (none)) = some (r1, r2) := by first | (rw [hji28] at H; exact H) | (simp only [hji28] at H ⊢; exact H)
           have hji28w : (IntKind.i64.wrap (a1 + 2)) = ji28 := (i64_w _).trans hji28
           obtain rfl : ji28 = a2 := hji28.symm.trans hji16
           by_cases c29 : 0 ≤ (ji28)
           ·rw [if_pos c29] at H
            have c29b0 : decide (0 ≤ (ji28)) = true := decide_eq_true c29
            clear c29
            by_cases c30 : (ji28) < (a0.size : Int)
            ·rw [if_pos c30] at H
             have c30b0 : decide ((ji28) < (a0.size : Int)) = true := decide_eq_true c30
             clear c30
             simp only [Option.some.injEq, Prod.mk.injEq] at H
             obtain ⟨rfl, rfl⟩ := H
             have p31 : 0 ≤ ((ji28) : Int) := uA
             have q31 : (ji28) < (a0.size : Int) := uA
             have hx31 := bt_at a0 (ji28)
             replace p31 := eq_true p31
             replace q31 := eq_true q31
             go_wp2
             go_ret2
             exact ⟨by first | rfl | (simp; done) | (simp only [← hji4, ← hji16, ← hji28] <;> (first | rfl | (simp; done))) | (simp [*]; done), by repeat (first | exact Drawn0.refl _ | apply Drawn0.step)⟩
            rw [if_neg c30] at H
            exact absurd H (by simp)
           rw [if_neg c29] at H
           exact absurd H (by simp)
          replace c27 := Bool.eq_false_iff.mpr c27
          subst c27
          have H1 : (some (0, (-1))) = some (r1, r2) := by rw [if_neg (show ¬ (false = true) by decide)] at H; exact H
          clear H
          have H := H1
          clear H1
          simp only [Option.some.injEq, Prod.mk.injEq] at H
          obtain ⟨rfl, rfl⟩ := H
          go_wp2
          go_ret2
          exact ⟨by first | rfl | (simp; done) | (simp only [← hji4, ← hji16] <;> (first | rfl | (simp; done))) | (simp [*]; done), by repeat (first | exact Drawn0.refl _ | apply Drawn0.step)⟩
       rw [if_neg c18] at H
       exact absurd H (by simp)
      rw [if_neg c17] at H
      exact absurd H (by simp)
   rw [if_neg c8] at H
   have c8b0 : ((bt a0 (ji4)) == 92) = false := beq_eq_false_iff_ne.mpr c8
   have c8b1 : ((bt a0 (ji4)) != 92) = true := bne_iff_ne.mpr c8
   have HC32 := uZ H
   clear H
   have p7 : 0 ≤ ((ji4) : Int) := uA
   have q7 : (ji4) < (a0.size : Int) := uA
   have hx7 := bt_at a0 (ji4)
   replace p7 := eq_true p7
   replace q7 := eq_true q7
   go_enter Tryd.func38, Tryd.ntmps38
   go_upto_region 4 with (fail)
   go_cut [34] (fun v34 wc => ∃ (kq : Nat) (x34_31 : Bool), v34 = .bool x34_31 ∧ Aside0 (switchbackref01_character.j0 kq a0 a1 x34_31 = some (r1, r2)) ∧ Aside0 (kq ≤ k) ∧ Drawn0 w wc)
   case first =>
    have H := HC32.out
    clear HC32
    by_cases c34 : (bt a0 (ji4)) = 39
    ·rw [if_pos c34] at H
     have c34b0 : ((bt a0 (ji4)) == 39) = true := beq_iff_eq.mpr c34
     have c34b1 : ((bt a0 (ji4)) != 39) = false := bne_eq_false_iff_eq.mpr c34
     clear c34
     (first | rw [c34b0] | (simp only [i64_w, i32_w]; rw [c34b0]) | skip)
     have H' := uZ H
     clear H
     have p33 : 0 ≤ ((ji4) : Int) := uA
     have q33 : (ji4) < (a0.size : Int) := uA
     have hx33 := bt_at a0 (ji4)
     replace p33 := eq_true p33
     replace q33 := eq_true q33
     go_wp2
     go_meet
     case rel => exact ⟨_, (true), (by first | rfl | (simp; done) | (simp [*]; done)), H', ⟨by first | omega | exact Nat.le_refl _⟩, by repeat (first | exact Drawn0.refl _ | apply Drawn0.step)⟩
    rw [if_neg c34] at H
    have c34b0 : ((bt a0 (ji4)) == 39) = false := beq_eq_false_iff_ne.mpr c34
    have c34b1 : ((bt a0 (ji4)) != 39) = true := bne_iff_ne.mpr c34
    (first | rw [c34b0] | (simp only [i64_w, i32_w]; rw [c34b0]) | skip)
    by_cases c36 : (bt a0 (ji4)) = 10
    ·rw [if_pos c36] at H
     have c36b0 : ((bt a0 (ji4)) == 10) = true := beq_iff_eq.mpr c36
     have c36b1 : ((bt a0 (ji4)) != 10) = false := bne_eq_false_iff_eq.mpr c36
     clear c36
     have H' := uZ H
     clear H
     have p33 : 0 ≤ ((ji4) : Int) := uA
     have q33 : (ji4) < (a0.size : Int) := uA
     have hx33 := bt_at a0 (ji4)
     replace p33 := eq_true p33
     replace q33 := eq_true q33
     have p35 : 0 ≤ ((ji4) : Int) := uA
     have q35 : (ji4) < (a0.size : Int) := uA
     have hx35 := bt_at a0 (ji4)
     replace p35 := eq_true p35
     replace q35 := eq_true q35
     go_wp2
     go_meet
     case rel => exact ⟨_, (true), (by first | rfl | (simp; done) | (simp [*]; done)), H', ⟨by first | omega | exact Nat.le_refl _⟩, by repeat (first | exact Drawn0.refl _ | apply Drawn0.step)⟩
    rw [if_neg c36] at H
    have c36b0 : ((bt a0 (ji4)) == 10) = false := beq_eq_false_iff_ne.mpr c36
    have c36b1 : ((bt a0 (ji4)) != 10) = true := bne_iff_ne.mpr c36
    obtain ⟨ji37, hji37⟩ : ∃ j_ : Int, (wrap64 (a1 + 2)) = j_ := ⟨_, rfl⟩
    replace H : (if 0 ≤ (ji37) then (if (ji37) < (a0.size : Int) then (switchbackref01_character.j0 k a0 a1 ((bt a0 (ji37)) != 39)) else (none)) else (none)) = some (r1, r2) := by first | (rw [hji37] at H; exact H) | (simp only [hji37] at H ⊢; exact H)
    have hji37w : (IntKind.i64.wrap (a1 + 2)) = ji37 := (i64_w _).trans hji37
    by_cases c38 : 0 ≤ (ji37)
    ·rw [if_pos c38] at H
     have c38b0 : decide (0 ≤ (ji37)) = true := decide_eq_true c38
     clear c38
     by_cases c39 : (ji37) < (a0.size : Int)
     ·rw [if_pos c39] at H
      have c39b0 : decide ((ji37) < (a0.size : Int)) = true := decide_eq_true c39
      clear c39
      have H' := uZ H
      clear H
      have p33 : 0 ≤ ((ji4) : Int) := uA
      have q33 : (ji4) < (a0.size : Int) := uA
      have hx33 := bt_at a0 (ji4)
      replace p33 := eq_true p33
      replace q33 := eq_true q33
      have p35 : 0 ≤ ((ji4) : Int) := uA
      have q35 : (ji4) < (a0.size : Int) := uA
      have hx35 := bt_at a0 (ji4)
      replace p35 := eq_true p35
      replace q35 := eq_true q35
      have p40 : 0 ≤ ((ji37) : Int) := uA
      have q40 : (ji37) < (a0.size : Int) := uA
      have hx40 := bt_at a0 (ji37)
      replace p40 := eq_true p40
      replace q40 := eq_true q40
      go_wp2
      go_meet
      case rel => exact ⟨_, (((bt a0 (ji37)) != 39)), (by first | rfl | (simp; done) | (simp only [← hji37] <;> (first | rfl | (simp; done))) | (simp [*]; done)), H', ⟨by first | omega | exact Nat.le_refl _⟩, by repeat (first | exact Drawn0.refl _ | apply Drawn0.step)⟩
     rw [if_neg c39] at H
     exact absurd H (by simp)
    rw [if_neg c38] at H
    exact absurd H (by simp)
   case rest =>
    clear HC32
    try clear c1
    try clear p1
    try clear q1
    try clear hx1
    try clear c2
    try clear p2
    try clear c3
    try clear c3b0
    try clear p3
    try clear q3
    try clear hx3
    try clear p4
    try clear q4
    try clear hx4
    try clear c5
    try clear c5b0
    try clear c6
    try clear c6b0
    try clear p6
    try clear p7
    try clear q7
    try clear hx7
    try clear c8
    try clear c8b0
    try clear c8b1
    try clear c10
    try clear c10b0
    try clear c12
    try clear c12b0
    try clear c13
    try clear c13b0
    try clear p14
    try clear q14
    try clear hx14
    try clear c15
    try clear c17
    try clear c17b0
    try clear c18
    try clear c18b0
    try clear p19
    try clear q19
    try clear hx19
    try clear c20
    try clear c20b0
    try clear c20b1
    try clear c21
    try clear c21b0
    try clear c21b1
    try clear c22
    try clear c22b0
    try clear c22b1
    try clear c23
    try clear c23b0
    try clear c23b1
    try clear c25
    try clear c25b0
    try clear c25b1
    try clear c26
    try clear c26b0
    try clear c26b1
    try clear c27
    try clear c29
    try clear c29b0
    try clear c30
    try clear c30b0
    try clear p31
    try clear q31
    try clear hx31
    try clear p33
    try clear q33
    try clear hx33
    try clear c34
    try clear c34b0
    try clear c34b1
    try clear p35
    try clear q35
    try clear hx35
    try clear c36
    try clear c36b0
    try clear c36b1
    try clear c38
    try clear c38b0
    try clear c39
    try clear c39b0
    try clear p40
    try clear q40
    try clear hx40
    try clear p1
    try clear p14
    try clear p19
    try clear p2
    try clear p31
    try clear p33
    try clear p35
    try clear p40
    try clear p6
    try clear p7
    try clear q1
    try clear q14
    try clear q19
    try clear q31
    try clear q33
    try clear q35
    try clear q40
    try clear q7
    obtain ⟨kq, x34_31, rfl, HA, HJ31, ⟨mc31, rfl⟩⟩ := hcut
    cases kq with
    | zero => exact absurd HA.out (by simp [switchbackref01_character.j0])
    | succ kj31 =>
     have H := HA.out
     clear HA
     simp only [switchbackref01_character.j0] at H
     by_cases c41 : x34_31 = true
     ·subst c41
      have H1 : (some (0, (-1))) = some (r1, r2) := by rw [if_pos rfl] at H; exact H
      clear H
      have H := H1
      clear H1
      simp only [Option.some.injEq, Prod.mk.injEq] at H
      obtain ⟨rfl, rfl⟩ := H
      go_wp2
      go_ret2
      exact ⟨by first | rfl | (simp; done) | (simp only [← hji4] <;> (first | rfl | (simp; done))) | (simp [*]; done), by repeat (first | exact Drawn0.refl _ | apply Drawn0.step)⟩
     replace c41 := Bool.eq_false_iff.mpr c41
     subst c41
     have H1 : (if 0 ≤ (wrap64 (a1 + 1)) then (if (wrap64 (a1 + 1)) < (a0.size : Int) then (some ((bt a0 (wrap64 (a1 + 1))) % 4294967296, wrap64 (a1 + 3))) else (none)) else (none)) = some (r1, r2) := by rw [if_neg (show ¬ (false = true) by decide)] at H; exact H
     clear H
     have H := H1
     clear H1
     obtain ⟨ji42, hji42⟩ : ∃ j_ : Int, (wrap64 (a1 + 1)) = j_ := ⟨_, rfl⟩
     replace H : (if 0 ≤ (ji42) then (if (ji42) < (a0.size : Int) then (some ((bt a0 (ji42)) % 4294967296, wrap64 (a1 + 3))) else (none)) else (none)) = some (r1, r2) := by first | (rw [hji42] at H; exact H) | (simp only [hji42] at H ⊢; exact H)
     have hji42w : (IntKind.i64.wrap (a1 + 1)) = ji42 := (i64_w _).trans hji42
     obtain rfl : ji42 = ji4 := hji42.symm.trans hji4
     by_cases c43 : 0 ≤ (ji42)
     ·rw [if_pos c43] at H
      have c43b0 : decide (0 ≤ (ji42)) = true := decide_eq_true c43
      clear c43
      by_cases c44 : (ji42) < (a0.size : Int)
      ·rw [if_pos c44] at H
       have c44b0 : decide ((ji42) < (a0.size : Int)) = true := decide_eq_true c44
       clear c44
       simp only [Option.some.injEq, Prod.mk.injEq] at H
       obtain ⟨rfl, rfl⟩ := H
       have p45 : 0 ≤ ((ji42) : Int) := uA
       have q45 : (ji42) < (a0.size : Int) := uA
       have hx45 := bt_at a0 (ji42)
       replace p45 := eq_true p45
       replace q45 := eq_true q45
       go_wp2
       go_ret2
       exact ⟨by first | rfl | (simp; done) | (simp only [← hji4, ← hji42] <;> (first | rfl | (simp; done))) | (simp [*]; done), by repeat (first | exact Drawn0.refl _ | apply Drawn0.step)⟩
      rw [if_neg c44] at H
      exact absurd H (by simp)
     rw [if_neg c43] at H
     exact absurd H (by simp)
  rw [if_neg c6] at H
  exact absurd H (by simp)
 rw [if_neg c5] at H
 exact absurd H (by simp)

end Go.Proofs.YtjoboaaambdpoaaDoor.PR01

-- Written by gp.py for this claim.
namespace Go.Proofs.YtjoboaaambdpoaaDoor.PR01
open Go.RowKit Go.Proofs.YtjoboaaambdpoaaDoorW.PrintWords Go.Proofs.YtjoboaaambdpoaaDoorW.PrintLast Go.Proofs.YtjoboaaambdpoaaDoorW.PrintMore
attribute [local go_sem] max2_int min2_int max_two min_two max_three min_three max_four min_four   -- for this text's walks alone
set_option linter.unusedVariables false
set_option linter.unusedSimpArgs false

namespace q_switchbackref01_sign
theorem uZ {p : Prop} (h : p) : Aside0 p := ⟨h⟩
end q_switchbackref01_sign
open q_switchbackref01_sign

/-! ### switchbackref01_sign: function 39 -/
mutual
def switchbackref01_sign.j0 : Nat → ByteArray → Bool → Option (Bool)
  | 0, _, _ => none
  | k + 1, x3, x4 => if x4 = true then (some true) else (if x3.toList = ([43] : List UInt8) then (switchbackref01_sign.j1 k (x3.toList == ([43] : List UInt8))) else (if x3.toList = ([45] : List UInt8) then (switchbackref01_sign.j1 k (x3.toList == ([45] : List UInt8))) else (if x3.toList = ([42] : List UInt8) then (switchbackref01_sign.j1 k (x3.toList == ([42] : List UInt8))) else (if x3.toList = ([47] : List UInt8) then (switchbackref01_sign.j1 k (x3.toList == ([47] : List UInt8))) else (if x3.toList = ([37] : List UInt8) then (switchbackref01_sign.j1 k (x3.toList == ([37] : List UInt8))) else (if x3.toList = ([38] : List UInt8) then (switchbackref01_sign.j1 k (x3.toList == ([38] : List UInt8))) else (if x3.toList = ([124] : List UInt8) then (switchbackref01_sign.j1 k (x3.toList == ([124] : List UInt8))) else (if x3.toList = ([94] : List UInt8) then (switchbackref01_sign.j1 k (x3.toList == ([94] : List UInt8))) else (if x3.toList = ([126] : List UInt8) then (switchbackref01_sign.j1 k (x3.toList == ([126] : List UInt8))) else (if x3.toList = ([33] : List UInt8) then (switchbackref01_sign.j1 k (x3.toList == ([33] : List UInt8))) else (if x3.toList = ([60] : List UInt8) then (switchbackref01_sign.j1 k (x3.toList == ([60] : List UInt8))) else (if x3.toList = ([62] : List UInt8) then (switchbackref01_sign.j1 k (x3.toList == ([62] : List UInt8))) else (if x3.toList = ([61] : List UInt8) then (switchbackref01_sign.j1 k (x3.toList == ([61] : List UInt8))) else (if x3.toList = ([63] : List UInt8) then (switchbackref01_sign.j1 k (x3.toList == ([63] : List UInt8))) else (if x3.toList = ([58] : List UInt8) then (switchbackref01_sign.j1 k (x3.toList == ([58] : List UInt8))) else (if x3.toList = ([59] : List UInt8) then (switchbackref01_sign.j1 k (x3.toList == ([59] : List UInt8))) else (if x3.toList = ([44] : List UInt8) then (switchbackref01_sign.j1 k (x3.toList == ([44] : List UInt8))) else (if x3.toList = ([40] : List UInt8) then (switchbackref01_sign.j1 k (x3.toList == ([40] : List UInt8))) else (if x3.toList = ([41] : List UInt8) then (switchbackref01_sign.j1 k (x3.toList == ([41] : List UInt8))) else (if x3.toList = ([91] : List UInt8) then (switchbackref01_sign.j1 k (x3.toList == ([91] : List UInt8))) else (if x3.toList = ([93] : List UInt8) then (switchbackref01_sign.j1 k (x3.toList == ([93] : List UInt8))) else (if x3.toList = ([123] : List UInt8) then (switchbackref01_sign.j1 k (x3.toList == ([123] : List UInt8))) else (switchbackref01_sign.j1 k (x3.toList == ([125] : List UInt8)))))))))))))))))))))))))
def switchbackref01_sign.j1 : Nat → Bool → Option (Bool)
  | 0, _ => none
  | k + 1, x25 => if x25 = true then (some true) else (some false)
end
def switchbackref01_sign.f (k : Nat) (a0 : ByteArray) : Option (Bool) := if a0.toList = ([60, 60, 61] : List UInt8) then (switchbackref01_sign.j0 k a0 (a0.toList == ([60, 60, 61] : List UInt8))) else (if a0.toList = ([62, 62, 61] : List UInt8) then (switchbackref01_sign.j0 k a0 (a0.toList == ([62, 62, 61] : List UInt8))) else (if a0.toList = ([43, 43] : List UInt8) then (switchbackref01_sign.j0 k a0 (a0.toList == ([43, 43] : List UInt8))) else (if a0.toList = ([45, 45] : List UInt8) then (switchbackref01_sign.j0 k a0 (a0.toList == ([45, 45] : List UInt8))) else (if a0.toList = ([60, 60] : List UInt8) then (switchbackref01_sign.j0 k a0 (a0.toList == ([60, 60] : List UInt8))) else (if a0.toList = ([62, 62] : List UInt8) then (switchbackref01_sign.j0 k a0 (a0.toList == ([62, 62] : List UInt8))) else (if a0.toList = ([60, 61] : List UInt8) then (switchbackref01_sign.j0 k a0 (a0.toList == ([60, 61] : List UInt8))) else (if a0.toList = ([62, 61] : List UInt8) then (switchbackref01_sign.j0 k a0 (a0.toList == ([62, 61] : List UInt8))) else (if a0.toList = ([61, 61] : List UInt8) then (switchbackref01_sign.j0 k a0 (a0.toList == ([61, 61] : List UInt8))) else (if a0.toList = ([33, 61] : List UInt8) then (switchbackref01_sign.j0 k a0 (a0.toList == ([33, 61] : List UInt8))) else (if a0.toList = ([38, 38] : List UInt8) then (switchbackref01_sign.j0 k a0 (a0.toList == ([38, 38] : List UInt8))) else (if a0.toList = ([124, 124] : List UInt8) then (switchbackref01_sign.j0 k a0 (a0.toList == ([124, 124] : List UInt8))) else (if a0.toList = ([43, 61] : List UInt8) then (switchbackref01_sign.j0 k a0 (a0.toList == ([43, 61] : List UInt8))) else (if a0.toList = ([45, 61] : List UInt8) then (switchbackref01_sign.j0 k a0 (a0.toList == ([45, 61] : List UInt8))) else (if a0.toList = ([42, 61] : List UInt8) then (switchbackref01_sign.j0 k a0 (a0.toList == ([42, 61] : List UInt8))) else (if a0.toList = ([47, 61] : List UInt8) then (switchbackref01_sign.j0 k a0 (a0.toList == ([47, 61] : List UInt8))) else (if a0.toList = ([37, 61] : List UInt8) then (switchbackref01_sign.j0 k a0 (a0.toList == ([37, 61] : List UInt8))) else (if a0.toList = ([38, 61] : List UInt8) then (switchbackref01_sign.j0 k a0 (a0.toList == ([38, 61] : List UInt8))) else (if a0.toList = ([124, 61] : List UInt8) then (switchbackref01_sign.j0 k a0 (a0.toList == ([124, 61] : List UInt8))) else (switchbackref01_sign.j0 k a0 (a0.toList == ([94, 61] : List UInt8)))))))))))))))))))))
theorem switchbackref01_sign.mono_l : ∀ k, (∀ y0 y1, LeO (switchbackref01_sign.j0 k y0 y1) (switchbackref01_sign.j0 (k + 1) y0 y1)) ∧ (∀ y0, LeO (switchbackref01_sign.j1 k y0) (switchbackref01_sign.j1 (k + 1) y0))
  | 0 => ⟨fun _ _ r h => by simp [switchbackref01_sign.j0] at h, fun _ r h => by simp [switchbackref01_sign.j1] at h⟩
  | k + 1 => by
    obtain ⟨ih0, ih1⟩ := switchbackref01_sign.mono_l k
    refine ⟨?_, ?_⟩
    · intro y0 y1
      unfold switchbackref01_sign.j0
      repeat' first
      | (with_reducible exact ih0 _ _)
      | (with_reducible exact ih1 _)
      | (with_reducible exact LeO.refl _)
      | (with_reducible exact LeO.none _)
      | (with_reducible refine LeO.ite ?_ ?_)
      | (with_reducible refine LeO.bind ?_ (fun _ => ?_))
      | exact ih0 _ _
      | exact ih1 _
      | exact LeO.none _
      | refine LeO.ite ?_ ?_
      | refine LeO.bind ?_ (fun _ => ?_)
    · intro y0
      unfold switchbackref01_sign.j1
      repeat' first
      | (with_reducible exact ih0 _ _)
      | (with_reducible exact ih1 _)
      | (with_reducible exact LeO.refl _)
      | (with_reducible exact LeO.none _)
      | (with_reducible refine LeO.ite ?_ ?_)
      | (with_reducible refine LeO.bind ?_ (fun _ => ?_))
      | exact ih0 _ _
      | exact ih1 _
      | exact LeO.none _
      | refine LeO.ite ?_ ?_
      | refine LeO.bind ?_ (fun _ => ?_)
theorem switchbackref01_sign.mono : ∀ a0 k, LeO (switchbackref01_sign.f k a0) (switchbackref01_sign.f (k + 1) a0) := by
  intro a0 k
  obtain ⟨ih0, ih1⟩ := switchbackref01_sign.mono_l k
  unfold switchbackref01_sign.f
  repeat' first
      | (with_reducible exact ih0 _ _)
      | (with_reducible exact ih1 _)
      | (with_reducible exact LeO.refl _)
      | (with_reducible exact LeO.none _)
      | (with_reducible refine LeO.ite ?_ ?_)
      | (with_reducible refine LeO.bind ?_ (fun _ => ?_))
      | exact ih0 _ _
      | exact ih1 _
      | exact LeO.none _
      | refine LeO.ite ?_ ?_
      | refine LeO.bind ?_ (fun _ => ?_)
set_option maxHeartbeats 8000000 in
set_option maxRecDepth 100000 in
theorem switchbackref01_sign.calls (k : Nat) (a0 : ByteArray) (r : Bool) (w : World) (h : switchbackref01_sign.f k a0 = some r) :
    Calls Tryd.prog 39 #[.string a0] w fun e w' => e = .returned (.bool r) ∧ Drawn0 w w' := by
 have H : (if a0.toList = ([60, 60, 61] : List UInt8) then (switchbackref01_sign.j0 k a0 (a0.toList == ([60, 60, 61] : List UInt8))) else (if a0.toList = ([62, 62, 61] : List UInt8) then (switchbackref01_sign.j0 k a0 (a0.toList == ([62, 62, 61] : List UInt8))) else (if a0.toList = ([43, 43] : List UInt8) then (switchbackref01_sign.j0 k a0 (a0.toList == ([43, 43] : List UInt8))) else (if a0.toList = ([45, 45] : List UInt8) then (switchbackref01_sign.j0 k a0 (a0.toList == ([45, 45] : List UInt8))) else (if a0.toList = ([60, 60] : List UInt8) then (switchbackref01_sign.j0 k a0 (a0.toList == ([60, 60] : List UInt8))) else (if a0.toList = ([62, 62] : List UInt8) then (switchbackref01_sign.j0 k a0 (a0.toList == ([62, 62] : List UInt8))) else (if a0.toList = ([60, 61] : List UInt8) then (switchbackref01_sign.j0 k a0 (a0.toList == ([60, 61] : List UInt8))) else (if a0.toList = ([62, 61] : List UInt8) then (switchbackref01_sign.j0 k a0 (a0.toList == ([62, 61] : List UInt8))) else (if a0.toList = ([61, 61] : List UInt8) then (switchbackref01_sign.j0 k a0 (a0.toList == ([61, 61] : List UInt8))) else (if a0.toList = ([33, 61] : List UInt8) then (switchbackref01_sign.j0 k a0 (a0.toList == ([33, 61] : List UInt8))) else (if a0.toList = ([38, 38] : List UInt8) then (switchbackref01_sign.j0 k a0 (a0.toList == ([38, 38] : List UInt8))) else (if a0.toList = ([124, 124] : List UInt8) then (switchbackref01_sign.j0 k a0 (a0.toList == ([124, 124] : List UInt8))) else (if a0.toList = ([43, 61] : List UInt8) then (switchbackref01_sign.j0 k a0 (a0.toList == ([43, 61] : List UInt8))) else (if a0.toList = ([45, 61] : List UInt8) then (switchbackref01_sign.j0 k a0 (a0.toList == ([45, 61] : List UInt8))) else (if a0.toList = ([42, 61] : List UInt8) then (switchbackref01_sign.j0 k a0 (a0.toList == ([42, 61] : List UInt8))) else (if a0.toList = ([47, 61] : List UInt8) then (switchbackref01_sign.j0 k a0 (a0.toList == ([47, 61] : List UInt8))) else (if a0.toList = ([37, 61] : List UInt8) then (switchbackref01_sign.j0 k a0 (a0.toList == ([37, 61] : List UInt8))) else (if a0.toList = ([38, 61] : List UInt8) then (switchbackref01_sign.j0 k a0 (a0.toList == ([38, 61] : List UInt8))) else (if a0.toList = ([124, 61] : List UInt8) then (switchbackref01_sign.j0 k a0 (a0.toList == ([124, 61] : List UInt8))) else (switchbackref01_sign.j0 k a0 (a0.toList == ([94, 61] : List UInt8)))))))))))))))))))))) = some r := h
 clear h
 have HC2 := uZ H
 clear H
 go_enter Tryd.func39, Tryd.ntmps39
 go_upto_if 4 with (fail)
 go_cut [4] (fun v4 wc => ∃ (kq : Nat) (x4_1 : Bool), v4 = .bool x4_1 ∧ Aside0 (switchbackref01_sign.j0 kq a0 x4_1 = some r) ∧ Aside0 (kq ≤ k) ∧ Drawn0 w wc)
 case first =>
  have H := HC2.out
  clear HC2
  by_cases c3 : a0.toList = ([60, 60, 61] : List UInt8)
  ·rw [if_pos c3] at H
   have c3b0 : (a0.toList == ([60, 60, 61] : List UInt8)) = true := beq_iff_eq.mpr c3
   have c3b1 : (a0.toList != ([60, 60, 61] : List UInt8)) = false := bne_eq_false_iff_eq.mpr c3
   clear c3
   (first | rw [c3b0] | (simp only [i64_w, i32_w]; rw [c3b0]) | skip)
   have H' := uZ H
   clear H
   go_wp2
   go_meet
   case rel => exact ⟨_, ((a0.toList == ([60, 60, 61] : List UInt8))), (by first | rfl | (simp; done) | (simp [*]; done)), H', ⟨by first | omega | exact Nat.le_refl _⟩, by repeat (first | exact Drawn0.refl _ | apply Drawn0.step)⟩
  rw [if_neg c3] at H
  have c3b0 : (a0.toList == ([60, 60, 61] : List UInt8)) = false := beq_eq_false_iff_ne.mpr c3
  have c3b1 : (a0.toList != ([60, 60, 61] : List UInt8)) = true := bne_iff_ne.mpr c3
  (first | rw [c3b0] | (simp only [i64_w, i32_w]; rw [c3b0]) | skip)
  by_cases c4 : a0.toList = ([62, 62, 61] : List UInt8)
  ·rw [if_pos c4] at H
   have c4b0 : (a0.toList == ([62, 62, 61] : List UInt8)) = true := beq_iff_eq.mpr c4
   have c4b1 : (a0.toList != ([62, 62, 61] : List UInt8)) = false := bne_eq_false_iff_eq.mpr c4
   clear c4
   have H' := uZ H
   clear H
   go_wp2
   go_meet
   case rel => exact ⟨_, ((a0.toList == ([62, 62, 61] : List UInt8))), (by first | rfl | (simp; done) | (simp [*]; done)), H', ⟨by first | omega | exact Nat.le_refl _⟩, by repeat (first | exact Drawn0.refl _ | apply Drawn0.step)⟩
  rw [if_neg c4] at H
  have c4b0 : (a0.toList == ([62, 62, 61] : List UInt8)) = false := beq_eq_false_iff_ne.mpr c4
  have c4b1 : (a0.toList != ([62, 62, 61] : List UInt8)) = true := bne_iff_ne.mpr c4
  by_cases c5 : a0.toList = ([43, 43] : List UInt8)
  ·rw [if_pos c5] at H
   have c5b0 : (a0.toList == ([43, 43] : List UInt8)) = true := beq_iff_eq.mpr c5
   have c5b1 : (a0.toList != ([43, 43] : List UInt8)) = false := bne_eq_false_iff_eq.mpr c5
   clear c5
   have H' := uZ H
   clear H
   go_wp2
   go_meet
   case rel => exact ⟨_, ((a0.toList == ([43, 43] : List UInt8))), (by first | rfl | (simp; done) | (simp [*]; done)), H', ⟨by first | omega | exact Nat.le_refl _⟩, by repeat (first | exact Drawn0.refl _ | apply Drawn0.step)⟩
  rw [if_neg c5] at H
  have c5b0 : (a0.toList == ([43, 43] : List UInt8)) = false := beq_eq_false_iff_ne.mpr c5
  have c5b1 : (a0.toList != ([43, 43] : List UInt8)) = true := bne_iff_ne.mpr c5
  by_cases c6 : a0.toList = ([45, 45] : List UInt8)
  ·rw [if_pos c6] at H
   have c6b0 : (a0.toList == ([45, 45] : List UInt8)) = true := beq_iff_eq.mpr c6
   have c6b1 : (a0.toList != ([45, 45] : List UInt8)) = false := bne_eq_false_iff_eq.mpr c6
   clear c6
   have H' := uZ H
   clear H
   go_wp2
   go_meet
   case rel => exact ⟨_, ((a0.toList == ([45, 45] : List UInt8))), (by first | rfl | (simp; done) | (simp [*]; done)), H', ⟨by first | omega | exact Nat.le_refl _⟩, by repeat (first | exact Drawn0.refl _ | apply Drawn0.step)⟩
  rw [if_neg c6] at H
  have c6b0 : (a0.toList == ([45, 45] : List UInt8)) = false := beq_eq_false_iff_ne.mpr c6
  have c6b1 : (a0.toList != ([45, 45] : List UInt8)) = true := bne_iff_ne.mpr c6
  by_cases c7 : a0.toList = ([60, 60] : List UInt8)
  ·rw [if_pos c7] at H
   have c7b0 : (a0.toList == ([60, 60] : List UInt8)) = true := beq_iff_eq.mpr c7
   have c7b1 : (a0.toList != ([60, 60] : List UInt8)) = false := bne_eq_false_iff_eq.mpr c7
   clear c7
   have H' := uZ H
   clear H
   go_wp2
   go_meet
   case rel => exact ⟨_, ((a0.toList == ([60, 60] : List UInt8))), (by first | rfl | (simp; done) | (simp [*]; done)), H', ⟨by first | omega | exact Nat.le_refl _⟩, by repeat (first | exact Drawn0.refl _ | apply Drawn0.step)⟩
  rw [if_neg c7] at H
  have c7b0 : (a0.toList == ([60, 60] : List UInt8)) = false := beq_eq_false_iff_ne.mpr c7
  have c7b1 : (a0.toList != ([60, 60] : List UInt8)) = true := bne_iff_ne.mpr c7
  by_cases c8 : a0.toList = ([62, 62] : List UInt8)
  ·rw [if_pos c8] at H
   have c8b0 : (a0.toList == ([62, 62] : List UInt8)) = true := beq_iff_eq.mpr c8
   have c8b1 : (a0.toList != ([62, 62] : List UInt8)) = false := bne_eq_false_iff_eq.mpr c8
   clear c8
   have H' := uZ H
   clear H
   go_wp2
   go_meet
   case rel => exact ⟨_, ((a0.toList == ([62, 62] : List UInt8))), (by first | rfl | (simp; done) | (simp [*]; done)), H', ⟨by first | omega | exact Nat.le_refl _⟩, by repeat (first | exact Drawn0.refl _ | apply Drawn0.step)⟩
  rw [if_neg c8] at H
  have c8b0 : (a0.toList == ([62, 62] : List UInt8)) = false := beq_eq_false_iff_ne.mpr c8
  have c8b1 : (a0.toList != ([62, 62] : List UInt8)) = true := bne_iff_ne.mpr c8
  by_cases c9 : a0.toList = ([60, 61] : List UInt8)
  ·rw [if_pos c9] at H
   have c9b0 : (a0.toList == ([60, 61] : List UInt8)) = true := beq_iff_eq.mpr c9
   have c9b1 : (a0.toList != ([60, 61] : List UInt8)) = false := bne_eq_false_iff_eq.mpr c9
   clear c9
   have H' := uZ H
   clear H
   go_wp2
   go_meet
   case rel => exact ⟨_, ((a0.toList == ([60, 61] : List UInt8))), (by first | rfl | (simp; done) | (simp [*]; done)), H', ⟨by first | omega | exact Nat.le_refl _⟩, by repeat (first | exact Drawn0.refl _ | apply Drawn0.step)⟩
  rw [if_neg c9] at H
  have c9b0 : (a0.toList == ([60, 61] : List UInt8)) = false := beq_eq_false_iff_ne.mpr c9
  have c9b1 : (a0.toList != ([60, 61] : List UInt8)) = true := bne_iff_ne.mpr c9
  by_cases c10 : a0.toList = ([62, 61] : List UInt8)
  ·rw [if_pos c10] at H
   have c10b0 : (a0.toList == ([62, 61] : List UInt8)) = true := beq_iff_eq.mpr c10
   have c10b1 : (a0.toList != ([62, 61] : List UInt8)) = false := bne_eq_false_iff_eq.mpr c10
   clear c10
   have H' := uZ H
   clear H
   go_wp2
   go_meet
   case rel => exact ⟨_, ((a0.toList == ([62, 61] : List UInt8))), (by first | rfl | (simp; done) | (simp [*]; done)), H', ⟨by first | omega | exact Nat.le_refl _⟩, by repeat (first | exact Drawn0.refl _ | apply Drawn0.step)⟩
  rw [if_neg c10] at H
  have c10b0 : (a0.toList == ([62, 61] : List UInt8)) = false := beq_eq_false_iff_ne.mpr c10
  have c10b1 : (a0.toList != ([62, 61] : List UInt8)) = true := bne_iff_ne.mpr c10
  by_cases c11 : a0.toList = ([61, 61] : List UInt8)
  ·rw [if_pos c11] at H
   have c11b0 : (a0.toList == ([61, 61] : List UInt8)) = true := beq_iff_eq.mpr c11
   have c11b1 : (a0.toList != ([61, 61] : List UInt8)) = false := bne_eq_false_iff_eq.mpr c11
   clear c11
   have H' := uZ H
   clear H
   go_wp2
   go_meet
   case rel => exact ⟨_, ((a0.toList == ([61, 61] : List UInt8))), (by first | rfl | (simp; done) | (simp [*]; done)), H', ⟨by first | omega | exact Nat.le_refl _⟩, by repeat (first | exact Drawn0.refl _ | apply Drawn0.step)⟩
  rw [if_neg c11] at H
  have c11b0 : (a0.toList == ([61, 61] : List UInt8)) = false := beq_eq_false_iff_ne.mpr c11
  have c11b1 : (a0.toList != ([61, 61] : List UInt8)) = true := bne_iff_ne.mpr c11
  by_cases c12 : a0.toList = ([33, 61] : List UInt8)
  ·rw [if_pos c12] at H
   have c12b0 : (a0.toList == ([33, 61] : List UInt8)) = true := beq_iff_eq.mpr c12
   have c12b1 : (a0.toList != ([33, 61] : List UInt8)) = false := bne_eq_false_iff_eq.mpr c12
   clear c12
   have H' := uZ H
   clear H
   go_wp2
   go_meet
   case rel => exact ⟨_, ((a0.toList == ([33, 61] : List UInt8))), (by first | rfl | (simp; done) | (simp [*]; done)), H', ⟨by first | omega | exact Nat.le_refl _⟩, by repeat (first | exact Drawn0.refl _ | apply Drawn0.step)⟩
  rw [if_neg c12] at H
  have c12b0 : (a0.toList == ([33, 61] : List UInt8)) = false := beq_eq_false_iff_ne.mpr c12
  have c12b1 : (a0.toList != ([33, 61] : List UInt8)) = true := bne_iff_ne.mpr c12
  by_cases c13 : a0.toList = ([38, 38] : List UInt8)
  ·rw [if_pos c13] at H
   have c13b0 : (a0.toList == ([38, 38] : List UInt8)) = true := beq_iff_eq.mpr c13
   have c13b1 : (a0.toList != ([38, 38] : List UInt8)) = false := bne_eq_false_iff_eq.mpr c13
   clear c13
   have H' := uZ H
   clear H
   go_wp2
   go_meet
   case rel => exact ⟨_, ((a0.toList == ([38, 38] : List UInt8))), (by first | rfl | (simp; done) | (simp [*]; done)), H', ⟨by first | omega | exact Nat.le_refl _⟩, by repeat (first | exact Drawn0.refl _ | apply Drawn0.step)⟩
  rw [if_neg c13] at H
  have c13b0 : (a0.toList == ([38, 38] : List UInt8)) = false := beq_eq_false_iff_ne.mpr c13
  have c13b1 : (a0.toList != ([38, 38] : List UInt8)) = true := bne_iff_ne.mpr c13
  by_cases c14 : a0.toList = ([124, 124] : List UInt8)
  ·rw [if_pos c14] at H
   have c14b0 : (a0.toList == ([124, 124] : List UInt8)) = true := beq_iff_eq.mpr c14
   have c14b1 : (a0.toList != ([124, 124] : List UInt8)) = false := bne_eq_false_iff_eq.mpr c14
   clear c14
   have H' := uZ H
   clear H
   go_wp2
   go_meet
   case rel => exact ⟨_, ((a0.toList == ([124, 124] : List UInt8))), (by first | rfl | (simp; done) | (simp [*]; done)), H', ⟨by first | omega | exact Nat.le_refl _⟩, by repeat (first | exact Drawn0.refl _ | apply Drawn0.step)⟩
  rw [if_neg c14] at H
  have c14b0 : (a0.toList == ([124, 124] : List UInt8)) = false := beq_eq_false_iff_ne.mpr c14
  have c14b1 : (a0.toList != ([124, 124] : List UInt8)) = true := bne_iff_ne.mpr c14
  by_cases c15 : a0.toList = ([43, 61] : List UInt8)
  ·rw [if_pos c15] at H
   have c15b0 : (a0.toList == ([43, 61] : List UInt8)) = true := beq_iff_eq.mpr c15
   have c15b1 : (a0.toList != ([43, 61] : List UInt8)) = false := bne_eq_false_iff_eq.mpr c15
   clear c15
   have H' := uZ H
   clear H
   go_wp2
   go_meet
   case rel => exact ⟨_, ((a0.toList == ([43, 61] : List UInt8))), (by first | rfl | (simp; done) | (simp [*]; done)), H', ⟨by first | omega | exact Nat.le_refl _⟩, by repeat (first | exact Drawn0.refl _ | apply Drawn0.step)⟩
  rw [if_neg c15] at H
  have c15b0 : (a0.toList == ([43, 61] : List UInt8)) = false := beq_eq_false_iff_ne.mpr c15
  have c15b1 : (a0.toList != ([43, 61] : List UInt8)) = true := bne_iff_ne.mpr c15
  by_cases c16 : a0.toList = ([45, 61] : List UInt8)
  ·rw [if_pos c16] at H
   have c16b0 : (a0.toList == ([45, 61] : List UInt8)) = true := beq_iff_eq.mpr c16
   have c16b1 : (a0.toList != ([45, 61] : List UInt8)) = false := bne_eq_false_iff_eq.mpr c16
   clear c16
   have H' := uZ H
   clear H
   go_wp2
   go_meet
   case rel => exact ⟨_, ((a0.toList == ([45, 61] : List UInt8))), (by first | rfl | (simp; done) | (simp [*]; done)), H', ⟨by first | omega | exact Nat.le_refl _⟩, by repeat (first | exact Drawn0.refl _ | apply Drawn0.step)⟩
  rw [if_neg c16] at H
  have c16b0 : (a0.toList == ([45, 61] : List UInt8)) = false := beq_eq_false_iff_ne.mpr c16
  have c16b1 : (a0.toList != ([45, 61] : List UInt8)) = true := bne_iff_ne.mpr c16
  by_cases c17 : a0.toList = ([42, 61] : List UInt8)
  ·rw [if_pos c17] at H
   have c17b0 : (a0.toList == ([42, 61] : List UInt8)) = true := beq_iff_eq.mpr c17
   have c17b1 : (a0.toList != ([42, 61] : List UInt8)) = false := bne_eq_false_iff_eq.mpr c17
   clear c17
   have H' := uZ H
   clear H
   go_wp2
   go_meet
   case rel => exact ⟨_, ((a0.toList == ([42, 61] : List UInt8))), (by first | rfl | (simp; done) | (simp [*]; done)), H', ⟨by first | omega | exact Nat.le_refl _⟩, by repeat (first | exact Drawn0.refl _ | apply Drawn0.step)⟩
  rw [if_neg c17] at H
  have c17b0 : (a0.toList == ([42, 61] : List UInt8)) = false := beq_eq_false_iff_ne.mpr c17
  have c17b1 : (a0.toList != ([42, 61] : List UInt8)) = true := bne_iff_ne.mpr c17
  by_cases c18 : a0.toList = ([47, 61] : List UInt8)
  ·rw [if_pos c18] at H
   have c18b0 : (a0.toList == ([47, 61] : List UInt8)) = true := beq_iff_eq.mpr c18
   have c18b1 : (a0.toList != ([47, 61] : List UInt8)) = false := bne_eq_false_iff_eq.mpr c18
   clear c18
   have H' := uZ H
   clear H
   go_wp2
   go_meet
   case rel => exact ⟨_, ((a0.toList == ([47, 61] : List UInt8))), (by first | rfl | (simp; done) | (simp [*]; done)), H', ⟨by first | omega | exact Nat.le_refl _⟩, by repeat (first | exact Drawn0.refl _ | apply Drawn0.step)⟩
  rw [if_neg c18] at H
  have c18b0 : (a0.toList == ([47, 61] : List UInt8)) = false := beq_eq_false_iff_ne.mpr c18
  have c18b1 : (a0.toList != ([47, 61] : List UInt8)) = true := bne_iff_ne.mpr c18
  by_cases c19 : a0.toList = ([37, 61] : List UInt8)
  ·rw [if_pos c19] at H
   have c19b0 : (a0.toList == ([37, 61] : List UInt8)) = true := beq_iff_eq.mpr c19
   have c19b1 : (a0.toList != ([37, 61] : List UInt8)) = false := bne_eq_false_iff_eq.mpr c19
   clear c19
   have H' := uZ H
   clear H
   go_wp2
   go_meet
   case rel => exact ⟨_, ((a0.toList == ([37, 61] : List UInt8))), (by first | rfl | (simp; done) | (simp [*]; done)), H', ⟨by first | omega | exact Nat.le_refl _⟩, by repeat (first | exact Drawn0.refl _ | apply Drawn0.step)⟩
  rw [if_neg c19] at H
  have c19b0 : (a0.toList == ([37, 61] : List UInt8)) = false := beq_eq_false_iff_ne.mpr c19
  have c19b1 : (a0.toList != ([37, 61] : List UInt8)) = true := bne_iff_ne.mpr c19
  by_cases c20 : a0.toList = ([38, 61] : List UInt8)
  ·rw [if_pos c20] at H
   have c20b0 : (a0.toList == ([38, 61] : List UInt8)) = true := beq_iff_eq.mpr c20
   have c20b1 : (a0.toList != ([38, 61] : List UInt8)) = false := bne_eq_false_iff_eq.mpr c20
   clear c20
   have H' := uZ H
   clear H
   go_wp2
   go_meet
   case rel => exact ⟨_, ((a0.toList == ([38, 61] : List UInt8))), (by first | rfl | (simp; done) | (simp [*]; done)), H', ⟨by first | omega | exact Nat.le_refl _⟩, by repeat (first | exact Drawn0.refl _ | apply Drawn0.step)⟩
  rw [if_neg c20] at H
  have c20b0 : (a0.toList == ([38, 61] : List UInt8)) = false := beq_eq_false_iff_ne.mpr c20
  have c20b1 : (a0.toList != ([38, 61] : List UInt8)) = true := bne_iff_ne.mpr c20
  by_cases c21 : a0.toList = ([124, 61] : List UInt8)
  ·rw [if_pos c21] at H
   have c21b0 : (a0.toList == ([124, 61] : List UInt8)) = true := beq_iff_eq.mpr c21
   have c21b1 : (a0.toList != ([124, 61] : List UInt8)) = false := bne_eq_false_iff_eq.mpr c21
   clear c21
   have H' := uZ H
   clear H
   go_wp2
   go_meet
   case rel => exact ⟨_, ((a0.toList == ([124, 61] : List UInt8))), (by first | rfl | (simp; done) | (simp [*]; done)), H', ⟨by first | omega | exact Nat.le_refl _⟩, by repeat (first | exact Drawn0.refl _ | apply Drawn0.step)⟩
  rw [if_neg c21] at H
  have c21b0 : (a0.toList == ([124, 61] : List UInt8)) = false := beq_eq_false_iff_ne.mpr c21
  have c21b1 : (a0.toList != ([124, 61] : List UInt8)) = true := bne_iff_ne.mpr c21
  have H' := uZ H
  clear H
  go_wp2
  go_meet
  case rel => exact ⟨_, ((a0.toList == ([94, 61] : List UInt8))), (by first | rfl | (simp; done) | (simp [*]; done)), H', ⟨by first | omega | exact Nat.le_refl _⟩, by repeat (first | exact Drawn0.refl _ | apply Drawn0.step)⟩
 case rest =>
  clear HC2
  try clear c1
  try clear c2
  try clear p2
  try clear c3
  try clear c3b0
  try clear c3b1
  try clear c4
  try clear c4b0
  try clear c4b1
  try clear c5
  try clear c5b0
  try clear c5b1
  try clear c6
  try clear c6b0
  try clear c6b1
  try clear c7
  try clear c7b0
  try clear c7b1
  try clear c8
  try clear c8b0
  try clear c8b1
  try clear c9
  try clear c9b0
  try clear c9b1
  try clear c10
  try clear c10b0
  try clear c10b1
  try clear c11
  try clear c11b0
  try clear c11b1
  try clear c12
  try clear c12b0
  try clear c12b1
  try clear c13
  try clear c13b0
  try clear c13b1
  try clear c14
  try clear c14b0
  try clear c14b1
  try clear c15
  try clear c15b0
  try clear c15b1
  try clear c16
  try clear c16b0
  try clear c16b1
  try clear c17
  try clear c17b0
  try clear c17b1
  try clear c18
  try clear c18b0
  try clear c18b1
  try clear c19
  try clear c19b0
  try clear c19b1
  try clear c20
  try clear c20b0
  try clear c20b1
  try clear c21
  try clear c21b0
  try clear c21b1
  obtain ⟨kq, x4_1, rfl, HA, HJ1, ⟨mc1, rfl⟩⟩ := hcut
  cases kq with
  | zero => exact absurd HA.out (by simp [switchbackref01_sign.j0])
  | succ kj1 =>
   have H := HA.out
   clear HA
   simp only [switchbackref01_sign.j0] at H
   by_cases c22 : x4_1 = true
   ·subst c22
    have H1 : (some true) = some r := by rw [if_pos rfl] at H; exact H
    clear H
    have H := H1
    clear H1
    obtain rfl := Option.some.inj H
    go_wp2
    go_ret
    exact ⟨by first | rfl | (simp; done) | (simp [*]; done), by repeat (first | exact Drawn0.refl _ | apply Drawn0.step)⟩
   replace c22 := Bool.eq_false_iff.mpr c22
   subst c22
   have H1 : (if a0.toList = ([43] : List UInt8) then (switchbackref01_sign.j1 kj1 (a0.toList == ([43] : List UInt8))) else (if a0.toList = ([45] : List UInt8) then (switchbackref01_sign.j1 kj1 (a0.toList == ([45] : List UInt8))) else (if a0.toList = ([42] : List UInt8) then (switchbackref01_sign.j1 kj1 (a0.toList == ([42] : List UInt8))) else (if a0.toList = ([47] : List UInt8) then (switchbackref01_sign.j1 kj1 (a0.toList == ([47] : List UInt8))) else (if a0.toList = ([37] : List UInt8) then (switchbackref01_sign.j1 kj1 (a0.toList == ([37] : List UInt8))) else (if a0.toList = ([38] : List UInt8) then (switchbackref01_sign.j1 kj1 (a0.toList == ([38] : List UInt8))) else (if a0.toList = ([124] : List UInt8) then (switchbackref01_sign.j1 kj1 (a0.toList == ([124] : List UInt8))) else (if a0.toList = ([94] : List UInt8) then (switchbackref01_sign.j1 kj1 (a0.toList == ([94] : List UInt8))) else (if a0.toList = ([126] : List UInt8) then (switchbackref01_sign.j1 kj1 (a0.toList == ([126] : List UInt8))) else (if a0.toList = ([33] : List UInt8) then (switchbackref01_sign.j1 kj1 (a0.toList == ([33] : List UInt8))) else (if a0.toList = ([60] : List UInt8) then (switchbackref01_sign.j1 kj1 (a0.toList == ([60] : List UInt8))) else (if a0.toList = ([62] : List UInt8) then (switchbackref01_sign.j1 kj1 (a0.toList == ([62] : List UInt8))) else (if a0.toList = ([61] : List UInt8) then (switchbackref01_sign.j1 kj1 (a0.toList == ([61] : List UInt8))) else (if a0.toList = ([63] : List UInt8) then (switchbackref01_sign.j1 kj1 (a0.toList == ([63] : List UInt8))) else (if a0.toList = ([58] : List UInt8) then (switchbackref01_sign.j1 kj1 (a0.toList == ([58] : List UInt8))) else (if a0.toList = ([59] : List UInt8) then (switchbackref01_sign.j1 kj1 (a0.toList == ([59] : List UInt8))) else (if a0.toList = ([44] : List UInt8) then (switchbackref01_sign.j1 kj1 (a0.toList == ([44] : List UInt8))) else (if a0.toList = ([40] : List UInt8) then (switchbackref01_sign.j1 kj1 (a0.toList == ([40] : List UInt8))) else (if a0.toList = ([41] : List UInt8) then (switchbackref01_sign.j1 kj1 (a0.toList == ([41] : List UInt8))) else (if a0.toList = ([91] : List UInt8) then (switchbackref01_sign.j1 kj1 (a0.toList == ([91] : List UInt8))) else (if a0.toList = ([93] : List UInt8) then (switchbackref01_sign.j1 kj1 (a0.toList == ([93] : List UInt8))) else (if a0.toList = ([123] : List UInt8) then (switchbackref01_sign.j1 kj1 (a0.toList == ([123] : List UInt8))) else (switchbackref01_sign.j1 kj1 (a0.toList == ([125] : List UInt8))))))))))))))))))))))))) = some r := by rw [if_neg (show ¬ (false = true) by decide)] at H; exact H
   clear H
   have H := H1
   clear H1
   have HC23 := uZ H
   clear H
   go_upto_if 25 with (fail)
   go_cut [25] (fun v25 wc => ∃ (kq : Nat) (x25_22 : Bool), v25 = .bool x25_22 ∧ Aside0 (switchbackref01_sign.j1 kq x25_22 = some r) ∧ Aside0 (kq ≤ kj1) ∧ Drawn0 w wc)
   case first =>
    have H := HC23.out
    clear HC23
    by_cases c24 : a0.toList = ([43] : List UInt8)
    ·rw [if_pos c24] at H
     have c24b0 : (a0.toList == ([43] : List UInt8)) = true := beq_iff_eq.mpr c24
     have c24b1 : (a0.toList != ([43] : List UInt8)) = false := bne_eq_false_iff_eq.mpr c24
     clear c24
     (first | rw [c24b0] | (simp only [i64_w, i32_w]; rw [c24b0]) | skip)
     have H' := uZ H
     clear H
     go_wp2
     go_meet
     case rel => exact ⟨_, ((a0.toList == ([43] : List UInt8))), (by first | rfl | (simp; done) | (simp [*]; done)), H', ⟨by have := HJ1.out; first | omega | exact Nat.le_refl _⟩, by repeat (first | exact Drawn0.refl _ | apply Drawn0.step)⟩
    rw [if_neg c24] at H
    have c24b0 : (a0.toList == ([43] : List UInt8)) = false := beq_eq_false_iff_ne.mpr c24
    have c24b1 : (a0.toList != ([43] : List UInt8)) = true := bne_iff_ne.mpr c24
    (first | rw [c24b0] | (simp only [i64_w, i32_w]; rw [c24b0]) | skip)
    by_cases c25 : a0.toList = ([45] : List UInt8)
    ·rw [if_pos c25] at H
     have c25b0 : (a0.toList == ([45] : List UInt8)) = true := beq_iff_eq.mpr c25
     have c25b1 : (a0.toList != ([45] : List UInt8)) = false := bne_eq_false_iff_eq.mpr c25
     clear c25
     have H' := uZ H
     clear H
     go_wp2
     go_meet
     case rel => exact ⟨_, ((a0.toList == ([45] : List UInt8))), (by first | rfl | (simp; done) | (simp [*]; done)), H', ⟨by have := HJ1.out; first | omega | exact Nat.le_refl _⟩, by repeat (first | exact Drawn0.refl _ | apply Drawn0.step)⟩
    rw [if_neg c25] at H
    have c25b0 : (a0.toList == ([45] : List UInt8)) = false := beq_eq_false_iff_ne.mpr c25
    have c25b1 : (a0.toList != ([45] : List UInt8)) = true := bne_iff_ne.mpr c25
    by_cases c26 : a0.toList = ([42] : List UInt8)
    ·rw [if_pos c26] at H
     have c26b0 : (a0.toList == ([42] : List UInt8)) = true := beq_iff_eq.mpr c26
     have c26b1 : (a0.toList != ([42] : List UInt8)) = false := bne_eq_false_iff_eq.mpr c26
     clear c26
     have H' := uZ H
     clear H
     go_wp2
     go_meet
     case rel => exact ⟨_, ((a0.toList == ([42] : List UInt8))), (by first | rfl | (simp; done) | (simp [*]; done)), H', ⟨by have := HJ1.out; first | omega | exact Nat.le_refl _⟩, by repeat (first | exact Drawn0.refl _ | apply Drawn0.step)⟩
    rw [if_neg c26] at H
    have c26b0 : (a0.toList == ([42] : List UInt8)) = false := beq_eq_false_iff_ne.mpr c26
    have c26b1 : (a0.toList != ([42] : List UInt8)) = true := bne_iff_ne.mpr c26
    by_cases c27 : a0.toList = ([47] : List UInt8)
    ·rw [if_pos c27] at H
     have c27b0 : (a0.toList == ([47] : List UInt8)) = true := beq_iff_eq.mpr c27
     have c27b1 : (a0.toList != ([47] : List UInt8)) = false := bne_eq_false_iff_eq.mpr c27
     clear c27
     have H' := uZ H
     clear H
     go_wp2
     go_meet
     case rel => exact ⟨_, ((a0.toList == ([47] : List UInt8))), (by first | rfl | (simp; done) | (simp [*]; done)), H', ⟨by have := HJ1.out; first | omega | exact Nat.le_refl _⟩, by repeat (first | exact Drawn0.refl _ | apply Drawn0.step)⟩
    rw [if_neg c27] at H
    have c27b0 : (a0.toList == ([47] : List UInt8)) = false := beq_eq_false_iff_ne.mpr c27
    have c27b1 : (a0.toList != ([47] : List UInt8)) = true := bne_iff_ne.mpr c27
    by_cases c28 : a0.toList = ([37] : List UInt8)
    ·rw [if_pos c28] at H
     have c28b0 : (a0.toList == ([37] : List UInt8)) = true := beq_iff_eq.mpr c28
     have c28b1 : (a0.toList != ([37] : List UInt8)) = false := bne_eq_false_iff_eq.mpr c28
     clear c28
     have H' := uZ H
     clear H
     go_wp2
     go_meet
     case rel => exact ⟨_, ((a0.toList == ([37] : List UInt8))), (by first | rfl | (simp; done) | (simp [*]; done)), H', ⟨by have := HJ1.out; first | omega | exact Nat.le_refl _⟩, by repeat (first | exact Drawn0.refl _ | apply Drawn0.step)⟩
    rw [if_neg c28] at H
    have c28b0 : (a0.toList == ([37] : List UInt8)) = false := beq_eq_false_iff_ne.mpr c28
    have c28b1 : (a0.toList != ([37] : List UInt8)) = true := bne_iff_ne.mpr c28
    by_cases c29 : a0.toList = ([38] : List UInt8)
    ·rw [if_pos c29] at H
     have c29b0 : (a0.toList == ([38] : List UInt8)) = true := beq_iff_eq.mpr c29
     have c29b1 : (a0.toList != ([38] : List UInt8)) = false := bne_eq_false_iff_eq.mpr c29
     clear c29
     have H' := uZ H
     clear H
     go_wp2
     go_meet
     case rel => exact ⟨_, ((a0.toList == ([38] : List UInt8))), (by first | rfl | (simp; done) | (simp [*]; done)), H', ⟨by have := HJ1.out; first | omega | exact Nat.le_refl _⟩, by repeat (first | exact Drawn0.refl _ | apply Drawn0.step)⟩
    rw [if_neg c29] at H
    have c29b0 : (a0.toList == ([38] : List UInt8)) = false := beq_eq_false_iff_ne.mpr c29
    have c29b1 : (a0.toList != ([38] : List UInt8)) = true := bne_iff_ne.mpr c29
    by_cases c30 : a0.toList = ([124] : List UInt8)
    ·rw [if_pos c30] at H
     have c30b0 : (a0.toList == ([124] : List UInt8)) = true := beq_iff_eq.mpr c30
     have c30b1 : (a0.toList != ([124] : List UInt8)) = false := bne_eq_false_iff_eq.mpr c30
     clear c30
     have H' := uZ H
     clear H
     go_wp2
     go_meet
     case rel => exact ⟨_, ((a0.toList == ([124] : List UInt8))), (by first | rfl | (simp; done) | (simp [*]; done)), H', ⟨by have := HJ1.out; first | omega | exact Nat.le_refl _⟩, by repeat (first | exact Drawn0.refl _ | apply Drawn0.step)⟩
    rw [if_neg c30] at H
    have c30b0 : (a0.toList == ([124] : List UInt8)) = false := beq_eq_false_iff_ne.mpr c30
    have c30b1 : (a0.toList != ([124] : List UInt8)) = true := bne_iff_ne.mpr c30
    by_cases c31 : a0.toList = ([94] : List UInt8)
    ·rw [if_pos c31] at H
     have c31b0 : (a0.toList == ([94] : List UInt8)) = true := beq_iff_eq.mpr c31
     have c31b1 : (a0.toList != ([94] : List UInt8)) = false := bne_eq_false_iff_eq.mpr c31
     clear c31
     have H' := uZ H
     clear H
     go_wp2
     go_meet
     case rel => exact ⟨_, ((a0.toList == ([94] : List UInt8))), (by first | rfl | (simp; done) | (simp [*]; done)), H', ⟨by have := HJ1.out; first | omega | exact Nat.le_refl _⟩, by repeat (first | exact Drawn0.refl _ | apply Drawn0.step)⟩
    rw [if_neg c31] at H
    have c31b0 : (a0.toList == ([94] : List UInt8)) = false := beq_eq_false_iff_ne.mpr c31
    have c31b1 : (a0.toList != ([94] : List UInt8)) = true := bne_iff_ne.mpr c31
    by_cases c32 : a0.toList = ([126] : List UInt8)
    ·rw [if_pos c32] at H
     have c32b0 : (a0.toList == ([126] : List UInt8)) = true := beq_iff_eq.mpr c32
     have c32b1 : (a0.toList != ([126] : List UInt8)) = false := bne_eq_false_iff_eq.mpr c32
     clear c32
     have H' := uZ H
     clear H
     go_wp2
     go_meet
     case rel => exact ⟨_, ((a0.toList == ([126] : List UInt8))), (by first | rfl | (simp; done) | (simp [*]; done)), H', ⟨by have := HJ1.out; first | omega | exact Nat.le_refl _⟩, by repeat (first | exact Drawn0.refl _ | apply Drawn0.step)⟩
    rw [if_neg c32] at H
    have c32b0 : (a0.toList == ([126] : List UInt8)) = false := beq_eq_false_iff_ne.mpr c32
    have c32b1 : (a0.toList != ([126] : List UInt8)) = true := bne_iff_ne.mpr c32
    by_cases c33 : a0.toList = ([33] : List UInt8)
    ·rw [if_pos c33] at H
     have c33b0 : (a0.toList == ([33] : List UInt8)) = true := beq_iff_eq.mpr c33
     have c33b1 : (a0.toList != ([33] : List UInt8)) = false := bne_eq_false_iff_eq.mpr c33
     clear c33
     have H' := uZ H
     clear H
     go_wp2
     go_meet
     case rel => exact ⟨_, ((a0.toList == ([33] : List UInt8))), (by first | rfl | (simp; done) | (simp [*]; done)), H', ⟨by have := HJ1.out; first | omega | exact Nat.le_refl _⟩, by repeat (first | exact Drawn0.refl _ | apply Drawn0.step)⟩
    rw [if_neg c33] at H
    have c33b0 : (a0.toList == ([33] : List UInt8)) = false := beq_eq_false_iff_ne.mpr c33
    have c33b1 : (a0.toList != ([33] : List UInt8)) = true := bne_iff_ne.mpr c33
    by_cases c34 : a0.toList = ([60] : List UInt8)
    ·rw [if_pos c34] at H
     have c34b0 : (a0.toList == ([60] : List UInt8)) = true := beq_iff_eq.mpr c34
     have c34b1 : (a0.toList != ([60] : List UInt8)) = false := bne_eq_false_iff_eq.mpr c34
     clear c34
     have H' := uZ H
     clear H
     go_wp2
     go_meet
     case rel => exact ⟨_, ((a0.toList == ([60] : List UInt8))), (by first | rfl | (simp; done) | (simp [*]; done)), H', ⟨by have := HJ1.out; first | omega | exact Nat.le_refl _⟩, by repeat (first | exact Drawn0.refl _ | apply Drawn0.step)⟩
    rw [if_neg c34] at H
    have c34b0 : (a0.toList == ([60] : List UInt8)) = false := beq_eq_false_iff_ne.mpr c34
    have c34b1 : (a0.toList != ([60] : List UInt8)) = true := bne_iff_ne.mpr c34
    by_cases c35 : a0.toList = ([62] : List UInt8)
    ·rw [if_pos c35] at H
     have c35b0 : (a0.toList == ([62] : List UInt8)) = true := beq_iff_eq.mpr c35
     have c35b1 : (a0.toList != ([62] : List UInt8)) = false := bne_eq_false_iff_eq.mpr c35
     clear c35
     have H' := uZ H
     clear H
     go_wp2
     go_meet
     case rel => exact ⟨_, ((a0.toList == ([62] : List UInt8))), (by first | rfl | (simp; done) | (simp [*]; done)), H', ⟨by have := HJ1.out; first | omega | exact Nat.le_refl _⟩, by repeat (first | exact Drawn0.refl _ | apply Drawn0.step)⟩
    rw [if_neg c35] at H
    have c35b0 : (a0.toList == ([62] : List UInt8)) = false := beq_eq_false_iff_ne.mpr c35
    have c35b1 : (a0.toList != ([62] : List UInt8)) = true := bne_iff_ne.mpr c35
    by_cases c36 : a0.toList = ([61] : List UInt8)
    ·rw [if_pos c36] at H
     have c36b0 : (a0.toList == ([61] : List UInt8)) = true := beq_iff_eq.mpr c36
     have c36b1 : (a0.toList != ([61] : List UInt8)) = false := bne_eq_false_iff_eq.mpr c36
     clear c36
     have H' := uZ H
     clear H
     go_wp2
     go_meet
     case rel => exact ⟨_, ((a0.toList == ([61] : List UInt8))), (by first | rfl | (simp; done) | (simp [*]; done)), H', ⟨by have := HJ1.out; first | omega | exact Nat.le_refl _⟩, by repeat (first | exact Drawn0.refl _ | apply Drawn0.step)⟩
    rw [if_neg c36] at H
    have c36b0 : (a0.toList == ([61] : List UInt8)) = false := beq_eq_false_iff_ne.mpr c36
    have c36b1 : (a0.toList != ([61] : List UInt8)) = true := bne_iff_ne.mpr c36
    by_cases c37 : a0.toList = ([63] : List UInt8)
    ·rw [if_pos c37] at H
     have c37b0 : (a0.toList == ([63] : List UInt8)) = true := beq_iff_eq.mpr c37
     have c37b1 : (a0.toList != ([63] : List UInt8)) = false := bne_eq_false_iff_eq.mpr c37
     clear c37
     have H' := uZ H
     clear H
     go_wp2
     go_meet
     case rel => exact ⟨_, ((a0.toList == ([63] : List UInt8))), (by first | rfl | (simp; done) | (simp [*]; done)), H', ⟨by have := HJ1.out; first | omega | exact Nat.le_refl _⟩, by repeat (first | exact Drawn0.refl _ | apply Drawn0.step)⟩
    rw [if_neg c37] at H
    have c37b0 : (a0.toList == ([63] : List UInt8)) = false := beq_eq_false_iff_ne.mpr c37
    have c37b1 : (a0.toList != ([63] : List UInt8)) = true := bne_iff_ne.mpr c37
    by_cases c38 : a0.toList = ([58] : List UInt8)
    ·rw [if_pos c38] at H
     have c38b0 : (a0.toList == ([58] : List UInt8)) = true := beq_iff_eq.mpr c38
     have c38b1 : (a0.toList != ([58] : List UInt8)) = false := bne_eq_false_iff_eq.mpr c38
     clear c38
     have H' := uZ H
     clear H
     go_wp2
     go_meet
     case rel => exact ⟨_, ((a0.toList == ([58] : List UInt8))), (by first | rfl | (simp; done) | (simp [*]; done)), H', ⟨by have := HJ1.out; first | omega | exact Nat.le_refl _⟩, by repeat (first | exact Drawn0.refl _ | apply Drawn0.step)⟩
    rw [if_neg c38] at H
    have c38b0 : (a0.toList == ([58] : List UInt8)) = false := beq_eq_false_iff_ne.mpr c38
    have c38b1 : (a0.toList != ([58] : List UInt8)) = true := bne_iff_ne.mpr c38
    by_cases c39 : a0.toList = ([59] : List UInt8)
    ·rw [if_pos c39] at H
     have c39b0 : (a0.toList == ([59] : List UInt8)) = true := beq_iff_eq.mpr c39
     have c39b1 : (a0.toList != ([59] : List UInt8)) = false := bne_eq_false_iff_eq.mpr c39
     clear c39
     have H' := uZ H
     clear H
     go_wp2
     go_meet
     case rel => exact ⟨_, ((a0.toList == ([59] : List UInt8))), (by first | rfl | (simp; done) | (simp [*]; done)), H', ⟨by have := HJ1.out; first | omega | exact Nat.le_refl _⟩, by repeat (first | exact Drawn0.refl _ | apply Drawn0.step)⟩
    rw [if_neg c39] at H
    have c39b0 : (a0.toList == ([59] : List UInt8)) = false := beq_eq_false_iff_ne.mpr c39
    have c39b1 : (a0.toList != ([59] : List UInt8)) = true := bne_iff_ne.mpr c39
    by_cases c40 : a0.toList = ([44] : List UInt8)
    ·rw [if_pos c40] at H
     have c40b0 : (a0.toList == ([44] : List UInt8)) = true := beq_iff_eq.mpr c40
     have c40b1 : (a0.toList != ([44] : List UInt8)) = false := bne_eq_false_iff_eq.mpr c40
     clear c40
     have H' := uZ H
     clear H
     go_wp2
     go_meet
     case rel => exact ⟨_, ((a0.toList == ([44] : List UInt8))), (by first | rfl | (simp; done) | (simp [*]; done)), H', ⟨by have := HJ1.out; first | omega | exact Nat.le_refl _⟩, by repeat (first | exact Drawn0.refl _ | apply Drawn0.step)⟩
    rw [if_neg c40] at H
    have c40b0 : (a0.toList == ([44] : List UInt8)) = false := beq_eq_false_iff_ne.mpr c40
    have c40b1 : (a0.toList != ([44] : List UInt8)) = true := bne_iff_ne.mpr c40
    by_cases c41 : a0.toList = ([40] : List UInt8)
    ·rw [if_pos c41] at H
     have c41b0 : (a0.toList == ([40] : List UInt8)) = true := beq_iff_eq.mpr c41
     have c41b1 : (a0.toList != ([40] : List UInt8)) = false := bne_eq_false_iff_eq.mpr c41
     clear c41
     have H' := uZ H
     clear H
     go_wp2
     go_meet
     case rel => exact ⟨_, ((a0.toList == ([40] : List UInt8))), (by first | rfl | (simp; done) | (simp [*]; done)), H', ⟨by have := HJ1.out; first | omega | exact Nat.le_refl _⟩, by repeat (first | exact Drawn0.refl _ | apply Drawn0.step)⟩
    rw [if_neg c41] at H
    have c41b0 : (a0.toList == ([40] : List UInt8)) = false := beq_eq_false_iff_ne.mpr c41
    have c41b1 : (a0.toList != ([40] : List UInt8)) = true := bne_iff_ne.mpr c41
    by_cases c42 : a0.toList = ([41] : List UInt8)
    ·rw [if_pos c42] at H
     have c42b0 : (a0.toList == ([41] : List UInt8)) = true := beq_iff_eq.mpr c42
     have c42b1 : (a0.toList != ([41] : List UInt8)) = false := bne_eq_false_iff_eq.mpr c42
     clear c42
     have H' := uZ H
     clear H
     go_wp2
     go_meet
     case rel => exact ⟨_, ((a0.toList == ([41] : List UInt8))), (by first | rfl | (simp; done) | (simp [*]; done)), H', ⟨by have := HJ1.out; first | omega | exact Nat.le_refl _⟩, by repeat (first | exact Drawn0.refl _ | apply Drawn0.step)⟩
    rw [if_neg c42] at H
    have c42b0 : (a0.toList == ([41] : List UInt8)) = false := beq_eq_false_iff_ne.mpr c42
    have c42b1 : (a0.toList != ([41] : List UInt8)) = true := bne_iff_ne.mpr c42
    by_cases c43 : a0.toList = ([91] : List UInt8)
    ·rw [if_pos c43] at H
     have c43b0 : (a0.toList == ([91] : List UInt8)) = true := beq_iff_eq.mpr c43
     have c43b1 : (a0.toList != ([91] : List UInt8)) = false := bne_eq_false_iff_eq.mpr c43
     clear c43
     have H' := uZ H
     clear H
     go_wp2
     go_meet
     case rel => exact ⟨_, ((a0.toList == ([91] : List UInt8))), (by first | rfl | (simp; done) | (simp [*]; done)), H', ⟨by have := HJ1.out; first | omega | exact Nat.le_refl _⟩, by repeat (first | exact Drawn0.refl _ | apply Drawn0.step)⟩
    rw [if_neg c43] at H
    have c43b0 : (a0.toList == ([91] : List UInt8)) = false := beq_eq_false_iff_ne.mpr c43
    have c43b1 : (a0.toList != ([91] : List UInt8)) = true := bne_iff_ne.mpr c43
    by_cases c44 : a0.toList = ([93] : List UInt8)
    ·rw [if_pos c44] at H
     have c44b0 : (a0.toList == ([93] : List UInt8)) = true := beq_iff_eq.mpr c44
     have c44b1 : (a0.toList != ([93] : List UInt8)) = false := bne_eq_false_iff_eq.mpr c44
     clear c44
     have H' := uZ H
     clear H
     go_wp2
     go_meet
     case rel => exact ⟨_, ((a0.toList == ([93] : List UInt8))), (by first | rfl | (simp; done) | (simp [*]; done)), H', ⟨by have := HJ1.out; first | omega | exact Nat.le_refl _⟩, by repeat (first | exact Drawn0.refl _ | apply Drawn0.step)⟩
    rw [if_neg c44] at H
    have c44b0 : (a0.toList == ([93] : List UInt8)) = false := beq_eq_false_iff_ne.mpr c44
    have c44b1 : (a0.toList != ([93] : List UInt8)) = true := bne_iff_ne.mpr c44
    by_cases c45 : a0.toList = ([123] : List UInt8)
    ·rw [if_pos c45] at H
     have c45b0 : (a0.toList == ([123] : List UInt8)) = true := beq_iff_eq.mpr c45
     have c45b1 : (a0.toList != ([123] : List UInt8)) = false := bne_eq_false_iff_eq.mpr c45
     clear c45
     have H' := uZ H
     clear H
     go_wp2
     go_meet
     case rel => exact ⟨_, ((a0.toList == ([123] : List UInt8))), (by first | rfl | (simp; done) | (simp [*]; done)), H', ⟨by have := HJ1.out; first | omega | exact Nat.le_refl _⟩, by repeat (first | exact Drawn0.refl _ | apply Drawn0.step)⟩
    rw [if_neg c45] at H
    have c45b0 : (a0.toList == ([123] : List UInt8)) = false := beq_eq_false_iff_ne.mpr c45
    have c45b1 : (a0.toList != ([123] : List UInt8)) = true := bne_iff_ne.mpr c45
    have H' := uZ H
    clear H
    go_wp2
    go_meet
    case rel => exact ⟨_, ((a0.toList == ([125] : List UInt8))), (by first | rfl | (simp; done) | (simp [*]; done)), H', ⟨by have := HJ1.out; first | omega | exact Nat.le_refl _⟩, by repeat (first | exact Drawn0.refl _ | apply Drawn0.step)⟩
   case rest =>
    clear HC23
    try clear c1
    try clear c2
    try clear p2
    try clear c3
    try clear c3b0
    try clear c3b1
    try clear c4
    try clear c4b0
    try clear c4b1
    try clear c5
    try clear c5b0
    try clear c5b1
    try clear c6
    try clear c6b0
    try clear c6b1
    try clear c7
    try clear c7b0
    try clear c7b1
    try clear c8
    try clear c8b0
    try clear c8b1
    try clear c9
    try clear c9b0
    try clear c9b1
    try clear c10
    try clear c10b0
    try clear c10b1
    try clear c11
    try clear c11b0
    try clear c11b1
    try clear c12
    try clear c12b0
    try clear c12b1
    try clear c13
    try clear c13b0
    try clear c13b1
    try clear c14
    try clear c14b0
    try clear c14b1
    try clear c15
    try clear c15b0
    try clear c15b1
    try clear c16
    try clear c16b0
    try clear c16b1
    try clear c17
    try clear c17b0
    try clear c17b1
    try clear c18
    try clear c18b0
    try clear c18b1
    try clear c19
    try clear c19b0
    try clear c19b1
    try clear c20
    try clear c20b0
    try clear c20b1
    try clear c21
    try clear c21b0
    try clear c21b1
    try clear c22
    try clear c24
    try clear c24b0
    try clear c24b1
    try clear c25
    try clear c25b0
    try clear c25b1
    try clear c26
    try clear c26b0
    try clear c26b1
    try clear c27
    try clear c27b0
    try clear c27b1
    try clear c28
    try clear c28b0
    try clear c28b1
    try clear c29
    try clear c29b0
    try clear c29b1
    try clear c30
    try clear c30b0
    try clear c30b1
    try clear c31
    try clear c31b0
    try clear c31b1
    try clear c32
    try clear c32b0
    try clear c32b1
    try clear c33
    try clear c33b0
    try clear c33b1
    try clear c34
    try clear c34b0
    try clear c34b1
    try clear c35
    try clear c35b0
    try clear c35b1
    try clear c36
    try clear c36b0
    try clear c36b1
    try clear c37
    try clear c37b0
    try clear c37b1
    try clear c38
    try clear c38b0
    try clear c38b1
    try clear c39
    try clear c39b0
    try clear c39b1
    try clear c40
    try clear c40b0
    try clear c40b1
    try clear c41
    try clear c41b0
    try clear c41b1
    try clear c42
    try clear c42b0
    try clear c42b1
    try clear c43
    try clear c43b0
    try clear c43b1
    try clear c44
    try clear c44b0
    try clear c44b1
    try clear c45
    try clear c45b0
    try clear c45b1
    try clear p2
    obtain ⟨kq, x25_22, rfl, HA, HJ22, ⟨mc22, rfl⟩⟩ := hcut
    cases kq with
    | zero => exact absurd HA.out (by simp [switchbackref01_sign.j1])
    | succ kj22 =>
     have H := HA.out
     clear HA
     simp only [switchbackref01_sign.j1] at H
     by_cases c46 : x25_22 = true
     ·subst c46
      have H1 : (some true) = some r := by rw [if_pos rfl] at H; exact H
      clear H
      have H := H1
      clear H1
      obtain rfl := Option.some.inj H
      go_wp2
      go_ret
      exact ⟨by first | rfl | (simp; done) | (simp [*]; done), by repeat (first | exact Drawn0.refl _ | apply Drawn0.step)⟩
     replace c46 := Bool.eq_false_iff.mpr c46
     subst c46
     have H1 : (some false) = some r := by rw [if_neg (show ¬ (false = true) by decide)] at H; exact H
     clear H
     have H := H1
     clear H1
     obtain rfl := Option.some.inj H
     go_wp2
     go_ret
     exact ⟨by first | rfl | (simp; done) | (simp [*]; done), by repeat (first | exact Drawn0.refl _ | apply Drawn0.step)⟩

end Go.Proofs.YtjoboaaambdpoaaDoor.PR01
