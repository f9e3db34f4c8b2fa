-- Written by gp.py for this claim.
import Derived.Test.YtjoboaaambdpoaaDoorPR01x0
namespace Go.Proofs.YtjoboaaambdpoaaDoor.PR01
open Go.RowKit Go.Proofs.YtjoboaaambdpoaaDoorW.PrintWords Go.Proofs.YtjoboaaambdpoaaDoorW.PrintLast Go.Proofs.YtjoboaaambdpoaaDoorW.PrintMore
attribute [local go_sem] max2_int min2_int max_two min_two max_three min_three max_four min_four   -- for this text's walks alone
set_option linter.unusedVariables false
set_option linter.unusedSimpArgs false

namespace q_switchbackref01_comment
theorem uZ {p : Prop} (h : p) : Aside0 p := ⟨h⟩
theorem uA {p : Prop} [Decidable p] (h : decide p = true := by first | (with_reducible assumption) | assumption) : p := of_decide_eq_true h
end q_switchbackref01_comment
open q_switchbackref01_comment

/-! ### switchbackref01_comment: function 21 -/
mutual
def switchbackref01_comment.j0 : Nat → ByteArray → Int → Bool → Option (Int)
  | 0, _, _, _ => none
  | k + 1, x0, x1, x16 => if x16 = true then (some (-1)) else (if 0 ≤ (wrap64 (x1 + 1)) then (if (wrap64 (x1 + 1)) < (x0.size : Int) then (if (bt x0 (wrap64 (x1 + 1))) = 47 then (switchbackref01_comment.l0 k x0 x1) else (if (bt x0 (wrap64 (x1 + 1))) = 42 then (switchbackref01_comment.l1 k x0 (wrap64 (x1 + 2))) else (some (-1)))) else (none)) else (none))
def switchbackref01_comment.l0 : Nat → ByteArray → Int → Option (Int)
  | 0, _, _ => none
  | k + 1, x0, x1 => if x1 < (x0.size : Int) then (if 0 ≤ x1 then (if (bt x0 x1) = 10 then (some x1) else (switchbackref01_comment.l0 k x0 (wrap64 (x1 + 1)))) else (none)) else (some x1)
def switchbackref01_comment.l1 : Nat → ByteArray → Int → Option (Int)
  | 0, _, _ => none
  | k + 1, x0, x5 => if (wrap64 (x5 + 2)) ≤ (x0.size : Int) then (if 0 ≤ x5 then (if x5 < (x0.size : Int) then (if (bt x0 x5) = 42 then (if 0 ≤ (wrap64 (x5 + 1)) then (if (wrap64 (x5 + 1)) < (x0.size : Int) then (if (bt x0 (wrap64 (x5 + 1))) = 47 then (some (wrap64 (x5 + 2))) else (switchbackref01_comment.l1 k x0 (wrap64 (x5 + 1)))) else (none)) else (none)) else (switchbackref01_comment.l1 k x0 (wrap64 (x5 + 1)))) else (none)) else (none)) else (some (-2))
end
def switchbackref01_comment.f (k : Nat) (a0 : ByteArray) (a1 : Int) : Option (Int) := if (wrap64 (a1 + 2)) > (a0.size : Int) then (switchbackref01_comment.j0 k a0 a1 true) else (if 0 ≤ a1 then (if a1 < (a0.size : Int) then (switchbackref01_comment.j0 k a0 a1 ((bt a0 a1) != 47)) else (none)) else (none))
theorem switchbackref01_comment.mono_l : ∀ k, (∀ y0 y1 y2, LeO (switchbackref01_comment.j0 k y0 y1 y2) (switchbackref01_comment.j0 (k + 1) y0 y1 y2)) ∧ (∀ y0 y1, LeO (switchbackref01_comment.l0 k y0 y1) (switchbackref01_comment.l0 (k + 1) y0 y1)) ∧ (∀ y0 y1, LeO (switchbackref01_comment.l1 k y0 y1) (switchbackref01_comment.l1 (k + 1) y0 y1))
  | 0 => ⟨fun _ _ _ r h => by simp [switchbackref01_comment.j0] at h, fun _ _ r h => by simp [switchbackref01_comment.l0] at h, fun _ _ r h => by simp [switchbackref01_comment.l1] at h⟩
  | k + 1 => by
    obtain ⟨ih0, ih1, ih2⟩ := switchbackref01_comment.mono_l k
    refine ⟨?_, ?_, ?_⟩
    · intro y0 y1 y2
      unfold switchbackref01_comment.j0
      repeat' first
      | (with_reducible exact ih0 _ _ _)
      | (with_reducible exact ih1 _ _)
      | (with_reducible exact ih2 _ _)
      | (with_reducible exact LeO.refl _)
      | (with_reducible exact LeO.none _)
      | (with_reducible refine LeO.ite ?_ ?_)
      | (with_reducible refine LeO.bind ?_ (fun _ => ?_))
      | exact ih0 _ _ _
      | exact ih1 _ _
      | exact ih2 _ _
      | exact LeO.none _
      | refine LeO.ite ?_ ?_
      | refine LeO.bind ?_ (fun _ => ?_)
    · intro y0 y1
      unfold switchbackref01_comment.l0
      repeat' first
      | (with_reducible exact ih0 _ _ _)
      | (with_reducible exact ih1 _ _)
      | (with_reducible exact ih2 _ _)
      | (with_reducible exact LeO.refl _)
      | (with_reducible exact LeO.none _)
      | (with_reducible refine LeO.ite ?_ ?_)
      | (with_reducible refine LeO.bind ?_ (fun _ => ?_))
      | exact ih0 _ _ _
      | exact ih1 _ _
      | exact ih2 _ _
      | exact LeO.none _
      | refine LeO.ite ?_ ?_
      | refine LeO.bind ?_ (fun _ => ?_)
    · intro y0 y1
      unfold switchbackref01_comment.l1
      repeat' first
      | (with_reducible exact ih0 _ _ _)
      | (with_reducible exact ih1 _ _)
      | (with_reducible exact ih2 _ _)
      | (with_reducible exact LeO.refl _)
      | (with_reducible exact LeO.none _)
      | (with_reducible refine LeO.ite ?_ ?_)
      | (with_reducible refine LeO.bind ?_ (fun _ => ?_))
      | exact ih0 _ _ _
      | exact ih1 _ _
      | exact ih2 _ _
      | exact LeO.none _
      | refine LeO.ite ?_ ?_
      | refine LeO.bind ?_ (fun _ => ?_)
theorem switchbackref01_comment.mono : ∀ a0 a1 k, LeO (switchbackref01_comment.f k a0 a1) (switchbackref01_comment.f (k + 1) a0 a1) := by
  intro a0 a1 k
  obtain ⟨ih0, ih1, ih2⟩ := switchbackref01_comment.mono_l k
  unfold switchbackref01_comment.f
  repeat' first
      | (with_reducible exact ih0 _ _ _)
      | (with_reducible exact ih1 _ _)
      | (with_reducible exact ih2 _ _)
      | (with_reducible exact LeO.refl _)
      | (with_reducible exact LeO.none _)
      | (with_reducible refine LeO.ite ?_ ?_)
      | (with_reducible refine LeO.bind ?_ (fun _ => ?_))
      | exact ih0 _ _ _
      | exact ih1 _ _
      | exact ih2 _ _
      | exact LeO.none _
      | refine LeO.ite ?_ ?_
      | refine LeO.bind ?_ (fun _ => ?_)
set_option maxHeartbeats 8000000 in
set_option maxRecDepth 100000 in
theorem switchbackref01_comment.calls (k : Nat) (a0 : ByteArray) (a1 : Int) (r : Int) (w : World) (h : switchbackref01_comment.f k a0 a1 = some r) :
    Calls Tryd.prog 21 #[.string a0, .int .i64 a1] w fun e w' => e = .returned (.int .i64 r) ∧ Drawn0 w w' := by
 have H : (if (wrap64 (a1 + 2)) > (a0.size : Int) then (switchbackref01_comment.j0 k a0 a1 true) else (if 0 ≤ a1 then (if a1 < (a0.size : Int) then (switchbackref01_comment.j0 k a0 a1 ((bt a0 a1) != 47)) else (none)) else (none))) = some r := h
 clear h
 have HC3 := uZ H
 clear H
 go_enter Tryd.func21, Tryd.ntmps21
 go_upto_region 1 with (fail)
 go_cut [16] (fun v16 wc => ∃ (kq : Nat) (x16_2 : Bool), v16 = .bool x16_2 ∧ Aside0 (switchbackref01_comment.j0 kq a0 a1 x16_2 = some r) ∧ Aside0 (kq ≤ k) ∧ Drawn0 w wc)
 case first =>
  have H := HC3.out
  clear HC3
  by_cases c4 : (wrap64 (a1 + 2)) > (a0.size : Int)
  ·rw [if_pos c4] at H
   have c4b0 : decide ((a0.size : Int) < (wrap64 (a1 + 2))) = true := decide_eq_true c4
   clear c4
   (first | rw [c4b0] | (simp only [i64_w, i32_w]; rw [c4b0]) | skip)
   have H' := uZ H
   clear H
   go_wp2
   go_meet
   case rel => exact ⟨_, (true), (by first | rfl | (simp; done) | (simp [*]; done)), H', ⟨by first | omega | exact Nat.le_refl _⟩, by repeat (first | exact Drawn0.refl _ | apply Drawn0.step)⟩
  rw [if_neg c4] at H
  have c4b0 : decide ((a0.size : Int) < (wrap64 (a1 + 2))) = false := decide_eq_false c4
  clear c4
  (first | rw [c4b0] | (simp only [i64_w, i32_w]; rw [c4b0]) | skip)
  by_cases c5 : 0 ≤ a1
  ·rw [if_pos c5] at H
   have c5b0 : decide (0 ≤ a1) = true := decide_eq_true c5
   clear c5
   by_cases c6 : a1 < (a0.size : Int)
   ·rw [if_pos c6] at H
    have c6b0 : decide (a1 < (a0.size : Int)) = true := decide_eq_true c6
    clear c6
    have H' := uZ H
    clear H
    have p7 : 0 ≤ (a1 : Int) := uA
    have q7 : a1 < (a0.size : Int) := uA
    have hx7 := bt_at a0 a1
    replace p7 := eq_true p7
    replace q7 := eq_true q7
    go_wp2
    go_meet
    case rel => exact ⟨_, (((bt a0 a1) != 47)), (by first | rfl | (simp; done) | (simp [*]; done)), H', ⟨by first | omega | exact Nat.le_refl _⟩, by repeat (first | exact Drawn0.refl _ | apply Drawn0.step)⟩
   rw [if_neg c6] at H
   exact absurd H (by simp)
  rw [if_neg c5] at H
  exact absurd H (by simp)
 case rest =>
  clear HC3
  try clear c2
  try clear p2
  try clear c4
  try clear c4b0
  try clear c5
  try clear c5b0
  try clear c6
  try clear c6b0
  try clear p6
  try clear p7
  try clear q7
  try clear hx7
  try clear p7
  try clear q7
  obtain ⟨kq, x16_2, rfl, HA, HJ2, ⟨mc2, rfl⟩⟩ := hcut
  cases kq with
  | zero => exact absurd HA.out (by simp [switchbackref01_comment.j0])
  | succ kj2 =>
   have H := HA.out
   clear HA
   simp only [switchbackref01_comment.j0] at H
   by_cases c8 : x16_2 = true
   ·subst c8
    have H1 : (some (-1)) = some r := by rw [if_pos rfl] at H; exact H
    clear H
    have H := H1
    clear H1
    obtain rfl := Option.some.inj H
    go_wp2
    go_ret
    exact ⟨by first | rfl | (simp; done) | (simp [*]; done), by repeat (first | exact Drawn0.refl _ | apply Drawn0.step)⟩
   replace c8 := Bool.eq_false_iff.mpr c8
   subst c8
   have H1 : (if 0 ≤ (wrap64 (a1 + 1)) then (if (wrap64 (a1 + 1)) < (a0.size : Int) then (if (bt a0 (wrap64 (a1 + 1))) = 47 then (switchbackref01_comment.l0 kj2 a0 a1) else (if (bt a0 (wrap64 (a1 + 1))) = 42 then (switchbackref01_comment.l1 kj2 a0 (wrap64 (a1 + 2))) else (some (-1)))) else (none)) else (none)) = some r := by rw [if_neg (show ¬ (false = true) by decide)] at H; exact H
   clear H
   have H := H1
   clear H1
   obtain ⟨ji9, hji9⟩ : ∃ j_ : Int, (wrap64 (a1 + 1)) = j_ := ⟨_, rfl⟩
   replace H : (if 0 ≤ (ji9) then (if (ji9) < (a0.size : Int) then (if (bt a0 (ji9)) = 47 then (switchbackref01_comment.l0 kj2 a0 a1) else (if (bt a0 (ji9)) = 42 then (switchbackref01_comment.l1 kj2 a0 (wrap64 (a1 + 2))) else (some (-1)))) else (none)) else (none)) = some r := by first | (rw [hji9] at H; exact H) | (simp only [hji9] at H ⊢; exact H)
   have hji9w : (IntKind.i64.wrap (a1 + 1)) = ji9 := (i64_w _).trans hji9
   by_cases c10 : 0 ≤ (ji9)
   ·rw [if_pos c10] at H
    have c10b0 : decide (0 ≤ (ji9)) = true := decide_eq_true c10
    clear c10
    by_cases c11 : (ji9) < (a0.size : Int)
    ·rw [if_pos c11] at H
     have c11b0 : decide ((ji9) < (a0.size : Int)) = true := decide_eq_true c11
     clear c11
     by_cases c13 : (bt a0 (ji9)) = 47
     ·rw [if_pos c13] at H
      have c13b0 : ((bt a0 (ji9)) == 47) = true := beq_iff_eq.mpr c13
      have c13b1 : ((bt a0 (ji9)) != 47) = false := bne_eq_false_iff_eq.mpr c13
      clear c13
      have H' := uZ H
      clear H
      have p12 : 0 ≤ ((ji9) : Int) := uA
      have q12 : (ji9) < (a0.size : Int) := uA
      have hx12 := bt_at a0 (ji9)
      replace p12 := eq_true p12
      replace q12 := eq_true q12
      go_wp2
      go_loopg [1] kj2 (fun kq v1 w' => ∃ (a4 : Int), v1 = .int .i64 a4 ∧ Aside0 (switchbackref01_comment.l0 kq a0 a4 = some r) ∧ Aside0 (kq ≤ kj2) ∧ Drawn0 w w')
      case atStart => exact ⟨(a1), (by first | rfl | (simp; done) | (simp [*]; done)), H', ⟨Nat.le_refl _⟩, by repeat (first | exact Drawn0.refl _ | apply Drawn0.step)⟩
      case round =>
       clear H'
       try clear c1
       try clear p1
       try clear q1
       try clear hx1
       try clear c2
       try clear p2
       try clear c4
       try clear c4b0
       try clear c5
       try clear c5b0
       try clear c6
       try clear c6b0
       try clear p6
       try clear p7
       try clear q7
       try clear hx7
       try clear c8
       try clear c10
       try clear c10b0
       try clear c11
       try clear c11b0
       try clear p12
       try clear q12
       try clear hx12
       try clear c13
       try clear c13b0
       try clear c13b1
       try clear p12
       try clear p2
       try clear p6
       try clear p7
       try clear q12
       try clear q7
       obtain ⟨a4, rfl, HA, HK2, ⟨m2, rfl⟩⟩ := hrel
       cases gk with
       | zero => exact absurd HA.out (by simp [switchbackref01_comment.l0])
       | succ k2 =>
        have H := HA.out
        clear HA
        simp only [switchbackref01_comment.l0] at H
        by_cases c14 : a4 < (a0.size : Int)
        ·rw [if_pos c14] at H
         have c14b0 : decide (a4 < (a0.size : Int)) = true := decide_eq_true c14
         clear c14
         by_cases c15 : 0 ≤ a4
         ·rw [if_pos c15] at H
          have c15b0 : decide (0 ≤ a4) = true := decide_eq_true c15
          clear c15
          by_cases c17 : (bt a0 a4) = 10
          ·rw [if_pos c17] at H
           have c17b0 : ((bt a0 a4) == 10) = true := beq_iff_eq.mpr c17
           have c17b1 : ((bt a0 a4) != 10) = false := bne_eq_false_iff_eq.mpr c17
           clear c17
           obtain rfl := Option.some.inj H
           have p16 : 0 ≤ (a4 : Int) := uA
           have q16 : a4 < (a0.size : Int) := uA
           have hx16 := bt_at a0 a4
           replace p16 := eq_true p16
           replace q16 := eq_true q16
           go_wp2
           go_ret
           exact ⟨by first | rfl | (simp; done) | (simp only [← hji9] <;> (first | rfl | simp)) | (simp [*]; done), by repeat (first | exact Drawn0.refl _ | apply Drawn0.step)⟩
          rw [if_neg c17] at H
          have c17b0 : ((bt a0 a4) == 10) = false := beq_eq_false_iff_ne.mpr c17
          have c17b1 : ((bt a0 a4) != 10) = true := bne_iff_ne.mpr c17
          have H' := uZ H
          clear H
          have p16 : 0 ≤ (a4 : Int) := uA
          have q16 : a4 < (a0.size : Int) := uA
          have hx16 := bt_at a0 a4
          replace p16 := eq_true p16
          replace q16 := eq_true q16
          go_wp2
          go_roundg k2
          case measure => have := HJ2.out; have := HK2.out; omega
          case rel => exact ⟨(wrap64 (a4 + 1)), (by first | rfl | (simp; done) | (simp [*]; done)), H', ⟨by have := HJ2.out; have := HK2.out; omega⟩, by repeat (first | exact Drawn0.refl _ | apply Drawn0.step)⟩
         rw [if_neg c15] at H
         exact absurd H (by simp)
        rw [if_neg c14] at H
        have c14b0 : decide (a4 < (a0.size : Int)) = false := decide_eq_false c14
        clear c14
        obtain rfl := Option.some.inj H
        go_wp2
        go_ret
        exact ⟨by first | rfl | (simp; done) | (simp only [← hji9] <;> (first | rfl | simp)) | (simp [*]; done), by repeat (first | exact Drawn0.refl _ | apply Drawn0.step)⟩
     rw [if_neg c13] at H
     have c13b0 : ((bt a0 (ji9)) == 47) = false := beq_eq_false_iff_ne.mpr c13
     have c13b1 : ((bt a0 (ji9)) != 47) = true := bne_iff_ne.mpr c13
     by_cases c18 : (bt a0 (ji9)) = 42
     ·rw [if_pos c18] at H
      have c18b0 : ((bt a0 (ji9)) == 42) = true := beq_iff_eq.mpr c18
      have c18b1 : ((bt a0 (ji9)) != 42) = false := bne_eq_false_iff_eq.mpr c18
      clear c18
      have H' := uZ H
      clear H
      have p12 : 0 ≤ ((ji9) : Int) := uA
      have q12 : (ji9) < (a0.size : Int) := uA
      have hx12 := bt_at a0 (ji9)
      replace p12 := eq_true p12
      replace q12 := eq_true q12
      go_wp2
      go_loopg [5] kj2 (fun kq v5 w' => ∃ (a2 : Int), v5 = .int .i64 a2 ∧ Aside0 (switchbackref01_comment.l1 kq a0 a2 = some r) ∧ Aside0 (kq ≤ kj2) ∧ Drawn0 w w')
      case atStart => exact ⟨(wrap64 (a1 + 2)), (by first | rfl | (simp; done) | (simp [*]; done)), H', ⟨Nat.le_refl _⟩, by repeat (first | exact Drawn0.refl _ | apply Drawn0.step)⟩
      case round =>
       clear H'
       try clear c1
       try clear p1
       try clear q1
       try clear hx1
       try clear c2
       try clear p2
       try clear c4
       try clear c4b0
       try clear c5
       try clear c5b0
       try clear c6
       try clear c6b0
       try clear p6
       try clear p7
       try clear q7
       try clear hx7
       try clear c8
       try clear c10
       try clear c10b0
       try clear c11
       try clear c11b0
       try clear p12
       try clear q12
       try clear hx12
       try clear c13
       try clear c13b0
       try clear c13b1
       try clear c14
       try clear c14b0
       try clear c15
       try clear c15b0
       try clear p16
       try clear q16
       try clear hx16
       try clear c17
       try clear c17b0
       try clear c17b1
       try clear c18
       try clear c18b0
       try clear c18b1
       try clear p1
       try clear p12
       try clear p16
       try clear p2
       try clear p6
       try clear p7
       try clear q1
       try clear q12
       try clear q16
       try clear q7
       obtain ⟨a2, rfl, HA, HK2, ⟨m2, rfl⟩⟩ := hrel
       cases gk with
       | zero => exact absurd HA.out (by simp [switchbackref01_comment.l1])
       | succ k2 =>
        have H := HA.out
        clear HA
        simp only [switchbackref01_comment.l1] at H
        by_cases c19 : (wrap64 (a2 + 2)) ≤ (a0.size : Int)
        ·rw [if_pos c19] at H
         have c19b0 : decide ((wrap64 (a2 + 2)) ≤ (a0.size : Int)) = true := decide_eq_true c19
         clear c19
         by_cases c20 : 0 ≤ a2
         ·rw [if_pos c20] at H
          have c20b0 : decide (0 ≤ a2) = true := decide_eq_true c20
          clear c20
          by_cases c21 : a2 < (a0.size : Int)
          ·rw [if_pos c21] at H
           have c21b0 : decide (a2 < (a0.size : Int)) = true := decide_eq_true c21
           clear c21
           by_cases c23 : (bt a0 a2) = 42
           ·rw [if_pos c23] at H
            have c23b0 : ((bt a0 a2) == 42) = true := beq_iff_eq.mpr c23
            have c23b1 : ((bt a0 a2) != 42) = false := bne_eq_false_iff_eq.mpr c23
            clear c23
            obtain ⟨a3, hji24⟩ : ∃ j_ : Int, (wrap64 (a2 + 1)) = j_ := ⟨_, rfl⟩
            replace H : (if 0 ≤ (a3) then (if (a3) < (a0.size : Int) then (if (bt a0 (a3)) = 47 then (some (wrap64 (a2 + 2))) else (switchbackref01_comment.l1 k2 a0 a3)) else (none)) else (none)) = some r := by first | (rw [hji24] at H; exact H) | (simp only [hji24] at H ⊢; exact H)
            have hji24w : (IntKind.i64.wrap (a2 + 1)) = a3 := (i64_w _).trans hji24
            by_cases c25 : 0 ≤ (a3)
            ·rw [if_pos c25] at H
             have c25b0 : decide (0 ≤ (a3)) = true := decide_eq_true c25
             clear c25
             by_cases c26 : (a3) < (a0.size : Int)
             ·rw [if_pos c26] at H
              have c26b0 : decide ((a3) < (a0.size : Int)) = true := decide_eq_true c26
              clear c26
              by_cases c28 : (bt a0 (a3)) = 47
              ·rw [if_pos c28] at H
               have c28b0 : ((bt a0 (a3)) == 47) = true := beq_iff_eq.mpr c28
               have c28b1 : ((bt a0 (a3)) != 47) = false := bne_eq_false_iff_eq.mpr c28
               clear c28
               obtain rfl := Option.some.inj H
               have p22 : 0 ≤ (a2 : Int) := uA
               have q22 : a2 < (a0.size : Int) := uA
               have hx22 := bt_at a0 a2
               replace p22 := eq_true p22
               replace q22 := eq_true q22
               have p27 : 0 ≤ ((a3) : Int) := uA
               have q27 : (a3) < (a0.size : Int) := uA
               have hx27 := bt_at a0 (a3)
               replace p27 := eq_true p27
               replace q27 := eq_true q27
               go_wp2
               go_ret
               exact ⟨by first | rfl | (simp; done) | (simp only [← hji9, ← hji24] <;> (first | rfl | simp)) | (simp [*]; done), by repeat (first | exact Drawn0.refl _ | apply Drawn0.step)⟩
              rw [if_neg c28] at H
              have c28b0 : ((bt a0 (a3)) == 47) = false := beq_eq_false_iff_ne.mpr c28
              have c28b1 : ((bt a0 (a3)) != 47) = true := bne_iff_ne.mpr c28
              have H' := uZ H
              clear H
              have p22 : 0 ≤ (a2 : Int) := uA
              have q22 : a2 < (a0.size : Int) := uA
              have hx22 := bt_at a0 a2
              replace p22 := eq_true p22
              replace q22 := eq_true q22
              have p27 : 0 ≤ ((a3) : Int) := uA
              have q27 : (a3) < (a0.size : Int) := uA
              have hx27 := bt_at a0 (a3)
              replace p27 := eq_true p27
              replace q27 := eq_true q27
              go_wp2
              go_roundg k2
              case measure => have := HJ2.out; have := HK2.out; omega
              case rel => exact ⟨(a3), (by first | rfl | (simp; done) | (simp only [← hji24] <;> (first | rfl | simp)) | (simp [*]; done)), H', ⟨by have := HJ2.out; have := HK2.out; omega⟩, by repeat (first | exact Drawn0.refl _ | apply Drawn0.step)⟩
             rw [if_neg c26] at H
             exact absurd H (by simp)
            rw [if_neg c25] at H
            exact absurd H (by simp)
           rw [if_neg c23] at H
           have c23b0 : ((bt a0 a2) == 42) = false := beq_eq_false_iff_ne.mpr c23
           have c23b1 : ((bt a0 a2) != 42) = true := bne_iff_ne.mpr c23
           have H' := uZ H
           clear H
           have p22 : 0 ≤ (a2 : Int) := uA
           have q22 : a2 < (a0.size : Int) := uA
           have hx22 := bt_at a0 a2
           replace p22 := eq_true p22
           replace q22 := eq_true q22
           go_wp2
           go_roundg k2
           case measure => have := HJ2.out; have := HK2.out; omega
           case rel => exact ⟨(wrap64 (a2 + 1)), (by first | rfl | (simp; done) | (simp [*]; done)), H', ⟨by have := HJ2.out; have := HK2.out; omega⟩, by repeat (first | exact Drawn0.refl _ | apply Drawn0.step)⟩
          rw [if_neg c21] at H
          exact absurd H (by simp)
         rw [if_neg c20] at H
         exact absurd H (by simp)
        rw [if_neg c19] at H
        have c19b0 : decide ((wrap64 (a2 + 2)) ≤ (a0.size : Int)) = false := decide_eq_false c19
        clear c19
        obtain rfl := Option.some.inj H
        go_wp2
        go_ret
        exact ⟨by first | rfl | (simp; done) | (simp only [← hji9] <;> (first | rfl | simp)) | (simp [*]; done), by repeat (first | exact Drawn0.refl _ | apply Drawn0.step)⟩
     rw [if_neg c18] at H
     have c18b0 : ((bt a0 (ji9)) == 42) = false := beq_eq_false_iff_ne.mpr c18
     have c18b1 : ((bt a0 (ji9)) != 42) = true := bne_iff_ne.mpr c18
     obtain rfl := Option.some.inj H
     have p12 : 0 ≤ ((ji9) : Int) := uA
     have q12 : (ji9) < (a0.size : Int) := uA
     have hx12 := bt_at a0 (ji9)
     replace p12 := eq_true p12
     replace q12 := eq_true q12
     go_wp2
     go_ret
     exact ⟨by first | rfl | (simp; done) | (simp only [← hji9] <;> (first | rfl | simp)) | (simp [*]; done), by repeat (first | exact Drawn0.refl _ | apply Drawn0.step)⟩
    rw [if_neg c11] at H
    exact absurd H (by simp)
   rw [if_neg c10] at H
   exact absurd H (by simp)

end Go.Proofs.YtjoboaaambdpoaaDoor.PR01
