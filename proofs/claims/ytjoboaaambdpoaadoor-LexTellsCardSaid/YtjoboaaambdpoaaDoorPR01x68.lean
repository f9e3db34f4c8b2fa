-- Written by gp.py for this claim.
import Derived.Test.YtjoboaaambdpoaaDoorPR01x0
namespace Go.Proofs.YtjoboaaambdpoaaDoor.PR01
open Go.RowKit Go.Proofs.YtjoboaaambdpoaaDoorW.PrintWords Go.Proofs.YtjoboaaambdpoaaDoorW.PrintLast Go.Proofs.YtjoboaaambdpoaaDoorW.PrintMore
attribute [local go_sem] max2_int min2_int max_two min_two max_three min_three max_four min_four   -- for this text's walks alone
set_option linter.unusedVariables false
set_option linter.unusedSimpArgs false

namespace q_switchbacklaw01_alike
theorem uZ {p : Prop} (h : p) : Aside0 p := ⟨h⟩
theorem uA {p : Prop} [Decidable p] (h : decide p = true := by first | (with_reducible assumption) | assumption) : p := of_decide_eq_true h
end q_switchbacklaw01_alike
open q_switchbacklaw01_alike

/-! ### switchbacklaw01_alike: function 15 -/
mutual
def switchbacklaw01_alike.l0 : Nat → List (S29) → List (S29) → Int → Option (Bool)
  | 0, _, _, _ => none
  | k + 1, x0, x1, x5 => if x5 < (x0.length : Int) then (if 0 ≤ x5 then (if x5 < (x1.length : Int) then (if ((rd_T29 x0 x5).f0) = ((rd_T29 x1 x5).f0) then (if ((rd_T29 x0 x5).f2).toList = ((rd_T29 x1 x5).f2).toList then (if ((rd_T29 x0 x5).f3) = ((rd_T29 x1 x5).f3) then (switchbacklaw01_alike.j1 k x0 x1 x5 (((rd_T29 x0 x5).f4) != ((rd_T29 x1 x5).f4))) else (switchbacklaw01_alike.j1 k x0 x1 x5 true)) else (switchbacklaw01_alike.j1 k x0 x1 x5 true)) else (switchbacklaw01_alike.j1 k x0 x1 x5 true)) else (none)) else (none)) else (some true)
def switchbacklaw01_alike.j1 : Nat → List (S29) → List (S29) → Int → Bool → Option (Bool)
  | 0, _, _, _, _ => none
  | k + 1, x0, x1, x5, x66 => if x66 = true then (some false) else (switchbacklaw01_alike.l0 k x0 x1 (wrap64 (x5 + 1)))
end
def switchbacklaw01_alike.f (k : Nat) (l0 : List (S29)) (l1 : List (S29)) : Option (Bool) := if (l0.length : Int) = (l1.length : Int) then (switchbacklaw01_alike.l0 k l0 l1 0) else (some false)
theorem switchbacklaw01_alike.mono_l : ∀ k, (∀ y0 y1 y2, LeO (switchbacklaw01_alike.l0 k y0 y1 y2) (switchbacklaw01_alike.l0 (k + 1) y0 y1 y2)) ∧ (∀ y0 y1 y2 y3, LeO (switchbacklaw01_alike.j1 k y0 y1 y2 y3) (switchbacklaw01_alike.j1 (k + 1) y0 y1 y2 y3))
  | 0 => ⟨fun _ _ _ r h => by simp [switchbacklaw01_alike.l0] at h, fun _ _ _ _ r h => by simp [switchbacklaw01_alike.j1] at h⟩
  | k + 1 => by
    obtain ⟨ih0, ih1⟩ := switchbacklaw01_alike.mono_l k
    refine ⟨?_, ?_⟩
    · intro y0 y1 y2
      unfold switchbacklaw01_alike.l0
      repeat' first
      | (with_reducible exact ih0 _ _ _)
      | (with_reducible exact ih1 _ _ _ _)
      | (with_reducible exact LeO.refl _)
      | (with_reducible exact LeO.none _)
      | (with_reducible refine LeO.ite ?_ ?_)
      | (with_reducible refine LeO.bind ?_ (fun _ => ?_))
      | exact ih0 _ _ _
      | exact ih1 _ _ _ _
      | exact LeO.none _
      | refine LeO.ite ?_ ?_
      | refine LeO.bind ?_ (fun _ => ?_)
    · intro y0 y1 y2 y3
      unfold switchbacklaw01_alike.j1
      repeat' first
      | (with_reducible exact ih0 _ _ _)
      | (with_reducible exact ih1 _ _ _ _)
      | (with_reducible exact LeO.refl _)
      | (with_reducible exact LeO.none _)
      | (with_reducible refine LeO.ite ?_ ?_)
      | (with_reducible refine LeO.bind ?_ (fun _ => ?_))
      | exact ih0 _ _ _
      | exact ih1 _ _ _ _
      | exact LeO.none _
      | refine LeO.ite ?_ ?_
      | refine LeO.bind ?_ (fun _ => ?_)
theorem switchbacklaw01_alike.mono : ∀ a0 a1 k, LeO (switchbacklaw01_alike.f k a0 a1) (switchbacklaw01_alike.f (k + 1) a0 a1) := by
  intro a0 a1 k
  obtain ⟨ih0, ih1⟩ := switchbacklaw01_alike.mono_l k
  unfold switchbacklaw01_alike.f
  repeat' first
      | (with_reducible exact ih0 _ _ _)
      | (with_reducible exact ih1 _ _ _ _)
      | (with_reducible exact LeO.refl _)
      | (with_reducible exact LeO.none _)
      | (with_reducible refine LeO.ite ?_ ?_)
      | (with_reducible refine LeO.bind ?_ (fun _ => ?_))
      | exact ih0 _ _ _
      | exact ih1 _ _ _ _
      | exact LeO.none _
      | refine LeO.ite ?_ ?_
      | refine LeO.bind ?_ (fun _ => ?_)
set_option maxHeartbeats 8000000 in
set_option maxRecDepth 100000 in
theorem switchbacklaw01_alike.calls (k : Nat) (A0 : Option Addr) (c0 : Nat) (l0 : List (S29)) (A1 : Option Addr) (c1 : Nat) (l1 : List (S29)) (r : Bool) (w : World) (hr0 : Kd.C k29 w A0 l0.length l0) (hc0 : l0.length ≤ c0) (hr1 : Kd.C k29 w A1 l1.length l1) (hc1 : l1.length ≤ c1) (h : switchbacklaw01_alike.f k l0 l1 = some r) :
    Calls Tryd.prog 15 #[.slice A0 l0.length c0, .slice A1 l1.length c1] w fun e w' => e = .returned (.bool r) ∧ Drawn0 w w' := by
 have HR0 := uZ hr0
 have HC0 := uZ hc0
 clear hr0 hc0
 have HR1 := uZ hr1
 have HC1 := uZ hc1
 clear hr1 hc1
 have H : (if (l0.length : Int) = (l1.length : Int) then (switchbacklaw01_alike.l0 k l0 l1 0) else (some false)) = some r := h
 clear h
 by_cases c3 : (l0.length : Int) = (l1.length : Int)
 ·rw [if_pos c3] at H
  have c3b0 : ((l0.length : Int) == (l1.length : Int)) = true := beq_iff_eq.mpr c3
  have c3b1 : ((l0.length : Int) != (l1.length : Int)) = false := bne_eq_false_iff_eq.mpr c3
  have c3b2 : (l0.length == l1.length) = true := by first | simpa using c3 | (simp at c3 ⊢; omega)
  clear c3
  have H' := uZ H
  clear H
  go_enter Tryd.func15, Tryd.ntmps15
  go_wp2
  repeat (go_quiet (fail); try go_wp2)
  go_loopg [5] k (fun kq v5 w' => ∃ (a2 : Int), v5 = .int .i64 a2 ∧ Aside0 (switchbacklaw01_alike.l0 kq l0 l1 a2 = some r) ∧ Aside0 (kq ≤ k) ∧ Drawn0 w w')
  case atStart => exact ⟨(0), (by first | rfl | (simp; done) | (simp [*]; done)), H', ⟨Nat.le_refl _⟩, by repeat (first | exact Drawn0.refl _ | apply Drawn0.step)⟩
  case round =>
   clear H'
   try clear c1
   try clear p2
   try clear c3
   try clear c3b0
   try clear c3b1
   try clear c3b2
   obtain ⟨a2, rfl, HA, HK1, ⟨m1, rfl⟩⟩ := hrel
   cases gk with
   | zero => exact absurd HA.out (by simp [switchbacklaw01_alike.l0])
   | succ k1 =>
    have H := HA.out
    clear HA
    simp only [switchbacklaw01_alike.l0] at H
    by_cases c4 : a2 < (l0.length : Int)
    ·rw [if_pos c4] at H
     have c4b0 : decide (a2 < (l0.length : Int)) = true := decide_eq_true c4
     clear c4
     have HC5 := uZ H
     clear H
     go_upto_region 6 with (fail)
     repeat (go_quiet (fail); go_upto_region 6 with (fail))
     go_cut [66] (fun v66 wc => ∃ (kq : Nat) (x66_4 : Bool), v66 = .bool x66_4 ∧ Aside0 (switchbacklaw01_alike.j1 kq l0 l1 a2 x66_4 = some r) ∧ Aside0 (kq ≤ k1) ∧ Drawn0 w wc)
     case first =>
      have H := HC5.out
      clear HC5
      by_cases c6 : 0 ≤ a2
      ·rw [if_pos c6] at H
       have c6b0 : decide (0 ≤ a2) = true := decide_eq_true c6
       clear c6
       (first | rw [c6b0] | (simp only [i64_w, i32_w]; rw [c6b0]) | skip)
       by_cases c7 : a2 < (l1.length : Int)
       ·rw [if_pos c7] at H
        have c7b0 : decide (a2 < (l1.length : Int)) = true := decide_eq_true c7
        clear c7
        by_cases c8 : ((rd_T29 l0 a2).f0) = ((rd_T29 l1 a2).f0)
        ·rw [if_pos c8] at H
         have c8b0 : (((rd_T29 l0 a2).f0) == ((rd_T29 l1 a2).f0)) = true := beq_iff_eq.mpr c8
         have c8b1 : (((rd_T29 l0 a2).f0) != ((rd_T29 l1 a2).f0)) = false := bne_eq_false_iff_eq.mpr c8
         clear c8
         by_cases c9 : ((rd_T29 l0 a2).f2).toList = ((rd_T29 l1 a2).f2).toList
         ·rw [if_pos c9] at H
          have c9b0 : (((rd_T29 l0 a2).f2).toList == ((rd_T29 l1 a2).f2).toList) = true := beq_iff_eq.mpr c9
          have c9b1 : (((rd_T29 l0 a2).f2).toList != ((rd_T29 l1 a2).f2).toList) = false := bne_eq_false_iff_eq.mpr c9
          clear c9
          by_cases c10 : ((rd_T29 l0 a2).f3) = ((rd_T29 l1 a2).f3)
          ·rw [if_pos c10] at H
           have c10b0 : (((rd_T29 l0 a2).f3) == ((rd_T29 l1 a2).f3)) = true := beq_iff_eq.mpr c10
           have c10b1 : (((rd_T29 l0 a2).f3) != ((rd_T29 l1 a2).f3)) = false := bne_eq_false_iff_eq.mpr c10
           clear c10
           have H' := uZ H
           clear H
           have a3 : 0 ≤ (a2 : Int) := uA
           have a4 : a2 < (l0.length : Int) := uA
           obtain ⟨a7, e235, hx235_0, hx235_1, hx235_2, hx235_3, hx235_4⟩ := at_T29 HR0.out a2 a3 a4
           cases e235
           replace a3 := eq_true a3
           replace a4 := eq_true a4
           have a5 : 0 ≤ (a2 : Int) := uA
           have a6 : a2 < (l1.length : Int) := uA
           obtain ⟨a8, e236, hx236_0, hx236_1, hx236_2, hx236_3, hx236_4⟩ := at_T29 HR1.out a2 a5 a6
           cases e236
           replace a5 := eq_true a5
           replace a6 := eq_true a6
           have p237 : 0 ≤ (a2 : Int) := uA
           have q237 : a2 < (l0.length : Int) := uA
           obtain ⟨ad237, e237, hx237_0, hx237_1, hx237_2, hx237_3, hx237_4⟩ := at_T29 HR0.out a2 p237 q237
           obtain rfl : a7 = ad237 := (by injection e237)
           replace p237 := eq_true p237
           replace q237 := eq_true q237
           have p238 : 0 ≤ (a2 : Int) := uA
           have q238 : a2 < (l1.length : Int) := uA
           obtain ⟨ad238, e238, hx238_0, hx238_1, hx238_2, hx238_3, hx238_4⟩ := at_T29 HR1.out a2 p238 q238
           obtain rfl : a8 = ad238 := (by injection e238)
           replace p238 := eq_true p238
           replace q238 := eq_true q238
           have p239 : 0 ≤ (a2 : Int) := uA
           have q239 : a2 < (l0.length : Int) := uA
           obtain ⟨ad239, e239, hx239_0, hx239_1, hx239_2, hx239_3, hx239_4⟩ := at_T29 HR0.out a2 p239 q239
           obtain rfl : a7 = ad239 := (by injection e239)
           replace p239 := eq_true p239
           replace q239 := eq_true q239
           have p240 : 0 ≤ (a2 : Int) := uA
           have q240 : a2 < (l1.length : Int) := uA
           obtain ⟨ad240, e240, hx240_0, hx240_1, hx240_2, hx240_3, hx240_4⟩ := at_T29 HR1.out a2 p240 q240
           obtain rfl : a8 = ad240 := (by injection e240)
           replace p240 := eq_true p240
           replace q240 := eq_true q240
           have p241 : 0 ≤ (a2 : Int) := uA
           have q241 : a2 < (l0.length : Int) := uA
           obtain ⟨ad241, e241, hx241_0, hx241_1, hx241_2, hx241_3, hx241_4⟩ := at_T29 HR0.out a2 p241 q241
           obtain rfl : a7 = ad241 := (by injection e241)
           replace p241 := eq_true p241
           replace q241 := eq_true q241
           have p242 : 0 ≤ (a2 : Int) := uA
           have q242 : a2 < (l1.length : Int) := uA
           obtain ⟨ad242, e242, hx242_0, hx242_1, hx242_2, hx242_3, hx242_4⟩ := at_T29 HR1.out a2 p242 q242
           obtain rfl : a8 = ad242 := (by injection e242)
           replace p242 := eq_true p242
           replace q242 := eq_true q242
           go_wp2
           repeat (go_quiet (fail); try go_wp2)
           go_meet
           case rel => exact ⟨_, ((((rd_T29 l0 a2).f4) != ((rd_T29 l1 a2).f4))), (by first | rfl | (simp; done) | (simp [*]; done)), H', ⟨by have := HK1.out; first | omega | exact Nat.le_refl _⟩, by repeat (first | exact Drawn0.refl _ | apply Drawn0.step)⟩
          rw [if_neg c10] at H
          have c10b0 : (((rd_T29 l0 a2).f3) == ((rd_T29 l1 a2).f3)) = false := beq_eq_false_iff_ne.mpr c10
          have c10b1 : (((rd_T29 l0 a2).f3) != ((rd_T29 l1 a2).f3)) = true := bne_iff_ne.mpr c10
          have H' := uZ H
          clear H
          have a3 : 0 ≤ (a2 : Int) := uA
          have a4 : a2 < (l0.length : Int) := uA
          obtain ⟨a7, e235, hx235_0, hx235_1, hx235_2, hx235_3, hx235_4⟩ := at_T29 HR0.out a2 a3 a4
          cases e235
          replace a3 := eq_true a3
          replace a4 := eq_true a4
          have a5 : 0 ≤ (a2 : Int) := uA
          have a6 : a2 < (l1.length : Int) := uA
          obtain ⟨a8, e236, hx236_0, hx236_1, hx236_2, hx236_3, hx236_4⟩ := at_T29 HR1.out a2 a5 a6
          cases e236
          replace a5 := eq_true a5
          replace a6 := eq_true a6
          have p237 : 0 ≤ (a2 : Int) := uA
          have q237 : a2 < (l0.length : Int) := uA
          obtain ⟨ad237, e237, hx237_0, hx237_1, hx237_2, hx237_3, hx237_4⟩ := at_T29 HR0.out a2 p237 q237
          obtain rfl : a7 = ad237 := (by injection e237)
          replace p237 := eq_true p237
          replace q237 := eq_true q237
          have p238 : 0 ≤ (a2 : Int) := uA
          have q238 : a2 < (l1.length : Int) := uA
          obtain ⟨ad238, e238, hx238_0, hx238_1, hx238_2, hx238_3, hx238_4⟩ := at_T29 HR1.out a2 p238 q238
          obtain rfl : a8 = ad238 := (by injection e238)
          replace p238 := eq_true p238
          replace q238 := eq_true q238
          have p239 : 0 ≤ (a2 : Int) := uA
          have q239 : a2 < (l0.length : Int) := uA
          obtain ⟨ad239, e239, hx239_0, hx239_1, hx239_2, hx239_3, hx239_4⟩ := at_T29 HR0.out a2 p239 q239
          obtain rfl : a7 = ad239 := (by injection e239)
          replace p239 := eq_true p239
          replace q239 := eq_true q239
          have p240 : 0 ≤ (a2 : Int) := uA
          have q240 : a2 < (l1.length : Int) := uA
          obtain ⟨ad240, e240, hx240_0, hx240_1, hx240_2, hx240_3, hx240_4⟩ := at_T29 HR1.out a2 p240 q240
          obtain rfl : a8 = ad240 := (by injection e240)
          replace p240 := eq_true p240
          replace q240 := eq_true q240
          go_wp2
          repeat (go_quiet (fail); try go_wp2)
          go_meet
          case rel => exact ⟨_, (true), (by first | rfl | (simp; done) | (simp [*]; done)), H', ⟨by have := HK1.out; first | omega | exact Nat.le_refl _⟩, by repeat (first | exact Drawn0.refl _ | apply Drawn0.step)⟩
         rw [if_neg c9] at H
         have c9b0 : (((rd_T29 l0 a2).f2).toList == ((rd_T29 l1 a2).f2).toList) = false := beq_eq_false_iff_ne.mpr c9
         have c9b1 : (((rd_T29 l0 a2).f2).toList != ((rd_T29 l1 a2).f2).toList) = true := bne_iff_ne.mpr c9
         have H' := uZ H
         clear H
         have a3 : 0 ≤ (a2 : Int) := uA
         have a4 : a2 < (l0.length : Int) := uA
         obtain ⟨a7, e235, hx235_0, hx235_1, hx235_2, hx235_3, hx235_4⟩ := at_T29 HR0.out a2 a3 a4
         cases e235
         replace a3 := eq_true a3
         replace a4 := eq_true a4
         have a5 : 0 ≤ (a2 : Int) := uA
         have a6 : a2 < (l1.length : Int) := uA
         obtain ⟨a8, e236, hx236_0, hx236_1, hx236_2, hx236_3, hx236_4⟩ := at_T29 HR1.out a2 a5 a6
         cases e236
         replace a5 := eq_true a5
         replace a6 := eq_true a6
         have p237 : 0 ≤ (a2 : Int) := uA
         have q237 : a2 < (l0.length : Int) := uA
         obtain ⟨ad237, e237, hx237_0, hx237_1, hx237_2, hx237_3, hx237_4⟩ := at_T29 HR0.out a2 p237 q237
         obtain rfl : a7 = ad237 := (by injection e237)
         replace p237 := eq_true p237
         replace q237 := eq_true q237
         have p238 : 0 ≤ (a2 : Int) := uA
         have q238 : a2 < (l1.length : Int) := uA
         obtain ⟨ad238, e238, hx238_0, hx238_1, hx238_2, hx238_3, hx238_4⟩ := at_T29 HR1.out a2 p238 q238
         obtain rfl : a8 = ad238 := (by injection e238)
         replace p238 := eq_true p238
         replace q238 := eq_true q238
         go_wp2
         repeat (go_quiet (fail); try go_wp2)
         go_meet
         case rel => exact ⟨_, (true), (by first | rfl | (simp; done) | (simp [*]; done)), H', ⟨by have := HK1.out; first | omega | exact Nat.le_refl _⟩, by repeat (first | exact Drawn0.refl _ | apply Drawn0.step)⟩
        rw [if_neg c8] at H
        have c8b0 : (((rd_T29 l0 a2).f0) == ((rd_T29 l1 a2).f0)) = false := beq_eq_false_iff_ne.mpr c8
        have c8b1 : (((rd_T29 l0 a2).f0) != ((rd_T29 l1 a2).f0)) = true := bne_iff_ne.mpr c8
        have H' := uZ H
        clear H
        have a3 : 0 ≤ (a2 : Int) := uA
        have a4 : a2 < (l0.length : Int) := uA
        obtain ⟨a7, e235, hx235_0, hx235_1, hx235_2, hx235_3, hx235_4⟩ := at_T29 HR0.out a2 a3 a4
        cases e235
        replace a3 := eq_true a3
        replace a4 := eq_true a4
        have a5 : 0 ≤ (a2 : Int) := uA
        have a6 : a2 < (l1.length : Int) := uA
        obtain ⟨a8, e236, hx236_0, hx236_1, hx236_2, hx236_3, hx236_4⟩ := at_T29 HR1.out a2 a5 a6
        cases e236
        replace a5 := eq_true a5
        replace a6 := eq_true a6
        go_wp2
        repeat (go_quiet (fail); try go_wp2)
        go_meet
        case rel => exact ⟨_, (true), (by first | rfl | (simp; done) | (simp [*]; done)), H', ⟨by have := HK1.out; first | omega | exact Nat.le_refl _⟩, by repeat (first | exact Drawn0.refl _ | apply Drawn0.step)⟩
       rw [if_neg c7] at H
       exact absurd H (by simp)
      rw [if_neg c6] at H
      exact absurd H (by simp)
     case rest =>
      clear HC5
      try clear c1
      try clear p2
      try clear q2
      try clear hx2
      try clear c3
      try clear c3b0
      try clear c3b1
      try clear c3b2
      try clear c4
      try clear c4b0
      try clear c6
      try clear c6b0
      try clear c7
      try clear c7b0
      try clear c8
      try clear c8b0
      try clear c8b1
      try clear c9
      try clear c9b0
      try clear c9b1
      try clear c10
      try clear c10b0
      try clear c10b1
      try clear hx235_0
      try clear hx235_1
      try clear hx235_2
      try clear hx235_3
      try clear hx235_4
      try clear hx236_0
      try clear hx236_1
      try clear hx236_2
      try clear hx236_3
      try clear hx236_4
      try clear hx237_0
      try clear hx237_1
      try clear hx237_2
      try clear hx237_3
      try clear hx237_4
      try clear hx238_0
      try clear hx238_1
      try clear hx238_2
      try clear hx238_3
      try clear hx238_4
      try clear hx239_0
      try clear hx239_1
      try clear hx239_2
      try clear hx239_3
      try clear hx239_4
      try clear hx240_0
      try clear hx240_1
      try clear hx240_2
      try clear hx240_3
      try clear hx240_4
      try clear hx241_0
      try clear hx241_1
      try clear hx241_2
      try clear hx241_3
      try clear hx241_4
      try clear hx242_0
      try clear hx242_1
      try clear hx242_2
      try clear hx242_3
      try clear hx242_4
      try clear p2
      try clear a3
      try clear a5
      try clear p237
      try clear p238
      try clear p239
      try clear p240
      try clear p241
      try clear p242
      try clear a4
      try clear a6
      try clear q237
      try clear q238
      try clear q239
      try clear q240
      try clear q241
      try clear q242
      obtain ⟨kq, x66_4, rfl, HA, HJ4, ⟨mc4, rfl⟩⟩ := hcut
      cases kq with
      | zero => exact absurd HA.out (by simp [switchbacklaw01_alike.j1])
      | succ kj4 =>
       have H := HA.out
       clear HA
       simp only [switchbacklaw01_alike.j1] at H
       by_cases c11 : x66_4 = true
       ·subst c11
        have H1 : (some false) = some r := by rw [if_pos rfl] at H; exact H
        clear H
        have H := H1
        clear H1
        obtain rfl := Option.some.inj H
        go_wp2
        repeat (go_quiet (fail); try go_wp2)
        go_ret
        exact ⟨by first | rfl | (simp; done) | (simp [*]; done), by repeat (first | exact Drawn0.refl _ | apply Drawn0.step)⟩
       replace c11 := Bool.eq_false_iff.mpr c11
       subst c11
       have H1 : (switchbacklaw01_alike.l0 kj4 l0 l1 (wrap64 (a2 + 1))) = some r := by rw [if_neg (show ¬ (false = true) by decide)] at H; exact H
       clear H
       have H := H1
       clear H1
       have H' := uZ H
       clear H
       go_wp2
       repeat (go_quiet (fail); try go_wp2)
       go_roundg kj4
       case measure => have := HK1.out; have := HJ4.out; omega
       case rel => exact ⟨(wrap64 (a2 + 1)), (by first | rfl | (simp; done) | (simp [*]; done)), H', ⟨by have := HK1.out; have := HJ4.out; omega⟩, by repeat (first | exact Drawn0.refl _ | apply Drawn0.step)⟩
    rw [if_neg c4] at H
    have c4b0 : decide (a2 < (l0.length : Int)) = false := decide_eq_false c4
    clear c4
    obtain rfl := Option.some.inj H
    go_wp2
    repeat (go_quiet (fail); try go_wp2)
    go_ret
    exact ⟨by first | rfl | (simp; done) | (simp [*]; done), by repeat (first | exact Drawn0.refl _ | apply Drawn0.step)⟩
 rw [if_neg c3] at H
 have c3b0 : ((l0.length : Int) == (l1.length : Int)) = false := beq_eq_false_iff_ne.mpr c3
 have c3b1 : ((l0.length : Int) != (l1.length : Int)) = true := bne_iff_ne.mpr c3
 have c3b2 : (l0.length == l1.length) = false := by first | simpa using c3 | (simp at c3 ⊢; omega)
 obtain rfl := Option.some.inj H
 go_enter Tryd.func15, Tryd.ntmps15
 go_wp2
 repeat (go_quiet (fail); try go_wp2)
 go_ret
 exact ⟨by first | rfl | (simp; done) | (simp [*]; done), by repeat (first | exact Drawn0.refl _ | apply Drawn0.step)⟩

end Go.Proofs.YtjoboaaambdpoaaDoor.PR01
