-- Written by gp.py for this claim.
import Derived.Test.YtjoboaaambdpoaaDoorPR01x0
import Derived.Test.YtjoboaaambdpoaaDoorPR01x51
import Derived.Test.YtjoboaaambdpoaaDoorPR01x65
namespace Go.Proofs.YtjoboaaambdpoaaDoor.PR01
open Go.RowKit Go.Proofs.YtjoboaaambdpoaaDoorW.PrintWords Go.Proofs.YtjoboaaambdpoaaDoorW.PrintLast Go.Proofs.YtjoboaaambdpoaaDoorW.PrintMore
attribute [local go_sem] max2_int min2_int max_two min_two max_three min_three max_four min_four   -- for this text's walks alone
set_option linter.unusedVariables false
set_option linter.unusedSimpArgs false

namespace q_switchbacklaw01_LexPlaces
theorem uZ {p : Prop} (h : p) : Aside0 p := ⟨h⟩
theorem uR {p q : Prop} (h : p) (g : p → q := by intro h; (with_reducible repeat (first | apply Kd.R_alloc | apply Kd.R_drewN | apply Kd.R_drew)); exact h) : q := g h
theorem uB {p q : Prop} (h : p) (g : p → q := by intro h; repeat (first | (with_reducible first | exact h | apply below_alloc | apply pw_below_drewN | apply below_drew1) | exact h)) : q := g h
theorem uA {p : Prop} [Decidable p] (h : decide p = true := by first | (with_reducible assumption) | assumption) : p := of_decide_eq_true h
theorem zA : type_of% @Kd.R_lower := @Kd.R_lower
theorem zB : type_of% @Kd.R_slice := @Kd.R_slice
theorem zC : type_of% @Kd.R_reads' := @Kd.R_reads'
theorem zD : type_of% @pw_below_drewN := @pw_below_drewN
theorem zE : type_of% @below_alloc := @below_alloc
theorem zF : type_of% @below_drew1 := @below_drew1
theorem zG : type_of% @below_set := @below_set
theorem zH : type_of% @below_size := @below_size
theorem zI : type_of% @below_step := @below_step
end q_switchbacklaw01_LexPlaces
open q_switchbacklaw01_LexPlaces

/-! ### switchbacklaw01_LexPlaces: function 4 -/
mutual
def switchbacklaw01_LexPlaces.l0 : Nat → ByteArray → List (S29) → Int → Int → Option (Bool)
  | 0, _, _, _, _ => none
  | k + 1, x0, x3, x4, x6 => if x6 < (x3.length : Int) then (if 0 ≤ x6 then (if ((((rd_T29 x3 x6).f0) == 0) != (x6 == (wrap64 ((x3.length : Int) - 1)))) = true then (switchbacklaw01_LexPlaces.j1 k x0 x3 x4 x6 true) else (if x6 > 0 then (if 0 ≤ (wrap64 (x6 - 1)) then (if (wrap64 (x6 - 1)) < (x3.length : Int) then (if ((rd_T29 x3 (wrap64 (x6 - 1))).f1) ≥ ((rd_T29 x3 x6).f1) then (switchbacklaw01_LexPlaces.j1 k x0 x3 x4 x6 true) else (switchbacklaw01_LexPlaces.j1 k x0 x3 x4 x6 (decide (((rd_T29 x3 x6).f1) < 0)))) else (none)) else (none)) else (switchbacklaw01_LexPlaces.j1 k x0 x3 x4 x6 (decide (((rd_T29 x3 x6).f1) < 0))))) else (none)) else (if x4 = 0 then (if (x3.length : Int) > 0 then (if 0 ≤ (wrap64 ((x3.length : Int) - 1)) then (if (wrap64 ((x3.length : Int) - 1)) < (x3.length : Int) then (if ((rd_T29 x3 (wrap64 ((x3.length : Int) - 1))).f1) = (x0.size : Int) then ((switchbacklaw01_live.f).bind fun t246 => (some t246)) else (some false)) else (none)) else (none)) else (some false)) else (some false))
def switchbacklaw01_LexPlaces.j1 : Nat → ByteArray → List (S29) → Int → Int → Bool → Option (Bool)
  | 0, _, _, _, _, _ => none
  | k + 1, x0, x3, x4, x6, x74 => if x74 = true then (some false) else (switchbacklaw01_LexPlaces.l0 k x0 x3 x4 (wrap64 (x6 + 1)))
end
def switchbacklaw01_LexPlaces.f (k : Nat) (a0 : ByteArray) : Option (Bool) := (lex_Lex.f a0).bind fun bt234 => (if bt234.2.2 = 0 then (switchbacklaw01_LexPlaces.l0 k a0 bt234.1 bt234.2.1 0) else (if (bt234.1.length : Int) = 0 then (if bt234.2.1 ≥ 0 then (if bt234.2.1 ≤ (a0.size : Int) then ((switchbacklaw01_live.f).bind fun t239 => (some t239)) else (some false)) else (some false)) else (some false)))
theorem switchbacklaw01_LexPlaces.mono_l : ∀ k, (∀ y0 y1 y2 y3, LeO (switchbacklaw01_LexPlaces.l0 k y0 y1 y2 y3) (switchbacklaw01_LexPlaces.l0 (k + 1) y0 y1 y2 y3)) ∧ (∀ y0 y1 y2 y3 y4, LeO (switchbacklaw01_LexPlaces.j1 k y0 y1 y2 y3 y4) (switchbacklaw01_LexPlaces.j1 (k + 1) y0 y1 y2 y3 y4))
  | 0 => ⟨fun _ _ _ _ r h => by simp [switchbacklaw01_LexPlaces.l0] at h, fun _ _ _ _ _ r h => by simp [switchbacklaw01_LexPlaces.j1] at h⟩
  | k + 1 => by
    obtain ⟨ih0, ih1⟩ := switchbacklaw01_LexPlaces.mono_l k
    refine ⟨?_, ?_⟩
    · intro y0 y1 y2 y3
      unfold switchbacklaw01_LexPlaces.l0
      repeat' first
      | (with_reducible exact ih0 _ _ _ _)
      | (with_reducible exact ih1 _ _ _ _ _)
      | (with_reducible exact LeO.refl _)
      | (with_reducible exact LeO.none _)
      | (with_reducible refine LeO.ite ?_ ?_)
      | (with_reducible refine LeO.bind ?_ (fun _ => ?_))
      | exact ih0 _ _ _ _
      | exact ih1 _ _ _ _ _
      | exact LeO.none _
      | refine LeO.ite ?_ ?_
      | refine LeO.bind ?_ (fun _ => ?_)
    · intro y0 y1 y2 y3 y4
      unfold switchbacklaw01_LexPlaces.j1
      repeat' first
      | (with_reducible exact ih0 _ _ _ _)
      | (with_reducible exact ih1 _ _ _ _ _)
      | (with_reducible exact LeO.refl _)
      | (with_reducible exact LeO.none _)
      | (with_reducible refine LeO.ite ?_ ?_)
      | (with_reducible refine LeO.bind ?_ (fun _ => ?_))
      | exact ih0 _ _ _ _
      | exact ih1 _ _ _ _ _
      | exact LeO.none _
      | refine LeO.ite ?_ ?_
      | refine LeO.bind ?_ (fun _ => ?_)
theorem switchbacklaw01_LexPlaces.mono : ∀ a0 k, LeO (switchbacklaw01_LexPlaces.f k a0) (switchbacklaw01_LexPlaces.f (k + 1) a0) := by
  intro a0 k
  obtain ⟨ih0, ih1⟩ := switchbacklaw01_LexPlaces.mono_l k
  unfold switchbacklaw01_LexPlaces.f
  repeat' first
      | (with_reducible exact ih0 _ _ _ _)
      | (with_reducible exact ih1 _ _ _ _ _)
      | (with_reducible exact LeO.refl _)
      | (with_reducible exact LeO.none _)
      | (with_reducible refine LeO.ite ?_ ?_)
      | (with_reducible refine LeO.bind ?_ (fun _ => ?_))
      | exact ih0 _ _ _ _
      | exact ih1 _ _ _ _ _
      | exact LeO.none _
      | refine LeO.ite ?_ ?_
      | refine LeO.bind ?_ (fun _ => ?_)
set_option maxHeartbeats 8000000 in
set_option maxRecDepth 100000 in
theorem switchbacklaw01_LexPlaces.calls (k : Nat) (a0 : ByteArray) (r : Bool) (w : World) (hLaid_ : Aside0 (Laid w)) (h : switchbacklaw01_LexPlaces.f k a0 = some r) :
    Calls Tryd.prog 4 #[.string a0] w fun e w' => e = .returned (.bool r) ∧ Below w.heap.size w w' := by
 have HB := uZ (Below.refl w.heap.size w)
 have H : ((lex_Lex.f a0).bind fun bt234 => (if bt234.2.2 = 0 then (switchbacklaw01_LexPlaces.l0 k a0 bt234.1 bt234.2.1 0) else (if (bt234.1.length : Int) = 0 then (if bt234.2.1 ≥ 0 then (if bt234.2.1 ≤ (a0.size : Int) then ((switchbacklaw01_live.f).bind fun t239 => (some t239)) else (some false)) else (some false)) else (some false)))) = some r := h
 clear h
 replace H := Option.bind_eq_some_iff.mp H
 obtain ⟨⟨a1, a4, a6⟩, A20, H⟩ := H
 replace H : (if a6 = 0 then (switchbacklaw01_LexPlaces.l0 k a0 a1 a4 0) else (if (a1.length : Int) = 0 then (if a4 ≥ 0 then (if a4 ≤ (a0.size : Int) then ((switchbacklaw01_live.f).bind fun t239 => (some t239)) else (some false)) else (some false)) else (some false))) = some r := H
 have A2 := uZ A20
 clear A20
 by_cases c3 : a6 = 0
 ·rw [if_pos c3] at H
  have c3b0 : (a6 == 0) = true := beq_iff_eq.mpr c3
  have c3b1 : (a6 != 0) = false := bne_eq_false_iff_eq.mpr c3
  clear c3
  have H' := uZ H
  clear H
  go_enter Tryd.func4, Tryd.ntmps4
  go_wp2_with (first | (go_at_call 11; (with_reducible refine (lex_Lex.calls a0 a1 a4 a6 _ (uZ (hLaid_.out.below (by repeat (first | (with_reducible first | exact HB.out | apply zE | apply zD | apply zF) | refine zG ?_ (Aside0.out (by assumption)) | exact HB.out)))) A2.out).mono ?_); rintro e w4 ⟨ab, rfl, ho0, hb⟩; have n0_ := uZ (zA ho0 (zH (uB HB.out))); have n1_ := uZ (zI (uB HB.out) hb); clear HB; have a3 := n0_; have HB := n1_; clear n0_ n1_; (try clear hb); (try clear hb2); (try clear hk); (try clear hi); (try clear ho0)))
  repeat (go_quiet (first | (go_at_call 11; (with_reducible refine (lex_Lex.calls a0 a1 a4 a6 _ (uZ (hLaid_.out.below (by repeat (first | (with_reducible first | exact HB.out | apply zE | apply zD | apply zF) | refine zG ?_ (Aside0.out (by assumption)) | exact HB.out)))) A2.out).mono ?_); rintro e w4 ⟨ab, rfl, ho0, hb⟩; have n0_ := uZ (zA ho0 (zH (uB HB.out))); have n1_ := uZ (zI (uB HB.out) hb); clear HB; have a3 := n0_; have HB := n1_; clear n0_ n1_; (try clear hb); (try clear hb2); (try clear hk); (try clear hi); (try clear ho0))); try go_wp2_with (first | (go_at_call 11; (with_reducible refine (lex_Lex.calls a0 a1 a4 a6 _ (uZ (hLaid_.out.below (by repeat (first | (with_reducible first | exact HB.out | apply zE | apply zD | apply zF) | refine zG ?_ (Aside0.out (by assumption)) | exact HB.out)))) A2.out).mono ?_); rintro e w4 ⟨ab, rfl, ho0, hb⟩; have n0_ := uZ (zA ho0 (zH (uB HB.out))); have n1_ := uZ (zI (uB HB.out) hb); clear HB; have a3 := n0_; have HB := n1_; clear n0_ n1_; (try clear hb); (try clear hb2); (try clear hk); (try clear hi); (try clear ho0))))
  go_loopg [6] k (fun kq v6 w' => ∃ (a2 : Int), v6 = .int .i64 a2 ∧ Aside0 (switchbacklaw01_LexPlaces.l0 kq a0 a1 a4 a2 = some r) ∧ Aside0 (kq ≤ k) ∧ Aside0 (Kd.R k29 29 w' w.heap.size (fun _ => True) ab a1) ∧ Aside0 (Below w.heap.size w w'))
  case atStart => exact ⟨(0), (by first | rfl | (simp; done) | (simp [*]; done)), H', ⟨Nat.le_refl _⟩, ⟨uR a3.out⟩, ⟨uB HB.out⟩⟩
  case round =>
   clear H'
   try clear p2
   try clear c3
   try clear c3b0
   try clear c3b1
   try clear c4
   obtain ⟨a2, rfl, HA, HK1, a5, HB⟩ := hrel
   cases gk with
   | zero => exact absurd HA.out (by simp [switchbacklaw01_LexPlaces.l0])
   | succ k1 =>
    have H := HA.out
    clear HA
    simp only [switchbacklaw01_LexPlaces.l0] at H
    by_cases c5 : a2 < (a1.length : Int)
    ·rw [if_pos c5] at H
     have c5b0 : decide (a2 < (a1.length : Int)) = true := decide_eq_true c5
     clear c5
     have HC6 := uZ H
     clear H
     obtain ⟨Ao7, co7, eo7⟩ := zB a5.out
     subst eo7
     go_upto_region 7 with (fail)
     repeat (go_quiet (fail); go_upto_region 7 with (fail))
     go_cut [74] (fun v74 wc => ∃ (kq : Nat) (x74_5 : Bool), v74 = .bool x74_5 ∧ Aside0 (switchbacklaw01_LexPlaces.j1 kq a0 a1 a4 a2 x74_5 = some r) ∧ Aside0 (kq ≤ k1) ∧ Aside0 (Kd.R k29 29 wc w.heap.size (fun _ => True) (.slice Ao7 a1.length co7) a1) ∧ Aside0 (Below w.heap.size w wc))
     case first =>
      have H := HC6.out
      clear HC6
      by_cases c8 : 0 ≤ a2
      ·rw [if_pos c8] at H
       have c8b0 : decide (0 ≤ a2) = true := decide_eq_true c8
       clear c8
       (first | rw [c8b0] | (simp only [i64_w, i32_w]; rw [c8b0]) | skip)
       by_cases c9 : ((((rd_T29 a1 a2).f0) == 0) != (a2 == (wrap64 ((a1.length : Int) - 1)))) = true
       ·rw [if_pos c9] at H
        have c9b0 : ((((rd_T29 a1 a2).f0) == 0) != (a2 == (wrap64 ((a1.length : Int) - 1)))) = true := c9
        (try (have c9b1 : decide ((((rd_T29 a1 a2).f0) == 0) = (a2 == (wrap64 ((a1.length : Int) - 1)))) = false := by simpa using c9))
        (try (have c9b2 : ((((rd_T29 a1 a2).f0) == 0) == (a2 == (wrap64 ((a1.length : Int) - 1)))) = false := by simpa using c9))
        (try (have c9b3 : ¬ ((((rd_T29 a1 a2).f0) == 0) = (a2 == (wrap64 ((a1.length : Int) - 1)))) := by simpa using c9))
        clear c9
        have H' := uZ H
        clear H
        have a9 : 0 ≤ (a2 : Int) := uA
        have aa : a2 < (a1.length : Int) := uA
        obtain ⟨ac, e240, hx240_0, hx240_1, hx240_2, hx240_3, hx240_4⟩ := at_T29 (zC a5.out).2.2 a2 a9 aa
        cases e240
        replace a9 := eq_true a9
        replace aa := eq_true aa
        go_wp2
        repeat (go_quiet (fail); try go_wp2)
        go_meet
        case rel => exact ⟨_, (true), (by first | rfl | (simp; done) | (simp [*]; done)), H', ⟨by have := HK1.out; first | omega | exact Nat.le_refl _⟩, ⟨uR a5.out⟩, ⟨uB HB.out⟩⟩
       rw [if_neg c9] at H
       have c9b0 : ((((rd_T29 a1 a2).f0) == 0) != (a2 == (wrap64 ((a1.length : Int) - 1)))) = false := by simpa using c9
       (try (have c9b1 : decide ((((rd_T29 a1 a2).f0) == 0) = (a2 == (wrap64 ((a1.length : Int) - 1)))) = true := by simpa using c9))
       (try (have c9b2 : ((((rd_T29 a1 a2).f0) == 0) == (a2 == (wrap64 ((a1.length : Int) - 1)))) = true := by simpa using c9))
       clear c9
       by_cases c10 : a2 > 0
       ·rw [if_pos c10] at H
        have c10b0 : decide (0 < a2) = true := decide_eq_true c10
        clear c10
        obtain ⟨a8, hji11⟩ : ∃ j_ : Int, (wrap64 (a2 - 1)) = j_ := ⟨_, rfl⟩
        replace H : (if 0 ≤ (a8) then (if (a8) < (a1.length : Int) then (if ((rd_T29 a1 (a8)).f1) ≥ ((rd_T29 a1 a2).f1) then (switchbacklaw01_LexPlaces.j1 k1 a0 a1 a4 a2 true) else (switchbacklaw01_LexPlaces.j1 k1 a0 a1 a4 a2 (decide (((rd_T29 a1 a2).f1) < 0)))) else (none)) else (none)) = some r := by first | (rw [hji11] at H; exact H) | (simp only [hji11] at H ⊢; exact H)
        have hji11w : (IntKind.i64.wrap (a2 - 1)) = a8 := (i64_w _).trans hji11
        by_cases c12 : 0 ≤ (a8)
        ·rw [if_pos c12] at H
         have c12b0 : decide (0 ≤ (a8)) = true := decide_eq_true c12
         clear c12
         by_cases c13 : (a8) < (a1.length : Int)
         ·rw [if_pos c13] at H
          have c13b0 : decide ((a8) < (a1.length : Int)) = true := decide_eq_true c13
          clear c13
          by_cases c14 : ((rd_T29 a1 (a8)).f1) ≥ ((rd_T29 a1 a2).f1)
          ·rw [if_pos c14] at H
           have c14b0 : decide (((rd_T29 a1 a2).f1) ≤ ((rd_T29 a1 (a8)).f1)) = true := decide_eq_true c14
           clear c14
           have H' := uZ H
           clear H
           have a9 : 0 ≤ (a2 : Int) := uA
           have aa : a2 < (a1.length : Int) := uA
           obtain ⟨ac, e240, hx240_0, hx240_1, hx240_2, hx240_3, hx240_4⟩ := at_T29 (zC a5.out).2.2 a2 a9 aa
           cases e240
           replace a9 := eq_true a9
           replace aa := eq_true aa
           have p241 : 0 ≤ ((a8) : Int) := uA
           have q241 : (a8) < (a1.length : Int) := uA
           obtain ⟨ad241, e241, hx241_0, hx241_1, hx241_2, hx241_3, hx241_4⟩ := at_T29 (zC a5.out).2.2 (a8) p241 q241
           obtain rfl : ac = ad241 := (by injection e241)
           replace p241 := eq_true p241
           replace q241 := eq_true q241
           have p242 : 0 ≤ (a2 : Int) := uA
           have q242 : a2 < (a1.length : Int) := uA
           obtain ⟨ad242, e242, hx242_0, hx242_1, hx242_2, hx242_3, hx242_4⟩ := at_T29 (zC a5.out).2.2 a2 p242 q242
           obtain rfl : ac = ad242 := (by injection e242)
           replace p242 := eq_true p242
           replace q242 := eq_true q242
           go_wp2
           repeat (go_quiet (fail); try go_wp2)
           go_meet
           case rel => exact ⟨_, (true), (by first | rfl | (simp; done) | (simp [*]; done)), H', ⟨by have := HK1.out; first | omega | exact Nat.le_refl _⟩, ⟨uR a5.out⟩, ⟨uB HB.out⟩⟩
          rw [if_neg c14] at H
          have c14b0 : decide (((rd_T29 a1 a2).f1) ≤ ((rd_T29 a1 (a8)).f1)) = false := decide_eq_false c14
          clear c14
          have H' := uZ H
          clear H
          have a9 : 0 ≤ (a2 : Int) := uA
          have aa : a2 < (a1.length : Int) := uA
          obtain ⟨ac, e240, hx240_0, hx240_1, hx240_2, hx240_3, hx240_4⟩ := at_T29 (zC a5.out).2.2 a2 a9 aa
          cases e240
          replace a9 := eq_true a9
          replace aa := eq_true aa
          have p241 : 0 ≤ ((a8) : Int) := uA
          have q241 : (a8) < (a1.length : Int) := uA
          obtain ⟨ad241, e241, hx241_0, hx241_1, hx241_2, hx241_3, hx241_4⟩ := at_T29 (zC a5.out).2.2 (a8) p241 q241
          obtain rfl : ac = ad241 := (by injection e241)
          replace p241 := eq_true p241
          replace q241 := eq_true q241
          have p242 : 0 ≤ (a2 : Int) := uA
          have q242 : a2 < (a1.length : Int) := uA
          obtain ⟨ad242, e242, hx242_0, hx242_1, hx242_2, hx242_3, hx242_4⟩ := at_T29 (zC a5.out).2.2 a2 p242 q242
          obtain rfl : ac = ad242 := (by injection e242)
          replace p242 := eq_true p242
          replace q242 := eq_true q242
          have p243 : 0 ≤ (a2 : Int) := uA
          have q243 : a2 < (a1.length : Int) := uA
          obtain ⟨ad243, e243, hx243_0, hx243_1, hx243_2, hx243_3, hx243_4⟩ := at_T29 (zC a5.out).2.2 a2 p243 q243
          obtain rfl : ac = ad243 := (by injection e243)
          replace p243 := eq_true p243
          replace q243 := eq_true q243
          go_wp2
          repeat (go_quiet (fail); try go_wp2)
          go_meet
          case rel => exact ⟨_, (decide (((rd_T29 a1 a2).f1) < 0)), (by first | rfl | (simp; done) | (simp [*]; done)), H', ⟨by have := HK1.out; first | omega | exact Nat.le_refl _⟩, ⟨uR a5.out⟩, ⟨uB HB.out⟩⟩
         rw [if_neg c13] at H
         exact absurd H (by simp)
        rw [if_neg c12] at H
        exact absurd H (by simp)
       rw [if_neg c10] at H
       have c10b0 : decide (0 < a2) = false := decide_eq_false c10
       clear c10
       have H' := uZ H
       clear H
       have a9 : 0 ≤ (a2 : Int) := uA
       have aa : a2 < (a1.length : Int) := uA
       obtain ⟨ac, e240, hx240_0, hx240_1, hx240_2, hx240_3, hx240_4⟩ := at_T29 (zC a5.out).2.2 a2 a9 aa
       cases e240
       replace a9 := eq_true a9
       replace aa := eq_true aa
       have p244 : 0 ≤ (a2 : Int) := uA
       have q244 : a2 < (a1.length : Int) := uA
       obtain ⟨ad244, e244, hx244_0, hx244_1, hx244_2, hx244_3, hx244_4⟩ := at_T29 (zC a5.out).2.2 a2 p244 q244
       obtain rfl : ac = ad244 := (by injection e244)
       replace p244 := eq_true p244
       replace q244 := eq_true q244
       go_wp2
       repeat (go_quiet (fail); try go_wp2)
       go_meet
       case rel => exact ⟨_, (decide (((rd_T29 a1 a2).f1) < 0)), (by first | rfl | (simp; done) | (simp [*]; done)), H', ⟨by have := HK1.out; first | omega | exact Nat.le_refl _⟩, ⟨uR a5.out⟩, ⟨uB HB.out⟩⟩
      rw [if_neg c8] at H
      exact absurd H (by simp)
     case rest =>
      clear HC6
      try clear c1
      try clear p2
      try clear q2
      try clear hx2
      try clear c3
      try clear c3b0
      try clear c3b1
      try clear c4
      try clear c5
      try clear c5b0
      try clear p6
      try clear c8
      try clear c8b0
      try clear c9
      try clear c9b0
      try clear c9b1
      try clear c9b2
      try clear c10
      try clear c10b0
      try clear c12
      try clear c12b0
      try clear c13
      try clear c13b0
      try clear c14
      try clear c14b0
      try clear hx240_0
      try clear hx240_1
      try clear hx240_2
      try clear hx240_3
      try clear hx240_4
      try clear hx241_0
      try clear hx241_1
      try clear hx241_2
      try clear hx241_3
      try clear hx241_4
      try clear hx242_0
      try clear hx242_1
      try clear hx242_2
      try clear hx242_3
      try clear hx242_4
      try clear hx243_0
      try clear hx243_1
      try clear hx243_2
      try clear hx243_3
      try clear hx243_4
      try clear hx244_0
      try clear hx244_1
      try clear hx244_2
      try clear hx244_3
      try clear hx244_4
      try clear p2
      try clear a9
      try clear p241
      try clear p242
      try clear p243
      try clear p244
      try clear aa
      try clear q241
      try clear q242
      try clear q243
      try clear q244
      obtain ⟨kq, x74_5, rfl, HA, HJ5, a5, HB⟩ := hcut
      cases kq with
      | zero => exact absurd HA.out (by simp [switchbacklaw01_LexPlaces.j1])
      | succ kj5 =>
       have H := HA.out
       clear HA
       simp only [switchbacklaw01_LexPlaces.j1] at H
       by_cases c15 : x74_5 = true
       ·subst c15
        have H1 : (some false) = some r := by rw [if_pos rfl] at H; exact H
        clear H
        have H := H1
        clear H1
        obtain rfl := Option.some.inj H
        go_wp2
        repeat (go_quiet (fail); try go_wp2)
        go_ret
        exact ⟨by first | rfl | (simp [errW_none, errW_some] <;> rfl) | (simp [*, errW_none, errW_some] <;> rfl), by repeat (first | (with_reducible first | exact HB.out | apply zE | apply zD | apply zF) | exact HB.out)⟩
       replace c15 := Bool.eq_false_iff.mpr c15
       subst c15
       have H1 : (switchbacklaw01_LexPlaces.l0 kj5 a0 a1 a4 (wrap64 (a2 + 1))) = some r := by rw [if_neg (show ¬ (false = true) by decide)] at H; exact H
       clear H
       have H := H1
       clear H1
       have H' := uZ H
       clear H
       go_wp2
       repeat (go_quiet (fail); try go_wp2)
       go_roundg kj5
       case measure => have := HK1.out; have := HJ5.out; omega
       case rel => exact ⟨(wrap64 (a2 + 1)), (by first | rfl | (simp; done) | (simp [*]; done)), H', ⟨by have := HK1.out; have := HJ5.out; omega⟩, ⟨uR a5.out⟩, ⟨uB HB.out⟩⟩
    rw [if_neg c5] at H
    have c5b0 : decide (a2 < (a1.length : Int)) = false := decide_eq_false c5
    clear c5
    by_cases c16 : a4 = 0
    ·rw [if_pos c16] at H
     have c16b0 : (a4 == 0) = true := beq_iff_eq.mpr c16
     have c16b1 : (a4 != 0) = false := bne_eq_false_iff_eq.mpr c16
     clear c16
     by_cases c17 : (a1.length : Int) > 0
     ·rw [if_pos c17] at H
      have c17b0 : decide (0 < (a1.length : Int)) = true := decide_eq_true c17
      have c17b1 : decide (0 < a1.length) = true := decide_eq_true (by omega)
      clear c17
      obtain ⟨a7, hji18⟩ : ∃ j_ : Int, (wrap64 ((a1.length : Int) - 1)) = j_ := ⟨_, rfl⟩
      replace H : (if 0 ≤ (a7) then (if (a7) < (a1.length : Int) then (if ((rd_T29 a1 (a7)).f1) = (a0.size : Int) then ((switchbacklaw01_live.f).bind fun t246 => (some t246)) else (some false)) else (none)) else (none)) = some r := by first | (rw [hji18] at H; exact H) | (simp only [hji18] at H ⊢; exact H)
      have hji18w : (IntKind.i64.wrap ((a1.length : Int) - 1)) = a7 := (i64_w _).trans hji18
      by_cases c19 : 0 ≤ (a7)
      ·rw [if_pos c19] at H
       have c19b0 : decide (0 ≤ (a7)) = true := decide_eq_true c19
       clear c19
       by_cases c20 : (a7) < (a1.length : Int)
       ·rw [if_pos c20] at H
        have c20b0 : decide ((a7) < (a1.length : Int)) = true := decide_eq_true c20
        clear c20
        by_cases c21 : ((rd_T29 a1 (a7)).f1) = (a0.size : Int)
        ·rw [if_pos c21] at H
         have c21b0 : (((rd_T29 a1 (a7)).f1) == (a0.size : Int)) = true := beq_iff_eq.mpr c21
         have c21b1 : (((rd_T29 a1 (a7)).f1) != (a0.size : Int)) = false := bne_eq_false_iff_eq.mpr c21
         clear c21
         replace H := Option.bind_eq_some_iff.mp H
         obtain ⟨t246, A220, H⟩ := H
         replace H : (some t246) = some r := H
         have A22 := uZ A220
         clear A220
         obtain rfl := Option.some.inj H
         obtain ⟨Ao23, co23, eo23⟩ := zB a5.out
         subst eo23
         have p245 : 0 ≤ ((a7) : Int) := uA
         have q245 : (a7) < (a1.length : Int) := uA
         obtain ⟨ad245, e245, hx245_0, hx245_1, hx245_2, hx245_3, hx245_4⟩ := at_T29 (zC a5.out).2.2 (a7) p245 q245
         cases e245
         replace p245 := eq_true p245
         replace q245 := eq_true q245
         go_wp2_with (first | (go_at_call 14; (with_reducible refine (switchbacklaw01_live.calls  t246 _ (uZ (hLaid_.out.below (by repeat (first | (with_reducible first | exact HB.out | apply zE | apply zD | apply zF) | refine zG ?_ (Aside0.out (by assumption)) | exact HB.out)))) A22.out).mono ?_); rintro e w24 ⟨rfl, hb⟩; have n0_ := uZ (Kd.R_below (uR a5.out) hb); have n1_ := uZ (zI (uB HB.out) hb); clear a5; clear HB; have a5 := n0_; have HB := n1_; clear n0_ n1_; (try clear hb); (try clear hb2); (try clear hk); (try clear hi)))
         repeat (go_quiet (first | (go_at_call 14; (with_reducible refine (switchbacklaw01_live.calls  t246 _ (uZ (hLaid_.out.below (by repeat (first | (with_reducible first | exact HB.out | apply zE | apply zD | apply zF) | refine zG ?_ (Aside0.out (by assumption)) | exact HB.out)))) A22.out).mono ?_); rintro e w24 ⟨rfl, hb⟩; have n0_ := uZ (Kd.R_below (uR a5.out) hb); have n1_ := uZ (zI (uB HB.out) hb); clear a5; clear HB; have a5 := n0_; have HB := n1_; clear n0_ n1_; (try clear hb); (try clear hb2); (try clear hk); (try clear hi))); try go_wp2_with (first | (go_at_call 14; (with_reducible refine (switchbacklaw01_live.calls  t246 _ (uZ (hLaid_.out.below (by repeat (first | (with_reducible first | exact HB.out | apply zE | apply zD | apply zF) | refine zG ?_ (Aside0.out (by assumption)) | exact HB.out)))) A22.out).mono ?_); rintro e w24 ⟨rfl, hb⟩; have n0_ := uZ (Kd.R_below (uR a5.out) hb); have n1_ := uZ (zI (uB HB.out) hb); clear a5; clear HB; have a5 := n0_; have HB := n1_; clear n0_ n1_; (try clear hb); (try clear hb2); (try clear hk); (try clear hi))))
         go_ret
         exact ⟨by first | rfl | (simp [errW_none, errW_some] <;> rfl) | (simp only [← hji18]; first | rfl | (simp [errW_none, errW_some] <;> rfl)) | (simp [*, errW_none, errW_some] <;> rfl), by repeat (first | (with_reducible first | exact HB.out | apply zE | apply zD | apply zF) | exact HB.out)⟩
        rw [if_neg c21] at H
        have c21b0 : (((rd_T29 a1 (a7)).f1) == (a0.size : Int)) = false := beq_eq_false_iff_ne.mpr c21
        have c21b1 : (((rd_T29 a1 (a7)).f1) != (a0.size : Int)) = true := bne_iff_ne.mpr c21
        obtain rfl := Option.some.inj H
        obtain ⟨Ao25, co25, eo25⟩ := zB a5.out
        subst eo25
        have p245 : 0 ≤ ((a7) : Int) := uA
        have q245 : (a7) < (a1.length : Int) := uA
        obtain ⟨ad245, e245, hx245_0, hx245_1, hx245_2, hx245_3, hx245_4⟩ := at_T29 (zC a5.out).2.2 (a7) p245 q245
        cases e245
        replace p245 := eq_true p245
        replace q245 := eq_true q245
        go_wp2
        repeat (go_quiet (fail); try go_wp2)
        go_ret
        exact ⟨by first | rfl | (simp [errW_none, errW_some] <;> rfl) | (simp only [← hji18]; first | rfl | (simp [errW_none, errW_some] <;> rfl)) | (simp [*, errW_none, errW_some] <;> rfl), by repeat (first | (with_reducible first | exact HB.out | apply zE | apply zD | apply zF) | exact HB.out)⟩
       rw [if_neg c20] at H
       exact absurd H (by simp)
      rw [if_neg c19] at H
      exact absurd H (by simp)
     rw [if_neg c17] at H
     have c17b0 : decide (0 < (a1.length : Int)) = false := decide_eq_false c17
     have c17b1 : decide (0 < a1.length) = false := decide_eq_false (by omega)
     clear c17
     obtain rfl := Option.some.inj H
     obtain ⟨Ao26, co26, eo26⟩ := zB a5.out
     subst eo26
     go_wp2
     repeat (go_quiet (fail); try go_wp2)
     go_ret
     exact ⟨by first | rfl | (simp [errW_none, errW_some] <;> rfl) | (simp [*, errW_none, errW_some] <;> rfl), by repeat (first | (with_reducible first | exact HB.out | apply zE | apply zD | apply zF) | exact HB.out)⟩
    rw [if_neg c16] at H
    have c16b0 : (a4 == 0) = false := beq_eq_false_iff_ne.mpr c16
    have c16b1 : (a4 != 0) = true := bne_iff_ne.mpr c16
    obtain rfl := Option.some.inj H
    obtain ⟨Ao27, co27, eo27⟩ := zB a5.out
    subst eo27
    go_wp2
    repeat (go_quiet (fail); try go_wp2)
    go_ret
    exact ⟨by first | rfl | (simp [errW_none, errW_some] <;> rfl) | (simp [*, errW_none, errW_some] <;> rfl), by repeat (first | (with_reducible first | exact HB.out | apply zE | apply zD | apply zF) | exact HB.out)⟩
 rw [if_neg c3] at H
 have c3b0 : (a6 == 0) = false := beq_eq_false_iff_ne.mpr c3
 have c3b1 : (a6 != 0) = true := bne_iff_ne.mpr c3
 by_cases c28 : (a1.length : Int) = 0
 ·rw [if_pos c28] at H
  have c28b0 : ((a1.length : Int) == 0) = true := beq_iff_eq.mpr c28
  have c28b1 : ((a1.length : Int) != 0) = false := bne_eq_false_iff_eq.mpr c28
  clear c28
  by_cases c29 : a4 ≥ 0
  ·rw [if_pos c29] at H
   have c29b0 : decide (0 ≤ a4) = true := decide_eq_true c29
   clear c29
   by_cases c30 : a4 ≤ (a0.size : Int)
   ·rw [if_pos c30] at H
    have c30b0 : decide (a4 ≤ (a0.size : Int)) = true := decide_eq_true c30
    clear c30
    replace H := Option.bind_eq_some_iff.mp H
    obtain ⟨t239, A310, H⟩ := H
    replace H : (some t239) = some r := H
    have A31 := uZ A310
    clear A310
    obtain rfl := Option.some.inj H
    go_enter Tryd.func4, Tryd.ntmps4
    go_wp2_with (first | (go_at_call 11; (with_reducible refine (lex_Lex.calls a0 a1 a4 a6 _ (uZ (hLaid_.out.below (by repeat (first | (with_reducible first | exact HB.out | apply zE | apply zD | apply zF) | refine zG ?_ (Aside0.out (by assumption)) | exact HB.out)))) A2.out).mono ?_); rintro e w32 ⟨ab, rfl, ho0, hb⟩; have n0_ := uZ (zA ho0 (zH (uB HB.out))); have n1_ := uZ (zI (uB HB.out) hb); clear HB; have a3 := n0_; have HB := n1_; clear n0_ n1_; (try clear hb); (try clear hb2); (try clear hk); (try clear hi); (try clear ho0); obtain ⟨Ao33, co33, eo33⟩ := zB a3.out; subst eo33) | (go_at_call 14; (with_reducible refine (switchbacklaw01_live.calls  t239 _ (uZ (hLaid_.out.below (by repeat (first | (with_reducible first | exact HB.out | apply zE | apply zD | apply zF) | refine zG ?_ (Aside0.out (by assumption)) | exact HB.out)))) A31.out).mono ?_); rintro e w34 ⟨rfl, hb⟩; have n0_ := uZ (Kd.R_below (uR a3.out) hb); have n1_ := uZ (zI (uB HB.out) hb); clear a3; clear HB; have a3 := n0_; have HB := n1_; clear n0_ n1_; (try clear hb); (try clear hb2); (try clear hk); (try clear hi)))
    repeat (go_quiet (first | (go_at_call 11; (with_reducible refine (lex_Lex.calls a0 a1 a4 a6 _ (uZ (hLaid_.out.below (by repeat (first | (with_reducible first | exact HB.out | apply zE | apply zD | apply zF) | refine zG ?_ (Aside0.out (by assumption)) | exact HB.out)))) A2.out).mono ?_); rintro e w32 ⟨ab, rfl, ho0, hb⟩; have n0_ := uZ (zA ho0 (zH (uB HB.out))); have n1_ := uZ (zI (uB HB.out) hb); clear HB; have a3 := n0_; have HB := n1_; clear n0_ n1_; (try clear hb); (try clear hb2); (try clear hk); (try clear hi); (try clear ho0); obtain ⟨Ao33, co33, eo33⟩ := zB a3.out; subst eo33) | (go_at_call 14; (with_reducible refine (switchbacklaw01_live.calls  t239 _ (uZ (hLaid_.out.below (by repeat (first | (with_reducible first | exact HB.out | apply zE | apply zD | apply zF) | refine zG ?_ (Aside0.out (by assumption)) | exact HB.out)))) A31.out).mono ?_); rintro e w34 ⟨rfl, hb⟩; have n0_ := uZ (Kd.R_below (uR a3.out) hb); have n1_ := uZ (zI (uB HB.out) hb); clear a3; clear HB; have a3 := n0_; have HB := n1_; clear n0_ n1_; (try clear hb); (try clear hb2); (try clear hk); (try clear hi))); try go_wp2_with (first | (go_at_call 11; (with_reducible refine (lex_Lex.calls a0 a1 a4 a6 _ (uZ (hLaid_.out.below (by repeat (first | (with_reducible first | exact HB.out | apply zE | apply zD | apply zF) | refine zG ?_ (Aside0.out (by assumption)) | exact HB.out)))) A2.out).mono ?_); rintro e w32 ⟨ab, rfl, ho0, hb⟩; have n0_ := uZ (zA ho0 (zH (uB HB.out))); have n1_ := uZ (zI (uB HB.out) hb); clear HB; have a3 := n0_; have HB := n1_; clear n0_ n1_; (try clear hb); (try clear hb2); (try clear hk); (try clear hi); (try clear ho0); obtain ⟨Ao33, co33, eo33⟩ := zB a3.out; subst eo33) | (go_at_call 14; (with_reducible refine (switchbacklaw01_live.calls  t239 _ (uZ (hLaid_.out.below (by repeat (first | (with_reducible first | exact HB.out | apply zE | apply zD | apply zF) | refine zG ?_ (Aside0.out (by assumption)) | exact HB.out)))) A31.out).mono ?_); rintro e w34 ⟨rfl, hb⟩; have n0_ := uZ (Kd.R_below (uR a3.out) hb); have n1_ := uZ (zI (uB HB.out) hb); clear a3; clear HB; have a3 := n0_; have HB := n1_; clear n0_ n1_; (try clear hb); (try clear hb2); (try clear hk); (try clear hi))))
    go_ret
    exact ⟨by first | rfl | (simp [errW_none, errW_some] <;> rfl) | (simp [*, errW_none, errW_some] <;> rfl), by repeat (first | (with_reducible first | exact HB.out | apply zE | apply zD | apply zF) | exact HB.out)⟩
   rw [if_neg c30] at H
   have c30b0 : decide (a4 ≤ (a0.size : Int)) = false := decide_eq_false c30
   clear c30
   obtain rfl := Option.some.inj H
   go_enter Tryd.func4, Tryd.ntmps4
   go_wp2_with (first | (go_at_call 11; (with_reducible refine (lex_Lex.calls a0 a1 a4 a6 _ (uZ (hLaid_.out.below (by repeat (first | (with_reducible first | exact HB.out | apply zE | apply zD | apply zF) | refine zG ?_ (Aside0.out (by assumption)) | exact HB.out)))) A2.out).mono ?_); rintro e w35 ⟨ab, rfl, ho0, hb⟩; have n0_ := uZ (zA ho0 (zH (uB HB.out))); have n1_ := uZ (zI (uB HB.out) hb); clear HB; have a3 := n0_; have HB := n1_; clear n0_ n1_; (try clear hb); (try clear hb2); (try clear hk); (try clear hi); (try clear ho0); obtain ⟨Ao36, co36, eo36⟩ := zB a3.out; subst eo36))
   repeat (go_quiet (first | (go_at_call 11; (with_reducible refine (lex_Lex.calls a0 a1 a4 a6 _ (uZ (hLaid_.out.below (by repeat (first | (with_reducible first | exact HB.out | apply zE | apply zD | apply zF) | refine zG ?_ (Aside0.out (by assumption)) | exact HB.out)))) A2.out).mono ?_); rintro e w35 ⟨ab, rfl, ho0, hb⟩; have n0_ := uZ (zA ho0 (zH (uB HB.out))); have n1_ := uZ (zI (uB HB.out) hb); clear HB; have a3 := n0_; have HB := n1_; clear n0_ n1_; (try clear hb); (try clear hb2); (try clear hk); (try clear hi); (try clear ho0); obtain ⟨Ao36, co36, eo36⟩ := zB a3.out; subst eo36)); try go_wp2_with (first | (go_at_call 11; (with_reducible refine (lex_Lex.calls a0 a1 a4 a6 _ (uZ (hLaid_.out.below (by repeat (first | (with_reducible first | exact HB.out | apply zE | apply zD | apply zF) | refine zG ?_ (Aside0.out (by assumption)) | exact HB.out)))) A2.out).mono ?_); rintro e w35 ⟨ab, rfl, ho0, hb⟩; have n0_ := uZ (zA ho0 (zH (uB HB.out))); have n1_ := uZ (zI (uB HB.out) hb); clear HB; have a3 := n0_; have HB := n1_; clear n0_ n1_; (try clear hb); (try clear hb2); (try clear hk); (try clear hi); (try clear ho0); obtain ⟨Ao36, co36, eo36⟩ := zB a3.out; subst eo36)))
   go_ret
   exact ⟨by first | rfl | (simp [errW_none, errW_some] <;> rfl) | (simp [*, errW_none, errW_some] <;> rfl), by repeat (first | (with_reducible first | exact HB.out | apply zE | apply zD | apply zF) | exact HB.out)⟩
  rw [if_neg c29] at H
  have c29b0 : decide (0 ≤ a4) = false := decide_eq_false c29
  clear c29
  obtain rfl := Option.some.inj H
  go_enter Tryd.func4, Tryd.ntmps4
  go_wp2_with (first | (go_at_call 11; (with_reducible refine (lex_Lex.calls a0 a1 a4 a6 _ (uZ (hLaid_.out.below (by repeat (first | (with_reducible first | exact HB.out | apply zE | apply zD | apply zF) | refine zG ?_ (Aside0.out (by assumption)) | exact HB.out)))) A2.out).mono ?_); rintro e w37 ⟨ab, rfl, ho0, hb⟩; have n0_ := uZ (zA ho0 (zH (uB HB.out))); have n1_ := uZ (zI (uB HB.out) hb); clear HB; have a3 := n0_; have HB := n1_; clear n0_ n1_; (try clear hb); (try clear hb2); (try clear hk); (try clear hi); (try clear ho0); obtain ⟨Ao38, co38, eo38⟩ := zB a3.out; subst eo38))
  repeat (go_quiet (first | (go_at_call 11; (with_reducible refine (lex_Lex.calls a0 a1 a4 a6 _ (uZ (hLaid_.out.below (by repeat (first | (with_reducible first | exact HB.out | apply zE | apply zD | apply zF) | refine zG ?_ (Aside0.out (by assumption)) | exact HB.out)))) A2.out).mono ?_); rintro e w37 ⟨ab, rfl, ho0, hb⟩; have n0_ := uZ (zA ho0 (zH (uB HB.out))); have n1_ := uZ (zI (uB HB.out) hb); clear HB; have a3 := n0_; have HB := n1_; clear n0_ n1_; (try clear hb); (try clear hb2); (try clear hk); (try clear hi); (try clear ho0); obtain ⟨Ao38, co38, eo38⟩ := zB a3.out; subst eo38)); try go_wp2_with (first | (go_at_call 11; (with_reducible refine (lex_Lex.calls a0 a1 a4 a6 _ (uZ (hLaid_.out.below (by repeat (first | (with_reducible first | exact HB.out | apply zE | apply zD | apply zF) | refine zG ?_ (Aside0.out (by assumption)) | exact HB.out)))) A2.out).mono ?_); rintro e w37 ⟨ab, rfl, ho0, hb⟩; have n0_ := uZ (zA ho0 (zH (uB HB.out))); have n1_ := uZ (zI (uB HB.out) hb); clear HB; have a3 := n0_; have HB := n1_; clear n0_ n1_; (try clear hb); (try clear hb2); (try clear hk); (try clear hi); (try clear ho0); obtain ⟨Ao38, co38, eo38⟩ := zB a3.out; subst eo38)))
  go_ret
  exact ⟨by first | rfl | (simp [errW_none, errW_some] <;> rfl) | (simp [*, errW_none, errW_some] <;> rfl), by repeat (first | (with_reducible first | exact HB.out | apply zE | apply zD | apply zF) | exact HB.out)⟩
 rw [if_neg c28] at H
 have c28b0 : ((a1.length : Int) == 0) = false := beq_eq_false_iff_ne.mpr c28
 have c28b1 : ((a1.length : Int) != 0) = true := bne_iff_ne.mpr c28
 have c28b2 : ¬ (a1 = []) := fun h_ => c28 (by rw [h_]; rfl)
 obtain rfl := Option.some.inj H
 go_enter Tryd.func4, Tryd.ntmps4
 go_wp2_with (first | (go_at_call 11; (with_reducible refine (lex_Lex.calls a0 a1 a4 a6 _ (uZ (hLaid_.out.below (by repeat (first | (with_reducible first | exact HB.out | apply zE | apply zD | apply zF) | refine zG ?_ (Aside0.out (by assumption)) | exact HB.out)))) A2.out).mono ?_); rintro e w39 ⟨ab, rfl, ho0, hb⟩; have n0_ := uZ (zA ho0 (zH (uB HB.out))); have n1_ := uZ (zI (uB HB.out) hb); clear HB; have a3 := n0_; have HB := n1_; clear n0_ n1_; (try clear hb); (try clear hb2); (try clear hk); (try clear hi); (try clear ho0); obtain ⟨Ao40, co40, eo40⟩ := zB a3.out; subst eo40))
 repeat (go_quiet (first | (go_at_call 11; (with_reducible refine (lex_Lex.calls a0 a1 a4 a6 _ (uZ (hLaid_.out.below (by repeat (first | (with_reducible first | exact HB.out | apply zE | apply zD | apply zF) | refine zG ?_ (Aside0.out (by assumption)) | exact HB.out)))) A2.out).mono ?_); rintro e w39 ⟨ab, rfl, ho0, hb⟩; have n0_ := uZ (zA ho0 (zH (uB HB.out))); have n1_ := uZ (zI (uB HB.out) hb); clear HB; have a3 := n0_; have HB := n1_; clear n0_ n1_; (try clear hb); (try clear hb2); (try clear hk); (try clear hi); (try clear ho0); obtain ⟨Ao40, co40, eo40⟩ := zB a3.out; subst eo40)); try go_wp2_with (first | (go_at_call 11; (with_reducible refine (lex_Lex.calls a0 a1 a4 a6 _ (uZ (hLaid_.out.below (by repeat (first | (with_reducible first | exact HB.out | apply zE | apply zD | apply zF) | refine zG ?_ (Aside0.out (by assumption)) | exact HB.out)))) A2.out).mono ?_); rintro e w39 ⟨ab, rfl, ho0, hb⟩; have n0_ := uZ (zA ho0 (zH (uB HB.out))); have n1_ := uZ (zI (uB HB.out) hb); clear HB; have a3 := n0_; have HB := n1_; clear n0_ n1_; (try clear hb); (try clear hb2); (try clear hk); (try clear hi); (try clear ho0); obtain ⟨Ao40, co40, eo40⟩ := zB a3.out; subst eo40)))
 go_ret
 exact ⟨by first | rfl | (simp [errW_none, errW_some] <;> rfl) | (simp [*, errW_none, errW_some] <;> rfl), by repeat (first | (with_reducible first | exact HB.out | apply zE | apply zD | apply zF) | exact HB.out)⟩

end Go.Proofs.YtjoboaaambdpoaaDoor.PR01
