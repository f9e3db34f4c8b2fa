-- Written by gp.py for this claim.
import Derived.Test.YtjoboaaambdpoaaDoorPR01x0
import Derived.Test.YtjoboaaambdpoaaDoorPR01x51
namespace Go.Proofs.YtjoboaaambdpoaaDoor.PR01
open Go.RowKit Go.Proofs.YtjoboaaambdpoaaDoorW.PrintWords Go.Proofs.YtjoboaaambdpoaaDoorW.PrintLast Go.Proofs.YtjoboaaambdpoaaDoorW.PrintMore
attribute [local go_sem] max2_int min2_int max_two min_two max_three min_three max_four min_four   -- for this text's walks alone
set_option linter.unusedVariables false
set_option linter.unusedSimpArgs false

namespace q_switchbacklaw01_one
theorem uZ {p : Prop} (h : p) : Aside0 p := ⟨h⟩
theorem uB {p q : Prop} (h : p) (g : p → q := by intro h; repeat (first | (with_reducible first | exact h | apply below_alloc | apply pw_below_drewN | apply below_drew1) | exact h)) : q := g h
theorem zA : type_of% @pw_below_drewN := @pw_below_drewN
end q_switchbacklaw01_one
open q_switchbacklaw01_one

/-! ### switchbacklaw01_one: function 17 -/
def switchbacklaw01_one.j0 : Nat → List (S29) → Bool → Option (Int × Bool × Bool)
  | 0, _, _ => none
  | k + 1, x5, x27 => if x27 = true then (some (0, false, false)) else (if 0 < (x5.length : Int) then (some ((rd_T29 x5 0).f3, (rd_T29 x5 0).f4, true)) else (none))
def switchbacklaw01_one.f (k : Nat) (a0 : ByteArray) : Option (Int × Bool × Bool) := (lex_Lex.f a0).bind fun bt338 => (if bt338.2.2 = 0 then (if (bt338.1.length : Int) = 2 then (if 0 < (bt338.1.length : Int) then (switchbacklaw01_one.j0 k bt338.1 (((rd_T29 bt338.1 0).f0) != 2)) else (none)) else (switchbacklaw01_one.j0 k bt338.1 true)) else (switchbacklaw01_one.j0 k bt338.1 true))
theorem switchbacklaw01_one.mono_l : ∀ k, (∀ y0 y1, LeO (switchbacklaw01_one.j0 k y0 y1) (switchbacklaw01_one.j0 (k + 1) y0 y1))
  | 0 => fun _ _ r h => by simp [switchbacklaw01_one.j0] at h
  | k + 1 => by
    have ih0 := switchbacklaw01_one.mono_l k
    · intro y0 y1
      unfold switchbacklaw01_one.j0
      repeat' first
      | (with_reducible exact ih0 _ _)
      | (with_reducible exact LeO.refl _)
      | (with_reducible exact LeO.none _)
      | (with_reducible refine LeO.ite ?_ ?_)
      | (with_reducible refine LeO.bind ?_ (fun _ => ?_))
      | exact ih0 _ _
      | exact LeO.none _
      | refine LeO.ite ?_ ?_
      | refine LeO.bind ?_ (fun _ => ?_)
theorem switchbacklaw01_one.mono : ∀ a0 k, LeO (switchbacklaw01_one.f k a0) (switchbacklaw01_one.f (k + 1) a0) := by
  intro a0 k
  have ih0 := switchbacklaw01_one.mono_l k
  unfold switchbacklaw01_one.f
  repeat' first
      | (with_reducible exact ih0 _ _)
      | (with_reducible exact LeO.refl _)
      | (with_reducible exact LeO.none _)
      | (with_reducible refine LeO.ite ?_ ?_)
      | (with_reducible refine LeO.bind ?_ (fun _ => ?_))
      | exact ih0 _ _
      | exact LeO.none _
      | refine LeO.ite ?_ ?_
      | refine LeO.bind ?_ (fun _ => ?_)
set_option maxHeartbeats 8000000 in
set_option maxRecDepth 100000 in
theorem switchbacklaw01_one.calls (k : Nat) (a0 : ByteArray) (r1 : Int) (r2 : Bool) (r3 : Bool) (w : World) (hLaid_ : Aside0 (Laid w)) (h : switchbacklaw01_one.f k a0 = some (r1, r2, r3)) :
    Calls Tryd.prog 17 #[.string a0] w fun e w' => e = .returned (.tuple #[.int .u32 r1, .bool r2, .bool r3]) ∧ Below w.heap.size w w' := by
 have HB := uZ (Below.refl w.heap.size w)
 have H : ((lex_Lex.f a0).bind fun bt338 => (if bt338.2.2 = 0 then (if (bt338.1.length : Int) = 2 then (if 0 < (bt338.1.length : Int) then (switchbacklaw01_one.j0 k bt338.1 (((rd_T29 bt338.1 0).f0) != 2)) else (none)) else (switchbacklaw01_one.j0 k bt338.1 true)) else (switchbacklaw01_one.j0 k bt338.1 true))) = some (r1, r2, r3) := h
 clear h
 replace H := Option.bind_eq_some_iff.mp H
 obtain ⟨⟨a1, t339, t340⟩, A20, H⟩ := H
 replace H : (if t340 = 0 then (if (a1.length : Int) = 2 then (if 0 < (a1.length : Int) then (switchbacklaw01_one.j0 k a1 (((rd_T29 a1 0).f0) != 2)) else (none)) else (switchbacklaw01_one.j0 k a1 true)) else (switchbacklaw01_one.j0 k a1 true)) = some (r1, r2, r3) := H
 have A2 := uZ A20
 clear A20
 have HC3 := uZ H
 clear H
 go_enter Tryd.func17, Tryd.ntmps17
 go_upto_region 2 with (first | (go_at_call 11; (with_reducible refine (lex_Lex.calls a0 a1 t339 t340 _ (uZ (hLaid_.out.below (by repeat (first | (with_reducible first | exact HB.out | apply below_alloc | apply zA | apply below_drew1) | refine below_set ?_ (Aside0.out (by assumption)) | exact HB.out)))) A2.out).mono ?_); rintro e w4 ⟨v341, rfl, ho0, hb⟩; have n0_ := uZ (Kd.R_lower ho0 (below_size (uB HB.out))); have n1_ := uZ (below_step (uB HB.out) hb); clear HB; have HO342 := n0_; have HB := n1_; clear n0_ n1_; (try clear hb); (try clear hb2); (try clear hk); (try clear hi); (try clear ho0)))
 repeat (go_quiet (first | (go_at_call 11; (with_reducible refine (lex_Lex.calls a0 a1 t339 t340 _ (uZ (hLaid_.out.below (by repeat (first | (with_reducible first | exact HB.out | apply below_alloc | apply zA | apply below_drew1) | refine below_set ?_ (Aside0.out (by assumption)) | exact HB.out)))) A2.out).mono ?_); rintro e w4 ⟨v341, rfl, ho0, hb⟩; have n0_ := uZ (Kd.R_lower ho0 (below_size (uB HB.out))); have n1_ := uZ (below_step (uB HB.out) hb); clear HB; have HO342 := n0_; have HB := n1_; clear n0_ n1_; (try clear hb); (try clear hb2); (try clear hk); (try clear hi); (try clear ho0))); go_upto_region 2 with (first | (go_at_call 11; (with_reducible refine (lex_Lex.calls a0 a1 t339 t340 _ (uZ (hLaid_.out.below (by repeat (first | (with_reducible first | exact HB.out | apply below_alloc | apply zA | apply below_drew1) | refine below_set ?_ (Aside0.out (by assumption)) | exact HB.out)))) A2.out).mono ?_); rintro e w4 ⟨v341, rfl, ho0, hb⟩; have n0_ := uZ (Kd.R_lower ho0 (below_size (uB HB.out))); have n1_ := uZ (below_step (uB HB.out) hb); clear HB; have HO342 := n0_; have HB := n1_; clear n0_ n1_; (try clear hb); (try clear hb2); (try clear hk); (try clear hi); (try clear ho0))))
 (try simp only [Act.put, List.setIfInBounds_toArray, List.set_cons_zero, List.set_cons_succ])
 go_cut [27] (fun v27 wc => ∃ (kq : Nat) (x27_2 : Bool), v27 = .bool x27_2 ∧ Aside0 (switchbacklaw01_one.j0 kq a1 x27_2 = some (r1, r2, r3)) ∧ Aside0 (kq ≤ k) ∧ Aside0 (Kd.R k29 29 wc w.heap.size (fun _ => True) v341 a1) ∧ Aside0 (Below w.heap.size w wc))
 case first =>
  have H := HC3.out
  clear HC3
  by_cases c5 : t340 = 0
  ·rw [if_pos c5] at H
   have c5b0 : (t340 == 0) = true := beq_iff_eq.mpr c5
   have c5b1 : (t340 != 0) = false := bne_eq_false_iff_eq.mpr c5
   clear c5
   (first | rw [c5b0] | (simp only [i64_w, i32_w]; rw [c5b0]) | skip)
   by_cases c6 : (a1.length : Int) = 2
   ·rw [if_pos c6] at H
    have c6b0 : ((a1.length : Int) == 2) = true := beq_iff_eq.mpr c6
    have c6b1 : ((a1.length : Int) != 2) = false := bne_eq_false_iff_eq.mpr c6
    clear c6
    by_cases c7 : 0 < (a1.length : Int)
    ·rw [if_pos c7] at H
     have c7b0 : decide (0 < (a1.length : Int)) = true := decide_eq_true c7
     have c7b1 : decide (0 < a1.length) = true := decide_eq_true (by omega)
     clear c7
     have H' := uZ H
     clear H
     obtain ⟨Ao8, co8, eo8⟩ := Kd.R_slice HO342.out
     subst eo8
     have p343 : 0 ≤ (0 : Int) := (by omega)
     have q343 : 0 < (a1.length : Int) := of_decide_eq_true (by first | (with_reducible assumption) | assumption)
     obtain ⟨ad343, e343, hx343_0, hx343_1, hx343_2, hx343_3, hx343_4⟩ := at_T29 (Kd.R_reads' HO342.out).2.2 0 p343 q343
     cases e343
     have qi343 : (0 < a1.length) = True := eq_true (by omega)
     (try rw [show ((0 : Int)).toNat = 0 from rfl] at hx343_0)
     (try rw [show 0 * 5 = 0 from rfl] at hx343_0)
     (try rw [Addr.add_zero'] at hx343_0)
     (try rw [show ((0 : Int)).toNat = 0 from rfl] at hx343_1)
     (try rw [show 0 * 5 = 0 from rfl] at hx343_1)
     (try rw [Addr.add_zero'] at hx343_1)
     (try rw [show ((0 : Int)).toNat = 0 from rfl] at hx343_2)
     (try rw [show 0 * 5 = 0 from rfl] at hx343_2)
     (try rw [Addr.add_zero'] at hx343_2)
     (try rw [show ((0 : Int)).toNat = 0 from rfl] at hx343_3)
     (try rw [show 0 * 5 = 0 from rfl] at hx343_3)
     (try rw [Addr.add_zero'] at hx343_3)
     (try rw [show ((0 : Int)).toNat = 0 from rfl] at hx343_4)
     (try rw [show 0 * 5 = 0 from rfl] at hx343_4)
     (try rw [Addr.add_zero'] at hx343_4)
     replace p343 := eq_true p343
     replace q343 := eq_true q343
     go_wp2
     repeat (go_quiet (fail); try go_wp2)
     go_meet
     case rel => exact ⟨_, ((((rd_T29 a1 0).f0) != 2)), (by first | rfl | (simp; done) | (simp [*]; done)), H', ⟨by first | omega | exact Nat.le_refl _⟩, ⟨by (with_reducible repeat (first | apply Kd.R_alloc | apply Kd.R_drewN | apply Kd.R_drew)); exact HO342.out⟩, ⟨uB HB.out⟩⟩
    rw [if_neg c7] at H
    exact absurd H (by simp)
   rw [if_neg c6] at H
   have c6b0 : ((a1.length : Int) == 2) = false := beq_eq_false_iff_ne.mpr c6
   have c6b1 : ((a1.length : Int) != 2) = true := bne_iff_ne.mpr c6
   have H' := uZ H
   clear H
   obtain ⟨Ao9, co9, eo9⟩ := Kd.R_slice HO342.out
   subst eo9
   go_wp2
   repeat (go_quiet (fail); try go_wp2)
   go_meet
   case rel => exact ⟨_, (true), (by first | rfl | (simp; done) | (simp [*]; done)), H', ⟨by first | omega | exact Nat.le_refl _⟩, ⟨by (with_reducible repeat (first | apply Kd.R_alloc | apply Kd.R_drewN | apply Kd.R_drew)); exact HO342.out⟩, ⟨uB HB.out⟩⟩
  rw [if_neg c5] at H
  have c5b0 : (t340 == 0) = false := beq_eq_false_iff_ne.mpr c5
  have c5b1 : (t340 != 0) = true := bne_iff_ne.mpr c5
  (first | rw [c5b0] | (simp only [i64_w, i32_w]; rw [c5b0]) | skip)
  have H' := uZ H
  clear H
  go_wp2
  repeat (go_quiet (fail); try go_wp2)
  go_meet
  case rel => exact ⟨_, (true), (by first | rfl | (simp; done) | (simp [*]; done)), H', ⟨by first | omega | exact Nat.le_refl _⟩, ⟨by (with_reducible repeat (first | apply Kd.R_alloc | apply Kd.R_drewN | apply Kd.R_drew)); exact HO342.out⟩, ⟨uB HB.out⟩⟩
 case rest =>
  clear HC3
  try clear c1
  try clear p2
  try clear p3
  try clear q3
  try clear hx3
  try clear qi3
  try clear c5
  try clear c5b0
  try clear c5b1
  try clear c6
  try clear c6b0
  try clear c6b1
  try clear c7
  try clear c7b0
  try clear c7b1
  try clear hx343_0
  try clear hx343_1
  try clear hx343_2
  try clear hx343_3
  try clear hx343_4
  try clear p343
  try clear q343
  obtain ⟨kq, x27_2, rfl, HA, HJ2, HO_5, HB⟩ := hcut
  cases kq with
  | zero => exact absurd HA.out (by simp [switchbacklaw01_one.j0])
  | succ kj2 =>
   have H := HA.out
   clear HA
   simp only [switchbacklaw01_one.j0] at H
   by_cases c10 : x27_2 = true
   ·subst c10
    have H1 : (some (0, false, false)) = some (r1, r2, r3) := by rw [if_pos rfl] at H; exact H
    clear H
    have H := H1
    clear H1
    simp only [Option.some.injEq, Prod.mk.injEq] at H
    obtain ⟨rfl, rfl, rfl⟩ := H
    go_wp2
    repeat (go_quiet (fail); try go_wp2)
    go_ret3
    exact ⟨by first | rfl | (simp [errW_none, errW_some] <;> rfl) | (simp [*, errW_none, errW_some] <;> rfl), by repeat (first | (with_reducible first | exact HB.out | apply below_alloc | apply zA | apply below_drew1) | exact HB.out)⟩
   replace c10 := Bool.eq_false_iff.mpr c10
   subst c10
   have H1 : (if 0 < (a1.length : Int) then (some ((rd_T29 a1 0).f3, (rd_T29 a1 0).f4, true)) else (none)) = some (r1, r2, r3) := by rw [if_neg (show ¬ (false = true) by decide)] at H; exact H
   clear H
   have H := H1
   clear H1
   by_cases c11 : 0 < (a1.length : Int)
   ·rw [if_pos c11] at H
    have c11b0 : decide (0 < (a1.length : Int)) = true := decide_eq_true c11
    have c11b1 : decide (0 < a1.length) = true := decide_eq_true (by omega)
    clear c11
    simp only [Option.some.injEq, Prod.mk.injEq] at H
    obtain ⟨rfl, rfl, rfl⟩ := H
    obtain ⟨Ao12, co12, eo12⟩ := Kd.R_slice HO_5.out
    subst eo12
    have p344 : 0 ≤ (0 : Int) := (by omega)
    have q344 : 0 < (a1.length : Int) := of_decide_eq_true (by first | (with_reducible assumption) | assumption)
    obtain ⟨ad344, e344, hx344_0, hx344_1, hx344_2, hx344_3, hx344_4⟩ := at_T29 (Kd.R_reads' HO_5.out).2.2 0 p344 q344
    cases e344
    have qi344 : (0 < a1.length) = True := eq_true (by omega)
    (try rw [show ((0 : Int)).toNat = 0 from rfl] at hx344_0)
    (try rw [show 0 * 5 = 0 from rfl] at hx344_0)
    (try rw [Addr.add_zero'] at hx344_0)
    (try rw [show ((0 : Int)).toNat = 0 from rfl] at hx344_1)
    (try rw [show 0 * 5 = 0 from rfl] at hx344_1)
    (try rw [Addr.add_zero'] at hx344_1)
    (try rw [show ((0 : Int)).toNat = 0 from rfl] at hx344_2)
    (try rw [show 0 * 5 = 0 from rfl] at hx344_2)
    (try rw [Addr.add_zero'] at hx344_2)
    (try rw [show ((0 : Int)).toNat = 0 from rfl] at hx344_3)
    (try rw [show 0 * 5 = 0 from rfl] at hx344_3)
    (try rw [Addr.add_zero'] at hx344_3)
    (try rw [show ((0 : Int)).toNat = 0 from rfl] at hx344_4)
    (try rw [show 0 * 5 = 0 from rfl] at hx344_4)
    (try rw [Addr.add_zero'] at hx344_4)
    replace p344 := eq_true p344
    replace q344 := eq_true q344
    have p345 : 0 ≤ (0 : Int) := (by omega)
    have q345 : 0 < (a1.length : Int) := of_decide_eq_true (by first | (with_reducible assumption) | assumption)
    obtain ⟨ad345, e345, hx345_0, hx345_1, hx345_2, hx345_3, hx345_4⟩ := at_T29 (Kd.R_reads' HO_5.out).2.2 0 p345 q345
    obtain rfl : ad344 = ad345 := (by injection e345)
    have qi345 : (0 < a1.length) = True := eq_true (by omega)
    (try rw [show ((0 : Int)).toNat = 0 from rfl] at hx345_0)
    (try rw [show 0 * 5 = 0 from rfl] at hx345_0)
    (try rw [Addr.add_zero'] at hx345_0)
    (try rw [show ((0 : Int)).toNat = 0 from rfl] at hx345_1)
    (try rw [show 0 * 5 = 0 from rfl] at hx345_1)
    (try rw [Addr.add_zero'] at hx345_1)
    (try rw [show ((0 : Int)).toNat = 0 from rfl] at hx345_2)
    (try rw [show 0 * 5 = 0 from rfl] at hx345_2)
    (try rw [Addr.add_zero'] at hx345_2)
    (try rw [show ((0 : Int)).toNat = 0 from rfl] at hx345_3)
    (try rw [show 0 * 5 = 0 from rfl] at hx345_3)
    (try rw [Addr.add_zero'] at hx345_3)
    (try rw [show ((0 : Int)).toNat = 0 from rfl] at hx345_4)
    (try rw [show 0 * 5 = 0 from rfl] at hx345_4)
    (try rw [Addr.add_zero'] at hx345_4)
    replace p345 := eq_true p345
    replace q345 := eq_true q345
    go_wp2
    repeat (go_quiet (fail); try go_wp2)
    go_ret3
    exact ⟨by first | rfl | (simp [errW_none, errW_some] <;> rfl) | (simp [*, errW_none, errW_some] <;> rfl), by repeat (first | (with_reducible first | exact HB.out | apply below_alloc | apply zA | apply below_drew1) | exact HB.out)⟩
   rw [if_neg c11] at H
   exact absurd H (by simp)

end Go.Proofs.YtjoboaaambdpoaaDoor.PR01
