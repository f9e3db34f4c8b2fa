-- Written by gp.py for this claim.
import Derived.Test.YtjoboaaambdpoaaDoorPR01x0
import Derived.Test.YtjoboaaambdpoaaDoorPR01x51
import Derived.Test.YtjoboaaambdpoaaDoorPR01x65
import Derived.Test.YtjoboaaambdpoaaDoorPR01x68
namespace Go.Proofs.YtjoboaaambdpoaaDoor.PR01
open Go.RowKit Go.Proofs.YtjoboaaambdpoaaDoorW.PrintWords Go.Proofs.YtjoboaaambdpoaaDoorW.PrintLast Go.Proofs.YtjoboaaambdpoaaDoorW.PrintMore
attribute [local go_sem] max2_int min2_int max_two min_two max_three min_three max_four min_four   -- for this text's walks alone
set_option linter.unusedVariables false
set_option linter.unusedSimpArgs false

namespace q_switchbacklaw01_LexCommented
theorem uZ {p : Prop} (h : p) : Aside0 p := ⟨h⟩
theorem uR {p q : Prop} (h : p) (g : p → q := by intro h; (with_reducible repeat (first | apply Kd.R_alloc | apply Kd.R_drewN | apply Kd.R_drew)); exact h) : q := g h
theorem uB {p q : Prop} (h : p) (g : p → q := by intro h; repeat (first | (with_reducible first | exact h | apply below_alloc | apply pw_below_drewN | apply below_drew1) | exact h)) : q := g h
theorem zA : type_of% @Kd.R_below := @Kd.R_below
theorem zB : type_of% @Kd.R_base := @Kd.R_base
theorem zC : type_of% @Kd.R_lower := @Kd.R_lower
theorem zD : type_of% @Kd.R_slice := @Kd.R_slice
theorem zE : type_of% @Kd.R_reads' := @Kd.R_reads'
theorem zF : type_of% @Kd.C_alloc := @Kd.C_alloc
theorem zG : type_of% @Kd.C_drewN := @Kd.C_drewN
theorem zH : type_of% @Kd.C_drew := @Kd.C_drew
theorem zI : type_of% @pw_below_drewN := @pw_below_drewN
theorem zJ : type_of% @below_alloc := @below_alloc
theorem zK : type_of% @below_drew1 := @below_drew1
theorem zL : type_of% @below_set := @below_set
theorem zM : type_of% @below_size := @below_size
theorem zN : type_of% @below_step := @below_step
end q_switchbacklaw01_LexCommented
open q_switchbacklaw01_LexCommented

/-! ### switchbacklaw01_LexCommented: function 8 -/
mutual
def switchbacklaw01_LexCommented.j0 : Nat → ByteArray → List (S29) → Int → Bool → Option (Bool)
  | 0, _, _, _, _ => none
  | k + 1, x0, x3, x5, x23 => if x23 = true then (if x5 = 0 then (some false) else ((switchbacklaw01_live.f).bind fun t321 => (some t321))) else (switchbacklaw01_LexCommented.l0 k x0 x3 (⟨#[]⟩ : ByteArray) 0)
def switchbacklaw01_LexCommented.l0 : Nat → ByteArray → List (S29) → ByteArray → Int → Option (Bool)
  | 0, _, _, _, _ => none
  | k + 1, x0, x3, x6, x7 => if (wrap64 (x7 + 1)) < (x3.length : Int) then (if 0 ≤ x7 then (if x7 < (x3.length : Int) then (if 0 ≤ (wrap64 (x7 + 1)) then (if 0 ≤ ((rd_T29 x3 x7).f1) then (if ((rd_T29 x3 x7).f1) ≤ ((rd_T29 x3 (wrap64 (x7 + 1))).f1) then (if ((rd_T29 x3 (wrap64 (x7 + 1))).f1) ≤ (x0.size : Int) then (if x6.size + (x0.extract (((rd_T29 x3 x7).f1) : Int).toNat (((rd_T29 x3 (wrap64 (x7 + 1))).f1) : Int).toNat).size ≤ 9223372036854775807 then (if (x6 ++ (x0.extract (((rd_T29 x3 x7).f1) : Int).toNat (((rd_T29 x3 (wrap64 (x7 + 1))).f1) : Int).toNat)).size + 6 ≤ 9223372036854775807 then (switchbacklaw01_LexCommented.l0 k x0 x3 ((x6 ++ (x0.extract (((rd_T29 x3 x7).f1) : Int).toNat (((rd_T29 x3 (wrap64 (x7 + 1))).f1) : Int).toNat)) ++ (⟨#[10, 47, 42, 39, 42, 47]⟩ : ByteArray)) (wrap64 (x7 + 1))) else (none)) else (none)) else (none)) else (none)) else (none)) else (none)) else (none)) else (none)) else (if (x6.size : Int) > 20000 then ((switchbacklaw01_live.f).bind fun t324 => (some t324)) else ((lex_Lex.f x6).bind fun bt325 => (if bt325.2.2 = 0 then ((switchbacklaw01_alike.f k x3 bt325.1).bind fun t330 => (if t330 = true then ((switchbacklaw01_live.f).bind fun t331 => (some t331)) else (some false))) else (some false))))
end
def switchbacklaw01_LexCommented.f (k : Nat) (a0 : ByteArray) : Option (Bool) := (lex_Lex.f a0).bind fun bt316 => (if bt316.2.2 = 0 then (switchbacklaw01_LexCommented.j0 k a0 bt316.1 bt316.2.2 ((bt316.1.length : Int) == 0)) else (switchbacklaw01_LexCommented.j0 k a0 bt316.1 bt316.2.2 true))
theorem switchbacklaw01_LexCommented.mono_l : ∀ k, (∀ y0 y1 y2 y3, LeO (switchbacklaw01_LexCommented.j0 k y0 y1 y2 y3) (switchbacklaw01_LexCommented.j0 (k + 1) y0 y1 y2 y3)) ∧ (∀ y0 y1 y2 y3, LeO (switchbacklaw01_LexCommented.l0 k y0 y1 y2 y3) (switchbacklaw01_LexCommented.l0 (k + 1) y0 y1 y2 y3))
  | 0 => ⟨fun _ _ _ _ r h => by simp [switchbacklaw01_LexCommented.j0] at h, fun _ _ _ _ r h => by simp [switchbacklaw01_LexCommented.l0] at h⟩
  | k + 1 => by
    obtain ⟨ih0, ih1⟩ := switchbacklaw01_LexCommented.mono_l k
    refine ⟨?_, ?_⟩
    · intro y0 y1 y2 y3
      unfold switchbacklaw01_LexCommented.j0
      repeat' first
      | (with_reducible exact ih0 _ _ _ _)
      | (with_reducible exact ih1 _ _ _ _)
      | (with_reducible exact switchbacklaw01_alike.mono _ _ _)
      | (with_reducible exact LeO.refl _)
      | (with_reducible exact LeO.none _)
      | (with_reducible refine LeO.ite ?_ ?_)
      | (with_reducible refine LeO.bind ?_ (fun _ => ?_))
      | exact ih0 _ _ _ _
      | exact ih1 _ _ _ _
      | exact switchbacklaw01_alike.mono _ _ _
      | exact LeO.none _
      | refine LeO.ite ?_ ?_
      | refine LeO.bind ?_ (fun _ => ?_)
    · intro y0 y1 y2 y3
      unfold switchbacklaw01_LexCommented.l0
      repeat' first
      | (with_reducible exact ih0 _ _ _ _)
      | (with_reducible exact ih1 _ _ _ _)
      | (with_reducible exact switchbacklaw01_alike.mono _ _ _)
      | (with_reducible exact LeO.refl _)
      | (with_reducible exact LeO.none _)
      | (with_reducible refine LeO.ite ?_ ?_)
      | (with_reducible refine LeO.bind ?_ (fun _ => ?_))
      | exact ih0 _ _ _ _
      | exact ih1 _ _ _ _
      | exact switchbacklaw01_alike.mono _ _ _
      | exact LeO.none _
      | refine LeO.ite ?_ ?_
      | refine LeO.bind ?_ (fun _ => ?_)
theorem switchbacklaw01_LexCommented.mono : ∀ a0 k, LeO (switchbacklaw01_LexCommented.f k a0) (switchbacklaw01_LexCommented.f (k + 1) a0) := by
  intro a0 k
  obtain ⟨ih0, ih1⟩ := switchbacklaw01_LexCommented.mono_l k
  unfold switchbacklaw01_LexCommented.f
  repeat' first
      | (with_reducible exact ih0 _ _ _ _)
      | (with_reducible exact ih1 _ _ _ _)
      | (with_reducible exact switchbacklaw01_alike.mono _ _ _)
      | (with_reducible exact LeO.refl _)
      | (with_reducible exact LeO.none _)
      | (with_reducible refine LeO.ite ?_ ?_)
      | (with_reducible refine LeO.bind ?_ (fun _ => ?_))
      | exact ih0 _ _ _ _
      | exact ih1 _ _ _ _
      | exact switchbacklaw01_alike.mono _ _ _
      | exact LeO.none _
      | refine LeO.ite ?_ ?_
      | refine LeO.bind ?_ (fun _ => ?_)
set_option maxHeartbeats 8000000 in
set_option maxRecDepth 100000 in
theorem switchbacklaw01_LexCommented.calls (k : Nat) (a0 : ByteArray) (r : Bool) (w : World) (hLaid_ : Aside0 (Laid w)) (h : switchbacklaw01_LexCommented.f k a0 = some r) :
    Calls Tryd.prog 8 #[.string a0] w fun e w' => e = .returned (.bool r) ∧ Below w.heap.size w w' := by
 have HB := uZ (Below.refl w.heap.size w)
 have H : ((lex_Lex.f a0).bind fun bt316 => (if bt316.2.2 = 0 then (switchbacklaw01_LexCommented.j0 k a0 bt316.1 bt316.2.2 ((bt316.1.length : Int) == 0)) else (switchbacklaw01_LexCommented.j0 k a0 bt316.1 bt316.2.2 true))) = some r := h
 clear h
 replace H := Option.bind_eq_some_iff.mp H
 obtain ⟨⟨a2, t317, a7⟩, A20, H⟩ := H
 replace H : (if a7 = 0 then (switchbacklaw01_LexCommented.j0 k a0 a2 a7 ((a2.length : Int) == 0)) else (switchbacklaw01_LexCommented.j0 k a0 a2 a7 true)) = some r := H
 have A2 := uZ A20
 clear A20
 have HC3 := uZ H
 clear H
 go_enter Tryd.func8, Tryd.ntmps8
 go_upto_region 2 with (first | (go_at_call 11; (with_reducible refine (lex_Lex.calls a0 a2 t317 a7 _ (uZ (hLaid_.out.below (by repeat (first | (with_reducible first | exact HB.out | apply zJ | apply zI | apply zK) | refine zL ?_ (Aside0.out (by assumption)) | exact HB.out)))) A2.out).mono ?_); rintro e w4 ⟨v319, rfl, ho0, hb⟩; have n0_ := uZ (zC ho0 (zM (uB HB.out))); have n1_ := uZ (zN (uB HB.out) hb); clear HB; have HO320 := n0_; have HB := n1_; clear n0_ n1_; (try clear hb); (try clear hb2); (try clear hk); (try clear hi); (try clear ho0)))
 repeat (go_quiet (first | (go_at_call 11; (with_reducible refine (lex_Lex.calls a0 a2 t317 a7 _ (uZ (hLaid_.out.below (by repeat (first | (with_reducible first | exact HB.out | apply zJ | apply zI | apply zK) | refine zL ?_ (Aside0.out (by assumption)) | exact HB.out)))) A2.out).mono ?_); rintro e w4 ⟨v319, rfl, ho0, hb⟩; have n0_ := uZ (zC ho0 (zM (uB HB.out))); have n1_ := uZ (zN (uB HB.out) hb); clear HB; have HO320 := n0_; have HB := n1_; clear n0_ n1_; (try clear hb); (try clear hb2); (try clear hk); (try clear hi); (try clear ho0))); go_upto_region 2 with (first | (go_at_call 11; (with_reducible refine (lex_Lex.calls a0 a2 t317 a7 _ (uZ (hLaid_.out.below (by repeat (first | (with_reducible first | exact HB.out | apply zJ | apply zI | apply zK) | refine zL ?_ (Aside0.out (by assumption)) | exact HB.out)))) A2.out).mono ?_); rintro e w4 ⟨v319, rfl, ho0, hb⟩; have n0_ := uZ (zC ho0 (zM (uB HB.out))); have n1_ := uZ (zN (uB HB.out) hb); clear HB; have HO320 := n0_; have HB := n1_; clear n0_ n1_; (try clear hb); (try clear hb2); (try clear hk); (try clear hi); (try clear ho0))))
 (try simp only [Act.put, List.setIfInBounds_toArray, List.set_cons_zero, List.set_cons_succ])
 go_cut [23] (fun v23 wc => ∃ (kq : Nat) (x23_2 : Bool), v23 = .bool x23_2 ∧ Aside0 (switchbacklaw01_LexCommented.j0 kq a0 a2 a7 x23_2 = some r) ∧ Aside0 (kq ≤ k) ∧ Aside0 (Kd.R k29 29 wc w.heap.size (fun _ => True) v319 a2) ∧ Aside0 (Below w.heap.size w wc))
 case first =>
  have H := HC3.out
  clear HC3
  by_cases c5 : a7 = 0
  ·rw [if_pos c5] at H
   have c5b0 : (a7 == 0) = true := beq_iff_eq.mpr c5
   have c5b1 : (a7 != 0) = false := bne_eq_false_iff_eq.mpr c5
   clear c5
   (first | rw [c5b0] | (simp only [i64_w, i32_w]; rw [c5b0]) | skip)
   have H' := uZ H
   clear H
   obtain ⟨Ao6, co6, eo6⟩ := zD HO320.out
   subst eo6
   go_wp2
   repeat (go_quiet (fail); try go_wp2)
   go_meet
   case rel => exact ⟨_, (((a2.length : Int) == 0)), (by first | rfl | (simp; done) | (simp [*]; done)), H', ⟨by first | omega | exact Nat.le_refl _⟩, ⟨uR HO320.out⟩, ⟨uB HB.out⟩⟩
  rw [if_neg c5] at H
  have c5b0 : (a7 == 0) = false := beq_eq_false_iff_ne.mpr c5
  have c5b1 : (a7 != 0) = true := bne_iff_ne.mpr c5
  (first | rw [c5b0] | (simp only [i64_w, i32_w]; rw [c5b0]) | skip)
  have H' := uZ H
  clear H
  go_wp2
  repeat (go_quiet (fail); try go_wp2)
  go_meet
  case rel => exact ⟨_, (true), (by first | rfl | (simp; done) | (simp [*]; done)), H', ⟨by first | omega | exact Nat.le_refl _⟩, ⟨uR HO320.out⟩, ⟨uB HB.out⟩⟩
 case rest =>
  clear HC3
  try clear p2
  try clear c5
  try clear c5b0
  try clear c5b1
  obtain ⟨kq, x23_2, rfl, HA, HJ2, a1, HB⟩ := hcut
  cases kq with
  | zero => exact absurd HA.out (by simp [switchbacklaw01_LexCommented.j0])
  | succ kj2 =>
   have H := HA.out
   clear HA
   simp only [switchbacklaw01_LexCommented.j0] at H
   by_cases c7 : x23_2 = true
   ·subst c7
    have H1 : (if a7 = 0 then (some false) else ((switchbacklaw01_live.f).bind fun t321 => (some t321))) = some r := by rw [if_pos rfl] at H; exact H
    clear H
    have H := H1
    clear H1
    by_cases c8 : a7 = 0
    ·rw [if_pos c8] at H
     have c8b0 : (a7 == 0) = true := beq_iff_eq.mpr c8
     have c8b1 : (a7 != 0) = false := bne_eq_false_iff_eq.mpr c8
     clear c8
     obtain rfl := Option.some.inj H
     go_wp2
     repeat (go_quiet (fail); try go_wp2)
     go_ret
     exact ⟨by first | rfl | (simp [errW_none, errW_some] <;> rfl) | (simp [*, errW_none, errW_some] <;> rfl), by repeat (first | (with_reducible first | exact HB.out | apply zJ | apply zI | apply zK) | exact HB.out)⟩
    rw [if_neg c8] at H
    have c8b0 : (a7 == 0) = false := beq_eq_false_iff_ne.mpr c8
    have c8b1 : (a7 != 0) = true := bne_iff_ne.mpr c8
    replace H := Option.bind_eq_some_iff.mp H
    obtain ⟨t321, A90, H⟩ := H
    replace H : (some t321) = some r := H
    have A9 := uZ A90
    clear A90
    obtain rfl := Option.some.inj H
    go_wp2_with (first | (go_at_call 14; (with_reducible refine (switchbacklaw01_live.calls  t321 _ (uZ (hLaid_.out.below (by repeat (first | (with_reducible first | exact HB.out | apply zJ | apply zI | apply zK) | refine zL ?_ (Aside0.out (by assumption)) | exact HB.out)))) A9.out).mono ?_); rintro e w10 ⟨rfl, hb⟩; have n0_ := uZ (zA (uR a1.out) hb); have n1_ := uZ (zN (uB HB.out) hb); clear a1; clear HB; have a1 := n0_; have HB := n1_; clear n0_ n1_; (try clear hb); (try clear hb2); (try clear hk); (try clear hi)))
    repeat (go_quiet (first | (go_at_call 14; (with_reducible refine (switchbacklaw01_live.calls  t321 _ (uZ (hLaid_.out.below (by repeat (first | (with_reducible first | exact HB.out | apply zJ | apply zI | apply zK) | refine zL ?_ (Aside0.out (by assumption)) | exact HB.out)))) A9.out).mono ?_); rintro e w10 ⟨rfl, hb⟩; have n0_ := uZ (zA (uR a1.out) hb); have n1_ := uZ (zN (uB HB.out) hb); clear a1; clear HB; have a1 := n0_; have HB := n1_; clear n0_ n1_; (try clear hb); (try clear hb2); (try clear hk); (try clear hi))); try go_wp2_with (first | (go_at_call 14; (with_reducible refine (switchbacklaw01_live.calls  t321 _ (uZ (hLaid_.out.below (by repeat (first | (with_reducible first | exact HB.out | apply zJ | apply zI | apply zK) | refine zL ?_ (Aside0.out (by assumption)) | exact HB.out)))) A9.out).mono ?_); rintro e w10 ⟨rfl, hb⟩; have n0_ := uZ (zA (uR a1.out) hb); have n1_ := uZ (zN (uB HB.out) hb); clear a1; clear HB; have a1 := n0_; have HB := n1_; clear n0_ n1_; (try clear hb); (try clear hb2); (try clear hk); (try clear hi))))
    go_ret
    exact ⟨by first | rfl | (simp [errW_none, errW_some] <;> rfl) | (simp [*, errW_none, errW_some] <;> rfl), by repeat (first | (with_reducible first | exact HB.out | apply zJ | apply zI | apply zK) | exact HB.out)⟩
   replace c7 := Bool.eq_false_iff.mpr c7
   subst c7
   have H1 : (switchbacklaw01_LexCommented.l0 kj2 a0 a2 (⟨#[]⟩ : ByteArray) 0) = some r := by rw [if_neg (show ¬ (false = true) by decide)] at H; exact H
   clear H
   have H := H1
   clear H1
   have H' := uZ H
   clear H
   go_wp2
   repeat (go_quiet (fail); try go_wp2)
   go_loopg [6, 7] kj2 (fun kq v6 v7 w' => ∃ (a5 : ByteArray) (a4 : Int), v6 = .string a5 ∧ v7 = .int .i64 a4 ∧ Aside0 (switchbacklaw01_LexCommented.l0 kq a0 a2 a5 a4 = some r) ∧ Aside0 (kq ≤ kj2) ∧ Aside0 (Kd.R k29 29 w' w.heap.size (fun _ => True) v319 a2) ∧ Aside0 (Below w.heap.size w w'))
   case atStart => exact ⟨((⟨#[]⟩ : ByteArray)), (0), (by first | rfl | (simp; done) | (simp [*]; done)), (by first | rfl | (simp; done) | (simp [*]; done)), H', ⟨Nat.le_refl _⟩, ⟨uR a1.out⟩, ⟨uB HB.out⟩⟩
   case round =>
    clear H'
    try clear p2
    try clear c5
    try clear c5b0
    try clear c5b1
    try clear c7
    try clear c8
    try clear c8b0
    try clear c8b1
    try clear p2
    obtain ⟨a5, a4, rfl, rfl, HA, HK2, a1, HB⟩ := hrel
    cases gk with
    | zero => exact absurd HA.out (by simp [switchbacklaw01_LexCommented.l0])
    | succ k2 =>
     have H := HA.out
     clear HA
     simp only [switchbacklaw01_LexCommented.l0] at H
     by_cases c11 : (wrap64 (a4 + 1)) < (a2.length : Int)
     ·rw [if_pos c11] at H
      have c11b0 : decide ((wrap64 (a4 + 1)) < (a2.length : Int)) = true := decide_eq_true c11
      clear c11
      by_cases c12 : 0 ≤ a4
      ·rw [if_pos c12] at H
       have c12b0 : decide (0 ≤ a4) = true := decide_eq_true c12
       clear c12
       by_cases c13 : a4 < (a2.length : Int)
       ·rw [if_pos c13] at H
        have c13b0 : decide (a4 < (a2.length : Int)) = true := decide_eq_true c13
        clear c13
        obtain ⟨a6, hji14⟩ : ∃ j_ : Int, (wrap64 (a4 + 1)) = j_ := ⟨_, rfl⟩
        replace H : (if 0 ≤ (a6) then (if 0 ≤ ((rd_T29 a2 a4).f1) then (if ((rd_T29 a2 a4).f1) ≤ ((rd_T29 a2 (a6)).f1) then (if ((rd_T29 a2 (a6)).f1) ≤ (a0.size : Int) then (if a5.size + (a0.extract (((rd_T29 a2 a4).f1) : Int).toNat (((rd_T29 a2 (a6)).f1) : Int).toNat).size ≤ 9223372036854775807 then (if (a5 ++ (a0.extract (((rd_T29 a2 a4).f1) : Int).toNat (((rd_T29 a2 (a6)).f1) : Int).toNat)).size + 6 ≤ 9223372036854775807 then (switchbacklaw01_LexCommented.l0 k2 a0 a2 ((a5 ++ (a0.extract (((rd_T29 a2 a4).f1) : Int).toNat (((rd_T29 a2 (a6)).f1) : Int).toNat)) ++ (⟨#[10, 47, 42, 39, 42, 47]⟩ : ByteArray)) a6) else (none)) else (none)) else (none)) else (none)) else (none)) else (none)) = some r := by first | (rw [hji14] at H; exact H) | (simp only [hji14] at H ⊢; exact H)
        (try rw [hji14] at c11b0)
        have hji14w : (IntKind.i64.wrap (a4 + 1)) = a6 := (i64_w _).trans hji14
        by_cases c15 : 0 ≤ (a6)
        ·rw [if_pos c15] at H
         have c15b0 : decide (0 ≤ (a6)) = true := decide_eq_true c15
         clear c15
         by_cases c16 : 0 ≤ ((rd_T29 a2 a4).f1)
         ·rw [if_pos c16] at H
          have c16b0 := eq_true c16
          have c16b1 : decide (0 ≤ ((rd_T29 a2 a4).f1)) = true := decide_eq_true c16
          clear c16
          by_cases c17 : ((rd_T29 a2 a4).f1) ≤ ((rd_T29 a2 (a6)).f1)
          ·rw [if_pos c17] at H
           have c17b0 := eq_true c17
           have c17b1 : decide (((rd_T29 a2 a4).f1) ≤ ((rd_T29 a2 (a6)).f1)) = true := decide_eq_true c17
           clear c17
           by_cases c18 : ((rd_T29 a2 (a6)).f1) ≤ (a0.size : Int)
           ·rw [if_pos c18] at H
            have c18b0 := eq_true c18
            have c18b1 : decide (((rd_T29 a2 (a6)).f1) ≤ (a0.size : Int)) = true := decide_eq_true c18
            clear c18
            by_cases c19 : a5.size + (a0.extract (((rd_T29 a2 a4).f1) : Int).toNat (((rd_T29 a2 (a6)).f1) : Int).toNat).size ≤ 9223372036854775807
            ·rw [if_pos c19] at H
             have c19b0 := eq_true c19
             have c19b1 : decide (a5.size + (a0.extract (((rd_T29 a2 a4).f1) : Int).toNat (((rd_T29 a2 (a6)).f1) : Int).toNat).size ≤ 9223372036854775807) = true := decide_eq_true c19
             try have c19b2 : (9223372036854775807 < a5.size + (a0.extract (((rd_T29 a2 a4).f1) : Int).toNat (((rd_T29 a2 (a6)).f1) : Int).toNat).size) = False := eq_false (Nat.not_lt.2 c19)
             by_cases c20 : (a5 ++ (a0.extract (((rd_T29 a2 a4).f1) : Int).toNat (((rd_T29 a2 (a6)).f1) : Int).toNat)).size + 6 ≤ 9223372036854775807
             ·rw [if_pos c20] at H
              have c20b0 := eq_true c20
              have c20b1 : decide ((a5 ++ (a0.extract (((rd_T29 a2 a4).f1) : Int).toNat (((rd_T29 a2 (a6)).f1) : Int).toNat)).size + 6 ≤ 9223372036854775807) = true := decide_eq_true c20
              try have c20b2 : (9223372036854775807 < (a5 ++ (a0.extract (((rd_T29 a2 a4).f1) : Int).toNat (((rd_T29 a2 (a6)).f1) : Int).toNat)).size + 6) = False := eq_false (Nat.not_lt.2 c20)
              have H' := uZ H
              clear H
              obtain ⟨Ao21, co21, eo21⟩ := zD a1.out
              subst eo21
              have p322 : 0 ≤ (a4 : Int) := of_decide_eq_true (by first | (with_reducible assumption) | assumption)
              have q322 : a4 < (a2.length : Int) := of_decide_eq_true (by first | (with_reducible assumption) | assumption)
              obtain ⟨ad322, e322, hx322_0, hx322_1, hx322_2, hx322_3, hx322_4⟩ := at_T29 (zE a1.out).2.2 a4 p322 q322
              cases e322
              replace p322 := eq_true p322
              replace q322 := eq_true q322
              have p323 : 0 ≤ ((a6) : Int) := of_decide_eq_true (by first | (with_reducible assumption) | assumption)
              have q323 : (a6) < (a2.length : Int) := of_decide_eq_true (by first | (with_reducible assumption) | assumption)
              obtain ⟨ad323, e323, hx323_0, hx323_1, hx323_2, hx323_3, hx323_4⟩ := at_T29 (zE a1.out).2.2 (a6) p323 q323
              obtain rfl : ad322 = ad323 := (by injection e323)
              replace p323 := eq_true p323
              replace q323 := eq_true q323
              have hzx_ : (a0.extract (((rd_T29 a2 a4).f1) : Int).toNat (((rd_T29 a2 (a6)).f1) : Int).toNat).size = (((rd_T29 a2 (a6)).f1) : Int).toNat - (((rd_T29 a2 a4).f1) : Int).toNat := by rw [ByteArray.size_extract, Nat.min_eq_left (by have := of_decide_eq_true c18b1; omega)]
              have czx_ : (9223372036854775807 < a5.size + ((((rd_T29 a2 (a6)).f1) : Int).toNat - (((rd_T29 a2 a4).f1) : Int).toNat)) = False := eq_false (by rw [← hzx_]; exact Nat.not_lt.2 c19)
              have czy_ : (9223372036854775807 < a5.size + ((((rd_T29 a2 (a6)).f1) : Int).toNat - (((rd_T29 a2 a4).f1) : Int).toNat) + 6) = False := eq_false (by have hh_ := c20; rw [ByteArray.size_append, hzx_] at hh_; omega)
              clear hzx_
              go_wp2
              repeat (go_quiet (fail); try go_wp2)
              go_roundg k2
              case measure => have := HJ2.out; have := HK2.out; omega
              case rel => exact ⟨((a5 ++ (a0.extract (((rd_T29 a2 a4).f1) : Int).toNat (((rd_T29 a2 (a6)).f1) : Int).toNat)) ++ (⟨#[10, 47, 42, 39, 42, 47]⟩ : ByteArray)), (a6), (by first | rfl | (simp; done) | (simp only [← hji14] <;> (first | rfl | simp)) | (simp [*]; done)), (by first | rfl | (simp; done) | (simp only [← hji14] <;> (first | rfl | simp)) | (simp [*]; done)), H', ⟨by have := HJ2.out; have := HK2.out; omega⟩, ⟨uR a1.out⟩, ⟨uB HB.out⟩⟩
             rw [if_neg c20] at H
             exact absurd H (by simp)
            rw [if_neg c19] at H
            exact absurd H (by simp)
           rw [if_neg c18] at H
           exact absurd H (by simp)
          rw [if_neg c17] at H
          exact absurd H (by simp)
         rw [if_neg c16] at H
         exact absurd H (by simp)
        rw [if_neg c15] at H
        exact absurd H (by simp)
       rw [if_neg c13] at H
       exact absurd H (by simp)
      rw [if_neg c12] at H
      exact absurd H (by simp)
     rw [if_neg c11] at H
     have c11b0 : decide ((wrap64 (a4 + 1)) < (a2.length : Int)) = false := decide_eq_false c11
     clear c11
     by_cases c22 : (a5.size : Int) > 20000
     ·rw [if_pos c22] at H
      have c22b0 : decide (20000 < (a5.size : Int)) = true := decide_eq_true c22
      have c22b1 : decide (20000 < a5.size) = true := decide_eq_true (by omega)
      clear c22
      replace H := Option.bind_eq_some_iff.mp H
      obtain ⟨t324, A230, H⟩ := H
      replace H : (some t324) = some r := H
      have A23 := uZ A230
      clear A230
      obtain rfl := Option.some.inj H
      obtain ⟨Ao24, co24, eo24⟩ := zD a1.out
      subst eo24
      go_wp2_with (first | (go_at_call 14; (with_reducible refine (switchbacklaw01_live.calls  t324 _ (uZ (hLaid_.out.below (by repeat (first | (with_reducible first | exact HB.out | apply zJ | apply zI | apply zK) | refine zL ?_ (Aside0.out (by assumption)) | exact HB.out)))) A23.out).mono ?_); rintro e w25 ⟨rfl, hb⟩; have n0_ := uZ (zA (uR a1.out) hb); have n1_ := uZ (zN (uB HB.out) hb); clear a1; clear HB; have a1 := n0_; have HB := n1_; clear n0_ n1_; (try clear hb); (try clear hb2); (try clear hk); (try clear hi)))
      repeat (go_quiet (first | (go_at_call 14; (with_reducible refine (switchbacklaw01_live.calls  t324 _ (uZ (hLaid_.out.below (by repeat (first | (with_reducible first | exact HB.out | apply zJ | apply zI | apply zK) | refine zL ?_ (Aside0.out (by assumption)) | exact HB.out)))) A23.out).mono ?_); rintro e w25 ⟨rfl, hb⟩; have n0_ := uZ (zA (uR a1.out) hb); have n1_ := uZ (zN (uB HB.out) hb); clear a1; clear HB; have a1 := n0_; have HB := n1_; clear n0_ n1_; (try clear hb); (try clear hb2); (try clear hk); (try clear hi))); try go_wp2_with (first | (go_at_call 14; (with_reducible refine (switchbacklaw01_live.calls  t324 _ (uZ (hLaid_.out.below (by repeat (first | (with_reducible first | exact HB.out | apply zJ | apply zI | apply zK) | refine zL ?_ (Aside0.out (by assumption)) | exact HB.out)))) A23.out).mono ?_); rintro e w25 ⟨rfl, hb⟩; have n0_ := uZ (zA (uR a1.out) hb); have n1_ := uZ (zN (uB HB.out) hb); clear a1; clear HB; have a1 := n0_; have HB := n1_; clear n0_ n1_; (try clear hb); (try clear hb2); (try clear hk); (try clear hi))))
      go_ret
      exact ⟨by first | rfl | (simp [errW_none, errW_some] <;> rfl) | (simp [*, errW_none, errW_some] <;> rfl), by repeat (first | (with_reducible first | exact HB.out | apply zJ | apply zI | apply zK) | exact HB.out)⟩
     rw [if_neg c22] at H
     have c22b0 : decide (20000 < (a5.size : Int)) = false := decide_eq_false c22
     have c22b1 : decide (20000 < a5.size) = false := decide_eq_false (by omega)
     clear c22
     replace H := Option.bind_eq_some_iff.mp H
     obtain ⟨⟨a8, t326, a9⟩, A260, H⟩ := H
     replace H : (if a9 = 0 then ((switchbacklaw01_alike.f k2 a2 a8).bind fun t330 => (if t330 = true then ((switchbacklaw01_live.f).bind fun t331 => (some t331)) else (some false))) else (some false)) = some r := H
     have A26 := uZ A260
     clear A260
     by_cases c27 : a9 = 0
     ·rw [if_pos c27] at H
      have c27b0 : (a9 == 0) = true := beq_iff_eq.mpr c27
      have c27b1 : (a9 != 0) = false := bne_eq_false_iff_eq.mpr c27
      clear c27
      replace H := Option.bind_eq_some_iff.mp H
      obtain ⟨t330, A280, H⟩ := H
      replace H : (if t330 = true then ((switchbacklaw01_live.f).bind fun t331 => (some t331)) else (some false)) = some r := H
      have A28 := uZ A280
      clear A280
      by_cases c29 : t330 = true
      ·subst c29
       have H1 : ((switchbacklaw01_live.f).bind fun t331 => (some t331)) = some r := by rw [if_pos rfl] at H; exact H
       clear H
       have H := H1
       clear H1
       replace H := Option.bind_eq_some_iff.mp H
       obtain ⟨t331, A300, H⟩ := H
       replace H : (some t331) = some r := H
       have A30 := uZ A300
       clear A300
       obtain rfl := Option.some.inj H
       obtain ⟨Ao31, co31, eo31⟩ := zD a1.out
       subst eo31
       go_wp2_with (first | (go_at_call 11; (with_reducible refine (lex_Lex.calls a5 a8 t326 a9 _ (uZ (hLaid_.out.below (by repeat (first | (with_reducible first | exact HB.out | apply zJ | apply zI | apply zK) | refine zL ?_ (Aside0.out (by assumption)) | exact HB.out)))) A26.out).mono ?_); rintro e w32 ⟨v328, rfl, ho0, hb⟩; have n0_ := uZ (Kd.R_elder' (uR a1.out) (zB ho0) hb); have n1_ := uZ (zC (Kd.R_new' ho0 (Kd.R_lt (uR a1.out))) (zM (uB HB.out))); have n2_ := uZ (zN (uB HB.out) hb); clear a1; clear HB; have a1 := n0_; have a3 := n1_; have HB := n2_; clear n0_ n1_ n2_; (try clear hb); (try clear hb2); (try clear hk); (try clear hi); (try clear ho0); obtain ⟨Ao33, co33, eo33⟩ := zD a3.out; subst eo33) | (go_at_call 15; (with_reducible refine (switchbacklaw01_alike.calls k2 _ _ a2 _ _ a8 true _ ?side1 ?side2 ?side3 ?side4 A28.out).mono ?_); (case side1 => repeat (first | exact (zE a1.out).2.2 | (with_reducible refine zF ?_ _) | (with_reducible refine zG ?_ _) | (with_reducible refine zH ?_))); (case side2 => exact (zE a1.out).2.1); (case side3 => repeat (first | exact (zE a3.out).2.2 | (with_reducible refine zF ?_ _) | (with_reducible refine zG ?_ _) | (with_reducible refine zH ?_))); (case side4 => exact (zE a3.out).2.1); rintro e w' ⟨rfl, ⟨nd, rfl⟩⟩; (try first | exact ⟨rfl, _, World.drewN_drewN _ _ _⟩ | exact ⟨rfl, _, Eq.trans (World.drewN_drewN _ _ _) (congrArg (World.drewN _) (Nat.add_assoc _ _ _))⟩)) | (go_at_call 14; (with_reducible refine (switchbacklaw01_live.calls  t331 _ (uZ (hLaid_.out.below (by repeat (first | (with_reducible first | exact HB.out | apply zJ | apply zI | apply zK) | refine zL ?_ (Aside0.out (by assumption)) | exact HB.out)))) A30.out).mono ?_); rintro e w34 ⟨rfl, hb⟩; have n0_ := uZ (zA (uR a1.out) hb); have n1_ := uZ (zA (uR a3.out) hb); have n2_ := uZ (zN (uB HB.out) hb); clear a1; clear a3; clear HB; have a1 := n0_; have a3 := n1_; have HB := n2_; clear n0_ n1_ n2_; (try clear hb); (try clear hb2); (try clear hk); (try clear hi)))
       repeat (go_quiet (first | (go_at_call 11; (with_reducible refine (lex_Lex.calls a5 a8 t326 a9 _ (uZ (hLaid_.out.below (by repeat (first | (with_reducible first | exact HB.out | apply zJ | apply zI | apply zK) | refine zL ?_ (Aside0.out (by assumption)) | exact HB.out)))) A26.out).mono ?_); rintro e w32 ⟨v328, rfl, ho0, hb⟩; have n0_ := uZ (Kd.R_elder' (uR a1.out) (zB ho0) hb); have n1_ := uZ (zC (Kd.R_new' ho0 (Kd.R_lt (uR a1.out))) (zM (uB HB.out))); have n2_ := uZ (zN (uB HB.out) hb); clear a1; clear HB; have a1 := n0_; have a3 := n1_; have HB := n2_; clear n0_ n1_ n2_; (try clear hb); (try clear hb2); (try clear hk); (try clear hi); (try clear ho0); obtain ⟨Ao33, co33, eo33⟩ := zD a3.out; subst eo33) | (go_at_call 15; (with_reducible refine (switchbacklaw01_alike.calls k2 _ _ a2 _ _ a8 true _ ?side1 ?side2 ?side3 ?side4 A28.out).mono ?_); (case side1 => repeat (first | exact (zE a1.out).2.2 | (with_reducible refine zF ?_ _) | (with_reducible refine zG ?_ _) | (with_reducible refine zH ?_))); (case side2 => exact (zE a1.out).2.1); (case side3 => repeat (first | exact (zE a3.out).2.2 | (with_reducible refine zF ?_ _) | (with_reducible refine zG ?_ _) | (with_reducible refine zH ?_))); (case side4 => exact (zE a3.out).2.1); rintro e w' ⟨rfl, ⟨nd, rfl⟩⟩; (try first | exact ⟨rfl, _, World.drewN_drewN _ _ _⟩ | exact ⟨rfl, _, Eq.trans (World.drewN_drewN _ _ _) (congrArg (World.drewN _) (Nat.add_assoc _ _ _))⟩)) | (go_at_call 14; (with_reducible refine (switchbacklaw01_live.calls  t331 _ (uZ (hLaid_.out.below (by repeat (first | (with_reducible first | exact HB.out | apply zJ | apply zI | apply zK) | refine zL ?_ (Aside0.out (by assumption)) | exact HB.out)))) A30.out).mono ?_); rintro e w34 ⟨rfl, hb⟩; have n0_ := uZ (zA (uR a1.out) hb); have n1_ := uZ (zA (uR a3.out) hb); have n2_ := uZ (zN (uB HB.out) hb); clear a1; clear a3; clear HB; have a1 := n0_; have a3 := n1_; have HB := n2_; clear n0_ n1_ n2_; (try clear hb); (try clear hb2); (try clear hk); (try clear hi))); try go_wp2_with (first | (go_at_call 11; (with_reducible refine (lex_Lex.calls a5 a8 t326 a9 _ (uZ (hLaid_.out.below (by repeat (first | (with_reducible first | exact HB.out | apply zJ | apply zI | apply zK) | refine zL ?_ (Aside0.out (by assumption)) | exact HB.out)))) A26.out).mono ?_); rintro e w32 ⟨v328, rfl, ho0, hb⟩; have n0_ := uZ (Kd.R_elder' (uR a1.out) (zB ho0) hb); have n1_ := uZ (zC (Kd.R_new' ho0 (Kd.R_lt (uR a1.out))) (zM (uB HB.out))); have n2_ := uZ (zN (uB HB.out) hb); clear a1; clear HB; have a1 := n0_; have a3 := n1_; have HB := n2_; clear n0_ n1_ n2_; (try clear hb); (try clear hb2); (try clear hk); (try clear hi); (try clear ho0); obtain ⟨Ao33, co33, eo33⟩ := zD a3.out; subst eo33) | (go_at_call 15; (with_reducible refine (switchbacklaw01_alike.calls k2 _ _ a2 _ _ a8 true _ ?side1 ?side2 ?side3 ?side4 A28.out).mono ?_); (case side1 => repeat (first | exact (zE a1.out).2.2 | (with_reducible refine zF ?_ _) | (with_reducible refine zG ?_ _) | (with_reducible refine zH ?_))); (case side2 => exact (zE a1.out).2.1); (case side3 => repeat (first | exact (zE a3.out).2.2 | (with_reducible refine zF ?_ _) | (with_reducible refine zG ?_ _) | (with_reducible refine zH ?_))); (case side4 => exact (zE a3.out).2.1); rintro e w' ⟨rfl, ⟨nd, rfl⟩⟩; (try first | exact ⟨rfl, _, World.drewN_drewN _ _ _⟩ | exact ⟨rfl, _, Eq.trans (World.drewN_drewN _ _ _) (congrArg (World.drewN _) (Nat.add_assoc _ _ _))⟩)) | (go_at_call 14; (with_reducible refine (switchbacklaw01_live.calls  t331 _ (uZ (hLaid_.out.below (by repeat (first | (with_reducible first | exact HB.out | apply zJ | apply zI | apply zK) | refine zL ?_ (Aside0.out (by assumption)) | exact HB.out)))) A30.out).mono ?_); rintro e w34 ⟨rfl, hb⟩; have n0_ := uZ (zA (uR a1.out) hb); have n1_ := uZ (zA (uR a3.out) hb); have n2_ := uZ (zN (uB HB.out) hb); clear a1; clear a3; clear HB; have a1 := n0_; have a3 := n1_; have HB := n2_; clear n0_ n1_ n2_; (try clear hb); (try clear hb2); (try clear hk); (try clear hi))))
       go_ret
       exact ⟨by first | rfl | (simp [errW_none, errW_some] <;> rfl) | (simp [*, errW_none, errW_some] <;> rfl), by repeat (first | (with_reducible first | exact HB.out | apply zJ | apply zI | apply zK) | exact HB.out)⟩
      replace c29 := Bool.eq_false_iff.mpr c29
      subst c29
      have H1 : (some false) = some r := by rw [if_neg (show ¬ (false = true) by decide)] at H; exact H
      clear H
      have H := H1
      clear H1
      obtain rfl := Option.some.inj H
      obtain ⟨Ao35, co35, eo35⟩ := zD a1.out
      subst eo35
      go_wp2_with (first | (go_at_call 11; (with_reducible refine (lex_Lex.calls a5 a8 t326 a9 _ (uZ (hLaid_.out.below (by repeat (first | (with_reducible first | exact HB.out | apply zJ | apply zI | apply zK) | refine zL ?_ (Aside0.out (by assumption)) | exact HB.out)))) A26.out).mono ?_); rintro e w36 ⟨v328, rfl, ho0, hb⟩; have n0_ := uZ (Kd.R_elder' (uR a1.out) (zB ho0) hb); have n1_ := uZ (zC (Kd.R_new' ho0 (Kd.R_lt (uR a1.out))) (zM (uB HB.out))); have n2_ := uZ (zN (uB HB.out) hb); clear a1; clear HB; have a1 := n0_; have a3 := n1_; have HB := n2_; clear n0_ n1_ n2_; (try clear hb); (try clear hb2); (try clear hk); (try clear hi); (try clear ho0); obtain ⟨Ao37, co37, eo37⟩ := zD a3.out; subst eo37) | (go_at_call 15; (with_reducible refine (switchbacklaw01_alike.calls k2 _ _ a2 _ _ a8 false _ ?side1 ?side2 ?side3 ?side4 A28.out).mono ?_); (case side1 => repeat (first | exact (zE a1.out).2.2 | (with_reducible refine zF ?_ _) | (with_reducible refine zG ?_ _) | (with_reducible refine zH ?_))); (case side2 => exact (zE a1.out).2.1); (case side3 => repeat (first | exact (zE a3.out).2.2 | (with_reducible refine zF ?_ _) | (with_reducible refine zG ?_ _) | (with_reducible refine zH ?_))); (case side4 => exact (zE a3.out).2.1); rintro e w' ⟨rfl, ⟨nd, rfl⟩⟩; (try first | exact ⟨rfl, _, World.drewN_drewN _ _ _⟩ | exact ⟨rfl, _, Eq.trans (World.drewN_drewN _ _ _) (congrArg (World.drewN _) (Nat.add_assoc _ _ _))⟩)))
      repeat (go_quiet (first | (go_at_call 11; (with_reducible refine (lex_Lex.calls a5 a8 t326 a9 _ (uZ (hLaid_.out.below (by repeat (first | (with_reducible first | exact HB.out | apply zJ | apply zI | apply zK) | refine zL ?_ (Aside0.out (by assumption)) | exact HB.out)))) A26.out).mono ?_); rintro e w36 ⟨v328, rfl, ho0, hb⟩; have n0_ := uZ (Kd.R_elder' (uR a1.out) (zB ho0) hb); have n1_ := uZ (zC (Kd.R_new' ho0 (Kd.R_lt (uR a1.out))) (zM (uB HB.out))); have n2_ := uZ (zN (uB HB.out) hb); clear a1; clear HB; have a1 := n0_; have a3 := n1_; have HB := n2_; clear n0_ n1_ n2_; (try clear hb); (try clear hb2); (try clear hk); (try clear hi); (try clear ho0); obtain ⟨Ao37, co37, eo37⟩ := zD a3.out; subst eo37) | (go_at_call 15; (with_reducible refine (switchbacklaw01_alike.calls k2 _ _ a2 _ _ a8 false _ ?side1 ?side2 ?side3 ?side4 A28.out).mono ?_); (case side1 => repeat (first | exact (zE a1.out).2.2 | (with_reducible refine zF ?_ _) | (with_reducible refine zG ?_ _) | (with_reducible refine zH ?_))); (case side2 => exact (zE a1.out).2.1); (case side3 => repeat (first | exact (zE a3.out).2.2 | (with_reducible refine zF ?_ _) | (with_reducible refine zG ?_ _) | (with_reducible refine zH ?_))); (case side4 => exact (zE a3.out).2.1); rintro e w' ⟨rfl, ⟨nd, rfl⟩⟩; (try first | exact ⟨rfl, _, World.drewN_drewN _ _ _⟩ | exact ⟨rfl, _, Eq.trans (World.drewN_drewN _ _ _) (congrArg (World.drewN _) (Nat.add_assoc _ _ _))⟩))); try go_wp2_with (first | (go_at_call 11; (with_reducible refine (lex_Lex.calls a5 a8 t326 a9 _ (uZ (hLaid_.out.below (by repeat (first | (with_reducible first | exact HB.out | apply zJ | apply zI | apply zK) | refine zL ?_ (Aside0.out (by assumption)) | exact HB.out)))) A26.out).mono ?_); rintro e w36 ⟨v328, rfl, ho0, hb⟩; have n0_ := uZ (Kd.R_elder' (uR a1.out) (zB ho0) hb); have n1_ := uZ (zC (Kd.R_new' ho0 (Kd.R_lt (uR a1.out))) (zM (uB HB.out))); have n2_ := uZ (zN (uB HB.out) hb); clear a1; clear HB; have a1 := n0_; have a3 := n1_; have HB := n2_; clear n0_ n1_ n2_; (try clear hb); (try clear hb2); (try clear hk); (try clear hi); (try clear ho0); obtain ⟨Ao37, co37, eo37⟩ := zD a3.out; subst eo37) | (go_at_call 15; (with_reducible refine (switchbacklaw01_alike.calls k2 _ _ a2 _ _ a8 false _ ?side1 ?side2 ?side3 ?side4 A28.out).mono ?_); (case side1 => repeat (first | exact (zE a1.out).2.2 | (with_reducible refine zF ?_ _) | (with_reducible refine zG ?_ _) | (with_reducible refine zH ?_))); (case side2 => exact (zE a1.out).2.1); (case side3 => repeat (first | exact (zE a3.out).2.2 | (with_reducible refine zF ?_ _) | (with_reducible refine zG ?_ _) | (with_reducible refine zH ?_))); (case side4 => exact (zE a3.out).2.1); rintro e w' ⟨rfl, ⟨nd, rfl⟩⟩; (try first | exact ⟨rfl, _, World.drewN_drewN _ _ _⟩ | exact ⟨rfl, _, Eq.trans (World.drewN_drewN _ _ _) (congrArg (World.drewN _) (Nat.add_assoc _ _ _))⟩))))
      go_ret
      exact ⟨by first | rfl | (simp [errW_none, errW_some] <;> rfl) | (simp [*, errW_none, errW_some] <;> rfl), by repeat (first | (with_reducible first | exact HB.out | apply zJ | apply zI | apply zK) | exact HB.out)⟩
     rw [if_neg c27] at H
     have c27b0 : (a9 == 0) = false := beq_eq_false_iff_ne.mpr c27
     have c27b1 : (a9 != 0) = true := bne_iff_ne.mpr c27
     obtain rfl := Option.some.inj H
     obtain ⟨Ao38, co38, eo38⟩ := zD a1.out
     subst eo38
     go_wp2_with (first | (go_at_call 11; (with_reducible refine (lex_Lex.calls a5 a8 t326 a9 _ (uZ (hLaid_.out.below (by repeat (first | (with_reducible first | exact HB.out | apply zJ | apply zI | apply zK) | refine zL ?_ (Aside0.out (by assumption)) | exact HB.out)))) A26.out).mono ?_); rintro e w39 ⟨v328, rfl, ho0, hb⟩; have n0_ := uZ (Kd.R_elder' (uR a1.out) (zB ho0) hb); have n1_ := uZ (zC (Kd.R_new' ho0 (Kd.R_lt (uR a1.out))) (zM (uB HB.out))); have n2_ := uZ (zN (uB HB.out) hb); clear a1; clear HB; have a1 := n0_; have a3 := n1_; have HB := n2_; clear n0_ n1_ n2_; (try clear hb); (try clear hb2); (try clear hk); (try clear hi); (try clear ho0)))
     repeat (go_quiet (first | (go_at_call 11; (with_reducible refine (lex_Lex.calls a5 a8 t326 a9 _ (uZ (hLaid_.out.below (by repeat (first | (with_reducible first | exact HB.out | apply zJ | apply zI | apply zK) | refine zL ?_ (Aside0.out (by assumption)) | exact HB.out)))) A26.out).mono ?_); rintro e w39 ⟨v328, rfl, ho0, hb⟩; have n0_ := uZ (Kd.R_elder' (uR a1.out) (zB ho0) hb); have n1_ := uZ (zC (Kd.R_new' ho0 (Kd.R_lt (uR a1.out))) (zM (uB HB.out))); have n2_ := uZ (zN (uB HB.out) hb); clear a1; clear HB; have a1 := n0_; have a3 := n1_; have HB := n2_; clear n0_ n1_ n2_; (try clear hb); (try clear hb2); (try clear hk); (try clear hi); (try clear ho0))); try go_wp2_with (first | (go_at_call 11; (with_reducible refine (lex_Lex.calls a5 a8 t326 a9 _ (uZ (hLaid_.out.below (by repeat (first | (with_reducible first | exact HB.out | apply zJ | apply zI | apply zK) | refine zL ?_ (Aside0.out (by assumption)) | exact HB.out)))) A26.out).mono ?_); rintro e w39 ⟨v328, rfl, ho0, hb⟩; have n0_ := uZ (Kd.R_elder' (uR a1.out) (zB ho0) hb); have n1_ := uZ (zC (Kd.R_new' ho0 (Kd.R_lt (uR a1.out))) (zM (uB HB.out))); have n2_ := uZ (zN (uB HB.out) hb); clear a1; clear HB; have a1 := n0_; have a3 := n1_; have HB := n2_; clear n0_ n1_ n2_; (try clear hb); (try clear hb2); (try clear hk); (try clear hi); (try clear ho0))))
     go_ret
     exact ⟨by first | rfl | (simp [errW_none, errW_some] <;> rfl) | (simp [*, errW_none, errW_some] <;> rfl), by repeat (first | (with_reducible first | exact HB.out | apply zJ | apply zI | apply zK) | exact HB.out)⟩

end Go.Proofs.YtjoboaaambdpoaaDoor.PR01
