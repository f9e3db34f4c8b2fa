-- Written by gp.py for this claim.
import Derived.Test.YtjoboaaambdpoaaDoorPR01x0
import Derived.Test.YtjoboaaambdpoaaDoorPR01x51
import Derived.Test.YtjoboaaambdpoaaDoorPR01x65
import Derived.Test.YtjoboaaambdpoaaDoorPR01x68
namespace Go.Proofs.YtjoboaaambdpoaaDoor.PR01
open Go.RowKit Go.Proofs.YtjoboaaambdpoaaDoorW.PrintWords Go.Proofs.YtjoboaaambdpoaaDoorW.PrintLast Go.Proofs.YtjoboaaambdpoaaDoorW.PrintMore
attribute [local go_sem] max2_int min2_int max_two min_two max_three min_three max_four min_four   -- for this text's walks alone
set_option linter.unusedVariables false
set_option linter.unusedSimpArgs false

namespace q_switchbacklaw01_LexGlued
theorem uZ {p : Prop} (h : p) : Aside0 p := ⟨h⟩
theorem uR {p q : Prop} (h : p) (g : p → q := by intro h; (with_reducible repeat (first | apply Kd.R_alloc | apply Kd.R_drewN | apply Kd.R_drew)); exact h) : q := g h
theorem uB {p q : Prop} (h : p) (g : p → q := by intro h; repeat (first | (with_reducible first | exact h | apply below_alloc | apply pw_below_drewN | apply below_drew1) | exact h)) : q := g h
theorem zA : type_of% @Kd.R_alloc := @Kd.R_alloc
theorem zB : type_of% @Kd.R_drewN := @Kd.R_drewN
theorem zC : type_of% @Kd.R_drew := @Kd.R_drew
theorem zD : type_of% @Kd.R_mono := @Kd.R_mono
theorem zE : type_of% @Kd.R_lt := @Kd.R_lt
theorem zF : type_of% @Kd.R_slice := @Kd.R_slice
theorem zG : type_of% @Kd.R_append_rows := @Kd.R_append_rows
theorem zH : type_of% @Kd.R_reads' := @Kd.R_reads'
theorem zI : type_of% @Kd.C_alloc := @Kd.C_alloc
theorem zJ : type_of% @Kd.C_drewN := @Kd.C_drewN
theorem zK : type_of% @Kd.C_drew := @Kd.C_drew
theorem zL : type_of% @Kd.fresh' := @Kd.fresh'
theorem zM : type_of% @pw_below_drewN := @pw_below_drewN
theorem zN : type_of% @below_alloc := @below_alloc
theorem zO : type_of% @below_drew1 := @below_drew1
theorem zP : type_of% @below_size := @below_size
theorem zQ : type_of% @below_step := @below_step
theorem zR : type_of% @List.map_toArray := @List.map_toArray
theorem zS : type_of% @List.length_drop := @List.length_drop
theorem zT : type_of% @List.length_take := @List.length_take
end q_switchbacklaw01_LexGlued
open q_switchbacklaw01_LexGlued

/-! ### switchbacklaw01_LexGlued: function 7 -/
def switchbacklaw01_LexGlued.j0 : Nat → ByteArray → ByteArray → List (S29) → List (S29) → Bool → Option (Bool)
  | 0, _, _, _, _, _ => none
  | k + 1, x0, x1, x5, x8, x60 => if x60 = true then ((switchbacklaw01_live.f).bind fun t298 => (some t298)) else (if x0.size + 1 ≤ 9223372036854775807 then (if (x0 ++ (⟨#[10]⟩ : ByteArray)).size + x1.size ≤ 9223372036854775807 then ((lex_Lex.f ((x0 ++ (⟨#[10]⟩ : ByteArray)) ++ x1)).bind fun bt299 => (if 0 ≤ (wrap64 ((x5.length : Int) - 1)) then (if (wrap64 ((x5.length : Int) - 1)) ≤ (x5.length : Int) then ((some (x5.take ((wrap64 ((x5.length : Int) - 1)) : Int).toNat : List (S29))).bind fun y304 => (if ([] : List (S29)).length + y304.length < 3518437208883 then ((some (([] : List (S29)) ++ y304 : List (S29))).bind fun y308 => (if y308.length + x8.length < 3518437208883 then (if bt299.2.2 = 0 then ((switchbacklaw01_alike.f k bt299.1 (y308 ++ x8)).bind fun t314 => (if t314 = true then ((switchbacklaw01_live.f).bind fun t315 => (some t315)) else (some false))) else (some false)) else (none))) else (none))) else (none)) else (none))) else (none)) else (none))
def switchbacklaw01_LexGlued.f (k : Nat) (a0 : ByteArray) (a1 : ByteArray) : Option (Bool) := (lex_Lex.f a0).bind fun bt288 => ((lex_Lex.f a1).bind fun bt293 => (if bt288.2.2 = 0 then (if bt293.2.2 = 0 then (if (bt288.1.length : Int) = 0 then (switchbacklaw01_LexGlued.j0 k a0 a1 bt288.1 bt293.1 true) else (if (bt293.1.length : Int) = 0 then (switchbacklaw01_LexGlued.j0 k a0 a1 bt288.1 bt293.1 true) else (if (wrap64 ((wrap64 ((a0.size : Int) + (a1.size : Int))) + 1)) > 20000 then (switchbacklaw01_LexGlued.j0 k a0 a1 bt288.1 bt293.1 true) else (switchbacklaw01_LexGlued.j0 k a0 a1 bt288.1 bt293.1 (decide ((wrap64 ((wrap64 ((bt288.1.length : Int) + (bt293.1.length : Int))) - 1)) > 4000)))))) else (switchbacklaw01_LexGlued.j0 k a0 a1 bt288.1 bt293.1 true)) else (switchbacklaw01_LexGlued.j0 k a0 a1 bt288.1 bt293.1 true)))
theorem switchbacklaw01_LexGlued.mono_l : ∀ k, (∀ y0 y1 y2 y3 y4, LeO (switchbacklaw01_LexGlued.j0 k y0 y1 y2 y3 y4) (switchbacklaw01_LexGlued.j0 (k + 1) y0 y1 y2 y3 y4))
  | 0 => fun _ _ _ _ _ r h => by simp [switchbacklaw01_LexGlued.j0] at h
  | k + 1 => by
    have ih0 := switchbacklaw01_LexGlued.mono_l k
    · intro y0 y1 y2 y3 y4
      unfold switchbacklaw01_LexGlued.j0
      repeat' first
      | (with_reducible exact ih0 _ _ _ _ _)
      | (with_reducible exact switchbacklaw01_alike.mono _ _ _)
      | (with_reducible exact LeO.refl _)
      | (with_reducible exact LeO.none _)
      | (with_reducible refine LeO.ite ?_ ?_)
      | (with_reducible refine LeO.bind ?_ (fun _ => ?_))
      | exact ih0 _ _ _ _ _
      | exact switchbacklaw01_alike.mono _ _ _
      | exact LeO.none _
      | refine LeO.ite ?_ ?_
      | refine LeO.bind ?_ (fun _ => ?_)
theorem switchbacklaw01_LexGlued.mono : ∀ a0 a1 k, LeO (switchbacklaw01_LexGlued.f k a0 a1) (switchbacklaw01_LexGlued.f (k + 1) a0 a1) := by
  intro a0 a1 k
  have ih0 := switchbacklaw01_LexGlued.mono_l k
  unfold switchbacklaw01_LexGlued.f
  repeat' first
      | (with_reducible exact ih0 _ _ _ _ _)
      | (with_reducible exact switchbacklaw01_alike.mono _ _ _)
      | (with_reducible exact LeO.refl _)
      | (with_reducible exact LeO.none _)
      | (with_reducible refine LeO.ite ?_ ?_)
      | (with_reducible refine LeO.bind ?_ (fun _ => ?_))
      | exact ih0 _ _ _ _ _
      | exact switchbacklaw01_alike.mono _ _ _
      | exact LeO.none _
      | refine LeO.ite ?_ ?_
      | refine LeO.bind ?_ (fun _ => ?_)
set_option maxHeartbeats 8000000 in
set_option maxRecDepth 100000 in
theorem switchbacklaw01_LexGlued.calls (k : Nat) (a0 : ByteArray) (a1 : ByteArray) (r : Bool) (w : World) (hLaid_ : Aside0 (Laid w)) (h : switchbacklaw01_LexGlued.f k a0 a1 = some r) :
    Calls Tryd.prog 7 #[.string a0, .string a1] w fun e w' => e = .returned (.bool r) ∧ Below w.heap.size w w' := by
 have HB := uZ (Below.refl w.heap.size w)
 have H : ((lex_Lex.f a0).bind fun af => ((lex_Lex.f a1).bind fun a9 => (if af.2.2 = 0 then (if a9.2.2 = 0 then (if (af.1.length : Int) = 0 then (switchbacklaw01_LexGlued.j0 k a0 a1 af.1 a9.1 true) else (if (a9.1.length : Int) = 0 then (switchbacklaw01_LexGlued.j0 k a0 a1 af.1 a9.1 true) else (if (wrap64 ((wrap64 ((a0.size : Int) + (a1.size : Int))) + 1)) > 20000 then (switchbacklaw01_LexGlued.j0 k a0 a1 af.1 a9.1 true) else (switchbacklaw01_LexGlued.j0 k a0 a1 af.1 a9.1 (decide ((wrap64 ((wrap64 ((af.1.length : Int) + (a9.1.length : Int))) - 1)) > 4000)))))) else (switchbacklaw01_LexGlued.j0 k a0 a1 af.1 a9.1 true)) else (switchbacklaw01_LexGlued.j0 k a0 a1 af.1 a9.1 true)))) = some r := h
 clear h
 replace H := Option.bind_eq_some_iff.mp H
 obtain ⟨⟨a2, t289, t290⟩, A30, H⟩ := H
 replace H : ((lex_Lex.f a1).bind fun a9 => (if t290 = 0 then (if a9.2.2 = 0 then (if (a2.length : Int) = 0 then (switchbacklaw01_LexGlued.j0 k a0 a1 a2 a9.1 true) else (if (a9.1.length : Int) = 0 then (switchbacklaw01_LexGlued.j0 k a0 a1 a2 a9.1 true) else (if (wrap64 ((wrap64 ((a0.size : Int) + (a1.size : Int))) + 1)) > 20000 then (switchbacklaw01_LexGlued.j0 k a0 a1 a2 a9.1 true) else (switchbacklaw01_LexGlued.j0 k a0 a1 a2 a9.1 (decide ((wrap64 ((wrap64 ((a2.length : Int) + (a9.1.length : Int))) - 1)) > 4000)))))) else (switchbacklaw01_LexGlued.j0 k a0 a1 a2 a9.1 true)) else (switchbacklaw01_LexGlued.j0 k a0 a1 a2 a9.1 true))) = some r := H
 have A3 := uZ A30
 clear A30
 replace H := Option.bind_eq_some_iff.mp H
 obtain ⟨⟨a6, t294, t295⟩, A40, H⟩ := H
 replace H : (if t290 = 0 then (if t295 = 0 then (if (a2.length : Int) = 0 then (switchbacklaw01_LexGlued.j0 k a0 a1 a2 a6 true) else (if (a6.length : Int) = 0 then (switchbacklaw01_LexGlued.j0 k a0 a1 a2 a6 true) else (if (wrap64 ((wrap64 ((a0.size : Int) + (a1.size : Int))) + 1)) > 20000 then (switchbacklaw01_LexGlued.j0 k a0 a1 a2 a6 true) else (switchbacklaw01_LexGlued.j0 k a0 a1 a2 a6 (decide ((wrap64 ((wrap64 ((a2.length : Int) + (a6.length : Int))) - 1)) > 4000)))))) else (switchbacklaw01_LexGlued.j0 k a0 a1 a2 a6 true)) else (switchbacklaw01_LexGlued.j0 k a0 a1 a2 a6 true)) = some r := H
 have A4 := uZ A40
 clear A40
 have HC5 := uZ H
 clear H
 go_enter Tryd.func7, Tryd.ntmps7
 go_upto_region 3 with (first | ((with_reducible refine gate_callee (f := 11) rfl ?_); refine goesL_ (some 17) rfl rfl Tryd.func11 (by kernel_rfl) rfl #[.string a0] rfl (by (try simp only [zR, List.map_cons, List.map_nil]); first | done | rfl | (simp only [zS, zT]; rfl)) ?_; (with_reducible refine (lex_Lex.calls a0 a2 t289 t290 _ (uZ (hLaid_.out.below (by repeat (first | (with_reducible first | exact HB.out | apply zN | apply zM | apply zO) | refine below_set ?_ (Aside0.out (by assumption)) | exact HB.out)))) A3.out).mono ?_); rintro e w6 ⟨v291, rfl, ho0, hb⟩; refine ⟨_, rfl, ?_⟩; have n0_ := uZ (Kd.R_lower ho0 (zP (uB HB.out))); have n1_ := uZ (zQ (uB HB.out) hb); clear HB; have aa := n0_; have HB := n1_; clear n0_ n1_; (try clear hb); (try clear hb2); (try clear hk); (try clear hi); (try clear ho0)) | ((with_reducible refine gate_callee (f := 11) rfl ?_); refine goesL_ (some 23) rfl rfl Tryd.func11 (by kernel_rfl) rfl #[.string a1] rfl (by (try simp only [zR, List.map_cons, List.map_nil]); first | done | rfl | (simp only [zS, zT]; rfl)) ?_; (with_reducible refine (lex_Lex.calls a1 a6 t294 t295 _ (uZ (hLaid_.out.below (by repeat (first | (with_reducible first | exact HB.out | apply zN | apply zM | apply zO) | refine below_set ?_ (Aside0.out (by assumption)) | exact HB.out)))) A4.out).mono ?_); rintro e w7 ⟨v296, rfl, ho0, hb⟩; refine ⟨_, rfl, ?_⟩; have n0_ := uZ (Kd.R_elder' (uR aa.out) (Kd.R_base ho0) hb); have n1_ := uZ (Kd.R_lower (Kd.R_new' ho0 (zE (uR aa.out))) (zP (uB HB.out))); have n2_ := uZ (zQ (uB HB.out) hb); clear aa; clear HB; have aa := n0_; have ag := n1_; have HB := n2_; clear n0_ n1_ n2_; (try clear hb); (try clear hb2); (try clear hk); (try clear hi); (try clear ho0)))
 (try simp only [Act.put, List.setIfInBounds_toArray, List.set_cons_zero, List.set_cons_succ])
 go_cut [60] (fun v60 wc => ∃ (kq : Nat) (x60_4 : Bool), v60 = .bool x60_4 ∧ Aside0 (switchbacklaw01_LexGlued.j0 kq a0 a1 a2 a6 x60_4 = some r) ∧ Aside0 (kq ≤ k) ∧ Aside0 (Kd.R k29 29 wc w.heap.size (fun k_ => some k_ ≠ (v296 : Value).ownBlock) v291 a2) ∧ Aside0 (Kd.R k29 29 wc w.heap.size (fun k_ => some k_ ≠ (v291 : Value).ownBlock) v296 a6) ∧ Aside0 (Below w.heap.size w wc))
 case first =>
  have H := HC5.out
  clear HC5
  by_cases c8 : t290 = 0
  ·rw [if_pos c8] at H
   have c8b0 : (t290 == 0) = true := beq_iff_eq.mpr c8
   have c8b1 : (t290 != 0) = false := bne_eq_false_iff_eq.mpr c8
   clear c8
   (first | rw [c8b0] | (simp only [i64_w, i32_w]; rw [c8b0]) | skip)
   by_cases c9 : t295 = 0
   ·rw [if_pos c9] at H
    have c9b0 : (t295 == 0) = true := beq_iff_eq.mpr c9
    have c9b1 : (t295 != 0) = false := bne_eq_false_iff_eq.mpr c9
    clear c9
    by_cases c10 : (a2.length : Int) = 0
    ·rw [if_pos c10] at H
     have c10b0 : ((a2.length : Int) == 0) = true := beq_iff_eq.mpr c10
     have c10b1 : ((a2.length : Int) != 0) = false := bne_eq_false_iff_eq.mpr c10
     clear c10
     have H' := uZ H
     clear H
     obtain ⟨Ao11, co11, eo11⟩ := zF aa.out
     subst eo11
     go_wp2
     go_meet
     case rel => exact ⟨_, (true), (by first | rfl | (simp; done) | (simp [*]; done)), H', ⟨by first | omega | exact Nat.le_refl _⟩, ⟨by (with_reducible repeat (first | apply zA | apply zB | apply zC)); exact zD aa.out (fun _ hk => hk.2)⟩, ⟨by (with_reducible repeat (first | apply zA | apply zB | apply zC)); exact zD ag.out (fun _ hk => hk.2)⟩, ⟨uB HB.out⟩⟩
    rw [if_neg c10] at H
    have c10b0 : ((a2.length : Int) == 0) = false := beq_eq_false_iff_ne.mpr c10
    have c10b1 : ((a2.length : Int) != 0) = true := bne_iff_ne.mpr c10
    have c10b2 : ¬ (a2 = []) := fun h_ => c10 (by rw [h_]; rfl)
    by_cases c12 : (a6.length : Int) = 0
    ·rw [if_pos c12] at H
     have c12b0 : ((a6.length : Int) == 0) = true := beq_iff_eq.mpr c12
     have c12b1 : ((a6.length : Int) != 0) = false := bne_eq_false_iff_eq.mpr c12
     clear c12
     have H' := uZ H
     clear H
     obtain ⟨Ao13, co13, eo13⟩ := zF aa.out
     subst eo13
     obtain ⟨Ao14, co14, eo14⟩ := zF ag.out
     subst eo14
     go_wp2
     go_meet
     case rel => exact ⟨_, (true), (by first | rfl | (simp; done) | (simp [*]; done)), H', ⟨by first | omega | exact Nat.le_refl _⟩, ⟨by (with_reducible repeat (first | apply zA | apply zB | apply zC)); exact zD aa.out (fun _ hk => hk.2)⟩, ⟨by (with_reducible repeat (first | apply zA | apply zB | apply zC)); exact zD ag.out (fun _ hk => hk.2)⟩, ⟨uB HB.out⟩⟩
    rw [if_neg c12] at H
    have c12b0 : ((a6.length : Int) == 0) = false := beq_eq_false_iff_ne.mpr c12
    have c12b1 : ((a6.length : Int) != 0) = true := bne_iff_ne.mpr c12
    have c12b2 : ¬ (a6 = []) := fun h_ => c12 (by rw [h_]; rfl)
    by_cases c15 : (wrap64 ((wrap64 ((a0.size : Int) + (a1.size : Int))) + 1)) > 20000
    ·rw [if_pos c15] at H
     have c15b0 : decide (20000 < (wrap64 ((wrap64 ((a0.size : Int) + (a1.size : Int))) + 1))) = true := decide_eq_true c15
     clear c15
     have H' := uZ H
     clear H
     obtain ⟨Ao16, co16, eo16⟩ := zF aa.out
     subst eo16
     obtain ⟨Ao17, co17, eo17⟩ := zF ag.out
     subst eo17
     go_wp2
     go_meet
     case rel => exact ⟨_, (true), (by first | rfl | (simp; done) | (simp [*]; done)), H', ⟨by first | omega | exact Nat.le_refl _⟩, ⟨by (with_reducible repeat (first | apply zA | apply zB | apply zC)); exact zD aa.out (fun _ hk => hk.2)⟩, ⟨by (with_reducible repeat (first | apply zA | apply zB | apply zC)); exact zD ag.out (fun _ hk => hk.2)⟩, ⟨uB HB.out⟩⟩
    rw [if_neg c15] at H
    have c15b0 : decide (20000 < (wrap64 ((wrap64 ((a0.size : Int) + (a1.size : Int))) + 1))) = false := decide_eq_false c15
    clear c15
    have H' := uZ H
    clear H
    obtain ⟨Ao18, co18, eo18⟩ := zF aa.out
    subst eo18
    obtain ⟨Ao19, co19, eo19⟩ := zF ag.out
    subst eo19
    go_wp2
    go_meet
    case rel => exact ⟨_, (decide ((wrap64 ((wrap64 ((a2.length : Int) + (a6.length : Int))) - 1)) > 4000)), (by first | rfl | (simp; done) | (simp [*]; done)), H', ⟨by first | omega | exact Nat.le_refl _⟩, ⟨by (with_reducible repeat (first | apply zA | apply zB | apply zC)); exact zD aa.out (fun _ hk => hk.2)⟩, ⟨by (with_reducible repeat (first | apply zA | apply zB | apply zC)); exact zD ag.out (fun _ hk => hk.2)⟩, ⟨uB HB.out⟩⟩
   rw [if_neg c9] at H
   have c9b0 : (t295 == 0) = false := beq_eq_false_iff_ne.mpr c9
   have c9b1 : (t295 != 0) = true := bne_iff_ne.mpr c9
   have H' := uZ H
   clear H
   go_wp2
   go_meet
   case rel => exact ⟨_, (true), (by first | rfl | (simp; done) | (simp [*]; done)), H', ⟨by first | omega | exact Nat.le_refl _⟩, ⟨by (with_reducible repeat (first | apply zA | apply zB | apply zC)); exact zD aa.out (fun _ hk => hk.2)⟩, ⟨by (with_reducible repeat (first | apply zA | apply zB | apply zC)); exact zD ag.out (fun _ hk => hk.2)⟩, ⟨uB HB.out⟩⟩
  rw [if_neg c8] at H
  have c8b0 : (t290 == 0) = false := beq_eq_false_iff_ne.mpr c8
  have c8b1 : (t290 != 0) = true := bne_iff_ne.mpr c8
  (first | rw [c8b0] | (simp only [i64_w, i32_w]; rw [c8b0]) | skip)
  have H' := uZ H
  clear H
  go_wp2
  go_meet
  case rel => exact ⟨_, (true), (by first | rfl | (simp; done) | (simp [*]; done)), H', ⟨by first | omega | exact Nat.le_refl _⟩, ⟨by (with_reducible repeat (first | apply zA | apply zB | apply zC)); exact zD aa.out (fun _ hk => hk.2)⟩, ⟨by (with_reducible repeat (first | apply zA | apply zB | apply zC)); exact zD ag.out (fun _ hk => hk.2)⟩, ⟨uB HB.out⟩⟩
 case rest =>
  clear HC5
  try clear c1
  try clear p2
  try clear p6
  try clear c7
  try clear c8
  try clear c8b0
  try clear c8b1
  try clear c9
  try clear c9b0
  try clear c9b1
  try clear c10
  try clear c10b0
  try clear c10b1
  try clear c10b2
  try clear c11
  try clear c12
  try clear c12b0
  try clear c12b1
  try clear c12b2
  try clear c15
  try clear c15b0
  obtain ⟨kq, x60_4, rfl, HA, HJ4, a3, a5, HB⟩ := hcut
  cases kq with
  | zero => exact absurd HA.out (by simp [switchbacklaw01_LexGlued.j0])
  | succ kj4 =>
   have H := HA.out
   clear HA
   simp only [switchbacklaw01_LexGlued.j0] at H
   by_cases c20 : x60_4 = true
   ·subst c20
    have H1 : ((switchbacklaw01_live.f).bind fun t298 => (some t298)) = some r := by rw [if_pos rfl] at H; exact H
    clear H
    have H := H1
    clear H1
    replace H := Option.bind_eq_some_iff.mp H
    obtain ⟨t298, A210, H⟩ := H
    replace H : (some t298) = some r := H
    have A21 := uZ A210
    clear A210
    obtain rfl := Option.some.inj H
    go_wp2_with (first | ((with_reducible refine gate_callee (f := 14) rfl ?_); refine goesL_ (some 61) rfl rfl Tryd.func14 (by kernel_rfl) rfl #[] rfl (by (try simp only [zR, List.map_cons, List.map_nil]); first | done | rfl | (simp only [zS, zT]; rfl)) ?_; (with_reducible refine (switchbacklaw01_live.calls  t298 _ (uZ (hLaid_.out.below (by repeat (first | (with_reducible first | exact HB.out | apply zN | apply zM | apply zO) | refine below_set ?_ (Aside0.out (by assumption)) | exact HB.out)))) A21.out).mono ?_); rintro e w22 ⟨rfl, hb⟩; refine ⟨_, rfl, ?_⟩; have n0_ := uZ (Kd.R_below (uR a3.out) hb); have n1_ := uZ (Kd.R_below (uR a5.out) hb); have n2_ := uZ (zQ (uB HB.out) hb); clear a3; clear a5; clear HB; have a3 := n0_; have a5 := n1_; have HB := n2_; clear n0_ n1_ n2_; (try clear hb); (try clear hb2); (try clear hk); (try clear hi)))
    go_ret
    exact ⟨by first | rfl | (simp [errW_none, errW_some] <;> rfl) | (simp [*, errW_none, errW_some] <;> rfl), by repeat (first | (with_reducible first | exact HB.out | apply zN | apply zM | apply zO) | exact HB.out)⟩
   replace c20 := Bool.eq_false_iff.mpr c20
   subst c20
   have H1 : (if a0.size + 1 ≤ 9223372036854775807 then (if (a0 ++ (⟨#[10]⟩ : ByteArray)).size + a1.size ≤ 9223372036854775807 then ((lex_Lex.f ((a0 ++ (⟨#[10]⟩ : ByteArray)) ++ a1)).bind fun bt299 => (if 0 ≤ (wrap64 ((a2.length : Int) - 1)) then (if (wrap64 ((a2.length : Int) - 1)) ≤ (a2.length : Int) then ((some (a2.take ((wrap64 ((a2.length : Int) - 1)) : Int).toNat : List (S29))).bind fun a7 => (if ([] : List (S29)).length + a7.length < 3518437208883 then ((some (([] : List (S29)) ++ a7 : List (S29))).bind fun ac => (if ac.length + a6.length < 3518437208883 then (if bt299.2.2 = 0 then ((switchbacklaw01_alike.f kj4 bt299.1 (ac ++ a6)).bind fun ah => (if ah = true then ((switchbacklaw01_live.f).bind fun ad => (some ad)) else (some false))) else (some false)) else (none))) else (none))) else (none)) else (none))) else (none)) else (none)) = some r := by rw [if_neg (show ¬ (false = true) by decide)] at H; exact H
   clear H
   have H := H1
   clear H1
   by_cases c23 : a0.size + 1 ≤ 9223372036854775807
   ·rw [if_pos c23] at H
    have c23b0 := eq_true c23
    have c23b1 : decide (a0.size + 1 ≤ 9223372036854775807) = true := decide_eq_true c23
    try have c23b2 : (9223372036854775807 < a0.size + 1) = False := eq_false (Nat.not_lt.2 c23)
    by_cases c24 : (a0 ++ (⟨#[10]⟩ : ByteArray)).size + a1.size ≤ 9223372036854775807
    ·rw [if_pos c24] at H
     have c24b0 := eq_true c24
     have c24b1 : decide ((a0 ++ (⟨#[10]⟩ : ByteArray)).size + a1.size ≤ 9223372036854775807) = true := decide_eq_true c24
     try have c24b2 : (9223372036854775807 < (a0 ++ (⟨#[10]⟩ : ByteArray)).size + a1.size) = False := eq_false (Nat.not_lt.2 c24)
     replace H := Option.bind_eq_some_iff.mp H
     obtain ⟨⟨t299, t300, t301⟩, A250, H⟩ := H
     replace H : (if 0 ≤ (wrap64 ((a2.length : Int) - 1)) then (if (wrap64 ((a2.length : Int) - 1)) ≤ (a2.length : Int) then ((some (a2.take ((wrap64 ((a2.length : Int) - 1)) : Int).toNat : List (S29))).bind fun a7 => (if ([] : List (S29)).length + a7.length < 3518437208883 then ((some (([] : List (S29)) ++ a7 : List (S29))).bind fun ac => (if ac.length + a6.length < 3518437208883 then (if t301 = 0 then ((switchbacklaw01_alike.f kj4 t299 (ac ++ a6)).bind fun ah => (if ah = true then ((switchbacklaw01_live.f).bind fun ad => (some ad)) else (some false))) else (some false)) else (none))) else (none))) else (none)) else (none)) = some r := H
     have A25 := uZ A250
     clear A250
     obtain ⟨a8, hji26⟩ : ∃ j_ : Int, (wrap64 ((a2.length : Int) - 1)) = j_ := ⟨_, rfl⟩
     replace H : (if 0 ≤ (a8) then (if (a8) ≤ (a2.length : Int) then ((some (a2.take ((a8) : Int).toNat : List (S29))).bind fun a7 => (if ([] : List (S29)).length + a7.length < 3518437208883 then ((some (([] : List (S29)) ++ a7 : List (S29))).bind fun ac => (if ac.length + a6.length < 3518437208883 then (if t301 = 0 then ((switchbacklaw01_alike.f kj4 t299 (ac ++ a6)).bind fun ah => (if ah = true then ((switchbacklaw01_live.f).bind fun ad => (some ad)) else (some false))) else (some false)) else (none))) else (none))) else (none)) else (none)) = some r := by first | (rw [hji26] at H; exact H) | (simp only [hji26] at H ⊢; exact H)
     (try rw [hji26] at A25)
     have hji26w : (IntKind.i64.wrap ((a2.length : Int) - 1)) = a8 := (i64_w _).trans hji26
     by_cases c27 : 0 ≤ (a8)
     ·rw [if_pos c27] at H
      have c27b0 := eq_true c27
      have c27b1 : decide (0 ≤ (a8)) = true := decide_eq_true c27
      clear c27
      by_cases c28 : (a8) ≤ (a2.length : Int)
      ·rw [if_pos c28] at H
       have c28b0 := eq_true c28
       have c28b1 : decide ((a8) ≤ (a2.length : Int)) = true := decide_eq_true c28
       clear c28
       obtain ⟨a7, hy304⟩ : ∃ y_ : List (S29), y_ = (a2.take ((a8) : Int).toNat) := ⟨_, rfl⟩
       replace H : (if ([] : List (S29)).length + a7.length < 3518437208883 then ((some (([] : List (S29)) ++ a7 : List (S29))).bind fun ac => (if ac.length + a6.length < 3518437208883 then (if t301 = 0 then ((switchbacklaw01_alike.f kj4 t299 (ac ++ a6)).bind fun ah => (if ah = true then ((switchbacklaw01_live.f).bind fun ad => (some ad)) else (some false))) else (some false)) else (none))) else (none)) = some r := by first | (rw [hy304]; with_reducible exact H) | (have H2_ := (Option.bind_some _ _).symm.trans H; rw [hy304]; with_reducible exact H2_) | (have H2_ := (Option.bind_some _ _).symm.trans H; with_reducible exact H2_) | with_reducible exact H | (rw [hy304]; exact H) | exact H
       have Ny304 := uZ hy304
       clear hy304
       by_cases c29 : ([] : List (S29)).length + a7.length < 3518437208883
       ·rw [if_pos c29] at H
        have LMc29 := uZ c29
        clear c29
        obtain ⟨ac, hy308⟩ : ∃ y_ : List (S29), y_ = (([] : List (S29)) ++ a7) := ⟨_, rfl⟩
        replace H : (if ac.length + a6.length < 3518437208883 then (if t301 = 0 then ((switchbacklaw01_alike.f kj4 t299 (ac ++ a6)).bind fun ah => (if ah = true then ((switchbacklaw01_live.f).bind fun ad => (some ad)) else (some false))) else (some false)) else (none)) = some r := by first | (rw [hy308]; with_reducible exact H) | (have H2_ := (Option.bind_some _ _).symm.trans H; rw [hy308]; with_reducible exact H2_) | (have H2_ := (Option.bind_some _ _).symm.trans H; with_reducible exact H2_) | with_reducible exact H | (rw [hy308]; exact H) | exact H
        have Ny308 := uZ hy308
        clear hy308
        by_cases c30 : ac.length + a6.length < 3518437208883
        ·rw [if_pos c30] at H
         have LMc30 := uZ c30
         clear c30
         obtain ⟨y311, hy311⟩ : ∃ y_ : List (S29), y_ = (ac ++ a6) := ⟨_, rfl⟩
         replace H : (if t301 = 0 then ((switchbacklaw01_alike.f kj4 t299 y311).bind fun ah => (if ah = true then ((switchbacklaw01_live.f).bind fun ad => (some ad)) else (some false))) else (some false)) = some r := by first | (rw [hy311]; with_reducible exact H) | (have H2_ := (Option.bind_some _ _).symm.trans H; rw [hy311]; with_reducible exact H2_) | (have H2_ := (Option.bind_some _ _).symm.trans H; with_reducible exact H2_) | with_reducible exact H | (rw [hy311]; exact H) | exact H
         have Ny311 := uZ hy311
         clear hy311
         by_cases c31 : t301 = 0
         ·rw [if_pos c31] at H
          have c31b0 : (t301 == 0) = true := beq_iff_eq.mpr c31
          have c31b1 : (t301 != 0) = false := bne_eq_false_iff_eq.mpr c31
          clear c31
          replace H := Option.bind_eq_some_iff.mp H
          obtain ⟨ah, A320, H⟩ := H
          replace H : (if ah = true then ((switchbacklaw01_live.f).bind fun ad => (some ad)) else (some false)) = some r := H
          have A32 := uZ A320
          clear A320
          by_cases c33 : ah = true
          ·subst c33
           have H1 : ((switchbacklaw01_live.f).bind fun ad => (some ad)) = some r := by rw [if_pos rfl] at H; exact H
           clear H
           have H := H1
           clear H1
           replace H := Option.bind_eq_some_iff.mp H
           obtain ⟨ad, A340, H⟩ := H
           replace H : (some ad) = some r := H
           have A34 := uZ A340
           clear A340
           obtain rfl := Option.some.inj H
           go_wp2_with (first | ((with_reducible refine gate_callee (f := 11) rfl ?_); refine goesL_ (some 67) rfl rfl Tryd.func11 (by kernel_rfl) rfl #[.string ((a0 ++ (⟨#[10]⟩ : ByteArray)) ++ a1)] rfl (by (try simp only [zR, List.map_cons, List.map_nil]); first | done | rfl | (simp only [zS, zT]; rfl)) ?_; (with_reducible refine (lex_Lex.calls ((a0 ++ (⟨#[10]⟩ : ByteArray)) ++ a1) t299 t300 t301 _ (uZ (hLaid_.out.below (by repeat (first | (with_reducible first | exact HB.out | apply zN | apply zM | apply zO) | refine below_set ?_ (Aside0.out (by assumption)) | exact HB.out)))) A25.out).mono ?_); rintro e w35 ⟨ab, rfl, ho0, hb⟩; refine ⟨_, rfl, ?_⟩; have n0_ := uZ (Kd.R_elder' (uR a3.out) (Kd.R_base ho0) hb); have n1_ := uZ (Kd.R_elder' (uR a5.out) (Kd.R_base ho0) hb); have n2_ := uZ (Kd.R_lower (Kd.R_new' (Kd.R_new' ho0 (zE (uR a3.out))) (zE (uR a5.out))) (zP (uB HB.out))); have n3_ := uZ (zQ (uB HB.out) hb); clear a3; clear a5; clear HB; have a3 := n0_; have a5 := n1_; have a4 := n2_; have HB := n3_; clear n0_ n1_ n2_ n3_; (try clear hb); (try clear hb2); (try clear hk); (try clear hi); (try clear ho0); obtain ⟨Ao36, co36, eo36⟩ := zF a3.out; subst eo36; have q37 : ((a8) : Int) ≤ ((a2.length : Int) : Int) := of_decide_eq_true (by first | (with_reducible assumption) | assumption); obtain ⟨i037, hi037, _, hsz37, _⟩ := info_parts info29; have hroom37 : a2.length ≤ co36 := (zH a3.out).2.1; have hC37 : Kd.C k29 _ Ao36 a2.length a2 := (zH a3.out).2.2; have hcut37 := cut_to (P := Tryd.prog) 22 29 .i64 Tryd.underlying22 hi037 Ao36 a2.length co36 (a8) (of_decide_eq_true (by first | (with_reducible assumption) | assumption)) q37 hroom37; have hr37 := Kd.C_take (m := ((a8) : Int).toNat) hC37 (by omega); have hy37 : a7.length = ((a8) : Int).toNat := (by rw [Ny304.out, zT]; omega); rw [← Ny304.out] at hr37; rw [← hy37] at hcut37; have HR307 := uZ hr37; have HC307 := uZ (show a7.length ≤ co36 from by omega); clear hr37 hC37 hroom37 hi037 hsz37; have KY37 := uZ hy37; clear hy37; have KL37 := uZ (show ((a8) : Int).toNat ≤ a2.length from by omega); replace q37 := eq_true q37) | ((with_reducible refine gate_builtin (b := .append) (xs := #[.tmp 71, .tmp 76]) rfl ?_); (try (refine gate_guard (by rfl) ?_; dsimp only)); at_builtin; refine zG k29 (w0 := w) w.heap.size rfl (.tmp 71) (.tmp 76) 22 29 (.agg #[(.int .i64 0), (.int .i64 0), (.string ⟨#[]⟩), (.int .u32 0), (.bool false)]) 40 rfl Tryd.underlying22 info29 rfl (by decide) (by omega) (.slice none 0 0) ([] : List (S29)) a7 _ _ _ (fun k_ => some k_ ≠ (.slice Ao36 a2.length co36 : Value).ownBlock ∧ some k_ ≠ (v296 : Value).ownBlock ∧ some k_ ≠ (ab : Value).ownBlock) (fun _ => False) rfl rfl ?aO ?aR (fun _ _ h => h) (fun _ h => h.elim) ?aF ?aB ?aS ?aL ?_; (case aR => repeat (first | exact (by repeat (first | (with_reducible exact HR307.out) | (with_reducible refine zI ?_ _) | (with_reducible refine zJ ?_ _) | (with_reducible refine zK ?_) | exact HR307.out)) | (with_reducible refine zI ?_ _) | (with_reducible refine zJ ?_ _) | (with_reducible refine zK ?_))); (case aB => exact (uB HB.out)); (case aF => exact (fun k_ hk => ⟨zL (zE (uR a3.out)) k_ hk, zL (zE (uR a5.out)) k_ hk, zL (zE (uR a4.out)) k_ hk⟩)); (case aO => exact ((Kd.R_nil _ _ _ _ (fun k_ => some k_ ≠ (.slice Ao36 a2.length co36 : Value).ownBlock ∧ some k_ ≠ (v296 : Value).ownBlock ∧ some k_ ≠ (ab : Value).ownBlock)))); (case aS => exact (zP (uB HB.out))); (case aL => have := LMc29.out; omega); intro v309 w38 ho hb hg hat; rw [← Ny308.out] at ho; have n0_ := uZ (Kd.R_after (Kd.R_apart_nil (uR a3.out)) hg hat); have n1_ := uZ (Kd.R_after (Kd.R_apart_nil (uR a5.out)) hg hat); have n2_ := uZ (Kd.R_after (Kd.R_apart_nil (uR a4.out)) hg hat); have n3_ := uZ (hb); have n4_ := uZ ((show Kd.C k29 w38 Ao36 a7.length a7 from by rw [Ny304.out]; exact Kd.C_take (m := ((a8) : Int).toNat) ((zH (Kd.R_after (Kd.R_apart_nil (uR a3.out)) hg hat)).2.2) KL37.out)); have n5_ := uZ (ho); clear a3; clear a5; clear a4; clear HB; clear HR307; have a3 := n0_; have a5 := n1_; have a4 := n2_; have HB := n3_; have HR307 := n4_; have HO310 := n5_; clear n0_ n1_ n2_ n3_ n4_ n5_; clear ho hb hg hat; obtain ⟨Ao40, co40, eo40⟩ := zF a5.out; subst eo40) | ((with_reducible refine gate_builtin (b := .append) (xs := #[.tmp 78, .tmp 79]) rfl ?_); (try (refine gate_guard (by rfl) ?_; dsimp only)); at_builtin; refine zG k29 (w0 := w) w.heap.size rfl (.tmp 78) (.tmp 79) 22 29 (.agg #[(.int .i64 0), (.int .i64 0), (.string ⟨#[]⟩), (.int .u32 0), (.bool false)]) 40 rfl Tryd.underlying22 info29 rfl (by decide) (by omega) v309 ac a6 _ _ _ (fun k_ => some k_ ≠ (.slice Ao36 a2.length co36 : Value).ownBlock ∧ some k_ ≠ (.slice Ao40 a6.length co40 : Value).ownBlock ∧ some k_ ≠ (ab : Value).ownBlock) (fun _ => False) rfl rfl ?aO ?aR (fun _ _ h => h) (fun _ h => h.elim) ?aF ?aB ?aS ?aL ?_; (case aR => repeat (first | exact (zH a5.out).2.2 | (with_reducible refine zI ?_ _) | (with_reducible refine zJ ?_ _) | (with_reducible refine zK ?_))); (case aB => exact (uB HB.out)); (case aF => exact (fun k_ hk => ⟨zL (zE (uR a3.out)) k_ hk, zL (zE (uR a5.out)) k_ hk, zL (zE (uR a4.out)) k_ hk⟩)); (case aO => exact (uR HO310.out)); (case aS => exact (zP (uB HB.out))); (case aL => have := LMc30.out; omega); intro v312 w39 ho hb hg hat; rw [← Ny311.out] at ho; have n0_ := uZ (Kd.R_after (ok := (fun k_ => some k_ ≠ (.slice Ao40 a6.length co40 : Value).ownBlock ∧ some k_ ≠ (ab : Value).ownBlock)) (uR a3.out) hg hat); have n1_ := uZ (Kd.R_after (ok := (fun k_ => some k_ ≠ (.slice Ao36 a2.length co36 : Value).ownBlock ∧ some k_ ≠ (ab : Value).ownBlock)) (uR a5.out) hg hat); have n2_ := uZ (Kd.R_after (ok := (fun k_ => some k_ ≠ (.slice Ao36 a2.length co36 : Value).ownBlock ∧ some k_ ≠ (.slice Ao40 a6.length co40 : Value).ownBlock)) (by (with_reducible repeat (first | apply zA | apply zB | apply zC)); exact zD a4.out (fun _ hk => ⟨⟨hk.1.1.2, hk.1.2⟩, hk.2⟩)) hg hat); have n3_ := uZ (hb); have n4_ := uZ ((show Kd.C k29 w39 Ao36 a7.length a7 from by rw [Ny304.out]; exact Kd.C_take (m := ((a8) : Int).toNat) ((zH (Kd.R_after (ok := (fun k_ => some k_ ≠ (.slice Ao40 a6.length co40 : Value).ownBlock ∧ some k_ ≠ (ab : Value).ownBlock)) (uR a3.out) hg hat)).2.2) KL37.out)); have n5_ := uZ (ho); clear a3; clear a5; clear a4; clear HB; clear HR307; clear HO310; have a3 := n0_; have a5 := n1_; have a4 := n2_; have HB := n3_; have HR307 := n4_; have ae := n5_; clear n0_ n1_ n2_ n3_ n4_ n5_; clear ho hb hg hat; obtain ⟨Ao41, co41, eo41⟩ := zF a4.out; subst eo41; obtain ⟨Ao42, co42, eo42⟩ := zF ae.out; subst eo42) | (go_at_call 15; (with_reducible refine (switchbacklaw01_alike.calls kj4 _ _ t299 _ _ y311 true _ ?side1 ?side2 ?side3 ?side4 A32.out).mono ?_); (case side1 => repeat (first | exact (zH a4.out).2.2 | (with_reducible refine zI ?_ _) | (with_reducible refine zJ ?_ _) | (with_reducible refine zK ?_))); (case side2 => exact (zH a4.out).2.1); (case side3 => repeat (first | exact (zH ae.out).2.2 | (with_reducible refine zI ?_ _) | (with_reducible refine zJ ?_ _) | (with_reducible refine zK ?_))); (case side4 => exact (zH ae.out).2.1); rintro e w' ⟨rfl, ⟨nd, rfl⟩⟩) | (go_at_call 14; (with_reducible refine (switchbacklaw01_live.calls  ad _ (uZ (hLaid_.out.below (by repeat (first | (with_reducible first | exact HB.out | apply zN | apply zM | apply zO) | refine below_set ?_ (Aside0.out (by assumption)) | exact HB.out)))) A34.out).mono ?_); rintro e w43 ⟨rfl, hb⟩; have n0_ := uZ (Kd.R_below (uR a3.out) hb); have n1_ := uZ (Kd.R_below (uR a5.out) hb); have n2_ := uZ (Kd.R_below (uR a4.out) hb); have n3_ := uZ (Kd.R_below (uR ae.out) hb); have n4_ := uZ (Kd.C_below (by repeat (first | (with_reducible exact HR307.out) | (with_reducible refine zI ?_ _) | (with_reducible refine zJ ?_ _) | (with_reducible refine zK ?_) | exact HR307.out)) hb); have n5_ := uZ (zQ (uB HB.out) hb); clear a3; clear a5; clear a4; clear ae; clear HR307; clear HB; have a3 := n0_; have a5 := n1_; have a4 := n2_; have ae := n3_; have HR307 := n4_; have HB := n5_; clear n0_ n1_ n2_ n3_ n4_ n5_; (try clear hb); (try clear hb2); (try clear hk); (try clear hi)))
           go_ret
           exact ⟨by first | rfl | (simp [errW_none, errW_some] <;> rfl) | (simp only [← hji26]; first | rfl | (simp [errW_none, errW_some] <;> rfl)) | (simp [*, errW_none, errW_some] <;> rfl), by repeat (first | (with_reducible first | exact HB.out | apply zN | apply zM | apply zO) | exact HB.out)⟩
          replace c33 := Bool.eq_false_iff.mpr c33
          subst c33
          have H1 : (some false) = some r := by rw [if_neg (show ¬ (false = true) by decide)] at H; exact H
          clear H
          have H := H1
          clear H1
          obtain rfl := Option.some.inj H
          go_wp2_with (first | ((with_reducible refine gate_callee (f := 11) rfl ?_); refine goesL_ (some 67) rfl rfl Tryd.func11 (by kernel_rfl) rfl #[.string ((a0 ++ (⟨#[10]⟩ : ByteArray)) ++ a1)] rfl (by (try simp only [zR, List.map_cons, List.map_nil]); first | done | rfl | (simp only [zS, zT]; rfl)) ?_; (with_reducible refine (lex_Lex.calls ((a0 ++ (⟨#[10]⟩ : ByteArray)) ++ a1) t299 t300 t301 _ (uZ (hLaid_.out.below (by repeat (first | (with_reducible first | exact HB.out | apply zN | apply zM | apply zO) | refine below_set ?_ (Aside0.out (by assumption)) | exact HB.out)))) A25.out).mono ?_); rintro e w44 ⟨ab, rfl, ho0, hb⟩; refine ⟨_, rfl, ?_⟩; have n0_ := uZ (Kd.R_elder' (uR a3.out) (Kd.R_base ho0) hb); have n1_ := uZ (Kd.R_elder' (uR a5.out) (Kd.R_base ho0) hb); have n2_ := uZ (Kd.R_lower (Kd.R_new' (Kd.R_new' ho0 (zE (uR a3.out))) (zE (uR a5.out))) (zP (uB HB.out))); have n3_ := uZ (zQ (uB HB.out) hb); clear a3; clear a5; clear HB; have a3 := n0_; have a5 := n1_; have a4 := n2_; have HB := n3_; clear n0_ n1_ n2_ n3_; (try clear hb); (try clear hb2); (try clear hk); (try clear hi); (try clear ho0); obtain ⟨Ao45, co45, eo45⟩ := zF a3.out; subst eo45; have q46 : ((a8) : Int) ≤ ((a2.length : Int) : Int) := of_decide_eq_true (by first | (with_reducible assumption) | assumption); obtain ⟨i046, hi046, _, hsz46, _⟩ := info_parts info29; have hroom46 : a2.length ≤ co45 := (zH a3.out).2.1; have hC46 : Kd.C k29 _ Ao45 a2.length a2 := (zH a3.out).2.2; have hcut46 := cut_to (P := Tryd.prog) 22 29 .i64 Tryd.underlying22 hi046 Ao45 a2.length co45 (a8) (of_decide_eq_true (by first | (with_reducible assumption) | assumption)) q46 hroom46; have hr46 := Kd.C_take (m := ((a8) : Int).toNat) hC46 (by omega); have hy46 : a7.length = ((a8) : Int).toNat := (by rw [Ny304.out, zT]; omega); rw [← Ny304.out] at hr46; rw [← hy46] at hcut46; have HR307 := uZ hr46; have HC307 := uZ (show a7.length ≤ co45 from by omega); clear hr46 hC46 hroom46 hi046 hsz46; have KY46 := uZ hy46; clear hy46; have KL46 := uZ (show ((a8) : Int).toNat ≤ a2.length from by omega); replace q46 := eq_true q46) | ((with_reducible refine gate_builtin (b := .append) (xs := #[.tmp 71, .tmp 76]) rfl ?_); (try (refine gate_guard (by rfl) ?_; dsimp only)); at_builtin; refine zG k29 (w0 := w) w.heap.size rfl (.tmp 71) (.tmp 76) 22 29 (.agg #[(.int .i64 0), (.int .i64 0), (.string ⟨#[]⟩), (.int .u32 0), (.bool false)]) 40 rfl Tryd.underlying22 info29 rfl (by decide) (by omega) (.slice none 0 0) ([] : List (S29)) a7 _ _ _ (fun k_ => some k_ ≠ (.slice Ao45 a2.length co45 : Value).ownBlock ∧ some k_ ≠ (v296 : Value).ownBlock ∧ some k_ ≠ (ab : Value).ownBlock) (fun _ => False) rfl rfl ?aO ?aR (fun _ _ h => h) (fun _ h => h.elim) ?aF ?aB ?aS ?aL ?_; (case aR => repeat (first | exact (by repeat (first | (with_reducible exact HR307.out) | (with_reducible refine zI ?_ _) | (with_reducible refine zJ ?_ _) | (with_reducible refine zK ?_) | exact HR307.out)) | (with_reducible refine zI ?_ _) | (with_reducible refine zJ ?_ _) | (with_reducible refine zK ?_))); (case aB => exact (uB HB.out)); (case aF => exact (fun k_ hk => ⟨zL (zE (uR a3.out)) k_ hk, zL (zE (uR a5.out)) k_ hk, zL (zE (uR a4.out)) k_ hk⟩)); (case aO => exact ((Kd.R_nil _ _ _ _ (fun k_ => some k_ ≠ (.slice Ao45 a2.length co45 : Value).ownBlock ∧ some k_ ≠ (v296 : Value).ownBlock ∧ some k_ ≠ (ab : Value).ownBlock)))); (case aS => exact (zP (uB HB.out))); (case aL => have := LMc29.out; omega); intro v309 w47 ho hb hg hat; rw [← Ny308.out] at ho; have n0_ := uZ (Kd.R_after (Kd.R_apart_nil (uR a3.out)) hg hat); have n1_ := uZ (Kd.R_after (Kd.R_apart_nil (uR a5.out)) hg hat); have n2_ := uZ (Kd.R_after (Kd.R_apart_nil (uR a4.out)) hg hat); have n3_ := uZ (hb); have n4_ := uZ ((show Kd.C k29 w47 Ao45 a7.length a7 from by rw [Ny304.out]; exact Kd.C_take (m := ((a8) : Int).toNat) ((zH (Kd.R_after (Kd.R_apart_nil (uR a3.out)) hg hat)).2.2) KL46.out)); have n5_ := uZ (ho); clear a3; clear a5; clear a4; clear HB; clear HR307; have a3 := n0_; have a5 := n1_; have a4 := n2_; have HB := n3_; have HR307 := n4_; have HO310 := n5_; clear n0_ n1_ n2_ n3_ n4_ n5_; clear ho hb hg hat; obtain ⟨Ao49, co49, eo49⟩ := zF a5.out; subst eo49) | ((with_reducible refine gate_builtin (b := .append) (xs := #[.tmp 78, .tmp 79]) rfl ?_); (try (refine gate_guard (by rfl) ?_; dsimp only)); at_builtin; refine zG k29 (w0 := w) w.heap.size rfl (.tmp 78) (.tmp 79) 22 29 (.agg #[(.int .i64 0), (.int .i64 0), (.string ⟨#[]⟩), (.int .u32 0), (.bool false)]) 40 rfl Tryd.underlying22 info29 rfl (by decide) (by omega) v309 ac a6 _ _ _ (fun k_ => some k_ ≠ (.slice Ao45 a2.length co45 : Value).ownBlock ∧ some k_ ≠ (.slice Ao49 a6.length co49 : Value).ownBlock ∧ some k_ ≠ (ab : Value).ownBlock) (fun _ => False) rfl rfl ?aO ?aR (fun _ _ h => h) (fun _ h => h.elim) ?aF ?aB ?aS ?aL ?_; (case aR => repeat (first | exact (zH a5.out).2.2 | (with_reducible refine zI ?_ _) | (with_reducible refine zJ ?_ _) | (with_reducible refine zK ?_))); (case aB => exact (uB HB.out)); (case aF => exact (fun k_ hk => ⟨zL (zE (uR a3.out)) k_ hk, zL (zE (uR a5.out)) k_ hk, zL (zE (uR a4.out)) k_ hk⟩)); (case aO => exact (uR HO310.out)); (case aS => exact (zP (uB HB.out))); (case aL => have := LMc30.out; omega); intro v312 w48 ho hb hg hat; rw [← Ny311.out] at ho; have n0_ := uZ (Kd.R_after (ok := (fun k_ => some k_ ≠ (.slice Ao49 a6.length co49 : Value).ownBlock ∧ some k_ ≠ (ab : Value).ownBlock)) (uR a3.out) hg hat); have n1_ := uZ (Kd.R_after (ok := (fun k_ => some k_ ≠ (.slice Ao45 a2.length co45 : Value).ownBlock ∧ some k_ ≠ (ab : Value).ownBlock)) (uR a5.out) hg hat); have n2_ := uZ (Kd.R_after (ok := (fun k_ => some k_ ≠ (.slice Ao45 a2.length co45 : Value).ownBlock ∧ some k_ ≠ (.slice Ao49 a6.length co49 : Value).ownBlock)) (by (with_reducible repeat (first | apply zA | apply zB | apply zC)); exact zD a4.out (fun _ hk => ⟨⟨hk.1.1.2, hk.1.2⟩, hk.2⟩)) hg hat); have n3_ := uZ (hb); have n4_ := uZ ((show Kd.C k29 w48 Ao45 a7.length a7 from by rw [Ny304.out]; exact Kd.C_take (m := ((a8) : Int).toNat) ((zH (Kd.R_after (ok := (fun k_ => some k_ ≠ (.slice Ao49 a6.length co49 : Value).ownBlock ∧ some k_ ≠ (ab : Value).ownBlock)) (uR a3.out) hg hat)).2.2) KL46.out)); have n5_ := uZ (ho); clear a3; clear a5; clear a4; clear HB; clear HR307; clear HO310; have a3 := n0_; have a5 := n1_; have a4 := n2_; have HB := n3_; have HR307 := n4_; have ae := n5_; clear n0_ n1_ n2_ n3_ n4_ n5_; clear ho hb hg hat; obtain ⟨Ao50, co50, eo50⟩ := zF a4.out; subst eo50; obtain ⟨Ao51, co51, eo51⟩ := zF ae.out; subst eo51) | (go_at_call 15; (with_reducible refine (switchbacklaw01_alike.calls kj4 _ _ t299 _ _ y311 false _ ?side1 ?side2 ?side3 ?side4 A32.out).mono ?_); (case side1 => repeat (first | exact (zH a4.out).2.2 | (with_reducible refine zI ?_ _) | (with_reducible refine zJ ?_ _) | (with_reducible refine zK ?_))); (case side2 => exact (zH a4.out).2.1); (case side3 => repeat (first | exact (zH ae.out).2.2 | (with_reducible refine zI ?_ _) | (with_reducible refine zJ ?_ _) | (with_reducible refine zK ?_))); (case side4 => exact (zH ae.out).2.1); rintro e w' ⟨rfl, ⟨nd, rfl⟩⟩))
          go_ret
          exact ⟨by first | rfl | (simp [errW_none, errW_some] <;> rfl) | (simp only [← hji26]; first | rfl | (simp [errW_none, errW_some] <;> rfl)) | (simp [*, errW_none, errW_some] <;> rfl), by repeat (first | (with_reducible first | exact HB.out | apply zN | apply zM | apply zO) | exact HB.out)⟩
         rw [if_neg c31] at H
         have c31b0 : (t301 == 0) = false := beq_eq_false_iff_ne.mpr c31
         have c31b1 : (t301 != 0) = true := bne_iff_ne.mpr c31
         obtain rfl := Option.some.inj H
         go_wp2_with (first | ((with_reducible refine gate_callee (f := 11) rfl ?_); refine goesL_ (some 67) rfl rfl Tryd.func11 (by kernel_rfl) rfl #[.string ((a0 ++ (⟨#[10]⟩ : ByteArray)) ++ a1)] rfl (by (try simp only [zR, List.map_cons, List.map_nil]); first | done | rfl | (simp only [zS, zT]; rfl)) ?_; (with_reducible refine (lex_Lex.calls ((a0 ++ (⟨#[10]⟩ : ByteArray)) ++ a1) t299 t300 t301 _ (uZ (hLaid_.out.below (by repeat (first | (with_reducible first | exact HB.out | apply zN | apply zM | apply zO) | refine below_set ?_ (Aside0.out (by assumption)) | exact HB.out)))) A25.out).mono ?_); rintro e w52 ⟨ab, rfl, ho0, hb⟩; refine ⟨_, rfl, ?_⟩; have n0_ := uZ (Kd.R_elder' (uR a3.out) (Kd.R_base ho0) hb); have n1_ := uZ (Kd.R_elder' (uR a5.out) (Kd.R_base ho0) hb); have n2_ := uZ (Kd.R_lower (Kd.R_new' (Kd.R_new' ho0 (zE (uR a3.out))) (zE (uR a5.out))) (zP (uB HB.out))); have n3_ := uZ (zQ (uB HB.out) hb); clear a3; clear a5; clear HB; have a3 := n0_; have a5 := n1_; have a4 := n2_; have HB := n3_; clear n0_ n1_ n2_ n3_; (try clear hb); (try clear hb2); (try clear hk); (try clear hi); (try clear ho0); obtain ⟨Ao53, co53, eo53⟩ := zF a3.out; subst eo53; have q54 : ((a8) : Int) ≤ ((a2.length : Int) : Int) := of_decide_eq_true (by first | (with_reducible assumption) | assumption); obtain ⟨i054, hi054, _, hsz54, _⟩ := info_parts info29; have hroom54 : a2.length ≤ co53 := (zH a3.out).2.1; have hC54 : Kd.C k29 _ Ao53 a2.length a2 := (zH a3.out).2.2; have hcut54 := cut_to (P := Tryd.prog) 22 29 .i64 Tryd.underlying22 hi054 Ao53 a2.length co53 (a8) (of_decide_eq_true (by first | (with_reducible assumption) | assumption)) q54 hroom54; have hr54 := Kd.C_take (m := ((a8) : Int).toNat) hC54 (by omega); have hy54 : a7.length = ((a8) : Int).toNat := (by rw [Ny304.out, zT]; omega); rw [← Ny304.out] at hr54; rw [← hy54] at hcut54; have HR307 := uZ hr54; have HC307 := uZ (show a7.length ≤ co53 from by omega); clear hr54 hC54 hroom54 hi054 hsz54; have KY54 := uZ hy54; clear hy54; have KL54 := uZ (show ((a8) : Int).toNat ≤ a2.length from by omega); replace q54 := eq_true q54) | ((with_reducible refine gate_builtin (b := .append) (xs := #[.tmp 71, .tmp 76]) rfl ?_); (try (refine gate_guard (by rfl) ?_; dsimp only)); at_builtin; refine zG k29 (w0 := w) w.heap.size rfl (.tmp 71) (.tmp 76) 22 29 (.agg #[(.int .i64 0), (.int .i64 0), (.string ⟨#[]⟩), (.int .u32 0), (.bool false)]) 40 rfl Tryd.underlying22 info29 rfl (by decide) (by omega) (.slice none 0 0) ([] : List (S29)) a7 _ _ _ (fun k_ => some k_ ≠ (.slice Ao53 a2.length co53 : Value).ownBlock ∧ some k_ ≠ (v296 : Value).ownBlock ∧ some k_ ≠ (ab : Value).ownBlock) (fun _ => False) rfl rfl ?aO ?aR (fun _ _ h => h) (fun _ h => h.elim) ?aF ?aB ?aS ?aL ?_; (case aR => repeat (first | exact (by repeat (first | (with_reducible exact HR307.out) | (with_reducible refine zI ?_ _) | (with_reducible refine zJ ?_ _) | (with_reducible refine zK ?_) | exact HR307.out)) | (with_reducible refine zI ?_ _) | (with_reducible refine zJ ?_ _) | (with_reducible refine zK ?_))); (case aB => exact (uB HB.out)); (case aF => exact (fun k_ hk => ⟨zL (zE (uR a3.out)) k_ hk, zL (zE (uR a5.out)) k_ hk, zL (zE (uR a4.out)) k_ hk⟩)); (case aO => exact ((Kd.R_nil _ _ _ _ (fun k_ => some k_ ≠ (.slice Ao53 a2.length co53 : Value).ownBlock ∧ some k_ ≠ (v296 : Value).ownBlock ∧ some k_ ≠ (ab : Value).ownBlock)))); (case aS => exact (zP (uB HB.out))); (case aL => have := LMc29.out; omega); intro v309 w55 ho hb hg hat; rw [← Ny308.out] at ho; have n0_ := uZ (Kd.R_after (Kd.R_apart_nil (uR a3.out)) hg hat); have n1_ := uZ (Kd.R_after (Kd.R_apart_nil (uR a5.out)) hg hat); have n2_ := uZ (Kd.R_after (Kd.R_apart_nil (uR a4.out)) hg hat); have n3_ := uZ (hb); have n4_ := uZ ((show Kd.C k29 w55 Ao53 a7.length a7 from by rw [Ny304.out]; exact Kd.C_take (m := ((a8) : Int).toNat) ((zH (Kd.R_after (Kd.R_apart_nil (uR a3.out)) hg hat)).2.2) KL54.out)); have n5_ := uZ (ho); clear a3; clear a5; clear a4; clear HB; clear HR307; have a3 := n0_; have a5 := n1_; have a4 := n2_; have HB := n3_; have HR307 := n4_; have HO310 := n5_; clear n0_ n1_ n2_ n3_ n4_ n5_; clear ho hb hg hat; obtain ⟨Ao57, co57, eo57⟩ := zF a5.out; subst eo57) | ((with_reducible refine gate_builtin (b := .append) (xs := #[.tmp 78, .tmp 79]) rfl ?_); (try (refine gate_guard (by rfl) ?_; dsimp only)); at_builtin; refine zG k29 (w0 := w) w.heap.size rfl (.tmp 78) (.tmp 79) 22 29 (.agg #[(.int .i64 0), (.int .i64 0), (.string ⟨#[]⟩), (.int .u32 0), (.bool false)]) 40 rfl Tryd.underlying22 info29 rfl (by decide) (by omega) v309 ac a6 _ _ _ (fun k_ => some k_ ≠ (.slice Ao53 a2.length co53 : Value).ownBlock ∧ some k_ ≠ (.slice Ao57 a6.length co57 : Value).ownBlock ∧ some k_ ≠ (ab : Value).ownBlock) (fun _ => False) rfl rfl ?aO ?aR (fun _ _ h => h) (fun _ h => h.elim) ?aF ?aB ?aS ?aL ?_; (case aR => repeat (first | exact (zH a5.out).2.2 | (with_reducible refine zI ?_ _) | (with_reducible refine zJ ?_ _) | (with_reducible refine zK ?_))); (case aB => exact (uB HB.out)); (case aF => exact (fun k_ hk => ⟨zL (zE (uR a3.out)) k_ hk, zL (zE (uR a5.out)) k_ hk, zL (zE (uR a4.out)) k_ hk⟩)); (case aO => exact (uR HO310.out)); (case aS => exact (zP (uB HB.out))); (case aL => have := LMc30.out; omega); intro v312 w56 ho hb hg hat; rw [← Ny311.out] at ho; have n0_ := uZ (Kd.R_after (ok := (fun k_ => some k_ ≠ (.slice Ao57 a6.length co57 : Value).ownBlock ∧ some k_ ≠ (ab : Value).ownBlock)) (uR a3.out) hg hat); have n1_ := uZ (Kd.R_after (ok := (fun k_ => some k_ ≠ (.slice Ao53 a2.length co53 : Value).ownBlock ∧ some k_ ≠ (ab : Value).ownBlock)) (uR a5.out) hg hat); have n2_ := uZ (Kd.R_after (ok := (fun k_ => some k_ ≠ (.slice Ao53 a2.length co53 : Value).ownBlock ∧ some k_ ≠ (.slice Ao57 a6.length co57 : Value).ownBlock)) (by (with_reducible repeat (first | apply zA | apply zB | apply zC)); exact zD a4.out (fun _ hk => ⟨⟨hk.1.1.2, hk.1.2⟩, hk.2⟩)) hg hat); have n3_ := uZ (hb); have n4_ := uZ ((show Kd.C k29 w56 Ao53 a7.length a7 from by rw [Ny304.out]; exact Kd.C_take (m := ((a8) : Int).toNat) ((zH (Kd.R_after (ok := (fun k_ => some k_ ≠ (.slice Ao57 a6.length co57 : Value).ownBlock ∧ some k_ ≠ (ab : Value).ownBlock)) (uR a3.out) hg hat)).2.2) KL54.out)); have n5_ := uZ (ho); clear a3; clear a5; clear a4; clear HB; clear HR307; clear HO310; have a3 := n0_; have a5 := n1_; have a4 := n2_; have HB := n3_; have HR307 := n4_; have ae := n5_; clear n0_ n1_ n2_ n3_ n4_ n5_; clear ho hb hg hat))
         go_ret
         exact ⟨by first | rfl | (simp [errW_none, errW_some] <;> rfl) | (simp only [← hji26]; first | rfl | (simp [errW_none, errW_some] <;> rfl)) | (simp [*, errW_none, errW_some] <;> rfl), by repeat (first | (with_reducible first | exact HB.out | apply zN | apply zM | apply zO) | exact HB.out)⟩
        rw [if_neg c30] at H
        exact absurd H (by simp)
       rw [if_neg c29] at H
       exact absurd H (by simp)
      rw [if_neg c28] at H
      exact absurd H (by simp)
     rw [if_neg c27] at H
     exact absurd H (by simp)
    rw [if_neg c24] at H
    exact absurd H (by simp)
   rw [if_neg c23] at H
   exact absurd H (by simp)

end Go.Proofs.YtjoboaaambdpoaaDoor.PR01
