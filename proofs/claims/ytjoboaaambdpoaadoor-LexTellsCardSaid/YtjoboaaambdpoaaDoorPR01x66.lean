-- Written by gp.py for this claim.
import Derived.Test.YtjoboaaambdpoaaDoorPR01x0
import Derived.Test.YtjoboaaambdpoaaDoorPR01x51
import Derived.Test.YtjoboaaambdpoaaDoorPR01x63
import Derived.Test.YtjoboaaambdpoaaDoorPR01x64
import Derived.Test.YtjoboaaambdpoaaDoorPR01x65
namespace Go.Proofs.YtjoboaaambdpoaaDoor.PR01
open Go.RowKit Go.Proofs.YtjoboaaambdpoaaDoorW.PrintWords Go.Proofs.YtjoboaaambdpoaaDoorW.PrintLast Go.Proofs.YtjoboaaambdpoaaDoorW.PrintMore
attribute [local go_sem] max2_int min2_int max_two min_two max_three min_three max_four min_four   -- for this text's walks alone
set_option linter.unusedVariables false
set_option linter.unusedSimpArgs false

namespace q_switchbacklaw01_LexTells
theorem uZ {p : Prop} (h : p) : Aside0 p := ⟨h⟩
theorem uR {p q : Prop} (h : p) (g : p → q := by intro h; (with_reducible repeat (first | apply Kd.R_alloc | apply Kd.R_drewN | apply Kd.R_drew)); exact h) : q := g h
theorem uB {p q : Prop} (h : p) (g : p → q := by intro h; repeat (first | (with_reducible first | exact h | apply below_alloc | apply pw_below_drewN | apply below_drew1) | exact h)) : q := g h
theorem zA : type_of% @Kd.R_alloc := @Kd.R_alloc
theorem zB : type_of% @Kd.R_drewN := @Kd.R_drewN
theorem zC : type_of% @Kd.R_drew := @Kd.R_drew
theorem zD : type_of% @Kd.R_mono := @Kd.R_mono
theorem zE : type_of% @Kd.R_base := @Kd.R_base
theorem zF : type_of% @Kd.R_slice := @Kd.R_slice
theorem zG : type_of% @Kd.R_reads' := @Kd.R_reads'
theorem zH : type_of% @Kd.C_alloc := @Kd.C_alloc
theorem zI : type_of% @Kd.C_drewN := @Kd.C_drewN
theorem zJ : type_of% @Kd.C_drew := @Kd.C_drew
theorem zK : type_of% @pw_below_drewN := @pw_below_drewN
theorem zL : type_of% @below_alloc := @below_alloc
theorem zM : type_of% @below_drew1 := @below_drew1
theorem zN : type_of% @below_set := @below_set
theorem zO : type_of% @below_step := @below_step
theorem zP : type_of% @List.map_toArray := @List.map_toArray
theorem zQ : type_of% @List.length_drop := @List.length_drop
theorem zR : type_of% @List.length_take := @List.length_take
end q_switchbacklaw01_LexTells
open q_switchbacklaw01_LexTells

/-! ### switchbacklaw01_LexTells: function 3 -/
mutual
def switchbacklaw01_LexTells.j0 : Nat → ByteArray → List (S29) → List (S29) → Int → Int → Bool → Option (Bool)
  | 0, _, _, _, _, _, _ => none
  | k + 1, x0, x3, x6, x7, x8, x36 => if x36 = true then (some false) else (switchbacklaw01_LexTells.l0 k x0 x3 x6 x7 x8 0)
def switchbacklaw01_LexTells.l0 : Nat → ByteArray → List (S29) → List (S29) → Int → Int → Int → Option (Bool)
  | 0, _, _, _, _, _, _ => none
  | k + 1, x0, x3, x6, x7, x8, x9 => if x9 < (x3.length : Int) then (if 0 ≤ x9 then (switchbacklaw01_LexTells.l0 k x0 (x3.set (x9 : Int).toNat (⟨9, 0, (⟨#[]⟩ : ByteArray), 0, false⟩ : S29)) x6 x7 x8 (wrap64 (x9 + 1))) else (none)) else ((lex_Lex.f x0).bind fun bt215 => ((switchbacklaw01_Same.f k bt215.1 x6).bind fun t220 => (if t220 = true then (if bt215.2.1 = x7 then (if bt215.2.2 = x8 then ((switchbacklaw01_live.f).bind fun t221 => (some t221)) else (some false)) else (some false)) else (some false))))
end
def switchbacklaw01_LexTells.f (k : Nat) (a0 : ByteArray) : Option (Bool) := (lex_Lex.f a0).bind fun bt203 => ((switchbackref01_Lex.f k a0).bind fun bt208 => ((switchbacklaw01_Same.f k bt203.1 bt208.1).bind fun t213 => (if t213 = true then (if bt203.2.1 = bt208.2.1 then (switchbacklaw01_LexTells.j0 k a0 bt203.1 bt208.1 bt208.2.1 bt208.2.2 (bt203.2.2 != bt208.2.2)) else (switchbacklaw01_LexTells.j0 k a0 bt203.1 bt208.1 bt208.2.1 bt208.2.2 true)) else (switchbacklaw01_LexTells.j0 k a0 bt203.1 bt208.1 bt208.2.1 bt208.2.2 true))))
theorem switchbacklaw01_LexTells.mono_l : ∀ k, (∀ y0 y1 y2 y3 y4 y5, LeO (switchbacklaw01_LexTells.j0 k y0 y1 y2 y3 y4 y5) (switchbacklaw01_LexTells.j0 (k + 1) y0 y1 y2 y3 y4 y5)) ∧ (∀ y0 y1 y2 y3 y4 y5, LeO (switchbacklaw01_LexTells.l0 k y0 y1 y2 y3 y4 y5) (switchbacklaw01_LexTells.l0 (k + 1) y0 y1 y2 y3 y4 y5))
  | 0 => ⟨fun _ _ _ _ _ _ r h => by simp [switchbacklaw01_LexTells.j0] at h, fun _ _ _ _ _ _ r h => by simp [switchbacklaw01_LexTells.l0] at h⟩
  | k + 1 => by
    obtain ⟨ih0, ih1⟩ := switchbacklaw01_LexTells.mono_l k
    refine ⟨?_, ?_⟩
    · intro y0 y1 y2 y3 y4 y5
      unfold switchbacklaw01_LexTells.j0
      repeat' first
      | (with_reducible exact ih0 _ _ _ _ _ _)
      | (with_reducible exact ih1 _ _ _ _ _ _)
      | (with_reducible exact switchbacklaw01_Same.mono _ _ _)
      | (with_reducible exact switchbackref01_Lex.mono _ _)
      | (with_reducible exact LeO.refl _)
      | (with_reducible exact LeO.none _)
      | (with_reducible refine LeO.ite ?_ ?_)
      | (with_reducible refine LeO.bind ?_ (fun _ => ?_))
      | exact ih0 _ _ _ _ _ _
      | exact ih1 _ _ _ _ _ _
      | exact switchbacklaw01_Same.mono _ _ _
      | exact switchbackref01_Lex.mono _ _
      | exact LeO.none _
      | refine LeO.ite ?_ ?_
      | refine LeO.bind ?_ (fun _ => ?_)
    · intro y0 y1 y2 y3 y4 y5
      unfold switchbacklaw01_LexTells.l0
      repeat' first
      | (with_reducible exact ih0 _ _ _ _ _ _)
      | (with_reducible exact ih1 _ _ _ _ _ _)
      | (with_reducible exact switchbacklaw01_Same.mono _ _ _)
      | (with_reducible exact switchbackref01_Lex.mono _ _)
      | (with_reducible exact LeO.refl _)
      | (with_reducible exact LeO.none _)
      | (with_reducible refine LeO.ite ?_ ?_)
      | (with_reducible refine LeO.bind ?_ (fun _ => ?_))
      | exact ih0 _ _ _ _ _ _
      | exact ih1 _ _ _ _ _ _
      | exact switchbacklaw01_Same.mono _ _ _
      | exact switchbackref01_Lex.mono _ _
      | exact LeO.none _
      | refine LeO.ite ?_ ?_
      | refine LeO.bind ?_ (fun _ => ?_)
theorem switchbacklaw01_LexTells.mono : ∀ a0 k, LeO (switchbacklaw01_LexTells.f k a0) (switchbacklaw01_LexTells.f (k + 1) a0) := by
  intro a0 k
  obtain ⟨ih0, ih1⟩ := switchbacklaw01_LexTells.mono_l k
  unfold switchbacklaw01_LexTells.f
  repeat' first
      | (with_reducible exact ih0 _ _ _ _ _ _)
      | (with_reducible exact ih1 _ _ _ _ _ _)
      | (with_reducible exact switchbacklaw01_Same.mono _ _ _)
      | (with_reducible exact switchbackref01_Lex.mono _ _)
      | (with_reducible exact LeO.refl _)
      | (with_reducible exact LeO.none _)
      | (with_reducible refine LeO.ite ?_ ?_)
      | (with_reducible refine LeO.bind ?_ (fun _ => ?_))
      | exact ih0 _ _ _ _ _ _
      | exact ih1 _ _ _ _ _ _
      | exact switchbacklaw01_Same.mono _ _ _
      | exact switchbackref01_Lex.mono _ _
      | exact LeO.none _
      | refine LeO.ite ?_ ?_
      | refine LeO.bind ?_ (fun _ => ?_)
set_option maxHeartbeats 8000000 in
set_option maxRecDepth 100000 in
theorem switchbacklaw01_LexTells.calls (k : Nat) (a0 : ByteArray) (r : Bool) (w : World) (hLaid_ : Aside0 (Laid w)) (h : switchbacklaw01_LexTells.f k a0 = some r) :
    Calls Tryd.prog 3 #[.string a0] w fun e w' => e = .returned (.bool r) ∧ Below w.heap.size w w' := by
 have hu29 := Tryd.underlying29
 have HB := uZ (Below.refl w.heap.size w)
 have H : ((lex_Lex.f a0).bind fun bt203 => ((switchbackref01_Lex.f k a0).bind fun a1 => ((switchbacklaw01_Same.f k bt203.1 a1.1).bind fun t213 => (if t213 = true then (if bt203.2.1 = a1.2.1 then (switchbacklaw01_LexTells.j0 k a0 bt203.1 a1.1 a1.2.1 a1.2.2 (bt203.2.2 != a1.2.2)) else (switchbacklaw01_LexTells.j0 k a0 bt203.1 a1.1 a1.2.1 a1.2.2 true)) else (switchbacklaw01_LexTells.j0 k a0 bt203.1 a1.1 a1.2.1 a1.2.2 true))))) = some r := h
 clear h
 replace H := Option.bind_eq_some_iff.mp H
 obtain ⟨⟨a9, t204, t205⟩, A20, H⟩ := H
 replace H : ((switchbackref01_Lex.f k a0).bind fun a1 => ((switchbacklaw01_Same.f k a9 a1.1).bind fun t213 => (if t213 = true then (if t204 = a1.2.1 then (switchbacklaw01_LexTells.j0 k a0 a9 a1.1 a1.2.1 a1.2.2 (t205 != a1.2.2)) else (switchbacklaw01_LexTells.j0 k a0 a9 a1.1 a1.2.1 a1.2.2 true)) else (switchbacklaw01_LexTells.j0 k a0 a9 a1.1 a1.2.1 a1.2.2 true)))) = some r := H
 have A2 := uZ A20
 clear A20
 replace H := Option.bind_eq_some_iff.mp H
 obtain ⟨⟨a5, a6, a8⟩, A30, H⟩ := H
 replace H : ((switchbacklaw01_Same.f k a9 a5).bind fun t213 => (if t213 = true then (if t204 = a6 then (switchbacklaw01_LexTells.j0 k a0 a9 a5 a6 a8 (t205 != a8)) else (switchbacklaw01_LexTells.j0 k a0 a9 a5 a6 a8 true)) else (switchbacklaw01_LexTells.j0 k a0 a9 a5 a6 a8 true))) = some r := H
 have A3 := uZ A30
 clear A30
 have HC4 := uZ H
 clear H
 go_enter Tryd.func3, Tryd.ntmps3
 go_upto_region 3 with (first | ((with_reducible refine gate_callee (f := 11) rfl ?_); refine goesL_ (some 13) rfl rfl Tryd.func11 (by kernel_rfl) rfl #[.string a0] rfl (by (try simp only [zP, List.map_cons, List.map_nil]); first | done | rfl | (simp only [zQ, zR]; rfl)) ?_; (with_reducible refine (lex_Lex.calls a0 a9 t204 t205 _ (uZ (hLaid_.out.below (by repeat (first | (with_reducible first | exact HB.out | apply zL | apply zK | apply zM) | refine zN ?_ (Aside0.out (by assumption)) | exact HB.out)))) A2.out).mono ?_); rintro e w5 ⟨v206, rfl, ho0, hb⟩; refine ⟨_, rfl, ?_⟩; have n0_ := uZ (Kd.R_lower ho0 (below_size (uB HB.out))); have n1_ := uZ (zO (uB HB.out) hb); clear HB; have aa := n0_; have HB := n1_; clear n0_ n1_; (try clear hb); (try clear hb2); (try clear hk); (try clear hi); (try clear ho0)) | ((with_reducible refine gate_callee (f := 12) rfl ?_); refine goesL_ (some 19) rfl rfl Tryd.func12 (by kernel_rfl) rfl #[.string a0] rfl (by (try simp only [zP, List.map_cons, List.map_nil]); first | done | rfl | (simp only [zQ, zR]; rfl)) ?_; (with_reducible refine (switchbackref01_Lex.calls k a0 a5 a6 a8 _ A3.out).mono ?_); rintro e w6 ⟨v211, rfl, ho0, hb⟩; refine ⟨_, rfl, ?_⟩; have n0_ := uZ (Kd.R_elder' (uR aa.out) (zE ho0) hb); have n1_ := uZ (Kd.R_lower (Kd.R_new' ho0 (Kd.R_lt (uR aa.out))) (below_size (uB HB.out))); have n2_ := uZ (zO (uB HB.out) hb); clear aa; clear HB; have aa := n0_; have ad := n1_; have HB := n2_; clear n0_ n1_ n2_; (try clear hb); (try clear hb2); (try clear hk); (try clear hi); (try clear ho0)))
 (try simp only [Act.put, List.setIfInBounds_toArray, List.set_cons_zero, List.set_cons_succ])
 go_cut [36] (fun v36 wc => ∃ (kq : Nat) (x36_3 : Bool), v36 = .bool x36_3 ∧ Aside0 (switchbacklaw01_LexTells.j0 kq a0 a9 a5 a6 a8 x36_3 = some r) ∧ Aside0 (kq ≤ k) ∧ Aside0 (Kd.R k29 29 wc w.heap.size (fun k_ => some k_ ≠ (v211 : Value).ownBlock) v206 a9) ∧ Aside0 (Kd.R k29 29 wc w.heap.size (fun k_ => some k_ ≠ (v206 : Value).ownBlock) v211 a5) ∧ Aside0 (Below w.heap.size w wc))
 case first =>
  have H := HC4.out
  clear HC4
  replace H := Option.bind_eq_some_iff.mp H
  obtain ⟨t213, A70, H⟩ := H
  replace H : (if t213 = true then (if t204 = a6 then (switchbacklaw01_LexTells.j0 k a0 a9 a5 a6 a8 (t205 != a8)) else (switchbacklaw01_LexTells.j0 k a0 a9 a5 a6 a8 true)) else (switchbacklaw01_LexTells.j0 k a0 a9 a5 a6 a8 true)) = some r := H
  have A7 := uZ A70
  clear A70
  by_cases c8 : t213 = true
  ·subst c8
   have H1 : (if t204 = a6 then (switchbacklaw01_LexTells.j0 k a0 a9 a5 a6 a8 (t205 != a8)) else (switchbacklaw01_LexTells.j0 k a0 a9 a5 a6 a8 true)) = some r := by rw [if_pos rfl] at H; exact H
   clear H
   have H := H1
   clear H1
   by_cases c9 : t204 = a6
   ·rw [if_pos c9] at H
    have c9b0 : (t204 == a6) = true := beq_iff_eq.mpr c9
    have c9b1 : (t204 != a6) = false := bne_eq_false_iff_eq.mpr c9
    clear c9
    (first | rw [c9b0] | (simp only [i64_w, i32_w]; rw [c9b0]) | skip)
    have H' := uZ H
    clear H
    obtain ⟨Ao10, co10, eo10⟩ := zF aa.out
    subst eo10
    obtain ⟨Ao11, co11, eo11⟩ := zF ad.out
    subst eo11
    go_wp2_with (first | ((with_reducible refine gate_callee (f := 13) rfl ?_); refine goesL_ (some 25) rfl rfl Tryd.func13 (by kernel_rfl) rfl #[.slice Ao10 a9.length co10, .slice Ao11 a5.length co11] rfl (by (try simp only [zP, List.map_cons, List.map_nil]); first | done | rfl | (simp only [zQ, zR]; rfl)) ?_; (with_reducible refine (switchbacklaw01_Same.calls k _ _ a9 _ _ a5 true _ ?side1 ?side2 ?side3 ?side4 A7.out).mono ?_); (case side1 => repeat (first | exact (zG aa.out).2.2 | (with_reducible refine zH ?_ _) | (with_reducible refine zI ?_ _) | (with_reducible refine zJ ?_))); (case side2 => exact (zG aa.out).2.1); (case side3 => repeat (first | exact (zG ad.out).2.2 | (with_reducible refine zH ?_ _) | (with_reducible refine zI ?_ _) | (with_reducible refine zJ ?_))); (case side4 => exact (zG ad.out).2.1); rintro e w' ⟨rfl, ⟨nd, rfl⟩⟩; refine ⟨_, rfl, ?_⟩))
    go_meet
    case rel => exact ⟨_, ((t205 != a8)), (by first | rfl | (simp; done) | (simp [*]; done)), H', ⟨by first | omega | exact Nat.le_refl _⟩, ⟨by (with_reducible repeat (first | apply zA | apply zB | apply zC)); exact zD aa.out (fun _ hk => hk.2)⟩, ⟨by (with_reducible repeat (first | apply zA | apply zB | apply zC)); exact zD ad.out (fun _ hk => hk.2)⟩, ⟨uB HB.out⟩⟩
   rw [if_neg c9] at H
   have c9b0 : (t204 == a6) = false := beq_eq_false_iff_ne.mpr c9
   have c9b1 : (t204 != a6) = true := bne_iff_ne.mpr c9
   (first | rw [c9b0] | (simp only [i64_w, i32_w]; rw [c9b0]) | skip)
   have H' := uZ H
   clear H
   obtain ⟨Ao12, co12, eo12⟩ := zF aa.out
   subst eo12
   obtain ⟨Ao13, co13, eo13⟩ := zF ad.out
   subst eo13
   go_wp2_with (first | ((with_reducible refine gate_callee (f := 13) rfl ?_); refine goesL_ (some 25) rfl rfl Tryd.func13 (by kernel_rfl) rfl #[.slice Ao12 a9.length co12, .slice Ao13 a5.length co13] rfl (by (try simp only [zP, List.map_cons, List.map_nil]); first | done | rfl | (simp only [zQ, zR]; rfl)) ?_; (with_reducible refine (switchbacklaw01_Same.calls k _ _ a9 _ _ a5 true _ ?side1 ?side2 ?side3 ?side4 A7.out).mono ?_); (case side1 => repeat (first | exact (zG aa.out).2.2 | (with_reducible refine zH ?_ _) | (with_reducible refine zI ?_ _) | (with_reducible refine zJ ?_))); (case side2 => exact (zG aa.out).2.1); (case side3 => repeat (first | exact (zG ad.out).2.2 | (with_reducible refine zH ?_ _) | (with_reducible refine zI ?_ _) | (with_reducible refine zJ ?_))); (case side4 => exact (zG ad.out).2.1); rintro e w' ⟨rfl, ⟨nd, rfl⟩⟩; refine ⟨_, rfl, ?_⟩))
   go_meet
   case rel => exact ⟨_, (true), (by first | rfl | (simp; done) | (simp [*]; done)), H', ⟨by first | omega | exact Nat.le_refl _⟩, ⟨by (with_reducible repeat (first | apply zA | apply zB | apply zC)); exact zD aa.out (fun _ hk => hk.2)⟩, ⟨by (with_reducible repeat (first | apply zA | apply zB | apply zC)); exact zD ad.out (fun _ hk => hk.2)⟩, ⟨uB HB.out⟩⟩
  replace c8 := Bool.eq_false_iff.mpr c8
  subst c8
  have H1 : (switchbacklaw01_LexTells.j0 k a0 a9 a5 a6 a8 true) = some r := by rw [if_neg (show ¬ (false = true) by decide)] at H; exact H
  clear H
  have H := H1
  clear H1
  have H' := uZ H
  clear H
  obtain ⟨Ao14, co14, eo14⟩ := zF aa.out
  subst eo14
  obtain ⟨Ao15, co15, eo15⟩ := zF ad.out
  subst eo15
  go_wp2_with (first | ((with_reducible refine gate_callee (f := 13) rfl ?_); refine goesL_ (some 25) rfl rfl Tryd.func13 (by kernel_rfl) rfl #[.slice Ao14 a9.length co14, .slice Ao15 a5.length co15] rfl (by (try simp only [zP, List.map_cons, List.map_nil]); first | done | rfl | (simp only [zQ, zR]; rfl)) ?_; (with_reducible refine (switchbacklaw01_Same.calls k _ _ a9 _ _ a5 false _ ?side1 ?side2 ?side3 ?side4 A7.out).mono ?_); (case side1 => repeat (first | exact (zG aa.out).2.2 | (with_reducible refine zH ?_ _) | (with_reducible refine zI ?_ _) | (with_reducible refine zJ ?_))); (case side2 => exact (zG aa.out).2.1); (case side3 => repeat (first | exact (zG ad.out).2.2 | (with_reducible refine zH ?_ _) | (with_reducible refine zI ?_ _) | (with_reducible refine zJ ?_))); (case side4 => exact (zG ad.out).2.1); rintro e w' ⟨rfl, ⟨nd, rfl⟩⟩; refine ⟨_, rfl, ?_⟩))
  go_meet
  case rel => exact ⟨_, (true), (by first | rfl | (simp; done) | (simp [*]; done)), H', ⟨by first | omega | exact Nat.le_refl _⟩, ⟨by (with_reducible repeat (first | apply zA | apply zB | apply zC)); exact zD aa.out (fun _ hk => hk.2)⟩, ⟨by (with_reducible repeat (first | apply zA | apply zB | apply zC)); exact zD ad.out (fun _ hk => hk.2)⟩, ⟨uB HB.out⟩⟩
 case rest =>
  clear HC4
  try clear c1
  try clear p2
  try clear c3
  try clear c8
  try clear c9
  try clear c9b0
  try clear c9b1
  try clear c11
  try clear c12
  try clear c13
  obtain ⟨kq, x36_3, rfl, HA, HJ3, a4, a3, HB⟩ := hcut
  cases kq with
  | zero => exact absurd HA.out (by simp [switchbacklaw01_LexTells.j0])
  | succ kj3 =>
   have H := HA.out
   clear HA
   simp only [switchbacklaw01_LexTells.j0] at H
   by_cases c16 : x36_3 = true
   ·subst c16
    have H1 : (some false) = some r := by rw [if_pos rfl] at H; exact H
    clear H
    have H := H1
    clear H1
    obtain rfl := Option.some.inj H
    go_wp2
    go_ret
    exact ⟨by first | rfl | (simp [errW_none, errW_some] <;> rfl) | (simp [*, errW_none, errW_some] <;> rfl), by repeat (first | (with_reducible first | exact HB.out | apply zL | apply zK | apply zM) | exact HB.out)⟩
   replace c16 := Bool.eq_false_iff.mpr c16
   subst c16
   have H1 : (switchbacklaw01_LexTells.l0 kj3 a0 a9 a5 a6 a8 0) = some r := by rw [if_neg (show ¬ (false = true) by decide)] at H; exact H
   clear H
   have H := H1
   clear H1
   have H' := uZ H
   clear H
   go_wp2
   go_loopg [9] kj3 (fun kq v9 w' => ∃ (ab : List (S29)) (a2 : Int), v9 = .int .i64 a2 ∧ Aside0 (switchbacklaw01_LexTells.l0 kq a0 ab a5 a6 a8 a2 = some r) ∧ Aside0 (kq ≤ kj3) ∧ Aside0 (Kd.R k29 29 w' w.heap.size (fun k_ => some k_ ≠ (v211 : Value).ownBlock) v206 ab) ∧ Aside0 (Kd.R k29 29 w' w.heap.size (fun k_ => some k_ ≠ (v206 : Value).ownBlock) v211 a5) ∧ Aside0 (Below w.heap.size w w'))
   case atStart => exact ⟨(a9), (0), (by first | rfl | (simp; done) | (simp [*]; done)), H', ⟨Nat.le_refl _⟩, ⟨uR a4.out⟩, ⟨uR a3.out⟩, ⟨uB HB.out⟩⟩
   case round =>
    clear H'
    try clear c1
    try clear p2
    try clear c3
    try clear c8
    try clear c9
    try clear c9b0
    try clear c9b1
    try clear c11
    try clear c12
    try clear c13
    try clear c16
    try clear p2
    obtain ⟨ab, a2, rfl, HA, HK2, a4, a3, HB⟩ := hrel
    cases gk with
    | zero => exact absurd HA.out (by simp [switchbacklaw01_LexTells.l0])
    | succ k2 =>
     have H := HA.out
     clear HA
     simp only [switchbacklaw01_LexTells.l0] at H
     by_cases c17 : a2 < (ab.length : Int)
     ·rw [if_pos c17] at H
      have c17b0 : decide (a2 < (ab.length : Int)) = true := decide_eq_true c17
      clear c17
      by_cases c18 : 0 ≤ a2
      ·rw [if_pos c18] at H
       have c18b0 : decide (0 ≤ a2) = true := decide_eq_true c18
       clear c18
       obtain ⟨y214, hy214⟩ : ∃ y_ : List (S29), y_ = (ab.set (a2 : Int).toNat (⟨9, 0, (⟨#[]⟩ : ByteArray), 0, false⟩ : S29)) := ⟨_, rfl⟩
       replace H : (switchbacklaw01_LexTells.l0 k2 a0 y214 a5 a6 a8 (wrap64 (a2 + 1))) = some r := by first | (rw [hy214]; with_reducible exact H) | (have H2_ := (Option.bind_some _ _).symm.trans H; rw [hy214]; with_reducible exact H2_) | (have H2_ := (Option.bind_some _ _).symm.trans H; with_reducible exact H2_) | with_reducible exact H | (rw [hy214]; exact H) | exact H
       have Ny214 := uZ hy214
       clear hy214
       have H' := uZ H
       clear H
       obtain ⟨Ao20, co20, eo20⟩ := zF a4.out
       subst eo20
       have p19 : 0 ≤ (a2 : Int) := of_decide_eq_true (by first | (with_reducible assumption) | assumption)
       have q19 : (a2 : Int) < ((ab.length : Int) : Int) := of_decide_eq_true (by first | (with_reducible assumption) | assumption)
       obtain ⟨ac, co19, eo19, gb19, gl19, cl19, HG19⟩ := Kd.R_form a4.out (by omega)
       (first | cases eo19 | (injection eo19 with ea_ en_ ec_; (first | subst ea_ | (injection ea_ with ea_; subst ea_)); subst ec_; clear en_))
       have GB19 := uZ gb19
       have GG19 := uZ HG19
       clear gb19 gl19 HG19
       obtain ⟨ce19, hcl19, hM19, hcc19, hfr19⟩ := Kd.R_elem a4.out z29 (a2 : Int) p19 q19
       obtain rfl := k29_openM hM19
       have hx19_0 : wr.cell? ⟨ac, (a2 : Int).toNat * 5, none⟩ = some (.int .i64 ((rd_T29 ab a2).f0)) := hcc19 0 _ rfl
       have hx19_1 : wr.cell? ⟨ac, (a2 : Int).toNat * 5 + 1, none⟩ = some (.int .i64 ((rd_T29 ab a2).f1)) := hcc19 1 _ rfl
       have hx19_2 : wr.cell? ⟨ac, (a2 : Int).toNat * 5 + 2, none⟩ = some (.string ((rd_T29 ab a2).f2)) := hcc19 2 _ rfl
       have hx19_3 : wr.cell? ⟨ac, (a2 : Int).toNat * 5 + 3, none⟩ = some (.int .u32 ((rd_T29 ab a2).f3)) := hcc19 3 _ rfl
       have hx19_4 : wr.cell? ⟨ac, (a2 : Int).toNat * 5 + 4, none⟩ = some (.bool ((rd_T29 ab a2).f4)) := hcc19 4 _ rfl
       have hf19_0 : wr.frozen? ⟨ac, (a2 : Int).toNat * 5, none⟩ = false := hfr19 0
       have hf19_1 : wr.frozen? ⟨ac, (a2 : Int).toNat * 5 + 1, none⟩ = false := hfr19 1
       have hf19_2 : wr.frozen? ⟨ac, (a2 : Int).toNat * 5 + 2, none⟩ = false := hfr19 2
       have hf19_3 : wr.frozen? ⟨ac, (a2 : Int).toNat * 5 + 3, none⟩ = false := hfr19 3
       have hf19_4 : wr.frozen? ⟨ac, (a2 : Int).toNat * 5 + 4, none⟩ = false := hfr19 4
       clear hcl19 hcc19 hfr19 hM19
       replace p19 := eq_true p19
       replace q19 := eq_true q19
       have HX21 := uZ (show Kd.R k29 29 wr w.heap.size (fun k_ => some k_ ≠ (v211 : Value).ownBlock) (.slice (some ⟨ac, 0, none⟩) ab.length co20) ab from (uR a4.out))
       obtain ⟨ce21, hcl21, hM21, hcc21, hfr21⟩ := Kd.R_elem HX21.out z29 (a2 : Int) (of_decide_eq_true (by first | (with_reducible assumption) | assumption)) (by have h_ : (a2 : Int) < ((ab.length : Int) : Int) := of_decide_eq_true (by first | (with_reducible assumption) | assumption); first | exact h_ | (have e_ := (zG a4.out).1; omega) | simpa using h_)
       obtain rfl := k29_openM hM21
       have HP21 := Kd.R_seg HX21.out (a2 : Int) (of_decide_eq_true (by first | (with_reducible assumption) | assumption)) (by have h_ : (a2 : Int) < ((ab.length : Int) : Int) := of_decide_eq_true (by first | (with_reducible assumption) | assumption); first | exact h_ | (have e_ := (zG a4.out).1; omega) | simpa using h_) (seg := [.int .i64 9, .int .i64 0, .string (⟨#[]⟩ : ByteArray), .int .u32 0, .bool false]) (j := 0) hcl21 hcc21 (show 5 ≤ 5 from by decide) (x' := (⟨9, 0, (⟨#[]⟩ : ByteArray), 0, false⟩ : S29)) (k29_mkM _ _ _ (⟨9, 0, (⟨#[]⟩ : ByteArray), 0, false⟩ : S29) ) (fun _ hk => hk)
       have hx21_0 := hcc21 0 _ rfl
       (try simp only [show (k29).sz = 5 from rfl, Nat.mul_one, Nat.add_zero] at hx21_0)
       have hf21_0 := hfr21 0
       (try simp only [show (k29).sz = 5 from rfl, Nat.mul_one, Nat.add_zero] at hf21_0)
       have hx21_1 := hcc21 1 _ rfl
       (try simp only [show (k29).sz = 5 from rfl, Nat.mul_one, Nat.add_zero] at hx21_1)
       have hf21_1 := hfr21 1
       (try simp only [show (k29).sz = 5 from rfl, Nat.mul_one, Nat.add_zero] at hf21_1)
       have hx21_2 := hcc21 2 _ rfl
       (try simp only [show (k29).sz = 5 from rfl, Nat.mul_one, Nat.add_zero] at hx21_2)
       have hf21_2 := hfr21 2
       (try simp only [show (k29).sz = 5 from rfl, Nat.mul_one, Nat.add_zero] at hf21_2)
       have hx21_3 := hcc21 3 _ rfl
       (try simp only [show (k29).sz = 5 from rfl, Nat.mul_one, Nat.add_zero] at hx21_3)
       have hf21_3 := hfr21 3
       (try simp only [show (k29).sz = 5 from rfl, Nat.mul_one, Nat.add_zero] at hf21_3)
       have hx21_4 := hcc21 4 _ rfl
       (try simp only [show (k29).sz = 5 from rfl, Nat.mul_one, Nat.add_zero] at hx21_4)
       have hf21_4 := hfr21 4
       (try simp only [show (k29).sz = 5 from rfl, Nat.mul_one, Nat.add_zero] at hf21_4)
       clear hcl21 hcc21 hfr21 hM21
       go_wp2_with (first | ((with_reducible refine gate_store (t := 29) (p := 46) rfl ?_); refine store_event (t := 29) (p := 46) (v := ?vo_w22) (w1 := (((((wr.setCell ⟨ac, (a2 : Int).toNat * 5, none⟩ (.int .i64 9)).setCell ⟨ac, (a2 : Int).toNat * 5 + 1, none⟩ (.int .i64 0)).setCell ⟨ac, (a2 : Int).toNat * 5 + 2, none⟩ (.string (⟨#[]⟩ : ByteArray))).setCell ⟨ac, (a2 : Int).toNat * 5 + 3, none⟩ (.int .u32 0)).setCell ⟨ac, (a2 : Int).toNat * 5 + 4, none⟩ (.bool false))) ?hg ?ho ?hn ?hr ?_; (case ho => rfl); (case hg => rfl); (case hn => rfl); (case hr => first | (go_simp; done) | (go_simp; rfl)); intro w22 hw; have hg : wr.grownBy w22 (some ac) := (by rw [hw]; exact HP21.2); have hp_ : Kd.R k29 29 w22 w.heap.size (fun k_ => some k_ ≠ (v211 : Value).ownBlock) (.slice (some ⟨ac, 0, none⟩) ab.length co20) y214 := (by rw [hw, Ny214.out]; exact HP21.1); clear HP21; have n0_ := uZ (hp_); have n1_ := uZ (Kd.R_after (v := (.slice (some ⟨ac, 0, none⟩) ab.length co20)) (v1 := (.slice (some ⟨ac, 0, none⟩) ab.length co20)) (ok := (fun _ => True)) (by (with_reducible repeat (first | apply zA | apply zB | apply zC)); exact zD a3.out (fun _ hk => ⟨trivial, hk⟩)) hg (.inl rfl)); have n2_ := uZ ((by rw [hw]; exact zN (zN (zN (zN (zN (HB.out) GB19.out) GB19.out) GB19.out) GB19.out) GB19.out : Below w.heap.size w w22)); clear a4; clear a3; clear HB; have a4 := n0_; have a3 := n1_; have HB := n2_; clear n0_ n1_ n2_; clear hg hw hp_))
       go_roundg k2
       case measure => have := HJ3.out; have := HK2.out; omega
       case rel => exact ⟨(y214), (wrap64 (a2 + 1)), (by first | rfl | (simp; done) | (simp [*]; done)), H', ⟨by have := HJ3.out; have := HK2.out; omega⟩, ⟨uR a4.out⟩, ⟨by (with_reducible repeat (first | apply zA | apply zB | apply zC)); exact zD a3.out (fun _ hk => hk.2)⟩, ⟨uB HB.out⟩⟩
      rw [if_neg c18] at H
      exact absurd H (by simp)
     rw [if_neg c17] at H
     have c17b0 : decide (a2 < (ab.length : Int)) = false := decide_eq_false c17
     clear c17
     replace H := Option.bind_eq_some_iff.mp H
     obtain ⟨⟨t215, t216, t217⟩, A230, H⟩ := H
     replace H : ((switchbacklaw01_Same.f k2 t215 a5).bind fun t220 => (if t220 = true then (if t216 = a6 then (if t217 = a8 then ((switchbacklaw01_live.f).bind fun t221 => (some t221)) else (some false)) else (some false)) else (some false))) = some r := H
     have A23 := uZ A230
     clear A230
     replace H := Option.bind_eq_some_iff.mp H
     obtain ⟨t220, A240, H⟩ := H
     replace H : (if t220 = true then (if t216 = a6 then (if t217 = a8 then ((switchbacklaw01_live.f).bind fun t221 => (some t221)) else (some false)) else (some false)) else (some false)) = some r := H
     have A24 := uZ A240
     clear A240
     by_cases c25 : t220 = true
     ·subst c25
      have H1 : (if t216 = a6 then (if t217 = a8 then ((switchbacklaw01_live.f).bind fun t221 => (some t221)) else (some false)) else (some false)) = some r := by rw [if_pos rfl] at H; exact H
      clear H
      have H := H1
      clear H1
      by_cases c26 : t216 = a6
      ·rw [if_pos c26] at H
       have c26b0 : (t216 == a6) = true := beq_iff_eq.mpr c26
       have c26b1 : (t216 != a6) = false := bne_eq_false_iff_eq.mpr c26
       clear c26
       by_cases c27 : t217 = a8
       ·rw [if_pos c27] at H
        have c27b0 : (t217 == a8) = true := beq_iff_eq.mpr c27
        have c27b1 : (t217 != a8) = false := bne_eq_false_iff_eq.mpr c27
        clear c27
        replace H := Option.bind_eq_some_iff.mp H
        obtain ⟨t221, A280, H⟩ := H
        replace H : (some t221) = some r := H
        have A28 := uZ A280
        clear A280
        obtain rfl := Option.some.inj H
        obtain ⟨Ao29, co29, eo29⟩ := zF a4.out
        subst eo29
        go_wp2_with (first | ((with_reducible refine gate_callee (f := 11) rfl ?_); refine goesL_ (some 49) rfl rfl Tryd.func11 (by kernel_rfl) rfl #[.string a0] rfl (by (try simp only [zP, List.map_cons, List.map_nil]); first | done | rfl | (simp only [zQ, zR]; rfl)) ?_; (with_reducible refine (lex_Lex.calls a0 t215 t216 t217 _ (uZ (hLaid_.out.below (by repeat (first | (with_reducible first | exact HB.out | apply zL | apply zK | apply zM) | refine zN ?_ (Aside0.out (by assumption)) | exact HB.out)))) A23.out).mono ?_); rintro e w30 ⟨v218, rfl, ho0, hb⟩; refine ⟨_, rfl, ?_⟩; have n0_ := uZ (Kd.R_elder' (uR a4.out) (zE ho0) hb); have n1_ := uZ (Kd.R_elder' (uR a3.out) (zE ho0) hb); have n2_ := uZ (Kd.R_lower (Kd.R_new' (Kd.R_new' ho0 (Kd.R_lt (uR a4.out))) (Kd.R_lt (uR a3.out))) (below_size (uB HB.out))); have n3_ := uZ (zO (uB HB.out) hb); clear a4; clear a3; clear HB; have a4 := n0_; have a3 := n1_; have a7 := n2_; have HB := n3_; clear n0_ n1_ n2_ n3_; (try clear hb); (try clear hb2); (try clear hk); (try clear hi); (try clear ho0); obtain ⟨Ao31, co31, eo31⟩ := zF a7.out; subst eo31; obtain ⟨Ao32, co32, eo32⟩ := zF a3.out; subst eo32) | ((with_reducible refine gate_callee (f := 13) rfl ?_); refine goesL_ (some 55) rfl rfl Tryd.func13 (by kernel_rfl) rfl #[.slice Ao31 t215.length co31, .slice Ao32 a5.length co32] rfl (by (try simp only [zP, List.map_cons, List.map_nil]); first | done | rfl | (simp only [zQ, zR]; rfl)) ?_; (with_reducible refine (switchbacklaw01_Same.calls k2 _ _ t215 _ _ a5 true _ ?side1 ?side2 ?side3 ?side4 A24.out).mono ?_); (case side1 => repeat (first | exact (zG a7.out).2.2 | (with_reducible refine zH ?_ _) | (with_reducible refine zI ?_ _) | (with_reducible refine zJ ?_))); (case side2 => exact (zG a7.out).2.1); (case side3 => repeat (first | exact (zG a3.out).2.2 | (with_reducible refine zH ?_ _) | (with_reducible refine zI ?_ _) | (with_reducible refine zJ ?_))); (case side4 => exact (zG a3.out).2.1); rintro e w' ⟨rfl, ⟨nd, rfl⟩⟩; refine ⟨_, rfl, ?_⟩) | (go_at_call 14; (with_reducible refine (switchbacklaw01_live.calls  t221 _ (uZ (hLaid_.out.below (by repeat (first | (with_reducible first | exact HB.out | apply zL | apply zK | apply zM) | refine zN ?_ (Aside0.out (by assumption)) | exact HB.out)))) A28.out).mono ?_); rintro e w33 ⟨rfl, hb⟩; have n0_ := uZ (Kd.R_below (uR a4.out) hb); have n1_ := uZ (Kd.R_below (uR a3.out) hb); have n2_ := uZ (Kd.R_below (uR a7.out) hb); have n3_ := uZ (zO (uB HB.out) hb); clear a4; clear a3; clear a7; clear HB; have a4 := n0_; have a3 := n1_; have a7 := n2_; have HB := n3_; clear n0_ n1_ n2_ n3_; (try clear hb); (try clear hb2); (try clear hk); (try clear hi)))
        go_ret
        exact ⟨by first | rfl | (simp [errW_none, errW_some] <;> rfl) | (simp [*, errW_none, errW_some] <;> rfl), by repeat (first | (with_reducible first | exact HB.out | apply zL | apply zK | apply zM) | exact HB.out)⟩
       rw [if_neg c27] at H
       have c27b0 : (t217 == a8) = false := beq_eq_false_iff_ne.mpr c27
       have c27b1 : (t217 != a8) = true := bne_iff_ne.mpr c27
       obtain rfl := Option.some.inj H
       obtain ⟨Ao34, co34, eo34⟩ := zF a4.out
       subst eo34
       go_wp2_with (first | ((with_reducible refine gate_callee (f := 11) rfl ?_); refine goesL_ (some 49) rfl rfl Tryd.func11 (by kernel_rfl) rfl #[.string a0] rfl (by (try simp only [zP, List.map_cons, List.map_nil]); first | done | rfl | (simp only [zQ, zR]; rfl)) ?_; (with_reducible refine (lex_Lex.calls a0 t215 t216 t217 _ (uZ (hLaid_.out.below (by repeat (first | (with_reducible first | exact HB.out | apply zL | apply zK | apply zM) | refine zN ?_ (Aside0.out (by assumption)) | exact HB.out)))) A23.out).mono ?_); rintro e w35 ⟨v218, rfl, ho0, hb⟩; refine ⟨_, rfl, ?_⟩; have n0_ := uZ (Kd.R_elder' (uR a4.out) (zE ho0) hb); have n1_ := uZ (Kd.R_elder' (uR a3.out) (zE ho0) hb); have n2_ := uZ (Kd.R_lower (Kd.R_new' (Kd.R_new' ho0 (Kd.R_lt (uR a4.out))) (Kd.R_lt (uR a3.out))) (below_size (uB HB.out))); have n3_ := uZ (zO (uB HB.out) hb); clear a4; clear a3; clear HB; have a4 := n0_; have a3 := n1_; have a7 := n2_; have HB := n3_; clear n0_ n1_ n2_ n3_; (try clear hb); (try clear hb2); (try clear hk); (try clear hi); (try clear ho0); obtain ⟨Ao36, co36, eo36⟩ := zF a7.out; subst eo36; obtain ⟨Ao37, co37, eo37⟩ := zF a3.out; subst eo37) | ((with_reducible refine gate_callee (f := 13) rfl ?_); refine goesL_ (some 55) rfl rfl Tryd.func13 (by kernel_rfl) rfl #[.slice Ao36 t215.length co36, .slice Ao37 a5.length co37] rfl (by (try simp only [zP, List.map_cons, List.map_nil]); first | done | rfl | (simp only [zQ, zR]; rfl)) ?_; (with_reducible refine (switchbacklaw01_Same.calls k2 _ _ t215 _ _ a5 true _ ?side1 ?side2 ?side3 ?side4 A24.out).mono ?_); (case side1 => repeat (first | exact (zG a7.out).2.2 | (with_reducible refine zH ?_ _) | (with_reducible refine zI ?_ _) | (with_reducible refine zJ ?_))); (case side2 => exact (zG a7.out).2.1); (case side3 => repeat (first | exact (zG a3.out).2.2 | (with_reducible refine zH ?_ _) | (with_reducible refine zI ?_ _) | (with_reducible refine zJ ?_))); (case side4 => exact (zG a3.out).2.1); rintro e w' ⟨rfl, ⟨nd, rfl⟩⟩; refine ⟨_, rfl, ?_⟩))
       go_ret
       exact ⟨by first | rfl | (simp [errW_none, errW_some] <;> rfl) | (simp [*, errW_none, errW_some] <;> rfl), by repeat (first | (with_reducible first | exact HB.out | apply zL | apply zK | apply zM) | exact HB.out)⟩
      rw [if_neg c26] at H
      have c26b0 : (t216 == a6) = false := beq_eq_false_iff_ne.mpr c26
      have c26b1 : (t216 != a6) = true := bne_iff_ne.mpr c26
      obtain rfl := Option.some.inj H
      obtain ⟨Ao38, co38, eo38⟩ := zF a4.out
      subst eo38
      go_wp2_with (first | ((with_reducible refine gate_callee (f := 11) rfl ?_); refine goesL_ (some 49) rfl rfl Tryd.func11 (by kernel_rfl) rfl #[.string a0] rfl (by (try simp only [zP, List.map_cons, List.map_nil]); first | done | rfl | (simp only [zQ, zR]; rfl)) ?_; (with_reducible refine (lex_Lex.calls a0 t215 t216 t217 _ (uZ (hLaid_.out.below (by repeat (first | (with_reducible first | exact HB.out | apply zL | apply zK | apply zM) | refine zN ?_ (Aside0.out (by assumption)) | exact HB.out)))) A23.out).mono ?_); rintro e w39 ⟨v218, rfl, ho0, hb⟩; refine ⟨_, rfl, ?_⟩; have n0_ := uZ (Kd.R_elder' (uR a4.out) (zE ho0) hb); have n1_ := uZ (Kd.R_elder' (uR a3.out) (zE ho0) hb); have n2_ := uZ (Kd.R_lower (Kd.R_new' (Kd.R_new' ho0 (Kd.R_lt (uR a4.out))) (Kd.R_lt (uR a3.out))) (below_size (uB HB.out))); have n3_ := uZ (zO (uB HB.out) hb); clear a4; clear a3; clear HB; have a4 := n0_; have a3 := n1_; have a7 := n2_; have HB := n3_; clear n0_ n1_ n2_ n3_; (try clear hb); (try clear hb2); (try clear hk); (try clear hi); (try clear ho0); obtain ⟨Ao40, co40, eo40⟩ := zF a7.out; subst eo40; obtain ⟨Ao41, co41, eo41⟩ := zF a3.out; subst eo41) | ((with_reducible refine gate_callee (f := 13) rfl ?_); refine goesL_ (some 55) rfl rfl Tryd.func13 (by kernel_rfl) rfl #[.slice Ao40 t215.length co40, .slice Ao41 a5.length co41] rfl (by (try simp only [zP, List.map_cons, List.map_nil]); first | done | rfl | (simp only [zQ, zR]; rfl)) ?_; (with_reducible refine (switchbacklaw01_Same.calls k2 _ _ t215 _ _ a5 true _ ?side1 ?side2 ?side3 ?side4 A24.out).mono ?_); (case side1 => repeat (first | exact (zG a7.out).2.2 | (with_reducible refine zH ?_ _) | (with_reducible refine zI ?_ _) | (with_reducible refine zJ ?_))); (case side2 => exact (zG a7.out).2.1); (case side3 => repeat (first | exact (zG a3.out).2.2 | (with_reducible refine zH ?_ _) | (with_reducible refine zI ?_ _) | (with_reducible refine zJ ?_))); (case side4 => exact (zG a3.out).2.1); rintro e w' ⟨rfl, ⟨nd, rfl⟩⟩; refine ⟨_, rfl, ?_⟩))
      go_ret
      exact ⟨by first | rfl | (simp [errW_none, errW_some] <;> rfl) | (simp [*, errW_none, errW_some] <;> rfl), by repeat (first | (with_reducible first | exact HB.out | apply zL | apply zK | apply zM) | exact HB.out)⟩
     replace c25 := Bool.eq_false_iff.mpr c25
     subst c25
     have H1 : (some false) = some r := by rw [if_neg (show ¬ (false = true) by decide)] at H; exact H
     clear H
     have H := H1
     clear H1
     obtain rfl := Option.some.inj H
     obtain ⟨Ao42, co42, eo42⟩ := zF a4.out
     subst eo42
     go_wp2_with (first | ((with_reducible refine gate_callee (f := 11) rfl ?_); refine goesL_ (some 49) rfl rfl Tryd.func11 (by kernel_rfl) rfl #[.string a0] rfl (by (try simp only [zP, List.map_cons, List.map_nil]); first | done | rfl | (simp only [zQ, zR]; rfl)) ?_; (with_reducible refine (lex_Lex.calls a0 t215 t216 t217 _ (uZ (hLaid_.out.below (by repeat (first | (with_reducible first | exact HB.out | apply zL | apply zK | apply zM) | refine zN ?_ (Aside0.out (by assumption)) | exact HB.out)))) A23.out).mono ?_); rintro e w43 ⟨v218, rfl, ho0, hb⟩; refine ⟨_, rfl, ?_⟩; have n0_ := uZ (Kd.R_elder' (uR a4.out) (zE ho0) hb); have n1_ := uZ (Kd.R_elder' (uR a3.out) (zE ho0) hb); have n2_ := uZ (Kd.R_lower (Kd.R_new' (Kd.R_new' ho0 (Kd.R_lt (uR a4.out))) (Kd.R_lt (uR a3.out))) (below_size (uB HB.out))); have n3_ := uZ (zO (uB HB.out) hb); clear a4; clear a3; clear HB; have a4 := n0_; have a3 := n1_; have a7 := n2_; have HB := n3_; clear n0_ n1_ n2_ n3_; (try clear hb); (try clear hb2); (try clear hk); (try clear hi); (try clear ho0); obtain ⟨Ao44, co44, eo44⟩ := zF a7.out; subst eo44; obtain ⟨Ao45, co45, eo45⟩ := zF a3.out; subst eo45) | ((with_reducible refine gate_callee (f := 13) rfl ?_); refine goesL_ (some 55) rfl rfl Tryd.func13 (by kernel_rfl) rfl #[.slice Ao44 t215.length co44, .slice Ao45 a5.length co45] rfl (by (try simp only [zP, List.map_cons, List.map_nil]); first | done | rfl | (simp only [zQ, zR]; rfl)) ?_; (with_reducible refine (switchbacklaw01_Same.calls k2 _ _ t215 _ _ a5 false _ ?side1 ?side2 ?side3 ?side4 A24.out).mono ?_); (case side1 => repeat (first | exact (zG a7.out).2.2 | (with_reducible refine zH ?_ _) | (with_reducible refine zI ?_ _) | (with_reducible refine zJ ?_))); (case side2 => exact (zG a7.out).2.1); (case side3 => repeat (first | exact (zG a3.out).2.2 | (with_reducible refine zH ?_ _) | (with_reducible refine zI ?_ _) | (with_reducible refine zJ ?_))); (case side4 => exact (zG a3.out).2.1); rintro e w' ⟨rfl, ⟨nd, rfl⟩⟩; refine ⟨_, rfl, ?_⟩))
     go_ret
     exact ⟨by first | rfl | (simp [errW_none, errW_some] <;> rfl) | (simp [*, errW_none, errW_some] <;> rfl), by repeat (first | (with_reducible first | exact HB.out | apply zL | apply zK | apply zM) | exact HB.out)⟩

end Go.Proofs.YtjoboaaambdpoaaDoor.PR01
