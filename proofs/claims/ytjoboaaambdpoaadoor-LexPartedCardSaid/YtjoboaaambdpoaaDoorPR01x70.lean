-- Written by gp.py for this claim.
import Derived.Test.YtjoboaaambdpoaaDoorPR01x0
import Derived.Test.YtjoboaaambdpoaaDoorPR01x51
import Derived.Test.YtjoboaaambdpoaaDoorPR01x65
import Derived.Test.YtjoboaaambdpoaaDoorPR01x68
namespace Go.Proofs.YtjoboaaambdpoaaDoor.PR01
open Go.RowKit Go.Proofs.YtjoboaaambdpoaaDoorW.PrintWords Go.Proofs.YtjoboaaambdpoaaDoorW.PrintLast Go.Proofs.YtjoboaaambdpoaaDoorW.PrintMore
attribute [local go_sem] max2_int min2_int max_two min_two max_three min_three max_four min_four   -- for this text's walks alone
set_option linter.unusedVariables false
set_option linter.unusedSimpArgs false

namespace q_switchbacklaw01_LexBlanks
theorem uZ {p : Prop} (h : p) : Aside0 p := ⟨h⟩
theorem uR {p q : Prop} (h : p) (g : p → q := by intro h; (with_reducible repeat (first | apply Kd.R_alloc | apply Kd.R_drewN | apply Kd.R_drew)); exact h) : q := g h
theorem uB {p q : Prop} (h : p) (g : p → q := by intro h; repeat (first | (with_reducible first | exact h | apply below_alloc | apply pw_below_drewN | apply below_drew1) | exact h)) : q := g h
theorem zA : type_of% @Kd.R_below := @Kd.R_below
theorem zB : type_of% @Kd.R_reads' := @Kd.R_reads'
theorem zC : type_of% @pw_below_drewN := @pw_below_drewN
theorem zD : type_of% @below_alloc := @below_alloc
theorem zE : type_of% @below_drew1 := @below_drew1
theorem zF : type_of% @below_step := @below_step
end q_switchbacklaw01_LexBlanks
open q_switchbacklaw01_LexBlanks

/-! ### switchbacklaw01_LexBlanks: function 6 -/
def switchbacklaw01_LexBlanks.j0 : Nat → List (S29) → Int → Int → List (S29) → Int → Int → Bool → Option (Bool)
  | 0, _, _, _, _, _, _, _ => none
  | k + 1, x5, x6, x7, x8, x9, x10, x38 => if x38 = true then (if x10 = x7 then (if x9 = x6 then ((switchbacklaw01_live.f).bind fun t285 => (some t285)) else (some false)) else (some false)) else (if x7 = x10 then (if x6 = x9 then ((switchbacklaw01_alike.f k x5 x8).bind fun t286 => (if t286 = true then ((switchbacklaw01_live.f).bind fun t287 => (some t287)) else (some false))) else (some false)) else (some false))
def switchbacklaw01_LexBlanks.f (k : Nat) (a0 : ByteArray) (a1 : Int) : Option (Bool) := (lex_Lex.f a0).bind fun bt271 => (if (a0.size : Int) ≥ 20000 then ((switchbacklaw01_live.f).bind fun t276 => (some t276)) else ((some (([(9 + (Int.tmod a1 5)) % 256] : List Int) : List Int)).bind fun y277 => (if a0.size + (strOfNums y277).size ≤ 9223372036854775807 then ((lex_Lex.f (a0 ++ (strOfNums y277))).bind fun bt280 => (if bt271.2.2 = 12 then (switchbacklaw01_LexBlanks.j0 k bt271.1 bt271.2.1 bt271.2.2 bt280.1 bt280.2.1 bt280.2.2 true) else (switchbacklaw01_LexBlanks.j0 k bt271.1 bt271.2.1 bt271.2.2 bt280.1 bt280.2.1 bt280.2.2 (bt271.2.2 == 13)))) else (none))))
theorem switchbacklaw01_LexBlanks.mono_l : ∀ k, (∀ y0 y1 y2 y3 y4 y5 y6, LeO (switchbacklaw01_LexBlanks.j0 k y0 y1 y2 y3 y4 y5 y6) (switchbacklaw01_LexBlanks.j0 (k + 1) y0 y1 y2 y3 y4 y5 y6))
  | 0 => fun _ _ _ _ _ _ _ r h => by simp [switchbacklaw01_LexBlanks.j0] at h
  | k + 1 => by
    have ih0 := switchbacklaw01_LexBlanks.mono_l k
    · intro y0 y1 y2 y3 y4 y5 y6
      unfold switchbacklaw01_LexBlanks.j0
      repeat' first
      | (with_reducible exact ih0 _ _ _ _ _ _ _)
      | (with_reducible exact switchbacklaw01_alike.mono _ _ _)
      | (with_reducible exact LeO.refl _)
      | (with_reducible exact LeO.none _)
      | (with_reducible refine LeO.ite ?_ ?_)
      | (with_reducible refine LeO.bind ?_ (fun _ => ?_))
      | exact ih0 _ _ _ _ _ _ _
      | exact switchbacklaw01_alike.mono _ _ _
      | exact LeO.none _
      | refine LeO.ite ?_ ?_
      | refine LeO.bind ?_ (fun _ => ?_)
theorem switchbacklaw01_LexBlanks.mono : ∀ a0 a1 k, LeO (switchbacklaw01_LexBlanks.f k a0 a1) (switchbacklaw01_LexBlanks.f (k + 1) a0 a1) := by
  intro a0 a1 k
  have ih0 := switchbacklaw01_LexBlanks.mono_l k
  unfold switchbacklaw01_LexBlanks.f
  repeat' first
      | (with_reducible exact ih0 _ _ _ _ _ _ _)
      | (with_reducible exact switchbacklaw01_alike.mono _ _ _)
      | (with_reducible exact LeO.refl _)
      | (with_reducible exact LeO.none _)
      | (with_reducible refine LeO.ite ?_ ?_)
      | (with_reducible refine LeO.bind ?_ (fun _ => ?_))
      | exact ih0 _ _ _ _ _ _ _
      | exact switchbacklaw01_alike.mono _ _ _
      | exact LeO.none _
      | refine LeO.ite ?_ ?_
      | refine LeO.bind ?_ (fun _ => ?_)
set_option maxHeartbeats 8000000 in
set_option maxRecDepth 100000 in
theorem switchbacklaw01_LexBlanks.calls (k : Nat) (a0 : ByteArray) (a1 : Int) (r : Bool) (w : World) (hLaid_ : Aside0 (Laid w)) (h : switchbacklaw01_LexBlanks.f k a0 a1 = some r) :
    Calls Tryd.prog 6 #[.string a0, .int .u8 a1] w fun e w' => e = .returned (.bool r) ∧ Below w.heap.size w w' := by
 have HB := uZ (Below.refl w.heap.size w)
 have H : ((lex_Lex.f a0).bind fun bt271 => (if (a0.size : Int) ≥ 20000 then ((switchbacklaw01_live.f).bind fun t276 => (some t276)) else ((some (([(9 + (Int.tmod a1 5)) % 256] : List Int) : List Int)).bind fun y277 => (if a0.size + (strOfNums y277).size ≤ 9223372036854775807 then ((lex_Lex.f (a0 ++ (strOfNums y277))).bind fun a3 => (if bt271.2.2 = 12 then (switchbacklaw01_LexBlanks.j0 k bt271.1 bt271.2.1 bt271.2.2 a3.1 a3.2.1 a3.2.2 true) else (switchbacklaw01_LexBlanks.j0 k bt271.1 bt271.2.1 bt271.2.2 a3.1 a3.2.1 a3.2.2 (bt271.2.2 == 13)))) else (none))))) = some r := h
 clear h
 replace H := Option.bind_eq_some_iff.mp H
 obtain ⟨⟨t271, a4, a2⟩, A30, H⟩ := H
 replace H : (if (a0.size : Int) ≥ 20000 then ((switchbacklaw01_live.f).bind fun t276 => (some t276)) else ((some (([(9 + (Int.tmod a1 5)) % 256] : List Int) : List Int)).bind fun y277 => (if a0.size + (strOfNums y277).size ≤ 9223372036854775807 then ((lex_Lex.f (a0 ++ (strOfNums y277))).bind fun a3 => (if a2 = 12 then (switchbacklaw01_LexBlanks.j0 k t271 a4 a2 a3.1 a3.2.1 a3.2.2 true) else (switchbacklaw01_LexBlanks.j0 k t271 a4 a2 a3.1 a3.2.1 a3.2.2 (a2 == 13)))) else (none)))) = some r := H
 have A3 := uZ A30
 clear A30
 by_cases c4 : (a0.size : Int) ≥ 20000
 ·rw [if_pos c4] at H
  have c4b0 : decide (20000 ≤ (a0.size : Int)) = true := decide_eq_true c4
  have c4b1 : decide (20000 ≤ a0.size) = true := decide_eq_true (by omega)
  clear c4
  replace H := Option.bind_eq_some_iff.mp H
  obtain ⟨t276, A50, H⟩ := H
  replace H : (some t276) = some r := H
  have A5 := uZ A50
  clear A50
  obtain rfl := Option.some.inj H
  go_enter Tryd.func6, Tryd.ntmps6
  go_wp2_with (first | ((with_reducible refine gate_callee (f := 11) rfl ?_); refine goesL_ (some 13) rfl rfl Tryd.func11 (by kernel_rfl) rfl #[.string a0] rfl (by (try simp only [List.map_toArray, List.map_cons, List.map_nil]); first | done | rfl | (simp only [List.length_drop, List.length_take]; rfl)) ?_; (with_reducible refine (lex_Lex.calls a0 t271 a4 a2 _ (uZ (hLaid_.out.below (by repeat (first | (with_reducible first | exact HB.out | apply zD | apply zC | apply zE) | refine below_set ?_ (Aside0.out (by assumption)) | exact HB.out)))) A3.out).mono ?_); rintro e w6 ⟨v274, rfl, ho0, hb⟩; refine ⟨_, rfl, ?_⟩; have n0_ := uZ (Kd.R_lower ho0 (below_size (uB HB.out))); have n1_ := uZ (zF (uB HB.out) hb); clear HB; have a5 := n0_; have HB := n1_; clear n0_ n1_; (try clear hb); (try clear hb2); (try clear hk); (try clear hi); (try clear ho0)) | ((with_reducible refine gate_callee (f := 14) rfl ?_); refine goesL_ (some 20) rfl rfl Tryd.func14 (by kernel_rfl) rfl #[] rfl (by (try simp only [List.map_toArray, List.map_cons, List.map_nil]); first | done | rfl | (simp only [List.length_drop, List.length_take]; rfl)) ?_; (with_reducible refine (switchbacklaw01_live.calls  t276 _ (uZ (hLaid_.out.below (by repeat (first | (with_reducible first | exact HB.out | apply zD | apply zC | apply zE) | refine below_set ?_ (Aside0.out (by assumption)) | exact HB.out)))) A5.out).mono ?_); rintro e w7 ⟨rfl, hb⟩; refine ⟨_, rfl, ?_⟩; have n0_ := uZ (zA (uR a5.out) hb); have n1_ := uZ (zF (uB HB.out) hb); clear a5; clear HB; have a5 := n0_; have HB := n1_; clear n0_ n1_; (try clear hb); (try clear hb2); (try clear hk); (try clear hi)))
  go_ret
  exact ⟨by first | rfl | (simp [errW_none, errW_some] <;> rfl) | (simp [*, errW_none, errW_some] <;> rfl), by repeat (first | (with_reducible first | exact HB.out | apply zD | apply zC | apply zE) | exact HB.out)⟩
 rw [if_neg c4] at H
 have c4b0 : decide (20000 ≤ (a0.size : Int)) = false := decide_eq_false c4
 have c4b1 : decide (20000 ≤ a0.size) = false := decide_eq_false (by omega)
 clear c4
 obtain ⟨y277, hy277⟩ : ∃ y_ : List Int, y_ = (([(9 + (Int.tmod a1 5)) % 256] : List Int)) := ⟨_, rfl⟩
 replace H : (if a0.size + (strOfNums y277).size ≤ 9223372036854775807 then ((lex_Lex.f (a0 ++ (strOfNums y277))).bind fun a3 => (if a2 = 12 then (switchbacklaw01_LexBlanks.j0 k t271 a4 a2 a3.1 a3.2.1 a3.2.2 true) else (switchbacklaw01_LexBlanks.j0 k t271 a4 a2 a3.1 a3.2.1 a3.2.2 (a2 == 13)))) else (none)) = some r := by first | (rw [hy277]; with_reducible exact H) | (have H2_ := (Option.bind_some _ _).symm.trans H; rw [hy277]; with_reducible exact H2_) | (have H2_ := (Option.bind_some _ _).symm.trans H; with_reducible exact H2_) | with_reducible exact H | (rw [hy277]; exact H) | exact H
 have Ny277 := uZ hy277
 clear hy277
 by_cases c8 : a0.size + (strOfNums y277).size ≤ 9223372036854775807
 ·rw [if_pos c8] at H
  have c8b0 := eq_true c8
  have c8b1 : decide (a0.size + (strOfNums y277).size ≤ 9223372036854775807) = true := decide_eq_true c8
  try have c8b2 : (9223372036854775807 < a0.size + (strOfNums y277).size) = False := eq_false (Nat.not_lt.2 c8)
  replace H := Option.bind_eq_some_iff.mp H
  obtain ⟨⟨t280, a6, a7⟩, A90, H⟩ := H
  replace H : (if a2 = 12 then (switchbacklaw01_LexBlanks.j0 k t271 a4 a2 t280 a6 a7 true) else (switchbacklaw01_LexBlanks.j0 k t271 a4 a2 t280 a6 a7 (a2 == 13))) = some r := H
  have A9 := uZ A90
  clear A90
  have HC10 := uZ H
  clear H
  go_enter Tryd.func6, Tryd.ntmps6
  go_upto_region 5 with (first | ((with_reducible refine gate_callee (f := 11) rfl ?_); refine goesL_ (some 13) rfl rfl Tryd.func11 (by kernel_rfl) rfl #[.string a0] rfl (by (try simp only [List.map_toArray, List.map_cons, List.map_nil]); first | done | rfl | (simp only [List.length_drop, List.length_take]; rfl)) ?_; (with_reducible refine (lex_Lex.calls a0 t271 a4 a2 _ (uZ (hLaid_.out.below (by repeat (first | (with_reducible first | exact HB.out | apply zD | apply zC | apply zE) | refine below_set ?_ (Aside0.out (by assumption)) | exact HB.out)))) A3.out).mono ?_); rintro e w11 ⟨v274, rfl, ho0, hb⟩; refine ⟨_, rfl, ?_⟩; have n0_ := uZ (Kd.R_lower ho0 (below_size (uB HB.out))); have n1_ := uZ (zF (uB HB.out) hb); clear HB; have a5 := n0_; have HB := n1_; clear n0_ n1_; (try clear hb); (try clear hb2); (try clear hk); (try clear hi); (try clear ho0)) | ((with_reducible refine gate_dst (N := 26) rfl ?_); refine Kd.R_lit (Kd.int .u8) _ 5 ?hg (N := 26) ?hd (xs := ([(9 + (Int.tmod a1 5)) % 256] : List Int)) (inner := [.int .u8 ((9 + (Int.tmod a1 5)) % 256)]) (ok := fun _ => True) (okp := fun _ => True) ?hr ?hp (fun _ hk => hk) trivial (Below.refl _ _) (Nat.le_refl _) (by simp) ?_; (case hd => rfl); (case hg => rfl); (case hr => first | (go_simp; done) | (go_simp; rfl)); (case hp => exact (Reps.one (show Kd.M (Kd.int .u8) _ _ _ ((9 + (Int.tmod a1 5)) % 256) [.int .u8 ((9 + (Int.tmod a1 5)) % 256)] from rfl) (Reps.none _ _))); intro v278 w12 ho13 hb hg_ hnew_; clear hg_ hnew_; (first | rw [← Ny277.out] at ho13 | (simp only [Int.reduceToNat] at ho13; rw [← Ny277.out] at ho13)); have n0_ := uZ (zA (uR a5.out) hb); have n1_ := uZ (Kd.R_lower ho13 (below_size (uB HB.out))); have n2_ := uZ (zF (uB HB.out) hb); clear a5; clear HB; have a5 := n0_; have HO279 := n1_; have HB := n2_; clear n0_ n1_ n2_; clear hb ho13; have hcv14 := own_string (P := Tryd.prog) Tryd.underlying32 Tryd.underlying5 Tryd.underlying9 (Kd.own_of_R HO279.out)) | ((with_reducible refine gate_callee (f := 11) rfl ?_); refine goesL_ (some 29) rfl rfl Tryd.func11 (by kernel_rfl) rfl #[.string (a0 ++ (strOfNums y277))] rfl (by (try simp only [List.map_toArray, List.map_cons, List.map_nil]); first | done | rfl | (simp only [List.length_drop, List.length_take]; rfl)) ?_; (with_reducible refine (lex_Lex.calls (a0 ++ (strOfNums y277)) t280 a6 a7 _ (uZ (hLaid_.out.below (by repeat (first | (with_reducible first | exact HB.out | apply zD | apply zC | apply zE) | refine below_set ?_ (Aside0.out (by assumption)) | exact HB.out)))) A9.out).mono ?_); rintro e w15 ⟨v283, rfl, ho0, hb⟩; refine ⟨_, rfl, ?_⟩; have n0_ := uZ (Kd.R_elder' (uR a5.out) (Kd.R_base ho0) hb); have n1_ := uZ (zA (uR HO279.out) hb); have n2_ := uZ (Kd.R_lower (Kd.R_new' ho0 (Kd.R_lt (uR a5.out))) (below_size (uB HB.out))); have n3_ := uZ (zF (uB HB.out) hb); clear a5; clear HO279; clear HB; have a5 := n0_; have HO279 := n1_; have HO284 := n2_; have HB := n3_; clear n0_ n1_ n2_ n3_; (try clear hb); (try clear hb2); (try clear hk); (try clear hi); (try clear ho0)))
  (try simp only [Act.put, List.setIfInBounds_toArray, List.set_cons_zero, List.set_cons_succ])
  go_cut [38] (fun v38 wc => ∃ (kq : Nat) (x38_9 : Bool), v38 = .bool x38_9 ∧ Aside0 (switchbacklaw01_LexBlanks.j0 kq t271 a4 a2 t280 a6 a7 x38_9 = some r) ∧ Aside0 (kq ≤ k) ∧ Aside0 (Kd.R k29 29 wc w.heap.size (fun k_ => some k_ ≠ (v283 : Value).ownBlock) v274 t271) ∧ Aside0 (Kd.R k29 29 wc w.heap.size (fun k_ => some k_ ≠ (v274 : Value).ownBlock) v283 t280) ∧ Aside0 (Below w.heap.size w wc))
  case first =>
   have H := HC10.out
   clear HC10
   by_cases c16 : a2 = 12
   ·rw [if_pos c16] at H
    have c16b0 : (a2 == 12) = true := beq_iff_eq.mpr c16
    have c16b1 : (a2 != 12) = false := bne_eq_false_iff_eq.mpr c16
    clear c16
    (first | rw [c16b0] | (simp only [i64_w, i32_w]; rw [c16b0]) | skip)
    have H' := uZ H
    clear H
    go_wp2
    go_meet
    case rel => exact ⟨_, (true), (by first | rfl | (simp; done) | (simp [*]; done)), H', ⟨by first | omega | exact Nat.le_refl _⟩, ⟨by (with_reducible repeat (first | apply Kd.R_alloc | apply Kd.R_drewN | apply Kd.R_drew)); exact Kd.R_mono a5.out (fun _ hk => hk.2)⟩, ⟨by (with_reducible repeat (first | apply Kd.R_alloc | apply Kd.R_drewN | apply Kd.R_drew)); exact Kd.R_mono HO284.out (fun _ hk => hk.2)⟩, ⟨uB HB.out⟩⟩
   rw [if_neg c16] at H
   have c16b0 : (a2 == 12) = false := beq_eq_false_iff_ne.mpr c16
   have c16b1 : (a2 != 12) = true := bne_iff_ne.mpr c16
   (first | rw [c16b0] | (simp only [i64_w, i32_w]; rw [c16b0]) | skip)
   have H' := uZ H
   clear H
   go_wp2
   go_meet
   case rel => exact ⟨_, ((a2 == 13)), (by first | rfl | (simp; done) | (simp [*]; done)), H', ⟨by first | omega | exact Nat.le_refl _⟩, ⟨by (with_reducible repeat (first | apply Kd.R_alloc | apply Kd.R_drewN | apply Kd.R_drew)); exact Kd.R_mono a5.out (fun _ hk => hk.2)⟩, ⟨by (with_reducible repeat (first | apply Kd.R_alloc | apply Kd.R_drewN | apply Kd.R_drew)); exact Kd.R_mono HO284.out (fun _ hk => hk.2)⟩, ⟨uB HB.out⟩⟩
  case rest =>
   clear HC10
   try clear c1
   try clear hcv1
   try clear p2
   try clear c4
   try clear c4b0
   try clear c4b1
   try clear c6
   try clear c8
   try clear c8b0
   try clear c8b1
   try clear c8b2
   try clear c11
   try clear c14
   try clear hcv14
   try clear c16
   try clear c16b0
   try clear c16b1
   obtain ⟨kq, x38_9, rfl, HA, HJ9, HO_5, HO_8, HB⟩ := hcut
   cases kq with
   | zero => exact absurd HA.out (by simp [switchbacklaw01_LexBlanks.j0])
   | succ kj9 =>
    have H := HA.out
    clear HA
    simp only [switchbacklaw01_LexBlanks.j0] at H
    by_cases c17 : x38_9 = true
    ·subst c17
     have H1 : (if a7 = a2 then (if a6 = a4 then ((switchbacklaw01_live.f).bind fun t285 => (some t285)) else (some false)) else (some false)) = some r := by rw [if_pos rfl] at H; exact H
     clear H
     have H := H1
     clear H1
     by_cases c18 : a7 = a2
     ·rw [if_pos c18] at H
      have c18b0 : (a7 == a2) = true := beq_iff_eq.mpr c18
      have c18b1 : (a7 != a2) = false := bne_eq_false_iff_eq.mpr c18
      clear c18
      by_cases c19 : a6 = a4
      ·rw [if_pos c19] at H
       have c19b0 : (a6 == a4) = true := beq_iff_eq.mpr c19
       have c19b1 : (a6 != a4) = false := bne_eq_false_iff_eq.mpr c19
       clear c19
       replace H := Option.bind_eq_some_iff.mp H
       obtain ⟨t285, A200, H⟩ := H
       replace H : (some t285) = some r := H
       have A20 := uZ A200
       clear A200
       obtain rfl := Option.some.inj H
       go_wp2_with (first | (go_at_call 14; (with_reducible refine (switchbacklaw01_live.calls  t285 _ (uZ (hLaid_.out.below (by repeat (first | (with_reducible first | exact HB.out | apply zD | apply zC | apply zE) | refine below_set ?_ (Aside0.out (by assumption)) | exact HB.out)))) A20.out).mono ?_); rintro e w21 ⟨rfl, hb⟩; have n0_ := uZ (zA (uR HO_5.out) hb); have n1_ := uZ (zA (uR HO_8.out) hb); have n2_ := uZ (zF (uB HB.out) hb); clear HO_5; clear HO_8; clear HB; have HO_5 := n0_; have HO_8 := n1_; have HB := n2_; clear n0_ n1_ n2_; (try clear hb); (try clear hb2); (try clear hk); (try clear hi)))
       go_ret
       exact ⟨by first | rfl | (simp [errW_none, errW_some] <;> rfl) | (simp [*, errW_none, errW_some] <;> rfl), by repeat (first | (with_reducible first | exact HB.out | apply zD | apply zC | apply zE) | exact HB.out)⟩
      rw [if_neg c19] at H
      have c19b0 : (a6 == a4) = false := beq_eq_false_iff_ne.mpr c19
      have c19b1 : (a6 != a4) = true := bne_iff_ne.mpr c19
      obtain rfl := Option.some.inj H
      go_wp2
      go_ret
      exact ⟨by first | rfl | (simp [errW_none, errW_some] <;> rfl) | (simp [*, errW_none, errW_some] <;> rfl), by repeat (first | (with_reducible first | exact HB.out | apply zD | apply zC | apply zE) | exact HB.out)⟩
     rw [if_neg c18] at H
     have c18b0 : (a7 == a2) = false := beq_eq_false_iff_ne.mpr c18
     have c18b1 : (a7 != a2) = true := bne_iff_ne.mpr c18
     obtain rfl := Option.some.inj H
     go_wp2
     go_ret
     exact ⟨by first | rfl | (simp [errW_none, errW_some] <;> rfl) | (simp [*, errW_none, errW_some] <;> rfl), by repeat (first | (with_reducible first | exact HB.out | apply zD | apply zC | apply zE) | exact HB.out)⟩
    replace c17 := Bool.eq_false_iff.mpr c17
    subst c17
    have H1 : (if a2 = a7 then (if a4 = a6 then ((switchbacklaw01_alike.f kj9 t271 t280).bind fun t286 => (if t286 = true then ((switchbacklaw01_live.f).bind fun t287 => (some t287)) else (some false))) else (some false)) else (some false)) = some r := by rw [if_neg (show ¬ (false = true) by decide)] at H; exact H
    clear H
    have H := H1
    clear H1
    by_cases c22 : a2 = a7
    ·rw [if_pos c22] at H
     have c22b0 : (a2 == a7) = true := beq_iff_eq.mpr c22
     have c22b1 : (a2 != a7) = false := bne_eq_false_iff_eq.mpr c22
     clear c22
     by_cases c23 : a4 = a6
     ·rw [if_pos c23] at H
      have c23b0 : (a4 == a6) = true := beq_iff_eq.mpr c23
      have c23b1 : (a4 != a6) = false := bne_eq_false_iff_eq.mpr c23
      clear c23
      replace H := Option.bind_eq_some_iff.mp H
      obtain ⟨t286, A240, H⟩ := H
      replace H : (if t286 = true then ((switchbacklaw01_live.f).bind fun t287 => (some t287)) else (some false)) = some r := H
      have A24 := uZ A240
      clear A240
      by_cases c25 : t286 = true
      ·subst c25
       have H1 : ((switchbacklaw01_live.f).bind fun t287 => (some t287)) = some r := by rw [if_pos rfl] at H; exact H
       clear H
       have H := H1
       clear H1
       replace H := Option.bind_eq_some_iff.mp H
       obtain ⟨t287, A260, H⟩ := H
       replace H : (some t287) = some r := H
       have A26 := uZ A260
       clear A260
       obtain rfl := Option.some.inj H
       obtain ⟨Ao27, co27, eo27⟩ := Kd.R_slice HO_5.out
       subst eo27
       obtain ⟨Ao28, co28, eo28⟩ := Kd.R_slice HO_8.out
       subst eo28
       go_wp2_with (first | (go_at_call 15; (with_reducible refine (switchbacklaw01_alike.calls kj9 _ _ t271 _ _ t280 true _ ?side1 ?side2 ?side3 ?side4 A24.out).mono ?_); (case side1 => repeat (first | exact (zB HO_5.out).2.2 | (with_reducible refine Kd.C_alloc ?_ _) | (with_reducible refine Kd.C_drewN ?_ _) | (with_reducible refine Kd.C_drew ?_))); (case side2 => exact (zB HO_5.out).2.1); (case side3 => repeat (first | exact (zB HO_8.out).2.2 | (with_reducible refine Kd.C_alloc ?_ _) | (with_reducible refine Kd.C_drewN ?_ _) | (with_reducible refine Kd.C_drew ?_))); (case side4 => exact (zB HO_8.out).2.1); rintro e w' ⟨rfl, ⟨nd, rfl⟩⟩) | (go_at_call 14; (with_reducible refine (switchbacklaw01_live.calls  t287 _ (uZ (hLaid_.out.below (by repeat (first | (with_reducible first | exact HB.out | apply zD | apply zC | apply zE) | refine below_set ?_ (Aside0.out (by assumption)) | exact HB.out)))) A26.out).mono ?_); rintro e w29 ⟨rfl, hb⟩; have n0_ := uZ (zA (uR HO_5.out) hb); have n1_ := uZ (zA (uR HO_8.out) hb); have n2_ := uZ (zF (uB HB.out) hb); clear HO_5; clear HO_8; clear HB; have HO_5 := n0_; have HO_8 := n1_; have HB := n2_; clear n0_ n1_ n2_; (try clear hb); (try clear hb2); (try clear hk); (try clear hi)))
       go_ret
       exact ⟨by first | rfl | (simp [errW_none, errW_some] <;> rfl) | (simp [*, errW_none, errW_some] <;> rfl), by repeat (first | (with_reducible first | exact HB.out | apply zD | apply zC | apply zE) | exact HB.out)⟩
      replace c25 := Bool.eq_false_iff.mpr c25
      subst c25
      have H1 : (some false) = some r := by rw [if_neg (show ¬ (false = true) by decide)] at H; exact H
      clear H
      have H := H1
      clear H1
      obtain rfl := Option.some.inj H
      obtain ⟨Ao30, co30, eo30⟩ := Kd.R_slice HO_5.out
      subst eo30
      obtain ⟨Ao31, co31, eo31⟩ := Kd.R_slice HO_8.out
      subst eo31
      go_wp2_with (first | (go_at_call 15; (with_reducible refine (switchbacklaw01_alike.calls kj9 _ _ t271 _ _ t280 false _ ?side1 ?side2 ?side3 ?side4 A24.out).mono ?_); (case side1 => repeat (first | exact (zB HO_5.out).2.2 | (with_reducible refine Kd.C_alloc ?_ _) | (with_reducible refine Kd.C_drewN ?_ _) | (with_reducible refine Kd.C_drew ?_))); (case side2 => exact (zB HO_5.out).2.1); (case side3 => repeat (first | exact (zB HO_8.out).2.2 | (with_reducible refine Kd.C_alloc ?_ _) | (with_reducible refine Kd.C_drewN ?_ _) | (with_reducible refine Kd.C_drew ?_))); (case side4 => exact (zB HO_8.out).2.1); rintro e w' ⟨rfl, ⟨nd, rfl⟩⟩))
      go_ret
      exact ⟨by first | rfl | (simp [errW_none, errW_some] <;> rfl) | (simp [*, errW_none, errW_some] <;> rfl), by repeat (first | (with_reducible first | exact HB.out | apply zD | apply zC | apply zE) | exact HB.out)⟩
     rw [if_neg c23] at H
     have c23b0 : (a4 == a6) = false := beq_eq_false_iff_ne.mpr c23
     have c23b1 : (a4 != a6) = true := bne_iff_ne.mpr c23
     obtain rfl := Option.some.inj H
     go_wp2
     go_ret
     exact ⟨by first | rfl | (simp [errW_none, errW_some] <;> rfl) | (simp [*, errW_none, errW_some] <;> rfl), by repeat (first | (with_reducible first | exact HB.out | apply zD | apply zC | apply zE) | exact HB.out)⟩
    rw [if_neg c22] at H
    have c22b0 : (a2 == a7) = false := beq_eq_false_iff_ne.mpr c22
    have c22b1 : (a2 != a7) = true := bne_iff_ne.mpr c22
    obtain rfl := Option.some.inj H
    go_wp2
    go_ret
    exact ⟨by first | rfl | (simp [errW_none, errW_some] <;> rfl) | (simp [*, errW_none, errW_some] <;> rfl), by repeat (first | (with_reducible first | exact HB.out | apply zD | apply zC | apply zE) | exact HB.out)⟩
 rw [if_neg c8] at H
 exact absurd H (by simp)

end Go.Proofs.YtjoboaaambdpoaaDoor.PR01
