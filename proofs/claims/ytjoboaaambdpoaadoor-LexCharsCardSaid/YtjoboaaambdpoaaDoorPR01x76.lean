-- Written by gp.py for this claim.
import Derived.Test.YtjoboaaambdpoaaDoorPR01x0
import Derived.Test.YtjoboaaambdpoaaDoorPR01x51
import Derived.Test.YtjoboaaambdpoaaDoorPR01x65
namespace Go.Proofs.YtjoboaaambdpoaaDoor.PR01
open Go.RowKit Go.Proofs.YtjoboaaambdpoaaDoorW.PrintWords Go.Proofs.YtjoboaaambdpoaaDoorW.PrintLast Go.Proofs.YtjoboaaambdpoaaDoorW.PrintMore
attribute [local go_sem] max2_int min2_int max_two min_two max_three min_three max_four min_four   -- for this text's walks alone
set_option linter.unusedVariables false
set_option linter.unusedSimpArgs false

namespace q_switchbacklaw01_LexChars
theorem uZ {p : Prop} (h : p) : Aside0 p := ⟨h⟩
theorem uB {p q : Prop} (h : p) (g : p → q := by intro h; repeat (first | (with_reducible first | exact h | apply below_alloc | apply pw_below_drewN | apply below_drew1) | exact h)) : q := g h
theorem zA : type_of% @pw_below_drewN := @pw_below_drewN
theorem zB : type_of% @below_alloc := @below_alloc
theorem zC : type_of% @below_drew1 := @below_drew1
end q_switchbacklaw01_LexChars
open q_switchbacklaw01_LexChars

/-! ### switchbacklaw01_LexChars: function 10 -/
def switchbacklaw01_LexChars.j0 : Nat → Int → List (S29) → Int → Int → Bool → Option (Bool)
  | 0, _, _, _, _, _ => none
  | k + 1, x0, x3, x4, x5, x25 => if x25 = true then (if x5 = 12 then (if x4 = 0 then ((switchbacklaw01_live.f).bind fun t369 => (some t369)) else (some false)) else (some false)) else (if x5 = 0 then (if (x3.length : Int) = 2 then (if 0 < (x3.length : Int) then (if ((rd_T29 x3 0).f3) = ((x0) % 4294967296) then (if ((rd_T29 x3 0).f4 = true) then (some false) else ((switchbacklaw01_live.f).bind fun t372 => (some t372))) else (some false)) else (none)) else (some false)) else (some false))
def switchbacklaw01_LexChars.f (k : Nat) (a0 : Int) : Option (Bool) := (some (([a0] : List Int) : List Int)).bind fun y361 => (if 1 + (strOfNums y361).size ≤ 9223372036854775807 then (if ((⟨#[39]⟩ : ByteArray) ++ (strOfNums y361)).size + 1 ≤ 9223372036854775807 then ((lex_Lex.f (((⟨#[39]⟩ : ByteArray) ++ (strOfNums y361)) ++ (⟨#[39]⟩ : ByteArray))).bind fun bt364 => (if a0 = 39 then (switchbacklaw01_LexChars.j0 k a0 bt364.1 bt364.2.1 bt364.2.2 true) else (if a0 = 92 then (switchbacklaw01_LexChars.j0 k a0 bt364.1 bt364.2.1 bt364.2.2 true) else (switchbacklaw01_LexChars.j0 k a0 bt364.1 bt364.2.1 bt364.2.2 (a0 == 10))))) else (none)) else (none))
theorem switchbacklaw01_LexChars.mono_l : ∀ k, (∀ y0 y1 y2 y3 y4, LeO (switchbacklaw01_LexChars.j0 k y0 y1 y2 y3 y4) (switchbacklaw01_LexChars.j0 (k + 1) y0 y1 y2 y3 y4))
  | 0 => fun _ _ _ _ _ r h => by simp [switchbacklaw01_LexChars.j0] at h
  | k + 1 => by
    have ih0 := switchbacklaw01_LexChars.mono_l k
    · intro y0 y1 y2 y3 y4
      unfold switchbacklaw01_LexChars.j0
      repeat' first
      | (with_reducible exact ih0 _ _ _ _ _)
      | (with_reducible exact LeO.refl _)
      | (with_reducible exact LeO.none _)
      | (with_reducible refine LeO.ite ?_ ?_)
      | (with_reducible refine LeO.bind ?_ (fun _ => ?_))
      | exact ih0 _ _ _ _ _
      | exact LeO.none _
      | refine LeO.ite ?_ ?_
      | refine LeO.bind ?_ (fun _ => ?_)
theorem switchbacklaw01_LexChars.mono : ∀ a0 k, LeO (switchbacklaw01_LexChars.f k a0) (switchbacklaw01_LexChars.f (k + 1) a0) := by
  intro a0 k
  have ih0 := switchbacklaw01_LexChars.mono_l k
  unfold switchbacklaw01_LexChars.f
  repeat' first
      | (with_reducible exact ih0 _ _ _ _ _)
      | (with_reducible exact LeO.refl _)
      | (with_reducible exact LeO.none _)
      | (with_reducible refine LeO.ite ?_ ?_)
      | (with_reducible refine LeO.bind ?_ (fun _ => ?_))
      | exact ih0 _ _ _ _ _
      | exact LeO.none _
      | refine LeO.ite ?_ ?_
      | refine LeO.bind ?_ (fun _ => ?_)
set_option maxHeartbeats 8000000 in
set_option maxRecDepth 100000 in
theorem switchbacklaw01_LexChars.calls (k : Nat) (a0 : Int) (r : Bool) (w : World) (hLaid_ : Aside0 (Laid w)) (h : switchbacklaw01_LexChars.f k a0 = some r) :
    Calls Tryd.prog 10 #[.int .u8 a0] w fun e w' => e = .returned (.bool r) ∧ Below w.heap.size w w' := by
 have HB := uZ (Below.refl w.heap.size w)
 have H : ((some (([a0] : List Int) : List Int)).bind fun ae => (if 1 + (strOfNums ae).size ≤ 9223372036854775807 then (if ((⟨#[39]⟩ : ByteArray) ++ (strOfNums ae)).size + 1 ≤ 9223372036854775807 then ((lex_Lex.f (((⟨#[39]⟩ : ByteArray) ++ (strOfNums ae)) ++ (⟨#[39]⟩ : ByteArray))).bind fun a3 => (if a0 = 39 then (switchbacklaw01_LexChars.j0 k a0 a3.1 a3.2.1 a3.2.2 true) else (if a0 = 92 then (switchbacklaw01_LexChars.j0 k a0 a3.1 a3.2.1 a3.2.2 true) else (switchbacklaw01_LexChars.j0 k a0 a3.1 a3.2.1 a3.2.2 (a0 == 10))))) else (none)) else (none))) = some r := h
 clear h
 obtain ⟨ae, hy361⟩ : ∃ y_ : List Int, y_ = (([a0] : List Int)) := ⟨_, rfl⟩
 replace H : (if 1 + (strOfNums ae).size ≤ 9223372036854775807 then (if ((⟨#[39]⟩ : ByteArray) ++ (strOfNums ae)).size + 1 ≤ 9223372036854775807 then ((lex_Lex.f (((⟨#[39]⟩ : ByteArray) ++ (strOfNums ae)) ++ (⟨#[39]⟩ : ByteArray))).bind fun a3 => (if a0 = 39 then (switchbacklaw01_LexChars.j0 k a0 a3.1 a3.2.1 a3.2.2 true) else (if a0 = 92 then (switchbacklaw01_LexChars.j0 k a0 a3.1 a3.2.1 a3.2.2 true) else (switchbacklaw01_LexChars.j0 k a0 a3.1 a3.2.1 a3.2.2 (a0 == 10))))) else (none)) else (none)) = some r := by first | (rw [hy361]; with_reducible exact H) | (have H2_ := (Option.bind_some _ _).symm.trans H; rw [hy361]; with_reducible exact H2_) | (have H2_ := (Option.bind_some _ _).symm.trans H; with_reducible exact H2_) | with_reducible exact H | (rw [hy361]; exact H) | exact H
 have Ny361 := uZ hy361
 clear hy361
 by_cases c2 : 1 + (strOfNums ae).size ≤ 9223372036854775807
 ·rw [if_pos c2] at H
  have c2b0 := eq_true c2
  have c2b1 : decide (1 + (strOfNums ae).size ≤ 9223372036854775807) = true := decide_eq_true c2
  try have c2b2 : (9223372036854775807 < 1 + (strOfNums ae).size) = False := eq_false (Nat.not_lt.2 c2)
  by_cases c3 : ((⟨#[39]⟩ : ByteArray) ++ (strOfNums ae)).size + 1 ≤ 9223372036854775807
  ·rw [if_pos c3] at H
   have c3b0 := eq_true c3
   have c3b1 : decide (((⟨#[39]⟩ : ByteArray) ++ (strOfNums ae)).size + 1 ≤ 9223372036854775807) = true := decide_eq_true c3
   try have c3b2 : (9223372036854775807 < ((⟨#[39]⟩ : ByteArray) ++ (strOfNums ae)).size + 1) = False := eq_false (Nat.not_lt.2 c3)
   replace H := Option.bind_eq_some_iff.mp H
   obtain ⟨⟨a1, t365, ad⟩, A40, H⟩ := H
   replace H : (if a0 = 39 then (switchbacklaw01_LexChars.j0 k a0 a1 t365 ad true) else (if a0 = 92 then (switchbacklaw01_LexChars.j0 k a0 a1 t365 ad true) else (switchbacklaw01_LexChars.j0 k a0 a1 t365 ad (a0 == 10)))) = some r := H
   have A4 := uZ A40
   clear A40
   have HC5 := uZ H
   clear H
   have cz_ : (9223372036854775807 < 1 + (strOfNums ae).size + 1) = False := eq_false (by have hh_ := c3; rw [ByteArray.size_append, show (⟨#[39]⟩ : ByteArray).size = 1 from rfl] at hh_; omega)
   go_enter Tryd.func10, Tryd.ntmps10
   go_upto_region 2 with (first | ((with_reducible refine gate_dst (N := 8) rfl ?_); (try (refine gate_guard (by rfl) ?_; dsimp only)); refine Kd.R_lit (Kd.int .u8) _ 5 ?hg (N := 8) ?hd (xs := ([a0] : List Int)) (inner := [.int .u8 a0]) (ok := fun _ => True) (okp := fun _ => True) ?hr ?hp (fun _ hk => hk) trivial (Below.refl _ _) (Nat.le_refl _) (by simp) ?_; (case hd => rfl); (case hg => rfl); (case hr => first | (go_simp; done) | (go_simp; rfl)); (case hp => exact (Reps.one (show Kd.M (Kd.int .u8) _ _ _ a0 [.int .u8 a0] from rfl) (Reps.none _ _))); intro v362 w6 ho7 hb hg_ hnew_; clear hg_ hnew_; (first | rw [← Ny361.out] at ho7 | (simp only [Int.reduceToNat] at ho7; rw [← Ny361.out] at ho7)); have n0_ := uZ (Kd.R_lower ho7 (below_size (uB HB.out))); have n1_ := uZ (below_step (uB HB.out) hb); clear HB; have HO363 := n0_; have HB := n1_; clear n0_ n1_; clear hb ho7; have hcv8 := own_string (P := Tryd.prog) Tryd.underlying32 Tryd.underlying5 Tryd.underlying9 (Kd.own_of_R HO363.out)) | ((with_reducible refine gate_callee (f := 11) rfl ?_); refine goesL_ (some 12) rfl rfl Tryd.func11 (by kernel_rfl) rfl #[.string (((⟨#[39]⟩ : ByteArray) ++ (strOfNums ae)) ++ (⟨#[39]⟩ : ByteArray))] rfl (by (try simp only [List.map_toArray, List.map_cons, List.map_nil]); first | done | rfl | (simp only [List.length_drop, List.length_take]; rfl)) ?_; (with_reducible refine (lex_Lex.calls (((⟨#[39]⟩ : ByteArray) ++ (strOfNums ae)) ++ (⟨#[39]⟩ : ByteArray)) a1 t365 ad _ (uZ (hLaid_.out.below (by repeat (first | (with_reducible first | exact HB.out | apply zB | apply zA | apply zC) | refine below_set ?_ (Aside0.out (by assumption)) | exact HB.out)))) A4.out).mono ?_); rintro e w9 ⟨v367, rfl, ho0, hb⟩; refine ⟨_, rfl, ?_⟩; have n0_ := uZ (Kd.R_below (by (with_reducible repeat (first | apply Kd.R_alloc | apply Kd.R_drewN | apply Kd.R_drew)); exact HO363.out) hb); have n1_ := uZ (Kd.R_lower ho0 (below_size (uB HB.out))); have n2_ := uZ (below_step (uB HB.out) hb); clear HO363; clear HB; have HO363 := n0_; have HO368 := n1_; have HB := n2_; clear n0_ n1_ n2_; (try clear hb); (try clear hb2); (try clear hk); (try clear hi); (try clear ho0)))
   (try simp only [Act.put, List.setIfInBounds_toArray, List.set_cons_zero, List.set_cons_succ])
   go_cut [25] (fun v25 wc => ∃ (kq : Nat) (x25_4 : Bool), v25 = .bool x25_4 ∧ Aside0 (switchbacklaw01_LexChars.j0 kq a0 a1 t365 ad x25_4 = some r) ∧ Aside0 (kq ≤ k) ∧ Aside0 (Kd.R k29 29 wc w.heap.size (fun _ => True) v367 a1) ∧ Aside0 (Below w.heap.size w wc))
   case first =>
    have H := HC5.out
    clear HC5
    by_cases c10 : a0 = 39
    ·rw [if_pos c10] at H
     have c10b0 : (a0 == 39) = true := beq_iff_eq.mpr c10
     have c10b1 : (a0 != 39) = false := bne_eq_false_iff_eq.mpr c10
     clear c10
     (first | rw [c10b0] | (simp only [i64_w, i32_w]; rw [c10b0]) | skip)
     have H' := uZ H
     clear H
     go_wp2
     go_meet
     case rel => exact ⟨_, (true), (by first | rfl | (simp; done) | (simp [*]; done)), H', ⟨by first | omega | exact Nat.le_refl _⟩, ⟨by (with_reducible repeat (first | apply Kd.R_alloc | apply Kd.R_drewN | apply Kd.R_drew)); exact HO368.out⟩, ⟨uB HB.out⟩⟩
    rw [if_neg c10] at H
    have c10b0 : (a0 == 39) = false := beq_eq_false_iff_ne.mpr c10
    have c10b1 : (a0 != 39) = true := bne_iff_ne.mpr c10
    (first | rw [c10b0] | (simp only [i64_w, i32_w]; rw [c10b0]) | skip)
    by_cases c11 : a0 = 92
    ·rw [if_pos c11] at H
     have c11b0 : (a0 == 92) = true := beq_iff_eq.mpr c11
     have c11b1 : (a0 != 92) = false := bne_eq_false_iff_eq.mpr c11
     clear c11
     have H' := uZ H
     clear H
     go_wp2
     go_meet
     case rel => exact ⟨_, (true), (by first | rfl | (simp; done) | (simp [*]; done)), H', ⟨by first | omega | exact Nat.le_refl _⟩, ⟨by (with_reducible repeat (first | apply Kd.R_alloc | apply Kd.R_drewN | apply Kd.R_drew)); exact HO368.out⟩, ⟨uB HB.out⟩⟩
    rw [if_neg c11] at H
    have c11b0 : (a0 == 92) = false := beq_eq_false_iff_ne.mpr c11
    have c11b1 : (a0 != 92) = true := bne_iff_ne.mpr c11
    have H' := uZ H
    clear H
    go_wp2
    go_meet
    case rel => exact ⟨_, ((a0 == 10)), (by first | rfl | (simp; done) | (simp [*]; done)), H', ⟨by first | omega | exact Nat.le_refl _⟩, ⟨by (with_reducible repeat (first | apply Kd.R_alloc | apply Kd.R_drewN | apply Kd.R_drew)); exact HO368.out⟩, ⟨uB HB.out⟩⟩
   case rest =>
    clear HC5
    try clear c1
    try clear c2
    try clear c2b0
    try clear c2b1
    try clear c2b2
    try clear p2
    try clear c3
    try clear c3b0
    try clear c3b1
    try clear c3b2
    try clear hcv8
    try clear c10
    try clear c10b0
    try clear c10b1
    try clear c11
    try clear c11b0
    try clear c11b1
    obtain ⟨kq, x25_4, rfl, HA, HJ4, af, HB⟩ := hcut
    cases kq with
    | zero => exact absurd HA.out (by simp [switchbacklaw01_LexChars.j0])
    | succ kj4 =>
     have H := HA.out
     clear HA
     simp only [switchbacklaw01_LexChars.j0] at H
     by_cases c12 : x25_4 = true
     ·subst c12
      have H1 : (if ad = 12 then (if t365 = 0 then ((switchbacklaw01_live.f).bind fun t369 => (some t369)) else (some false)) else (some false)) = some r := by rw [if_pos rfl] at H; exact H
      clear H
      have H := H1
      clear H1
      by_cases c13 : ad = 12
      ·rw [if_pos c13] at H
       have c13b0 : (ad == 12) = true := beq_iff_eq.mpr c13
       have c13b1 : (ad != 12) = false := bne_eq_false_iff_eq.mpr c13
       clear c13
       by_cases c14 : t365 = 0
       ·rw [if_pos c14] at H
        have c14b0 : (t365 == 0) = true := beq_iff_eq.mpr c14
        have c14b1 : (t365 != 0) = false := bne_eq_false_iff_eq.mpr c14
        clear c14
        replace H := Option.bind_eq_some_iff.mp H
        obtain ⟨t369, A150, H⟩ := H
        replace H : (some t369) = some r := H
        have A15 := uZ A150
        clear A150
        obtain rfl := Option.some.inj H
        go_wp2_with (first | (go_at_call 14; (with_reducible refine (switchbacklaw01_live.calls  t369 _ (uZ (hLaid_.out.below (by repeat (first | (with_reducible first | exact HB.out | apply zB | apply zA | apply zC) | refine below_set ?_ (Aside0.out (by assumption)) | exact HB.out)))) A15.out).mono ?_); rintro e w16 ⟨rfl, hb⟩; have n0_ := uZ (Kd.R_below (by (with_reducible repeat (first | apply Kd.R_alloc | apply Kd.R_drewN | apply Kd.R_drew)); exact af.out) hb); have n1_ := uZ (below_step (uB HB.out) hb); clear af; clear HB; have af := n0_; have HB := n1_; clear n0_ n1_; (try clear hb); (try clear hb2); (try clear hk); (try clear hi)))
        go_ret
        exact ⟨by first | rfl | (simp [errW_none, errW_some] <;> rfl) | (simp [*, errW_none, errW_some] <;> rfl), by repeat (first | (with_reducible first | exact HB.out | apply zB | apply zA | apply zC) | exact HB.out)⟩
       rw [if_neg c14] at H
       have c14b0 : (t365 == 0) = false := beq_eq_false_iff_ne.mpr c14
       have c14b1 : (t365 != 0) = true := bne_iff_ne.mpr c14
       obtain rfl := Option.some.inj H
       go_wp2
       go_ret
       exact ⟨by first | rfl | (simp [errW_none, errW_some] <;> rfl) | (simp [*, errW_none, errW_some] <;> rfl), by repeat (first | (with_reducible first | exact HB.out | apply zB | apply zA | apply zC) | exact HB.out)⟩
      rw [if_neg c13] at H
      have c13b0 : (ad == 12) = false := beq_eq_false_iff_ne.mpr c13
      have c13b1 : (ad != 12) = true := bne_iff_ne.mpr c13
      obtain rfl := Option.some.inj H
      go_wp2
      go_ret
      exact ⟨by first | rfl | (simp [errW_none, errW_some] <;> rfl) | (simp [*, errW_none, errW_some] <;> rfl), by repeat (first | (with_reducible first | exact HB.out | apply zB | apply zA | apply zC) | exact HB.out)⟩
     replace c12 := Bool.eq_false_iff.mpr c12
     subst c12
     have H1 : (if ad = 0 then (if (a1.length : Int) = 2 then (if 0 < (a1.length : Int) then (if ((rd_T29 a1 0).f3) = ((a0) % 4294967296) then (if ((rd_T29 a1 0).f4 = true) then (some false) else ((switchbacklaw01_live.f).bind fun t372 => (some t372))) else (some false)) else (none)) else (some false)) else (some false)) = some r := by rw [if_neg (show ¬ (false = true) by decide)] at H; exact H
     clear H
     have H := H1
     clear H1
     by_cases c17 : ad = 0
     ·rw [if_pos c17] at H
      have c17b0 : (ad == 0) = true := beq_iff_eq.mpr c17
      have c17b1 : (ad != 0) = false := bne_eq_false_iff_eq.mpr c17
      clear c17
      by_cases c18 : (a1.length : Int) = 2
      ·rw [if_pos c18] at H
       have c18b0 : ((a1.length : Int) == 2) = true := beq_iff_eq.mpr c18
       have c18b1 : ((a1.length : Int) != 2) = false := bne_eq_false_iff_eq.mpr c18
       clear c18
       by_cases c19 : 0 < (a1.length : Int)
       ·rw [if_pos c19] at H
        have c19b0 : decide (0 < (a1.length : Int)) = true := decide_eq_true c19
        have c19b1 : decide (0 < a1.length) = true := decide_eq_true (by omega)
        clear c19
        by_cases c20 : ((rd_T29 a1 0).f3) = ((a0) % 4294967296)
        ·rw [if_pos c20] at H
         have c20b0 : (((rd_T29 a1 0).f3) == ((a0) % 4294967296)) = true := beq_iff_eq.mpr c20
         have c20b1 : (((rd_T29 a1 0).f3) != ((a0) % 4294967296)) = false := bne_eq_false_iff_eq.mpr c20
         clear c20
         obtain ⟨bq21, hbq21⟩ : ∃ b_ : Bool, b_ = ((rd_T29 a1 0).f4) := ⟨_, rfl⟩
         replace H : (if (bq21 = true) then (some false) else ((switchbacklaw01_live.f).bind fun t372 => (some t372))) = some r := by rw [← hbq21] at H; exact H
         have Nbq21 := uZ hbq21
         clear hbq21
         by_cases c22 : (bq21 = true)
         ·subst c22
          have H1 : (some false) = some r := by rw [if_pos rfl] at H; exact H
          clear H
          have H := H1
          clear H1
          obtain rfl := Option.some.inj H
          obtain ⟨Ao23, co23, eo23⟩ := Kd.R_slice af.out
          subst eo23
          have p370 : 0 ≤ (0 : Int) := (by omega)
          have q370 : 0 < (a1.length : Int) := of_decide_eq_true (by first | (with_reducible assumption) | assumption)
          obtain ⟨ad370, e370, a4, a5, a6, a7, a2⟩ := at_T29 (Kd.R_reads' af.out).2.2 0 p370 q370
          (try rw [← Nbq21.out] at a2)
          cases e370
          have qi370 : (0 < a1.length) = True := eq_true (by omega)
          (try rw [show ((0 : Int)).toNat = 0 from rfl] at a4)
          (try rw [show 0 * 5 = 0 from rfl] at a4)
          (try rw [Addr.add_zero'] at a4)
          (try rw [show ((0 : Int)).toNat = 0 from rfl] at a5)
          (try rw [show 0 * 5 = 0 from rfl] at a5)
          (try rw [Addr.add_zero'] at a5)
          (try rw [show ((0 : Int)).toNat = 0 from rfl] at a6)
          (try rw [show 0 * 5 = 0 from rfl] at a6)
          (try rw [Addr.add_zero'] at a6)
          (try rw [show ((0 : Int)).toNat = 0 from rfl] at a7)
          (try rw [show 0 * 5 = 0 from rfl] at a7)
          (try rw [Addr.add_zero'] at a7)
          (try rw [show ((0 : Int)).toNat = 0 from rfl] at a2)
          (try rw [show 0 * 5 = 0 from rfl] at a2)
          (try rw [Addr.add_zero'] at a2)
          replace p370 := eq_true p370
          replace q370 := eq_true q370
          have p371 : 0 ≤ (0 : Int) := (by omega)
          have q371 : 0 < (a1.length : Int) := of_decide_eq_true (by first | (with_reducible assumption) | assumption)
          obtain ⟨ad371, e371, a9, aa, ab, ac, a8⟩ := at_T29 (Kd.R_reads' af.out).2.2 0 p371 q371
          (try rw [← Nbq21.out] at a8)
          obtain rfl : ad370 = ad371 := (by injection e371)
          have qi371 : (0 < a1.length) = True := eq_true (by omega)
          (try rw [show ((0 : Int)).toNat = 0 from rfl] at a9)
          (try rw [show 0 * 5 = 0 from rfl] at a9)
          (try rw [Addr.add_zero'] at a9)
          (try rw [show ((0 : Int)).toNat = 0 from rfl] at aa)
          (try rw [show 0 * 5 = 0 from rfl] at aa)
          (try rw [Addr.add_zero'] at aa)
          (try rw [show ((0 : Int)).toNat = 0 from rfl] at ab)
          (try rw [show 0 * 5 = 0 from rfl] at ab)
          (try rw [Addr.add_zero'] at ab)
          (try rw [show ((0 : Int)).toNat = 0 from rfl] at ac)
          (try rw [show 0 * 5 = 0 from rfl] at ac)
          (try rw [Addr.add_zero'] at ac)
          (try rw [show ((0 : Int)).toNat = 0 from rfl] at a8)
          (try rw [show 0 * 5 = 0 from rfl] at a8)
          (try rw [Addr.add_zero'] at a8)
          replace p371 := eq_true p371
          replace q371 := eq_true q371
          go_wp2
          go_ret
          exact ⟨by first | rfl | (simp [errW_none, errW_some] <;> rfl) | (simp [*, errW_none, errW_some] <;> rfl), by repeat (first | (with_reducible first | exact HB.out | apply zB | apply zA | apply zC) | exact HB.out)⟩
         replace c22 := Bool.eq_false_iff.mpr c22
         subst c22
         have H1 : ((switchbacklaw01_live.f).bind fun t372 => (some t372)) = some r := by rw [if_neg (show ¬ (false = true) by decide)] at H; exact H
         clear H
         have H := H1
         clear H1
         replace H := Option.bind_eq_some_iff.mp H
         obtain ⟨t372, A240, H⟩ := H
         replace H : (some t372) = some r := H
         have A24 := uZ A240
         clear A240
         obtain rfl := Option.some.inj H
         obtain ⟨Ao25, co25, eo25⟩ := Kd.R_slice af.out
         subst eo25
         have p370 : 0 ≤ (0 : Int) := (by omega)
         have q370 : 0 < (a1.length : Int) := of_decide_eq_true (by first | (with_reducible assumption) | assumption)
         obtain ⟨ad370, e370, a4, a5, a6, a7, a2⟩ := at_T29 (Kd.R_reads' af.out).2.2 0 p370 q370
         (try rw [← Nbq21.out] at a2)
         cases e370
         have qi370 : (0 < a1.length) = True := eq_true (by omega)
         (try rw [show ((0 : Int)).toNat = 0 from rfl] at a4)
         (try rw [show 0 * 5 = 0 from rfl] at a4)
         (try rw [Addr.add_zero'] at a4)
         (try rw [show ((0 : Int)).toNat = 0 from rfl] at a5)
         (try rw [show 0 * 5 = 0 from rfl] at a5)
         (try rw [Addr.add_zero'] at a5)
         (try rw [show ((0 : Int)).toNat = 0 from rfl] at a6)
         (try rw [show 0 * 5 = 0 from rfl] at a6)
         (try rw [Addr.add_zero'] at a6)
         (try rw [show ((0 : Int)).toNat = 0 from rfl] at a7)
         (try rw [show 0 * 5 = 0 from rfl] at a7)
         (try rw [Addr.add_zero'] at a7)
         (try rw [show ((0 : Int)).toNat = 0 from rfl] at a2)
         (try rw [show 0 * 5 = 0 from rfl] at a2)
         (try rw [Addr.add_zero'] at a2)
         replace p370 := eq_true p370
         replace q370 := eq_true q370
         have p371 : 0 ≤ (0 : Int) := (by omega)
         have q371 : 0 < (a1.length : Int) := of_decide_eq_true (by first | (with_reducible assumption) | assumption)
         obtain ⟨ad371, e371, a9, aa, ab, ac, a8⟩ := at_T29 (Kd.R_reads' af.out).2.2 0 p371 q371
         (try rw [← Nbq21.out] at a8)
         obtain rfl : ad370 = ad371 := (by injection e371)
         have qi371 : (0 < a1.length) = True := eq_true (by omega)
         (try rw [show ((0 : Int)).toNat = 0 from rfl] at a9)
         (try rw [show 0 * 5 = 0 from rfl] at a9)
         (try rw [Addr.add_zero'] at a9)
         (try rw [show ((0 : Int)).toNat = 0 from rfl] at aa)
         (try rw [show 0 * 5 = 0 from rfl] at aa)
         (try rw [Addr.add_zero'] at aa)
         (try rw [show ((0 : Int)).toNat = 0 from rfl] at ab)
         (try rw [show 0 * 5 = 0 from rfl] at ab)
         (try rw [Addr.add_zero'] at ab)
         (try rw [show ((0 : Int)).toNat = 0 from rfl] at ac)
         (try rw [show 0 * 5 = 0 from rfl] at ac)
         (try rw [Addr.add_zero'] at ac)
         (try rw [show ((0 : Int)).toNat = 0 from rfl] at a8)
         (try rw [show 0 * 5 = 0 from rfl] at a8)
         (try rw [Addr.add_zero'] at a8)
         replace p371 := eq_true p371
         replace q371 := eq_true q371
         go_wp2_with (first | (go_at_call 14; (with_reducible refine (switchbacklaw01_live.calls  t372 _ (uZ (hLaid_.out.below (by repeat (first | (with_reducible first | exact HB.out | apply zB | apply zA | apply zC) | refine below_set ?_ (Aside0.out (by assumption)) | exact HB.out)))) A24.out).mono ?_); rintro e w26 ⟨rfl, hb⟩; have n0_ := uZ (Kd.R_below (by (with_reducible repeat (first | apply Kd.R_alloc | apply Kd.R_drewN | apply Kd.R_drew)); exact af.out) hb); have n1_ := uZ (below_step (uB HB.out) hb); clear af; clear HB; have af := n0_; have HB := n1_; clear n0_ n1_; (try clear hb); (try clear hb2); (try clear hk); (try clear hi)))
         go_ret
         exact ⟨by first | rfl | (simp [errW_none, errW_some] <;> rfl) | (simp [*, errW_none, errW_some] <;> rfl), by repeat (first | (with_reducible first | exact HB.out | apply zB | apply zA | apply zC) | exact HB.out)⟩
        rw [if_neg c20] at H
        have c20b0 : (((rd_T29 a1 0).f3) == ((a0) % 4294967296)) = false := beq_eq_false_iff_ne.mpr c20
        have c20b1 : (((rd_T29 a1 0).f3) != ((a0) % 4294967296)) = true := bne_iff_ne.mpr c20
        obtain rfl := Option.some.inj H
        obtain ⟨Ao27, co27, eo27⟩ := Kd.R_slice af.out
        subst eo27
        have p370 : 0 ≤ (0 : Int) := (by omega)
        have q370 : 0 < (a1.length : Int) := of_decide_eq_true (by first | (with_reducible assumption) | assumption)
        obtain ⟨ad370, e370, a4, a5, a6, a7, a2⟩ := at_T29 (Kd.R_reads' af.out).2.2 0 p370 q370
        cases e370
        have qi370 : (0 < a1.length) = True := eq_true (by omega)
        (try rw [show ((0 : Int)).toNat = 0 from rfl] at a4)
        (try rw [show 0 * 5 = 0 from rfl] at a4)
        (try rw [Addr.add_zero'] at a4)
        (try rw [show ((0 : Int)).toNat = 0 from rfl] at a5)
        (try rw [show 0 * 5 = 0 from rfl] at a5)
        (try rw [Addr.add_zero'] at a5)
        (try rw [show ((0 : Int)).toNat = 0 from rfl] at a6)
        (try rw [show 0 * 5 = 0 from rfl] at a6)
        (try rw [Addr.add_zero'] at a6)
        (try rw [show ((0 : Int)).toNat = 0 from rfl] at a7)
        (try rw [show 0 * 5 = 0 from rfl] at a7)
        (try rw [Addr.add_zero'] at a7)
        (try rw [show ((0 : Int)).toNat = 0 from rfl] at a2)
        (try rw [show 0 * 5 = 0 from rfl] at a2)
        (try rw [Addr.add_zero'] at a2)
        replace p370 := eq_true p370
        replace q370 := eq_true q370
        go_wp2
        go_ret
        exact ⟨by first | rfl | (simp [errW_none, errW_some] <;> rfl) | (simp [*, errW_none, errW_some] <;> rfl), by repeat (first | (with_reducible first | exact HB.out | apply zB | apply zA | apply zC) | exact HB.out)⟩
       rw [if_neg c19] at H
       exact absurd H (by simp)
      rw [if_neg c18] at H
      have c18b0 : ((a1.length : Int) == 2) = false := beq_eq_false_iff_ne.mpr c18
      have c18b1 : ((a1.length : Int) != 2) = true := bne_iff_ne.mpr c18
      obtain rfl := Option.some.inj H
      obtain ⟨Ao28, co28, eo28⟩ := Kd.R_slice af.out
      subst eo28
      go_wp2
      go_ret
      exact ⟨by first | rfl | (simp [errW_none, errW_some] <;> rfl) | (simp [*, errW_none, errW_some] <;> rfl), by repeat (first | (with_reducible first | exact HB.out | apply zB | apply zA | apply zC) | exact HB.out)⟩
     rw [if_neg c17] at H
     have c17b0 : (ad == 0) = false := beq_eq_false_iff_ne.mpr c17
     have c17b1 : (ad != 0) = true := bne_iff_ne.mpr c17
     obtain rfl := Option.some.inj H
     go_wp2
     go_ret
     exact ⟨by first | rfl | (simp [errW_none, errW_some] <;> rfl) | (simp [*, errW_none, errW_some] <;> rfl), by repeat (first | (with_reducible first | exact HB.out | apply zB | apply zA | apply zC) | exact HB.out)⟩
  rw [if_neg c3] at H
  exact absurd H (by simp)
 rw [if_neg c2] at H
 exact absurd H (by simp)

end Go.Proofs.YtjoboaaambdpoaaDoor.PR01
