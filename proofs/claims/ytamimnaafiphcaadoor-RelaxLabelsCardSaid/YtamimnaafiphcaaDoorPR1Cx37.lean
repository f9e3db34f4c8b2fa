-- Written by gp.py for this claim.
import Derived.Test.YtamimnaafiphcaaDoorPR1CZ
import Derived.Test.YtamimnaafiphcaaDoorPR1Cx35
import Derived.Test.YtamimnaafiphcaaDoorPR1Cx36
import Derived.Test.YtamimnaafiphcaaDoorPR1Cd37
namespace Go.Proofs.YtamimnaafiphcaaDoor.PR1C
open Go.RowKit Go.Proofs.YtamimnaafiphcaaDoorW.PrintWords Go.Proofs.YtamimnaafiphcaaDoorW.PrintLast Go.Proofs.YtamimnaafiphcaaDoorW.PrintMore
attribute [local go_sem] max2_int min2_int max_two min_two max_three min_three max_four min_four   -- for this text's walks alone
set_option linter.unusedVariables false
set_option linter.unusedSimpArgs false

namespace q_switchbacklaw17_RelaxLabels
theorem uZ {p : Prop} (h : p) : Aside0 p := ⟨h⟩
theorem uR {p q : Prop} (h : p) (g : p → q := by intro h; (with_reducible repeat (first | apply Kd.R_alloc | apply Kd.R_drewN | apply Kd.R_drew)); exact h) : q := g h
theorem uN {p q : Prop} (h : p) (g : p → q := by intro h; (with_reducible repeat (first | apply Kd.N_alloc | apply Kd.N_drewN | apply Kd.N_drew)); exact h) : q := g h
theorem uV {p q : Prop} (h : p) (g : p → q := by intro h; (with_reducible repeat (first | apply Kd.V_alloc | apply Kd.V_drewN | apply Kd.V_drew)); exact h) : q := g h
theorem uK {p q : Prop} (h : p) (g : p → q := by intro h; (with_reducible repeat (first | apply blk_drewN | apply blk_drew | apply blk_alloc)); exact h) : q := g h
theorem uB {p q : Prop} (h : p) (g : p → q := by intro h; repeat (first | (with_reducible first | exact h | apply below_alloc | apply pw_below_drewN | apply below_drew1) | exact h)) : q := g h
theorem uC {p q s : Prop} (h : p) (j : s) (g : p → s → q := by intro h j; repeat (first | (with_reducible first | exact h | apply below_alloc | apply pw_below_drewN | apply below_drew1 | refine below_set ?_ j) | exact h)) : q := g h j
theorem uD {p q s r : Prop} (h : p) (j : s) (k : r) (g : p → s → r → q := by intro h j k; repeat (first | (with_reducible first | exact h | apply below_alloc | apply pw_below_drewN | apply below_drew1 | refine below_set ?_ j | refine below_set ?_ k) | exact h)) : q := g h j k
theorem uA {p : Prop} [Decidable p] (h : decide p = true := by first | (with_reducible assumption) | assumption) : p := of_decide_eq_true h
theorem zA : type_of% @Kd.R_alloc := @Kd.R_alloc
theorem zB : type_of% @Kd.R_drewN := @Kd.R_drewN
theorem zC : type_of% @Kd.R_drew := @Kd.R_drew
theorem zD : type_of% @Kd.R_far := @Kd.R_far
theorem zE : type_of% @Kd.R_below := @Kd.R_below
theorem zF : type_of% @Kd.R_mono := @Kd.R_mono
theorem zG : type_of% @Kd.R_types := @Kd.R_types
theorem zH : type_of% @Kd.R_lt := @Kd.R_lt
theorem zI : type_of% @Kd.R_over' := @Kd.R_over'
theorem zJ : type_of% @Kd.R_base := @Kd.R_base
theorem zK : type_of% @Kd.R_lower := @Kd.R_lower
theorem zL : type_of% @Kd.R_slice := @Kd.R_slice
theorem zM : type_of% @Kd.R_reads' := @Kd.R_reads'
theorem zN : type_of% @Kd.N_alloc := @Kd.N_alloc
theorem zO : type_of% @Kd.N_drewN := @Kd.N_drewN
theorem zP : type_of% @Kd.N_drew := @Kd.N_drew
theorem zQ : type_of% @Kd.N_far := @Kd.N_far
theorem zR : type_of% @Kd.N_below := @Kd.N_below
theorem zS : type_of% @Kd.N_mono := @Kd.N_mono
theorem zT : type_of% @Kd.N_afterv := @Kd.N_afterv
theorem zU : type_of% @Kd.N_append_rows := @Kd.N_append_rows
theorem zV : type_of% @Kd.N_reads' := @Kd.N_reads'
theorem zW : type_of% @Kd.V_mono := @Kd.V_mono
theorem zX : type_of% @Kd.V_afterv := @Kd.V_afterv
theorem zY : type_of% @Kd.C_alloc := @Kd.C_alloc
theorem zZ : type_of% @Kd.C_drewN := @Kd.C_drewN
theorem yA : type_of% @Kd.C_drew := @Kd.C_drew
theorem yB : type_of% @Kd.fresh' := @Kd.fresh'
theorem yC : type_of% @Kd.freshB := @Kd.freshB
theorem yD : type_of% @blk_drewN := @blk_drewN
theorem yE : type_of% @blk_drew := @blk_drew
theorem yF : type_of% @blk_alloc := @blk_alloc
theorem yG : type_of% @pw_below_drewN := @pw_below_drewN
theorem yH : type_of% @below_alloc := @below_alloc
theorem yI : type_of% @below_drew1 := @below_drew1
theorem yJ : type_of% @blk_frozen := @blk_frozen
theorem yK : type_of% @blk_cell := @blk_cell
theorem yL : type_of% @blk_put := @blk_put
theorem yM : type_of% @blk_far := @blk_far
theorem yN : type_of% @blk_grown := @blk_grown
theorem yO : type_of% @blk_below := @blk_below
theorem yP : type_of% @below_set := @below_set
theorem yQ : type_of% @below_size := @below_size
theorem yR : type_of% @below_step := @below_step
theorem yS : type_of% @World.block_lt_of_cell? := @World.block_lt_of_cell?
end q_switchbacklaw17_RelaxLabels
open q_switchbacklaw17_RelaxLabels

set_option maxHeartbeats 8000000 in
set_option maxRecDepth 100000 in
theorem switchbacklaw17_RelaxLabels.calls (k : Nat) (A0 : Option Addr) (c0 : Nat) (l0 : List (S40)) (A1 : Option Addr) (c1 : Nat) (l1 : List Int) (r : Bool) (w : World) (hr0 : Kd.C k40 w A0 l0.length l0) (hc0 : l0.length ≤ c0) (hr1 : Kd.C (Kd.int .i64) w A1 l1.length l1) (hc1 : l1.length ≤ c1) (hLaid_ : Aside0 (Laid w)) (h : switchbacklaw17_RelaxLabels.f k l0 l1 = some r) :
    Calls Tryd.prog 6 #[.slice A0 l0.length c0, .slice A1 l1.length c1] w fun e w' => e = .returned (.bool r) ∧ Below w.heap.size w w' := by
 have hu27 := Tryd.underlying27
 have hu40 := Tryd.underlying40
 have HR0 := uZ hr0
 have HC0 := uZ hc0
 clear hr0 hc0
 have HR1 := uZ hr1
 have HC1 := uZ hc1
 clear hr1 hc1
 have HB := uZ (Below.refl w.heap.size w)
 have H : ((relax_Assemble.f l0).bind fun bt230 => (if bt230.2.2.2.2.2 = 0 then (if 100001 ≤ 281474976710656 then (switchbacklaw17_RelaxLabels.l0 k l0 l1 (List.replicate 100001 false) 0 bt230.1 bt230.2.1 bt230.2.2.1 bt230.2.2.2.1) else (none)) else ((switchbacklaw17_live.f).bind fun t243 => (some t243)))) = some r := h
 clear h
 replace H := Option.bind_eq_some_iff.mp H
 obtain ⟨⟨a9, a8, ab, aj, t240, t241⟩, A30, H⟩ := H
 replace H : (if t241 = 0 then (if 100001 ≤ 281474976710656 then (switchbacklaw17_RelaxLabels.l0 k l0 l1 (List.replicate 100001 false) 0 a9 a8 ab aj) else (none)) else ((switchbacklaw17_live.f).bind fun t243 => (some t243))) = some r := H
 have A3 := uZ A30
 clear A30
 by_cases c4 : t241 = 0
 ·rw [if_pos c4] at H
  have c4b0 : (t241 == 0) = true := beq_iff_eq.mpr c4
  have c4b1 : (t241 != 0) = false := bne_eq_false_iff_eq.mpr c4
  clear c4
  by_cases c5 : 100001 ≤ 281474976710656
  ·rw [if_pos c5] at H
   have c5b0 := eq_true c5
   have c5b1 : decide (100001 ≤ 281474976710656) = true := decide_eq_true c5
   clear c5
   obtain ⟨y244, hy244⟩ : ∃ y_ : List Bool, y_ = (List.replicate 100001 false) := ⟨_, rfl⟩
   replace H : (switchbacklaw17_RelaxLabels.l0 k l0 l1 y244 0 a9 a8 ab aj) = some r := by first | (rw [hy244]; with_reducible exact H) | (have H2_ := (Option.bind_some _ _).symm.trans H; rw [hy244]; with_reducible exact H2_) | (have H2_ := (Option.bind_some _ _).symm.trans H; with_reducible exact H2_) | with_reducible exact H | (rw [hy244]; exact H) | exact H
   have Ny244 := uZ hy244
   clear hy244
   have H' := uZ H
   clear H
   go_enter Tryd.func6, Tryd.ntmps6
   go_wp2_with (first | (go_at_call 19; (with_reducible refine (relax_Assemble.calls _ _ l0 a9 a8 ab aj t240 t241 _ ?side1 ?side2 (uZ (hLaid_.out.below (by repeat (first | (with_reducible first | exact HB.out | apply yH | apply yG | apply yI) | refine yP ?_ (Aside0.out (by assumption)) | exact HB.out)))) A3.out).mono ?_); (case side1 => repeat (first | exact HR0.out | (with_reducible refine zY ?_ _) | (with_reducible refine zZ ?_ _) | (with_reducible refine yA ?_))); (case side2 => exact HC0.out); rintro e w6 ⟨v231, v234, v237, rfl, ho0, ho1, ho2, hb⟩; have n0_ := uZ (zK ho0 (yQ (uB HB.out))); have n1_ := uZ (zK ho1 (yQ (uB HB.out))); have n2_ := uZ (zK ho2 (yQ (uB HB.out))); have n3_ := uZ (yR (uB HB.out) hb); clear HB; have ay := n0_; have az := n1_; have a_ := n2_; have HB := n3_; clear n0_ n1_ n2_ n3_; (try clear hb); (try clear hb2); (try clear hk); (try clear hi); (try clear ho0); (try clear ho1); (try clear ho2)) | ((with_reducible refine gate_dst (N := 5) rfl ?_); (try (refine gate_guard (by rfl) ?_; dsimp only)); refine box_event ?hg (N := 5) ?hd (cs := #[.slice none 0 0, .slice none 0 0, .slice none 0 0, .int .i64 0]) (t := 27) ?hr ?_; (case hd => rfl); (case hg => rfl); (case hr => first | (go_simp; done) | (go_simp; rfl)); intro a6 hg w7 hbox hb; have n0_ := uZ (zE (uR ay.out) hb); have n1_ := uZ (zE (uR az.out) hb); have n2_ := uZ (zE (uR a_.out) hb); have n3_ := uZ (yR (uB HB.out) hb); have n4_ := uZ (hbox); have n5_ := uZ ((by rw [hg]; exact (yQ (uB HB.out)) : w.heap.size ≤ a6)); have n6_ := uZ ((by rw [hg]; exact (yQ (uB HB.out)) : w.heap.size ≤ a6)); clear ay; clear az; clear a_; clear HB; have ay := n0_; have az := n1_; have a_ := n2_; have HB := n3_; have a5 := n4_; have GW242 := n5_; have ah := n6_; clear n0_ n1_ n2_ n3_ n4_ n5_ n6_; clear hb hbox hg; obtain ⟨ax, co8, eo8⟩ := zL ay.out; subst eo8; have hcz9_0 : w7.cell? ⟨a6, 0, none⟩ = some (.slice none 0 0) := (yK a5.out 0).trans rfl; have hcz9_1 : w7.cell? ⟨a6, 1, none⟩ = some (.slice none 0 0) := (yK a5.out 1).trans rfl; have hcz9_2 : w7.cell? ⟨a6, 2, none⟩ = some (.slice none 0 0) := (yK a5.out 2).trans rfl; have hcz9_3 : w7.cell? ⟨a6, 3, none⟩ = some (.int .i64 0) := (yK a5.out 3).trans rfl; have hfz9_0 := yJ a5.out 0; have hfz9_1 := yJ a5.out 1; have hfz9_2 := yJ a5.out 2; have hfz9_3 := yJ a5.out 3; obtain ⟨ad, ae, eo10⟩ := zL az.out; subst eo10; obtain ⟨af, ag, eo11⟩ := zL a_.out; subst eo11) | ((with_reducible refine gate_dst (N := 28) rfl ?_); (try (refine gate_guard (by rfl) ?_; dsimp only)); refine Kd.R_make Kd.bool _ 4 rfl (N := 28) rfl 46 _ _ rfl 100001 rfl rfl Tryd.underlying46 (.bool false) 1 info4 rfl (by decide) (by omega) false (ok := fun _ => True) (okp := fun _ => True) rfl (fun _ hk => hk) trivial (by omega) (by omega) (Below.refl _ _) (Nat.le_refl _) ?_; intro cx w12 cr hb hg_ hnew_; clear hg_ hnew_; (first | rw [← Ny244.out] at cr | (simp only [Int.reduceToNat] at cr; rw [← Ny244.out] at cr)); have n0_ := uZ (zE (by (with_reducible repeat (first | apply zA | apply zB | apply zC)); exact (zF (zD (p := ⟨a6, 3, none⟩) (zD (p := ⟨a6, 2, none⟩) (zD (p := ⟨a6, 1, none⟩) (zD (p := ⟨a6, 0, none⟩) (zG ay.out a5.out (by decide)) (fun _ hk => hk.2) (.slice ax a9.length co8)) (fun _ hk => hk.2) (.slice ad a8.length ae)) (fun _ hk => hk.2) (.slice af ab.length ag)) (fun _ hk => hk.2) (.int .i64 aj)) (fun _ h_ => h_.1))) hb); have n1_ := uZ (zE (by (with_reducible repeat (first | apply zA | apply zB | apply zC)); exact (zF (zD (p := ⟨a6, 3, none⟩) (zD (p := ⟨a6, 2, none⟩) (zD (p := ⟨a6, 1, none⟩) (zD (p := ⟨a6, 0, none⟩) (zG az.out a5.out (by decide)) (fun _ hk => hk.2) (.slice ax a9.length co8)) (fun _ hk => hk.2) (.slice ad a8.length ae)) (fun _ hk => hk.2) (.slice af ab.length ag)) (fun _ hk => hk.2) (.int .i64 aj)) (fun _ h_ => h_.1))) hb); have n2_ := uZ (zE (by (with_reducible repeat (first | apply zA | apply zB | apply zC)); exact (zF (zD (p := ⟨a6, 3, none⟩) (zD (p := ⟨a6, 2, none⟩) (zD (p := ⟨a6, 1, none⟩) (zD (p := ⟨a6, 0, none⟩) (zG a_.out a5.out (by decide)) (fun _ hk => hk.2) (.slice ax a9.length co8)) (fun _ hk => hk.2) (.slice ad a8.length ae)) (fun _ hk => hk.2) (.slice af ab.length ag)) (fun _ hk => hk.2) (.int .i64 aj)) (fun _ h_ => h_.1))) hb); have n3_ := uZ (zK cr (yQ (uC HB.out ah.out))); have n4_ := uZ (yO (g := a6) (o := .cells #[.slice ax a9.length co8, .slice ad a8.length ae, .slice af ab.length ag, .int .i64 aj] 27 (0, 0)) (by (with_reducible repeat (first | apply yD | apply yE | apply yF)); refine yL (cs := #[.slice ax a9.length co8, .slice ad a8.length ae, .slice af ab.length ag, .int .i64 0]) ?_ 3 _ rfl; (with_reducible repeat (first | apply yD | apply yE | apply yF)); refine yL (cs := #[.slice ax a9.length co8, .slice ad a8.length ae, .slice none 0 0, .int .i64 0]) ?_ 2 _ rfl; (with_reducible repeat (first | apply yD | apply yE | apply yF)); refine yL (cs := #[.slice ax a9.length co8, .slice none 0 0, .slice none 0 0, .int .i64 0]) ?_ 1 _ rfl; (with_reducible repeat (first | apply yD | apply yE | apply yF)); refine yL (cs := #[.slice none 0 0, .slice none 0 0, .slice none 0 0, .int .i64 0]) ?_ 0 _ rfl; (with_reducible repeat (first | apply yD | apply yE | apply yF)); exact a5.out) hb); have n5_ := uZ (yR (uC HB.out ah.out) hb); clear ay; clear az; clear a_; clear a5; clear HB; have ay := n0_; have az := n1_; have a_ := n2_; have HO246 := n3_; have a5 := n4_; have HB := n5_; clear n0_ n1_ n2_ n3_ n4_ n5_; clear hb cr))
   repeat (go_quiet (first | (go_at_call 19; (with_reducible refine (relax_Assemble.calls _ _ l0 a9 a8 ab aj t240 t241 _ ?side1 ?side2 (uZ (hLaid_.out.below (by repeat (first | (with_reducible first | exact HB.out | apply yH | apply yG | apply yI) | refine yP ?_ (Aside0.out (by assumption)) | exact HB.out)))) A3.out).mono ?_); (case side1 => repeat (first | exact HR0.out | (with_reducible refine zY ?_ _) | (with_reducible refine zZ ?_ _) | (with_reducible refine yA ?_))); (case side2 => exact HC0.out); rintro e w6 ⟨v231, v234, v237, rfl, ho0, ho1, ho2, hb⟩; have n0_ := uZ (zK ho0 (yQ (uB HB.out))); have n1_ := uZ (zK ho1 (yQ (uB HB.out))); have n2_ := uZ (zK ho2 (yQ (uB HB.out))); have n3_ := uZ (yR (uB HB.out) hb); clear HB; have ay := n0_; have az := n1_; have a_ := n2_; have HB := n3_; clear n0_ n1_ n2_ n3_; (try clear hb); (try clear hb2); (try clear hk); (try clear hi); (try clear ho0); (try clear ho1); (try clear ho2)) | ((with_reducible refine gate_dst (N := 5) rfl ?_); (try (refine gate_guard (by rfl) ?_; dsimp only)); refine box_event ?hg (N := 5) ?hd (cs := #[.slice none 0 0, .slice none 0 0, .slice none 0 0, .int .i64 0]) (t := 27) ?hr ?_; (case hd => rfl); (case hg => rfl); (case hr => first | (go_simp; done) | (go_simp; rfl)); intro a6 hg w7 hbox hb; have n0_ := uZ (zE (uR ay.out) hb); have n1_ := uZ (zE (uR az.out) hb); have n2_ := uZ (zE (uR a_.out) hb); have n3_ := uZ (yR (uB HB.out) hb); have n4_ := uZ (hbox); have n5_ := uZ ((by rw [hg]; exact (yQ (uB HB.out)) : w.heap.size ≤ a6)); have n6_ := uZ ((by rw [hg]; exact (yQ (uB HB.out)) : w.heap.size ≤ a6)); clear ay; clear az; clear a_; clear HB; have ay := n0_; have az := n1_; have a_ := n2_; have HB := n3_; have a5 := n4_; have GW242 := n5_; have ah := n6_; clear n0_ n1_ n2_ n3_ n4_ n5_ n6_; clear hb hbox hg; obtain ⟨ax, co8, eo8⟩ := zL ay.out; subst eo8; have hcz9_0 : w7.cell? ⟨a6, 0, none⟩ = some (.slice none 0 0) := (yK a5.out 0).trans rfl; have hcz9_1 : w7.cell? ⟨a6, 1, none⟩ = some (.slice none 0 0) := (yK a5.out 1).trans rfl; have hcz9_2 : w7.cell? ⟨a6, 2, none⟩ = some (.slice none 0 0) := (yK a5.out 2).trans rfl; have hcz9_3 : w7.cell? ⟨a6, 3, none⟩ = some (.int .i64 0) := (yK a5.out 3).trans rfl; have hfz9_0 := yJ a5.out 0; have hfz9_1 := yJ a5.out 1; have hfz9_2 := yJ a5.out 2; have hfz9_3 := yJ a5.out 3; obtain ⟨ad, ae, eo10⟩ := zL az.out; subst eo10; obtain ⟨af, ag, eo11⟩ := zL a_.out; subst eo11) | ((with_reducible refine gate_dst (N := 28) rfl ?_); (try (refine gate_guard (by rfl) ?_; dsimp only)); refine Kd.R_make Kd.bool _ 4 rfl (N := 28) rfl 46 _ _ rfl 100001 rfl rfl Tryd.underlying46 (.bool false) 1 info4 rfl (by decide) (by omega) false (ok := fun _ => True) (okp := fun _ => True) rfl (fun _ hk => hk) trivial (by omega) (by omega) (Below.refl _ _) (Nat.le_refl _) ?_; intro cx w12 cr hb hg_ hnew_; clear hg_ hnew_; (first | rw [← Ny244.out] at cr | (simp only [Int.reduceToNat] at cr; rw [← Ny244.out] at cr)); have n0_ := uZ (zE (by (with_reducible repeat (first | apply zA | apply zB | apply zC)); exact (zF (zD (p := ⟨a6, 3, none⟩) (zD (p := ⟨a6, 2, none⟩) (zD (p := ⟨a6, 1, none⟩) (zD (p := ⟨a6, 0, none⟩) (zG ay.out a5.out (by decide)) (fun _ hk => hk.2) (.slice ax a9.length co8)) (fun _ hk => hk.2) (.slice ad a8.length ae)) (fun _ hk => hk.2) (.slice af ab.length ag)) (fun _ hk => hk.2) (.int .i64 aj)) (fun _ h_ => h_.1))) hb); have n1_ := uZ (zE (by (with_reducible repeat (first | apply zA | apply zB | apply zC)); exact (zF (zD (p := ⟨a6, 3, none⟩) (zD (p := ⟨a6, 2, none⟩) (zD (p := ⟨a6, 1, none⟩) (zD (p := ⟨a6, 0, none⟩) (zG az.out a5.out (by decide)) (fun _ hk => hk.2) (.slice ax a9.length co8)) (fun _ hk => hk.2) (.slice ad a8.length ae)) (fun _ hk => hk.2) (.slice af ab.length ag)) (fun _ hk => hk.2) (.int .i64 aj)) (fun _ h_ => h_.1))) hb); have n2_ := uZ (zE (by (with_reducible repeat (first | apply zA | apply zB | apply zC)); exact (zF (zD (p := ⟨a6, 3, none⟩) (zD (p := ⟨a6, 2, none⟩) (zD (p := ⟨a6, 1, none⟩) (zD (p := ⟨a6, 0, none⟩) (zG a_.out a5.out (by decide)) (fun _ hk => hk.2) (.slice ax a9.length co8)) (fun _ hk => hk.2) (.slice ad a8.length ae)) (fun _ hk => hk.2) (.slice af ab.length ag)) (fun _ hk => hk.2) (.int .i64 aj)) (fun _ h_ => h_.1))) hb); have n3_ := uZ (zK cr (yQ (uC HB.out ah.out))); have n4_ := uZ (yO (g := a6) (o := .cells #[.slice ax a9.length co8, .slice ad a8.length ae, .slice af ab.length ag, .int .i64 aj] 27 (0, 0)) (by (with_reducible repeat (first | apply yD | apply yE | apply yF)); refine yL (cs := #[.slice ax a9.length co8, .slice ad a8.length ae, .slice af ab.length ag, .int .i64 0]) ?_ 3 _ rfl; (with_reducible repeat (first | apply yD | apply yE | apply yF)); refine yL (cs := #[.slice ax a9.length co8, .slice ad a8.length ae, .slice none 0 0, .int .i64 0]) ?_ 2 _ rfl; (with_reducible repeat (first | apply yD | apply yE | apply yF)); refine yL (cs := #[.slice ax a9.length co8, .slice none 0 0, .slice none 0 0, .int .i64 0]) ?_ 1 _ rfl; (with_reducible repeat (first | apply yD | apply yE | apply yF)); refine yL (cs := #[.slice none 0 0, .slice none 0 0, .slice none 0 0, .int .i64 0]) ?_ 0 _ rfl; (with_reducible repeat (first | apply yD | apply yE | apply yF)); exact a5.out) hb); have n5_ := uZ (yR (uC HB.out ah.out) hb); clear ay; clear az; clear a_; clear a5; clear HB; have ay := n0_; have az := n1_; have a_ := n2_; have HO246 := n3_; have a5 := n4_; have HB := n5_; clear n0_ n1_ n2_ n3_ n4_ n5_; clear hb cr)); try go_wp2_with (first | (go_at_call 19; (with_reducible refine (relax_Assemble.calls _ _ l0 a9 a8 ab aj t240 t241 _ ?side1 ?side2 (uZ (hLaid_.out.below (by repeat (first | (with_reducible first | exact HB.out | apply yH | apply yG | apply yI) | refine yP ?_ (Aside0.out (by assumption)) | exact HB.out)))) A3.out).mono ?_); (case side1 => repeat (first | exact HR0.out | (with_reducible refine zY ?_ _) | (with_reducible refine zZ ?_ _) | (with_reducible refine yA ?_))); (case side2 => exact HC0.out); rintro e w6 ⟨v231, v234, v237, rfl, ho0, ho1, ho2, hb⟩; have n0_ := uZ (zK ho0 (yQ (uB HB.out))); have n1_ := uZ (zK ho1 (yQ (uB HB.out))); have n2_ := uZ (zK ho2 (yQ (uB HB.out))); have n3_ := uZ (yR (uB HB.out) hb); clear HB; have ay := n0_; have az := n1_; have a_ := n2_; have HB := n3_; clear n0_ n1_ n2_ n3_; (try clear hb); (try clear hb2); (try clear hk); (try clear hi); (try clear ho0); (try clear ho1); (try clear ho2)) | ((with_reducible refine gate_dst (N := 5) rfl ?_); (try (refine gate_guard (by rfl) ?_; dsimp only)); refine box_event ?hg (N := 5) ?hd (cs := #[.slice none 0 0, .slice none 0 0, .slice none 0 0, .int .i64 0]) (t := 27) ?hr ?_; (case hd => rfl); (case hg => rfl); (case hr => first | (go_simp; done) | (go_simp; rfl)); intro a6 hg w7 hbox hb; have n0_ := uZ (zE (uR ay.out) hb); have n1_ := uZ (zE (uR az.out) hb); have n2_ := uZ (zE (uR a_.out) hb); have n3_ := uZ (yR (uB HB.out) hb); have n4_ := uZ (hbox); have n5_ := uZ ((by rw [hg]; exact (yQ (uB HB.out)) : w.heap.size ≤ a6)); have n6_ := uZ ((by rw [hg]; exact (yQ (uB HB.out)) : w.heap.size ≤ a6)); clear ay; clear az; clear a_; clear HB; have ay := n0_; have az := n1_; have a_ := n2_; have HB := n3_; have a5 := n4_; have GW242 := n5_; have ah := n6_; clear n0_ n1_ n2_ n3_ n4_ n5_ n6_; clear hb hbox hg; obtain ⟨ax, co8, eo8⟩ := zL ay.out; subst eo8; have hcz9_0 : w7.cell? ⟨a6, 0, none⟩ = some (.slice none 0 0) := (yK a5.out 0).trans rfl; have hcz9_1 : w7.cell? ⟨a6, 1, none⟩ = some (.slice none 0 0) := (yK a5.out 1).trans rfl; have hcz9_2 : w7.cell? ⟨a6, 2, none⟩ = some (.slice none 0 0) := (yK a5.out 2).trans rfl; have hcz9_3 : w7.cell? ⟨a6, 3, none⟩ = some (.int .i64 0) := (yK a5.out 3).trans rfl; have hfz9_0 := yJ a5.out 0; have hfz9_1 := yJ a5.out 1; have hfz9_2 := yJ a5.out 2; have hfz9_3 := yJ a5.out 3; obtain ⟨ad, ae, eo10⟩ := zL az.out; subst eo10; obtain ⟨af, ag, eo11⟩ := zL a_.out; subst eo11) | ((with_reducible refine gate_dst (N := 28) rfl ?_); (try (refine gate_guard (by rfl) ?_; dsimp only)); refine Kd.R_make Kd.bool _ 4 rfl (N := 28) rfl 46 _ _ rfl 100001 rfl rfl Tryd.underlying46 (.bool false) 1 info4 rfl (by decide) (by omega) false (ok := fun _ => True) (okp := fun _ => True) rfl (fun _ hk => hk) trivial (by omega) (by omega) (Below.refl _ _) (Nat.le_refl _) ?_; intro cx w12 cr hb hg_ hnew_; clear hg_ hnew_; (first | rw [← Ny244.out] at cr | (simp only [Int.reduceToNat] at cr; rw [← Ny244.out] at cr)); have n0_ := uZ (zE (by (with_reducible repeat (first | apply zA | apply zB | apply zC)); exact (zF (zD (p := ⟨a6, 3, none⟩) (zD (p := ⟨a6, 2, none⟩) (zD (p := ⟨a6, 1, none⟩) (zD (p := ⟨a6, 0, none⟩) (zG ay.out a5.out (by decide)) (fun _ hk => hk.2) (.slice ax a9.length co8)) (fun _ hk => hk.2) (.slice ad a8.length ae)) (fun _ hk => hk.2) (.slice af ab.length ag)) (fun _ hk => hk.2) (.int .i64 aj)) (fun _ h_ => h_.1))) hb); have n1_ := uZ (zE (by (with_reducible repeat (first | apply zA | apply zB | apply zC)); exact (zF (zD (p := ⟨a6, 3, none⟩) (zD (p := ⟨a6, 2, none⟩) (zD (p := ⟨a6, 1, none⟩) (zD (p := ⟨a6, 0, none⟩) (zG az.out a5.out (by decide)) (fun _ hk => hk.2) (.slice ax a9.length co8)) (fun _ hk => hk.2) (.slice ad a8.length ae)) (fun _ hk => hk.2) (.slice af ab.length ag)) (fun _ hk => hk.2) (.int .i64 aj)) (fun _ h_ => h_.1))) hb); have n2_ := uZ (zE (by (with_reducible repeat (first | apply zA | apply zB | apply zC)); exact (zF (zD (p := ⟨a6, 3, none⟩) (zD (p := ⟨a6, 2, none⟩) (zD (p := ⟨a6, 1, none⟩) (zD (p := ⟨a6, 0, none⟩) (zG a_.out a5.out (by decide)) (fun _ hk => hk.2) (.slice ax a9.length co8)) (fun _ hk => hk.2) (.slice ad a8.length ae)) (fun _ hk => hk.2) (.slice af ab.length ag)) (fun _ hk => hk.2) (.int .i64 aj)) (fun _ h_ => h_.1))) hb); have n3_ := uZ (zK cr (yQ (uC HB.out ah.out))); have n4_ := uZ (yO (g := a6) (o := .cells #[.slice ax a9.length co8, .slice ad a8.length ae, .slice af ab.length ag, .int .i64 aj] 27 (0, 0)) (by (with_reducible repeat (first | apply yD | apply yE | apply yF)); refine yL (cs := #[.slice ax a9.length co8, .slice ad a8.length ae, .slice af ab.length ag, .int .i64 0]) ?_ 3 _ rfl; (with_reducible repeat (first | apply yD | apply yE | apply yF)); refine yL (cs := #[.slice ax a9.length co8, .slice ad a8.length ae, .slice none 0 0, .int .i64 0]) ?_ 2 _ rfl; (with_reducible repeat (first | apply yD | apply yE | apply yF)); refine yL (cs := #[.slice ax a9.length co8, .slice none 0 0, .slice none 0 0, .int .i64 0]) ?_ 1 _ rfl; (with_reducible repeat (first | apply yD | apply yE | apply yF)); refine yL (cs := #[.slice none 0 0, .slice none 0 0, .slice none 0 0, .int .i64 0]) ?_ 0 _ rfl; (with_reducible repeat (first | apply yD | apply yE | apply yF)); exact a5.out) hb); have n5_ := uZ (yR (uC HB.out ah.out) hb); clear ay; clear az; clear a_; clear a5; clear HB; have ay := n0_; have az := n1_; have a_ := n2_; have HO246 := n3_; have a5 := n4_; have HB := n5_; clear n0_ n1_ n2_ n3_ n4_ n5_; clear hb cr)))
   go_loopg [9] k (fun kq v9 w' => ∃ (cl : List Bool) (bf : Int), v9 = .int .i64 bf ∧ Aside0 (switchbacklaw17_RelaxLabels.l0 kq l0 l1 cl bf a9 a8 ab aj = some r) ∧ Aside0 (kq ≤ k) ∧ Aside0 (Kd.R Kd.bool 4 w' w.heap.size (fun _ => True) cx cl) ∧ Aside0 (Kd.R (Kd.int .u32) 38 w' w.heap.size (fun _ => True) (.slice ax a9.length co8) a9) ∧ Aside0 (Kd.R (Kd.int .i64) 3 w' w.heap.size (fun k_ => some k_ ≠ ((.slice af ab.length ag) : Value).ownBlock) (.slice ad a8.length ae) a8) ∧ Aside0 (Kd.R (Kd.int .i64) 3 w' w.heap.size (fun k_ => some k_ ≠ ((.slice ad a8.length ae) : Value).ownBlock) (.slice af ab.length ag) ab) ∧ Aside0 (w'.heap[a6]? = some (.cells #[(.slice ax a9.length co8), (.slice ad a8.length ae), (.slice af ab.length ag), .int .i64 aj] 27 (0, 0))) ∧ Aside0 (Below w.heap.size w w'))
   case atStart => exact ⟨(y244), (0), (by first | rfl | (simp; done) | (simp [*]; done)), H', ⟨Nat.le_refl _⟩, ⟨uR HO246.out⟩, ⟨uR ay.out⟩, ⟨uR az.out⟩, ⟨uR a_.out⟩, ⟨uK a5.out⟩, ⟨uC HB.out ah.out⟩⟩
   case round =>
    clear H'
    try clear c1
    try clear p2
    try clear c4
    try clear c4b0
    try clear c4b1
    try clear c5
    try clear c5b0
    try clear c5b1
    try clear c6
    try clear hcz9_0
    try clear hcz9_1
    try clear hcz9_2
    try clear hcz9_3
    try clear hfz9_0
    try clear hfz9_1
    try clear hfz9_2
    try clear hfz9_3
    obtain ⟨cl, bf, rfl, HA, HK1, ai, a3, a2, a4, a5, HB⟩ := hrel
    cases gk with
    | zero => exact absurd HA.out (by simp [switchbacklaw17_RelaxLabels.l0])
    | succ k1 =>
     have H := HA.out
     clear HA
     simp only [switchbacklaw17_RelaxLabels.l0] at H
     by_cases c14 : bf < (l0.length : Int)
     ·rw [if_pos c14] at H
      have c14b0 : decide (bf < (l0.length : Int)) = true := decide_eq_true c14
      clear c14
      by_cases c15 : 0 ≤ bf
      ·rw [if_pos c15] at H
       have c15b0 : decide (0 ≤ bf) = true := decide_eq_true c15
       clear c15
       by_cases c16 : ((rd_T40 l0 bf).f0) = 0
       ·rw [if_pos c16] at H
        have c16b0 : (((rd_T40 l0 bf).f0) == 0) = true := beq_iff_eq.mpr c16
        have c16b1 : (((rd_T40 l0 bf).f0) != 0) = false := bne_eq_false_iff_eq.mpr c16
        clear c16
        by_cases c17 : 0 ≤ ((rd_T40 l0 bf).f5)
        ·rw [if_pos c17] at H
         have c17b0 : decide (0 ≤ ((rd_T40 l0 bf).f5)) = true := decide_eq_true c17
         clear c17
         by_cases c18 : ((rd_T40 l0 bf).f5) < (cl.length : Int)
         ·rw [if_pos c18] at H
          have c18b0 : decide (((rd_T40 l0 bf).f5) < (cl.length : Int)) = true := decide_eq_true c18
          clear c18
          obtain ⟨y249, hy249⟩ : ∃ y_ : List Bool, y_ = (cl.set (((rd_T40 l0 bf).f5) : Int).toNat true) := ⟨_, rfl⟩
          replace H : (switchbacklaw17_RelaxLabels.l0 k1 l0 l1 y249 (wrap64 (bf + 1)) a9 a8 ab aj) = some r := by first | (rw [hy249]; with_reducible exact H) | (have H2_ := (Option.bind_some _ _).symm.trans H; rw [hy249]; with_reducible exact H2_) | (have H2_ := (Option.bind_some _ _).symm.trans H; with_reducible exact H2_) | with_reducible exact H | (rw [hy249]; exact H) | exact H
          have Ny249 := uZ hy249
          clear hy249
          have H' := uZ H
          clear H
          have cy : 0 ≤ (bf : Int) := uA
          have cz : bf < (l0.length : Int) := uA
          obtain ⟨ad247, A247_6, c247_6, e247, bh, bi, bj, bk, bl, bm, bg, hl247_6, hi247_6⟩ := at_T40 HR0.out bf cy cz
          cases e247
          replace bh := (HB.out.cell (yS w _ bh)).trans bh
          replace bi := (HB.out.cell (yS w _ bi)).trans bi
          replace bj := (HB.out.cell (yS w _ bj)).trans bj
          replace bk := (HB.out.cell (yS w _ bk)).trans bk
          replace bl := (HB.out.cell (yS w _ bl)).trans bl
          replace bm := (HB.out.cell (yS w _ bm)).trans bm
          replace bg := (HB.out.cell (yS w _ bg)).trans bg
          have HR247_6 := uZ hi247_6
          have HC247_6 := uZ hl247_6
          clear hi247_6 hl247_6
          replace cy := eq_true cy
          replace cz := eq_true cz
          have p248 : 0 ≤ (bf : Int) := uA
          have q248 : bf < (l0.length : Int) := uA
          obtain ⟨ad248, A248_6, c248_6, e248, cb, cc, cd, ce, cf, cg, bw, hl248_6, hi248_6⟩ := at_T40 HR0.out bf p248 q248
          obtain rfl : ad247 = ad248 := (by injection e248)
          replace cb := (HB.out.cell (yS w _ cb)).trans cb
          replace cc := (HB.out.cell (yS w _ cc)).trans cc
          replace cd := (HB.out.cell (yS w _ cd)).trans cd
          replace ce := (HB.out.cell (yS w _ ce)).trans ce
          replace cf := (HB.out.cell (yS w _ cf)).trans cf
          replace cg := (HB.out.cell (yS w _ cg)).trans cg
          replace bw := (HB.out.cell (yS w _ bw)).trans bw
          have HR248_6 := uZ hi248_6
          have HC248_6 := uZ hl248_6
          clear hi248_6 hl248_6
          replace p248 := eq_true p248
          replace q248 := eq_true q248
          have ea_ := Option.some.inj (bg.symm.trans bw)
          injection ea_ with ea_ en_ ec_
          subst ea_
          subst ec_
          clear en_
          have p19 : 0 ≤ (((rd_T40 l0 bf).f5) : Int) := uA
          have q19 : (((rd_T40 l0 bf).f5) : Int) < ((cl.length : Int) : Int) := uA
          obtain ⟨cq, co19, eo19, gb19, gl19, cl19, HG19⟩ := Kd.R_form ai.out (by omega)
          (first | cases eo19 | (injection eo19 with ea_ en_ ec_; (first | subst ea_ | (injection ea_ with ea_; subst ea_)); subst ec_; clear en_))
          have GB19 := uZ gb19
          have GG19 := uZ HG19
          clear gb19 gl19 HG19
          obtain ⟨cw, hf19_0⟩ := Kd.R_celln false ai.out (((rd_T40 l0 bf).f5) : Int) p19 q19
          replace p19 := eq_true p19
          replace q19 := eq_true q19
          have HP20 := Kd.R_putg ai.out (((rd_T40 l0 bf).f5) : Int) true
          go_wp2_with (first | ((with_reducible refine gate_store (t := 4) (p := 47) rfl ?_); (try (rw [drewN_self wr]; generalize hq_ : World.drewN wr _ = wr; have n0_ := uZ (Kd.R_at hq_ ai.out); have n1_ := uZ (Kd.R_at hq_ a3.out); have n2_ := uZ (Kd.R_at hq_ a2.out); have n3_ := uZ (Kd.R_at hq_ a4.out); have n4_ := uZ (blk_at hq_ a5.out); have n5_ := uZ (below_at hq_ HB.out); clear hq_ ai a3 a2 a4 a5 HB; have ai := n0_; have a3 := n1_; have a2 := n2_; have a4 := n3_; have a5 := n4_; have HB := n5_; clear n0_ n1_ n2_ n3_ n4_ n5_; (try (have HP20 := Kd.R_putg ai.out (((rd_T40 l0 bf).f5) : Int) true)))); refine store_event (t := 4) (p := 47) (v := ?vo_w21) (w1 := (wr.setCell ⟨cq, (((rd_T40 l0 bf).f5) : Int).toNat, none⟩ (.bool true))) ?hg ?ho ?hn ?hr ?_; (case ho => rfl); (case hg => rfl); (case hn => rfl); (case hr => first | (go_simp; done) | (go_simp; rfl)); intro w21 hw; have hg : wr.grownBy w21 (some cq) := (by rw [hw]; exact HP20.2); have hp_ : Kd.R Kd.bool 4 w21 w.heap.size (fun _ => True) (.slice (some ⟨cq, 0, none⟩) cl.length co19) y249 := (by rw [hw, Ny249.out]; exact HP20.1); clear HP20; have n0_ := uZ (hp_); have n1_ := uZ (zI (v := (.slice (some ⟨cq, 0, none⟩) cl.length co19)) (uR a3.out) (Kd.R_typed ai.out) (by decide) hg); have n2_ := uZ (zI (v := (.slice (some ⟨cq, 0, none⟩) cl.length co19)) (uR a2.out) (Kd.R_typed ai.out) (by decide) hg); have n3_ := uZ (zI (v := (.slice (some ⟨cq, 0, none⟩) cl.length co19)) (uR a4.out) (Kd.R_typed ai.out) (by decide) hg); have n4_ := uZ (yN (g := a6) (o := .cells #[.slice ax a9.length co8, .slice ad a8.length ae, .slice af ab.length ag, .int .i64 aj] 27 (0, 0)) (uK a5.out) hg (Kd.R_ne ai.out a5.out (by decide))); have n5_ := uZ ((by rw [hw]; exact yP (HB.out) GB19.out : Below w.heap.size w w21)); clear ai; clear a3; clear a2; clear a4; clear a5; clear HB; have ai := n0_; have a3 := n1_; have a2 := n2_; have a4 := n3_; have a5 := n4_; have HB := n5_; clear n0_ n1_ n2_ n3_ n4_ n5_; clear hg hw hp_))
          repeat (go_quiet (first | ((with_reducible refine gate_store (t := 4) (p := 47) rfl ?_); (try (rw [drewN_self wr]; generalize hq_ : World.drewN wr _ = wr; have n0_ := uZ (Kd.R_at hq_ ai.out); have n1_ := uZ (Kd.R_at hq_ a3.out); have n2_ := uZ (Kd.R_at hq_ a2.out); have n3_ := uZ (Kd.R_at hq_ a4.out); have n4_ := uZ (blk_at hq_ a5.out); have n5_ := uZ (below_at hq_ HB.out); clear hq_ ai a3 a2 a4 a5 HB; have ai := n0_; have a3 := n1_; have a2 := n2_; have a4 := n3_; have a5 := n4_; have HB := n5_; clear n0_ n1_ n2_ n3_ n4_ n5_; (try (have HP20 := Kd.R_putg ai.out (((rd_T40 l0 bf).f5) : Int) true)))); refine store_event (t := 4) (p := 47) (v := ?vo_w21) (w1 := (wr.setCell ⟨cq, (((rd_T40 l0 bf).f5) : Int).toNat, none⟩ (.bool true))) ?hg ?ho ?hn ?hr ?_; (case ho => rfl); (case hg => rfl); (case hn => rfl); (case hr => first | (go_simp; done) | (go_simp; rfl)); intro w21 hw; have hg : wr.grownBy w21 (some cq) := (by rw [hw]; exact HP20.2); have hp_ : Kd.R Kd.bool 4 w21 w.heap.size (fun _ => True) (.slice (some ⟨cq, 0, none⟩) cl.length co19) y249 := (by rw [hw, Ny249.out]; exact HP20.1); clear HP20; have n0_ := uZ (hp_); have n1_ := uZ (zI (v := (.slice (some ⟨cq, 0, none⟩) cl.length co19)) (uR a3.out) (Kd.R_typed ai.out) (by decide) hg); have n2_ := uZ (zI (v := (.slice (some ⟨cq, 0, none⟩) cl.length co19)) (uR a2.out) (Kd.R_typed ai.out) (by decide) hg); have n3_ := uZ (zI (v := (.slice (some ⟨cq, 0, none⟩) cl.length co19)) (uR a4.out) (Kd.R_typed ai.out) (by decide) hg); have n4_ := uZ (yN (g := a6) (o := .cells #[.slice ax a9.length co8, .slice ad a8.length ae, .slice af ab.length ag, .int .i64 aj] 27 (0, 0)) (uK a5.out) hg (Kd.R_ne ai.out a5.out (by decide))); have n5_ := uZ ((by rw [hw]; exact yP (HB.out) GB19.out : Below w.heap.size w w21)); clear ai; clear a3; clear a2; clear a4; clear a5; clear HB; have ai := n0_; have a3 := n1_; have a2 := n2_; have a4 := n3_; have a5 := n4_; have HB := n5_; clear n0_ n1_ n2_ n3_ n4_ n5_; clear hg hw hp_)); try go_wp2_with (first | ((with_reducible refine gate_store (t := 4) (p := 47) rfl ?_); (try (rw [drewN_self wr]; generalize hq_ : World.drewN wr _ = wr; have n0_ := uZ (Kd.R_at hq_ ai.out); have n1_ := uZ (Kd.R_at hq_ a3.out); have n2_ := uZ (Kd.R_at hq_ a2.out); have n3_ := uZ (Kd.R_at hq_ a4.out); have n4_ := uZ (blk_at hq_ a5.out); have n5_ := uZ (below_at hq_ HB.out); clear hq_ ai a3 a2 a4 a5 HB; have ai := n0_; have a3 := n1_; have a2 := n2_; have a4 := n3_; have a5 := n4_; have HB := n5_; clear n0_ n1_ n2_ n3_ n4_ n5_; (try (have HP20 := Kd.R_putg ai.out (((rd_T40 l0 bf).f5) : Int) true)))); refine store_event (t := 4) (p := 47) (v := ?vo_w21) (w1 := (wr.setCell ⟨cq, (((rd_T40 l0 bf).f5) : Int).toNat, none⟩ (.bool true))) ?hg ?ho ?hn ?hr ?_; (case ho => rfl); (case hg => rfl); (case hn => rfl); (case hr => first | (go_simp; done) | (go_simp; rfl)); intro w21 hw; have hg : wr.grownBy w21 (some cq) := (by rw [hw]; exact HP20.2); have hp_ : Kd.R Kd.bool 4 w21 w.heap.size (fun _ => True) (.slice (some ⟨cq, 0, none⟩) cl.length co19) y249 := (by rw [hw, Ny249.out]; exact HP20.1); clear HP20; have n0_ := uZ (hp_); have n1_ := uZ (zI (v := (.slice (some ⟨cq, 0, none⟩) cl.length co19)) (uR a3.out) (Kd.R_typed ai.out) (by decide) hg); have n2_ := uZ (zI (v := (.slice (some ⟨cq, 0, none⟩) cl.length co19)) (uR a2.out) (Kd.R_typed ai.out) (by decide) hg); have n3_ := uZ (zI (v := (.slice (some ⟨cq, 0, none⟩) cl.length co19)) (uR a4.out) (Kd.R_typed ai.out) (by decide) hg); have n4_ := uZ (yN (g := a6) (o := .cells #[.slice ax a9.length co8, .slice ad a8.length ae, .slice af ab.length ag, .int .i64 aj] 27 (0, 0)) (uK a5.out) hg (Kd.R_ne ai.out a5.out (by decide))); have n5_ := uZ ((by rw [hw]; exact yP (HB.out) GB19.out : Below w.heap.size w w21)); clear ai; clear a3; clear a2; clear a4; clear a5; clear HB; have ai := n0_; have a3 := n1_; have a2 := n2_; have a4 := n3_; have a5 := n4_; have HB := n5_; clear n0_ n1_ n2_ n3_ n4_ n5_; clear hg hw hp_)))
          go_roundg k1
          case measure => have := HK1.out; omega
          case rel => exact ⟨(y249), (wrap64 (bf + 1)), (by first | rfl | (simp; done) | (simp [*]; done)), H', ⟨by have := HK1.out; omega⟩, ⟨uR ai.out⟩, ⟨uR a3.out⟩, ⟨uR a2.out⟩, ⟨uR a4.out⟩, ⟨uK a5.out⟩, ⟨uC HB.out ah.out⟩⟩
         rw [if_neg c18] at H
         exact absurd H (by simp)
        rw [if_neg c17] at H
        exact absurd H (by simp)
       rw [if_neg c16] at H
       have c16b0 : (((rd_T40 l0 bf).f0) == 0) = false := beq_eq_false_iff_ne.mpr c16
       have c16b1 : (((rd_T40 l0 bf).f0) != 0) = true := bne_iff_ne.mpr c16
       have H' := uZ H
       clear H
       have cy : 0 ≤ (bf : Int) := uA
       have cz : bf < (l0.length : Int) := uA
       obtain ⟨ad247, A247_6, c247_6, e247, bh, bi, bj, bk, bl, bm, bg, hl247_6, hi247_6⟩ := at_T40 HR0.out bf cy cz
       cases e247
       replace bh := (HB.out.cell (yS w _ bh)).trans bh
       replace bi := (HB.out.cell (yS w _ bi)).trans bi
       replace bj := (HB.out.cell (yS w _ bj)).trans bj
       replace bk := (HB.out.cell (yS w _ bk)).trans bk
       replace bl := (HB.out.cell (yS w _ bl)).trans bl
       replace bm := (HB.out.cell (yS w _ bm)).trans bm
       replace bg := (HB.out.cell (yS w _ bg)).trans bg
       have HR247_6 := uZ hi247_6
       have HC247_6 := uZ hl247_6
       clear hi247_6 hl247_6
       replace cy := eq_true cy
       replace cz := eq_true cz
       go_wp2
       repeat (go_quiet (fail); try go_wp2)
       go_roundg k1
       case measure => have := HK1.out; omega
       case rel => exact ⟨(cl), (wrap64 (bf + 1)), (by first | rfl | (simp; done) | (simp [*]; done)), H', ⟨by have := HK1.out; omega⟩, ⟨uR ai.out⟩, ⟨uR a3.out⟩, ⟨uR a2.out⟩, ⟨uR a4.out⟩, ⟨uK a5.out⟩, ⟨uC HB.out ah.out⟩⟩
      rw [if_neg c15] at H
      exact absurd H (by simp)
     rw [if_neg c14] at H
     have c14b0 : decide (bf < (l0.length : Int)) = false := decide_eq_false c14
     clear c14
     replace H := Option.bind_eq_some_iff.mp H
     obtain ⟨t250, A220, H⟩ := H
     replace H : (switchbacklaw17_RelaxLabels.l1 k1 l1 cl t250 100000 0 a9 a8 ab aj) = some r := H
     have A22 := uZ A220
     clear A220
     have HC23 := uZ H
     clear H
     go_upto_block 2 with (first | (go_at_call 18; (with_reducible refine (switchbacklaw17_Copy.calls k1 (fun k_ => k_ < w.heap.size) _ _ l0 t250 _ ?side1 A22.out).mono ?_); (case side1 => exact Kd.V_mk HC0.out (Kd.F_below (Kd.C_F k40_heap HR0.out) (uC HB.out ah.out))); rintro e w24 ⟨v251, rfl, ho0, hb⟩; have n0_ := uZ (zE (uR ai.out) hb); have n1_ := uZ (zE (uR a3.out) hb); have n2_ := uZ (zE (uR a2.out) hb); have n3_ := uZ (zE (uR a4.out) hb); have n4_ := uZ (Kd.N_lower (zS (ok' := fun k_ => some k_ ≠ (cx : Value).ownBlock ∧ some k_ ≠ (.slice ax a9.length co8 : Value).ownBlock ∧ some k_ ≠ (.slice ad a8.length ae : Value).ownBlock ∧ some k_ ≠ (.slice af ab.length ag : Value).ownBlock ∧ k_ ≠ a6) ho0 (fun k_ hk_ => ⟨Or.elim hk_ (fun hs_ => fun e_ => Nat.not_le.2 hs_ (zJ ai.out k_ e_.symm)) (fun hn_ => (yB (zH (uR ai.out)) k_ hn_)), Or.elim hk_ (fun hs_ => fun e_ => Nat.not_le.2 hs_ (zJ a3.out k_ e_.symm)) (fun hn_ => (yB (zH (uR a3.out)) k_ hn_)), Or.elim hk_ (fun hs_ => fun e_ => Nat.not_le.2 hs_ (zJ a2.out k_ e_.symm)) (fun hn_ => (yB (zH (uR a2.out)) k_ hn_)), Or.elim hk_ (fun hs_ => fun e_ => Nat.not_le.2 hs_ (zJ a4.out k_ e_.symm)) (fun hn_ => (yB (zH (uR a4.out)) k_ hn_)), Or.elim hk_ (fun hs_ => fun e_ => Nat.not_le.2 hs_ (by rw [e_]; exact GW242.out)) (fun hn_ => (yC (g := a6) (o := .cells #[.slice ax a9.length co8, .slice ad a8.length ae, .slice af ab.length ag, .int .i64 aj] 27 (0, 0)) (uK a5.out) k_ hn_))⟩)) (yQ (uC HB.out ah.out))); have n5_ := uZ (yO (g := a6) (o := .cells #[.slice ax a9.length co8, .slice ad a8.length ae, .slice af ab.length ag, .int .i64 aj] 27 (0, 0)) (uK a5.out) hb); have n6_ := uZ (yR (uC HB.out ah.out) hb); clear ai; clear a3; clear a2; clear a4; clear a5; clear HB; have ai := n0_; have a3 := n1_; have a2 := n2_; have a4 := n3_; have HO252 := n4_; have a5 := n5_; have HB := n6_; clear n0_ n1_ n2_ n3_ n4_ n5_ n6_; (try clear hb); (try clear hb2); (try clear hk); (try clear hi); (try clear ho0)))
     repeat (go_quiet (first | (go_at_call 18; (with_reducible refine (switchbacklaw17_Copy.calls k1 (fun k_ => k_ < w.heap.size) _ _ l0 t250 _ ?side1 A22.out).mono ?_); (case side1 => exact Kd.V_mk HC0.out (Kd.F_below (Kd.C_F k40_heap HR0.out) (uC HB.out ah.out))); rintro e w24 ⟨v251, rfl, ho0, hb⟩; have n0_ := uZ (zE (uR ai.out) hb); have n1_ := uZ (zE (uR a3.out) hb); have n2_ := uZ (zE (uR a2.out) hb); have n3_ := uZ (zE (uR a4.out) hb); have n4_ := uZ (Kd.N_lower (zS (ok' := fun k_ => some k_ ≠ (cx : Value).ownBlock ∧ some k_ ≠ (.slice ax a9.length co8 : Value).ownBlock ∧ some k_ ≠ (.slice ad a8.length ae : Value).ownBlock ∧ some k_ ≠ (.slice af ab.length ag : Value).ownBlock ∧ k_ ≠ a6) ho0 (fun k_ hk_ => ⟨Or.elim hk_ (fun hs_ => fun e_ => Nat.not_le.2 hs_ (zJ ai.out k_ e_.symm)) (fun hn_ => (yB (zH (uR ai.out)) k_ hn_)), Or.elim hk_ (fun hs_ => fun e_ => Nat.not_le.2 hs_ (zJ a3.out k_ e_.symm)) (fun hn_ => (yB (zH (uR a3.out)) k_ hn_)), Or.elim hk_ (fun hs_ => fun e_ => Nat.not_le.2 hs_ (zJ a2.out k_ e_.symm)) (fun hn_ => (yB (zH (uR a2.out)) k_ hn_)), Or.elim hk_ (fun hs_ => fun e_ => Nat.not_le.2 hs_ (zJ a4.out k_ e_.symm)) (fun hn_ => (yB (zH (uR a4.out)) k_ hn_)), Or.elim hk_ (fun hs_ => fun e_ => Nat.not_le.2 hs_ (by rw [e_]; exact GW242.out)) (fun hn_ => (yC (g := a6) (o := .cells #[.slice ax a9.length co8, .slice ad a8.length ae, .slice af ab.length ag, .int .i64 aj] 27 (0, 0)) (uK a5.out) k_ hn_))⟩)) (yQ (uC HB.out ah.out))); have n5_ := uZ (yO (g := a6) (o := .cells #[.slice ax a9.length co8, .slice ad a8.length ae, .slice af ab.length ag, .int .i64 aj] 27 (0, 0)) (uK a5.out) hb); have n6_ := uZ (yR (uC HB.out ah.out) hb); clear ai; clear a3; clear a2; clear a4; clear a5; clear HB; have ai := n0_; have a3 := n1_; have a2 := n2_; have a4 := n3_; have HO252 := n4_; have a5 := n5_; have HB := n6_; clear n0_ n1_ n2_ n3_ n4_ n5_ n6_; (try clear hb); (try clear hb2); (try clear hk); (try clear hi); (try clear ho0))); go_upto_block 2 with (first | (go_at_call 18; (with_reducible refine (switchbacklaw17_Copy.calls k1 (fun k_ => k_ < w.heap.size) _ _ l0 t250 _ ?side1 A22.out).mono ?_); (case side1 => exact Kd.V_mk HC0.out (Kd.F_below (Kd.C_F k40_heap HR0.out) (uC HB.out ah.out))); rintro e w24 ⟨v251, rfl, ho0, hb⟩; have n0_ := uZ (zE (uR ai.out) hb); have n1_ := uZ (zE (uR a3.out) hb); have n2_ := uZ (zE (uR a2.out) hb); have n3_ := uZ (zE (uR a4.out) hb); have n4_ := uZ (Kd.N_lower (zS (ok' := fun k_ => some k_ ≠ (cx : Value).ownBlock ∧ some k_ ≠ (.slice ax a9.length co8 : Value).ownBlock ∧ some k_ ≠ (.slice ad a8.length ae : Value).ownBlock ∧ some k_ ≠ (.slice af ab.length ag : Value).ownBlock ∧ k_ ≠ a6) ho0 (fun k_ hk_ => ⟨Or.elim hk_ (fun hs_ => fun e_ => Nat.not_le.2 hs_ (zJ ai.out k_ e_.symm)) (fun hn_ => (yB (zH (uR ai.out)) k_ hn_)), Or.elim hk_ (fun hs_ => fun e_ => Nat.not_le.2 hs_ (zJ a3.out k_ e_.symm)) (fun hn_ => (yB (zH (uR a3.out)) k_ hn_)), Or.elim hk_ (fun hs_ => fun e_ => Nat.not_le.2 hs_ (zJ a2.out k_ e_.symm)) (fun hn_ => (yB (zH (uR a2.out)) k_ hn_)), Or.elim hk_ (fun hs_ => fun e_ => Nat.not_le.2 hs_ (zJ a4.out k_ e_.symm)) (fun hn_ => (yB (zH (uR a4.out)) k_ hn_)), Or.elim hk_ (fun hs_ => fun e_ => Nat.not_le.2 hs_ (by rw [e_]; exact GW242.out)) (fun hn_ => (yC (g := a6) (o := .cells #[.slice ax a9.length co8, .slice ad a8.length ae, .slice af ab.length ag, .int .i64 aj] 27 (0, 0)) (uK a5.out) k_ hn_))⟩)) (yQ (uC HB.out ah.out))); have n5_ := uZ (yO (g := a6) (o := .cells #[.slice ax a9.length co8, .slice ad a8.length ae, .slice af ab.length ag, .int .i64 aj] 27 (0, 0)) (uK a5.out) hb); have n6_ := uZ (yR (uC HB.out ah.out) hb); clear ai; clear a3; clear a2; clear a4; clear a5; clear HB; have ai := n0_; have a3 := n1_; have a2 := n2_; have a4 := n3_; have HO252 := n4_; have a5 := n5_; have HB := n6_; clear n0_ n1_ n2_ n3_ n4_ n5_ n6_; (try clear hb); (try clear hb2); (try clear hk); (try clear hi); (try clear ho0))))
     (try simp only [Act.put, List.setIfInBounds_toArray, List.set_cons_zero, List.set_cons_succ])
     go_cut [10] (fun v10 wc => ∃ (kq : Nat) (be : List (S40)), Aside0 (switchbacklaw17_RelaxLabels.j5 kq be a9 a8 ab aj = some r) ∧ Aside0 (kq ≤ k1) ∧ Aside0 (Kd.N k40 40 wc w.heap.size (fun k_ => some k_ ≠ ((.slice ax a9.length co8) : Value).ownBlock ∧ some k_ ≠ ((.slice ad a8.length ae) : Value).ownBlock ∧ some k_ ≠ ((.slice af ab.length ag) : Value).ownBlock ∧ k_ ≠ a6) v10 be) ∧ Aside0 (Kd.R (Kd.int .u32) 38 wc w.heap.size (fun _ => True) (.slice ax a9.length co8) a9) ∧ Aside0 (Kd.R (Kd.int .i64) 3 wc w.heap.size (fun k_ => some k_ ≠ ((.slice af ab.length ag) : Value).ownBlock) (.slice ad a8.length ae) a8) ∧ Aside0 (Kd.R (Kd.int .i64) 3 wc w.heap.size (fun k_ => some k_ ≠ ((.slice ad a8.length ae) : Value).ownBlock) (.slice af ab.length ag) ab) ∧ Aside0 (wc.heap[a6]? = some (.cells #[(.slice ax a9.length co8), (.slice ad a8.length ae), (.slice af ab.length ag), .int .i64 aj] 27 (0, 0))) ∧ Aside0 (Below w.heap.size w wc))
     case first =>
      have H := HC23.out
      clear HC23
      have H' := uZ H
      clear H
      go_wp2
      repeat (go_quiet (fail); try go_wp2)
      go_loopg [10, 11, 12] k1 (fun kq v10 v11 v12 w' => ∃ (ar : List Bool) (al : List (S40)) (x11_2 : Int) (b4 : Int), v11 = .int .i64 x11_2 ∧ v12 = .int .i64 b4 ∧ Aside0 (switchbacklaw17_RelaxLabels.l1 kq l1 ar al x11_2 b4 a9 a8 ab aj = some r) ∧ Aside0 (kq ≤ k1) ∧ Aside0 (Kd.R Kd.bool 4 w' w.heap.size (fun _ => True) cx ar) ∧ Aside0 (Kd.N k40 40 w' w.heap.size (fun k_ => some k_ ≠ (cx : Value).ownBlock ∧ some k_ ≠ ((.slice ax a9.length co8) : Value).ownBlock ∧ some k_ ≠ ((.slice ad a8.length ae) : Value).ownBlock ∧ some k_ ≠ ((.slice af ab.length ag) : Value).ownBlock ∧ k_ ≠ a6) v10 al) ∧ Aside0 (Kd.R (Kd.int .u32) 38 w' w.heap.size (fun _ => True) (.slice ax a9.length co8) a9) ∧ Aside0 (Kd.R (Kd.int .i64) 3 w' w.heap.size (fun k_ => some k_ ≠ ((.slice af ab.length ag) : Value).ownBlock) (.slice ad a8.length ae) a8) ∧ Aside0 (Kd.R (Kd.int .i64) 3 w' w.heap.size (fun k_ => some k_ ≠ ((.slice ad a8.length ae) : Value).ownBlock) (.slice af ab.length ag) ab) ∧ Aside0 (w'.heap[a6]? = some (.cells #[(.slice ax a9.length co8), (.slice ad a8.length ae), (.slice af ab.length ag), .int .i64 aj] 27 (0, 0))) ∧ Aside0 (Below w.heap.size w w'))
      case atStart => exact ⟨(cl), (t250), (100000), (0), (by first | rfl | (simp; done) | (simp [*]; done)), (by first | rfl | (simp; done) | (simp [*]; done)), H', ⟨Nat.le_refl _⟩, ⟨uR ai.out⟩, ⟨uN HO252.out⟩, ⟨uR a3.out⟩, ⟨uR a2.out⟩, ⟨uR a4.out⟩, ⟨uK a5.out⟩, ⟨uC HB.out ah.out⟩⟩
      case round =>
       clear H'
       try clear c1
       try clear p1
       try clear q1
       try clear hx1
       try clear c2
       try clear p2
       try clear q2
       try clear hx2
       try clear c4
       try clear c4b0
       try clear c4b1
       try clear c5
       try clear c5b0
       try clear c5b1
       try clear c6
       try clear p6
       try clear c14
       try clear c14b0
       try clear c15
       try clear c15b0
       try clear c16
       try clear c16b0
       try clear c16b1
       try clear c17
       try clear c17b0
       try clear c18
       try clear c18b0
       try clear p19
       try clear q19
       try clear hx19
       try clear hf19
       try clear c24
       try clear p24
       try clear q24
       try clear hx24
       try clear hcz9_0
       try clear hcz9_1
       try clear hcz9_2
       try clear hcz9_3
       try clear hfz9_0
       try clear hfz9_1
       try clear hfz9_2
       try clear hfz9_3
       try clear cw
       try clear bh
       try clear bi
       try clear bj
       try clear bk
       try clear bl
       try clear bm
       try clear bg
       try clear cb
       try clear cc
       try clear cd
       try clear ce
       try clear cf
       try clear cg
       try clear bw
       try clear p19
       try clear p2
       try clear cy
       try clear p248
       try clear q19
       try clear cz
       try clear q248
       obtain ⟨ar, al, x11_2, b4, rfl, rfl, HA, HK2, ai, ac, a3, a2, a4, a5, HB⟩ := hrel
       cases gk with
       | zero => exact absurd HA.out (by simp [switchbacklaw17_RelaxLabels.l1])
       | succ k2 =>
        have H := HA.out
        clear HA
        simp only [switchbacklaw17_RelaxLabels.l1] at H
        have HC25 := uZ H
        clear H
        go_upto_region 13 with (fail)
        repeat (go_quiet (fail); go_upto_region 13 with (fail))
        go_cut [62] (fun v62 wc => ∃ (kq : Nat) (x62_24 : Bool), v62 = .bool x62_24 ∧ Aside0 (switchbacklaw17_RelaxLabels.j2 kq l1 ar al x11_2 b4 x62_24 a9 a8 ab aj = some r) ∧ Aside0 (kq ≤ k2) ∧ Aside0 (Kd.R Kd.bool 4 wc w.heap.size (fun _ => True) cx ar) ∧ Aside0 (Kd.N k40 40 wc w.heap.size (fun k_ => some k_ ≠ (cx : Value).ownBlock ∧ some k_ ≠ ((.slice ax a9.length co8) : Value).ownBlock ∧ some k_ ≠ ((.slice ad a8.length ae) : Value).ownBlock ∧ some k_ ≠ ((.slice af ab.length ag) : Value).ownBlock ∧ k_ ≠ a6) u10 al) ∧ Aside0 (Kd.R (Kd.int .u32) 38 wc w.heap.size (fun _ => True) (.slice ax a9.length co8) a9) ∧ Aside0 (Kd.R (Kd.int .i64) 3 wc w.heap.size (fun k_ => some k_ ≠ ((.slice af ab.length ag) : Value).ownBlock) (.slice ad a8.length ae) a8) ∧ Aside0 (Kd.R (Kd.int .i64) 3 wc w.heap.size (fun k_ => some k_ ≠ ((.slice ad a8.length ae) : Value).ownBlock) (.slice af ab.length ag) ab) ∧ Aside0 (wc.heap[a6]? = some (.cells #[(.slice ax a9.length co8), (.slice ad a8.length ae), (.slice af ab.length ag), .int .i64 aj] 27 (0, 0))) ∧ Aside0 (Below w.heap.size w wc))
        case first =>
         have H := HC25.out
         clear HC25
         by_cases c26 : b4 < (l1.length : Int)
         ·rw [if_pos c26] at H
          have c26b0 : decide (b4 < (l1.length : Int)) = true := decide_eq_true c26
          clear c26
          (first | rw [c26b0] | (simp only [i64_w, i32_w]; rw [c26b0]) | skip)
          by_cases c27 : b4 < 20
          ·rw [if_pos c27] at H
           have c27b0 : decide (b4 < 20) = true := decide_eq_true c27
           clear c27
           have H' := uZ H
           clear H
           obtain ⟨Ao28, co28, eo28⟩ := Kd.N_slice ac.out
           subst eo28
           go_wp2
           repeat (go_quiet (fail); try go_wp2)
           go_meet
           case rel => exact ⟨_, (decide ((al.length : Int) < 60000)), (by first | rfl | (simp; done) | (simp [*]; done)), H', ⟨by have := HK1.out; have := HK2.out; first | omega | exact Nat.le_refl _⟩, ⟨uR ai.out⟩, ⟨uN ac.out⟩, ⟨uR a3.out⟩, ⟨uR a2.out⟩, ⟨uR a4.out⟩, ⟨uK a5.out⟩, ⟨uC HB.out ah.out⟩⟩
          rw [if_neg c27] at H
          have c27b0 : decide (b4 < 20) = false := decide_eq_false c27
          clear c27
          have H' := uZ H
          clear H
          go_wp2
          repeat (go_quiet (fail); try go_wp2)
          go_meet
          case rel => exact ⟨_, (false), (by first | rfl | (simp; done) | (simp [*]; done)), H', ⟨by have := HK1.out; have := HK2.out; first | omega | exact Nat.le_refl _⟩, ⟨uR ai.out⟩, ⟨uN ac.out⟩, ⟨uR a3.out⟩, ⟨uR a2.out⟩, ⟨uR a4.out⟩, ⟨uK a5.out⟩, ⟨uC HB.out ah.out⟩⟩
         rw [if_neg c26] at H
         have c26b0 : decide (b4 < (l1.length : Int)) = false := decide_eq_false c26
         clear c26
         (first | rw [c26b0] | (simp only [i64_w, i32_w]; rw [c26b0]) | skip)
         have H' := uZ H
         clear H
         go_wp2
         repeat (go_quiet (fail); try go_wp2)
         go_meet
         case rel => exact ⟨_, (false), (by first | rfl | (simp; done) | (simp [*]; done)), H', ⟨by have := HK1.out; have := HK2.out; first | omega | exact Nat.le_refl _⟩, ⟨uR ai.out⟩, ⟨uN ac.out⟩, ⟨uR a3.out⟩, ⟨uR a2.out⟩, ⟨uR a4.out⟩, ⟨uK a5.out⟩, ⟨uC HB.out ah.out⟩⟩
        case rest =>
         clear HC25
         try clear c1
         try clear p1
         try clear q1
         try clear hx1
         try clear c2
         try clear p2
         try clear q2
         try clear hx2
         try clear c4
         try clear c4b0
         try clear c4b1
         try clear c5
         try clear c5b0
         try clear c5b1
         try clear c6
         try clear p6
         try clear c14
         try clear c14b0
         try clear c15
         try clear c15b0
         try clear c16
         try clear c16b0
         try clear c16b1
         try clear c17
         try clear c17b0
         try clear c18
         try clear c18b0
         try clear p19
         try clear q19
         try clear hx19
         try clear hf19
         try clear c24
         try clear p24
         try clear q24
         try clear hx24
         try clear c26
         try clear c26b0
         try clear c27
         try clear c27b0
         try clear hcz9_0
         try clear hcz9_1
         try clear hcz9_2
         try clear hcz9_3
         try clear hfz9_0
         try clear hfz9_1
         try clear hfz9_2
         try clear hfz9_3
         try clear cw
         try clear bh
         try clear bi
         try clear bj
         try clear bk
         try clear bl
         try clear bm
         try clear bg
         try clear cb
         try clear cc
         try clear cd
         try clear ce
         try clear cf
         try clear cg
         try clear bw
         try clear p1
         try clear p19
         try clear p2
         try clear p24
         try clear cy
         try clear p248
         try clear p6
         try clear q1
         try clear q19
         try clear q2
         try clear q24
         try clear cz
         try clear q248
         obtain ⟨kq, x62_24, rfl, HA, HJ24, ai, ac, a3, a2, a4, a5, HB⟩ := hcut
         cases kq with
         | zero => exact absurd HA.out (by simp [switchbacklaw17_RelaxLabels.j2])
         | succ kj24 =>
          have H := HA.out
          clear HA
          simp only [switchbacklaw17_RelaxLabels.j2] at H
          by_cases c29 : x62_24 = true
          ·subst c29
           have H1 : (switchbacklaw17_RelaxLabels.l2 kj24 l1 ar al x11_2 b4 a9 a8 ab aj) = some r := by rw [if_pos rfl] at H; exact H
           clear H
           have H := H1
           clear H1
           have HC30 := uZ H
           clear H
           go_upto_block 4 with (fail)
           repeat (go_quiet (fail); go_upto_block 4 with (fail))
           go_cut [11] (fun v11 wc => ∃ (kq : Nat) (ap : Int), v11 = .int .i64 ap ∧ Aside0 (switchbacklaw17_RelaxLabels.j4 kq l1 ar al ap b4 a9 a8 ab aj = some r) ∧ Aside0 (kq ≤ kj24) ∧ Aside0 (Kd.R Kd.bool 4 wc w.heap.size (fun _ => True) cx ar) ∧ Aside0 (Kd.N k40 40 wc w.heap.size (fun k_ => some k_ ≠ (cx : Value).ownBlock ∧ some k_ ≠ ((.slice ax a9.length co8) : Value).ownBlock ∧ some k_ ≠ ((.slice ad a8.length ae) : Value).ownBlock ∧ some k_ ≠ ((.slice af ab.length ag) : Value).ownBlock ∧ k_ ≠ a6) u10 al) ∧ Aside0 (Kd.R (Kd.int .u32) 38 wc w.heap.size (fun _ => True) (.slice ax a9.length co8) a9) ∧ Aside0 (Kd.R (Kd.int .i64) 3 wc w.heap.size (fun k_ => some k_ ≠ ((.slice af ab.length ag) : Value).ownBlock) (.slice ad a8.length ae) a8) ∧ Aside0 (Kd.R (Kd.int .i64) 3 wc w.heap.size (fun k_ => some k_ ≠ ((.slice ad a8.length ae) : Value).ownBlock) (.slice af ab.length ag) ab) ∧ Aside0 (wc.heap[a6]? = some (.cells #[(.slice ax a9.length co8), (.slice ad a8.length ae), (.slice af ab.length ag), .int .i64 aj] 27 (0, 0))) ∧ Aside0 (Below w.heap.size w wc))
           case first =>
            have H := HC30.out
            clear HC30
            have H' := uZ H
            clear H
            go_wp2
            repeat (go_quiet (fail); try go_wp2)
            go_loopg [11] kj24 (fun kq v11 w' => ∃ (bn : Int), v11 = .int .i64 bn ∧ Aside0 (switchbacklaw17_RelaxLabels.l2 kq l1 ar al bn b4 a9 a8 ab aj = some r) ∧ Aside0 (kq ≤ kj24) ∧ Aside0 (Kd.R Kd.bool 4 w' w.heap.size (fun _ => True) cx ar) ∧ Aside0 (Kd.N k40 40 w' w.heap.size (fun k_ => some k_ ≠ (cx : Value).ownBlock ∧ some k_ ≠ ((.slice ax a9.length co8) : Value).ownBlock ∧ some k_ ≠ ((.slice ad a8.length ae) : Value).ownBlock ∧ some k_ ≠ ((.slice af ab.length ag) : Value).ownBlock ∧ k_ ≠ a6) u10 al) ∧ Aside0 (Kd.R (Kd.int .u32) 38 w' w.heap.size (fun _ => True) (.slice ax a9.length co8) a9) ∧ Aside0 (Kd.R (Kd.int .i64) 3 w' w.heap.size (fun k_ => some k_ ≠ ((.slice af ab.length ag) : Value).ownBlock) (.slice ad a8.length ae) a8) ∧ Aside0 (Kd.R (Kd.int .i64) 3 w' w.heap.size (fun k_ => some k_ ≠ ((.slice ad a8.length ae) : Value).ownBlock) (.slice af ab.length ag) ab) ∧ Aside0 (w'.heap[a6]? = some (.cells #[(.slice ax a9.length co8), (.slice ad a8.length ae), (.slice af ab.length ag), .int .i64 aj] 27 (0, 0))) ∧ Aside0 (Below w.heap.size w w'))
            case atStart => exact ⟨(x11_2), (by first | rfl | (simp; done) | (simp [*]; done)), H', ⟨Nat.le_refl _⟩, ⟨uR ai.out⟩, ⟨uN ac.out⟩, ⟨uR a3.out⟩, ⟨uR a2.out⟩, ⟨uR a4.out⟩, ⟨uK a5.out⟩, ⟨uC HB.out ah.out⟩⟩
            case round =>
             clear H'
             try clear c1
             try clear p1
             try clear q1
             try clear hx1
             try clear c2
             try clear p2
             try clear q2
             try clear hx2
             try clear c4
             try clear c4b0
             try clear c4b1
             try clear c5
             try clear c5b0
             try clear c5b1
             try clear c6
             try clear p6
             try clear c14
             try clear c14b0
             try clear c15
             try clear c15b0
             try clear c16
             try clear c16b0
             try clear c16b1
             try clear c17
             try clear c17b0
             try clear c18
             try clear c18b0
             try clear p19
             try clear q19
             try clear hx19
             try clear hf19
             try clear c24
             try clear p24
             try clear q24
             try clear hx24
             try clear c26
             try clear c26b0
             try clear c27
             try clear c27b0
             try clear c29
             try clear hcz9_0
             try clear hcz9_1
             try clear hcz9_2
             try clear hcz9_3
             try clear hfz9_0
             try clear hfz9_1
             try clear hfz9_2
             try clear hfz9_3
             try clear cw
             try clear bh
             try clear bi
             try clear bj
             try clear bk
             try clear bl
             try clear bm
             try clear bg
             try clear cb
             try clear cc
             try clear cd
             try clear ce
             try clear cf
             try clear cg
             try clear bw
             try clear p1
             try clear p19
             try clear p2
             try clear p24
             try clear cy
             try clear p248
             try clear p6
             try clear q1
             try clear q19
             try clear q2
             try clear q24
             try clear cz
             try clear q248
             obtain ⟨bn, rfl, HA, HK4, ai, ac, a3, a2, a4, a5, HB⟩ := hrel
             cases gk with
             | zero => exact absurd HA.out (by simp [switchbacklaw17_RelaxLabels.l2])
             | succ k4 =>
              have H := HA.out
              clear HA
              simp only [switchbacklaw17_RelaxLabels.l2] at H
              by_cases c31 : bn > 0
              ·rw [if_pos c31] at H
               have c31b0 : decide (0 < bn) = true := decide_eq_true c31
               clear c31
               (first | rw [c31b0] | (simp only [i64_w, i32_w]; rw [c31b0]) | skip)
               by_cases c32 : 0 ≤ bn
               ·rw [if_pos c32] at H
                have c32b0 : decide (0 ≤ bn) = true := decide_eq_true c32
                clear c32
                by_cases c33 : bn < (ar.length : Int)
                ·rw [if_pos c33] at H
                 have c33b0 : decide (bn < (ar.length : Int)) = true := decide_eq_true c33
                 clear c33
                 obtain ⟨bq34, hbq34⟩ : ∃ b_ : Bool, b_ = (rdOf false ar bn) := ⟨_, rfl⟩
                 replace H : (if bq34 = true then (switchbacklaw17_RelaxLabels.l2 k4 l1 ar al (wrap64 (bn - 1)) b4 a9 a8 ab aj) else (switchbacklaw17_RelaxLabels.j4 k4 l1 ar al bn b4 a9 a8 ab aj)) = some r := by rw [← hbq34] at H; exact H
                 have Nbq34 := uZ hbq34
                 clear hbq34
                 by_cases c35 : bq34 = true
                 ·subst c35
                  have H1 : (switchbacklaw17_RelaxLabels.l2 k4 l1 ar al (wrap64 (bn - 1)) b4 a9 a8 ab aj) = some r := by rw [if_pos rfl] at H; exact H
                  clear H
                  have H := H1
                  clear H1
                  have H' := uZ H
                  clear H
                  obtain ⟨Ao36, co36, eo36⟩ := zL ai.out
                  subst eo36
                  have p253 : 0 ≤ (bn : Int) := uA
                  have q253 : bn < (ar.length : Int) := uA
                  obtain ⟨ad253, e253, co⟩ := Kd.at_bool (zM ai.out).2.2 bn p253 q253
                  (try rw [← Nbq34.out] at co)
                  cases e253
                  replace p253 := eq_true p253
                  replace q253 := eq_true q253
                  go_wp2
                  repeat (go_quiet (fail); try go_wp2)
                  go_roundg k4
                  case measure => have := HK1.out; have := HK2.out; have := HJ24.out; have := HK4.out; omega
                  case rel => exact ⟨(wrap64 (bn - 1)), (by first | rfl | (simp; done) | (simp [*]; done)), H', ⟨by have := HK1.out; have := HK2.out; have := HJ24.out; have := HK4.out; omega⟩, ⟨uR ai.out⟩, ⟨uN ac.out⟩, ⟨uR a3.out⟩, ⟨uR a2.out⟩, ⟨uR a4.out⟩, ⟨uK a5.out⟩, ⟨uC HB.out ah.out⟩⟩
                 replace c35 := Bool.eq_false_iff.mpr c35
                 subst c35
                 have H1 : (switchbacklaw17_RelaxLabels.j4 k4 l1 ar al bn b4 a9 a8 ab aj) = some r := by rw [if_neg (show ¬ (false = true) by decide)] at H; exact H
                 clear H
                 have H := H1
                 clear H1
                 have H' := uZ H
                 clear H
                 obtain ⟨Ao37, co37, eo37⟩ := zL ai.out
                 subst eo37
                 have p253 : 0 ≤ (bn : Int) := uA
                 have q253 : bn < (ar.length : Int) := uA
                 obtain ⟨ad253, e253, co⟩ := Kd.at_bool (zM ai.out).2.2 bn p253 q253
                 (try rw [← Nbq34.out] at co)
                 cases e253
                 replace p253 := eq_true p253
                 replace q253 := eq_true q253
                 go_wp2
                 repeat (go_quiet (fail); try go_wp2)
                 go_meet
                 case rel => exact ⟨_, (bn), (by first | rfl | (simp; done) | (simp [*]; done)), H', ⟨by have := HK1.out; have := HK2.out; have := HJ24.out; have := HK4.out; first | omega | exact Nat.le_refl _⟩, ⟨uR ai.out⟩, ⟨uN ac.out⟩, ⟨uR a3.out⟩, ⟨uR a2.out⟩, ⟨uR a4.out⟩, ⟨uK a5.out⟩, ⟨uC HB.out ah.out⟩⟩
                rw [if_neg c33] at H
                exact absurd H (by simp)
               rw [if_neg c32] at H
               exact absurd H (by simp)
              rw [if_neg c31] at H
              have c31b0 : decide (0 < bn) = false := decide_eq_false c31
              clear c31
              (first | rw [c31b0] | (simp only [i64_w, i32_w]; rw [c31b0]) | skip)
              have H' := uZ H
              clear H
              go_wp2
              repeat (go_quiet (fail); try go_wp2)
              go_meet
              case rel => exact ⟨_, (bn), (by first | rfl | (simp; done) | (simp [*]; done)), H', ⟨by have := HK1.out; have := HK2.out; have := HJ24.out; have := HK4.out; first | omega | exact Nat.le_refl _⟩, ⟨uR ai.out⟩, ⟨uN ac.out⟩, ⟨uR a3.out⟩, ⟨uR a2.out⟩, ⟨uR a4.out⟩, ⟨uK a5.out⟩, ⟨uC HB.out ah.out⟩⟩
           case rest =>
            clear HC30
            try clear c1
            try clear p1
            try clear q1
            try clear hx1
            try clear c2
            try clear p2
            try clear q2
            try clear hx2
            try clear c3
            try clear q3
            try clear c4
            try clear c4b0
            try clear c4b1
            try clear c5
            try clear c5b0
            try clear c5b1
            try clear c6
            try clear p6
            try clear c14
            try clear c14b0
            try clear c15
            try clear c15b0
            try clear c16
            try clear c16b0
            try clear c16b1
            try clear c17
            try clear c17b0
            try clear c18
            try clear c18b0
            try clear p19
            try clear q19
            try clear hx19
            try clear hf19
            try clear c24
            try clear p24
            try clear q24
            try clear hx24
            try clear p25
            try clear q25
            try clear hx25
            try clear c26
            try clear c26b0
            try clear c27
            try clear c27b0
            try clear c29
            try clear c31
            try clear c31b0
            try clear c32
            try clear c32b0
            try clear c33
            try clear c33b0
            try clear q34
            try clear c35
            try clear hcz9_0
            try clear hcz9_1
            try clear hcz9_2
            try clear hcz9_3
            try clear hfz9_0
            try clear hfz9_1
            try clear hfz9_2
            try clear hfz9_3
            try clear cw
            try clear bh
            try clear bi
            try clear bj
            try clear bk
            try clear bl
            try clear bm
            try clear bg
            try clear cb
            try clear cc
            try clear cd
            try clear ce
            try clear cf
            try clear cg
            try clear bw
            try clear co
            try clear p1
            try clear p19
            try clear p2
            try clear p24
            try clear cy
            try clear p248
            try clear p253
            try clear p6
            try clear q1
            try clear q19
            try clear q2
            try clear q24
            try clear cz
            try clear q248
            try clear q253
            obtain ⟨kq, ap, rfl, HA, HJ29, ai, ac, a3, a2, a4, a5, HB⟩ := hcut
            cases kq with
            | zero => exact absurd HA.out (by simp [switchbacklaw17_RelaxLabels.j4])
            | succ kj29 =>
             have H := HA.out
             clear HA
             simp only [switchbacklaw17_RelaxLabels.j4] at H
             by_cases c38 : ap = 0
             ·rw [if_pos c38] at H
              have c38b0 : (ap == 0) = true := beq_iff_eq.mpr c38
              have c38b1 : (ap != 0) = false := bne_eq_false_iff_eq.mpr c38
              clear c38
              have H' := uZ H
              clear H
              go_wp2
              repeat (go_quiet (fail); try go_wp2)
              go_meet
              case rel => exact ⟨_, (al), H', ⟨by have := HK1.out; have := HK2.out; have := HJ24.out; have := HJ29.out; first | omega | exact Nat.le_refl _⟩, ⟨by (with_reducible repeat (first | apply zN | apply zO | apply zP)); exact zS ac.out (fun _ hk => ⟨hk.2.1, ⟨hk.2.2.1, ⟨hk.2.2.2.1, hk.2.2.2.2⟩⟩⟩)⟩, ⟨uR a3.out⟩, ⟨uR a2.out⟩, ⟨uR a4.out⟩, ⟨uK a5.out⟩, ⟨uC HB.out ah.out⟩⟩
             rw [if_neg c38] at H
             have c38b0 : (ap == 0) = false := beq_eq_false_iff_ne.mpr c38
             have c38b1 : (ap != 0) = true := bne_iff_ne.mpr c38
             by_cases c39 : 0 ≤ ap
             ·rw [if_pos c39] at H
              have c39b0 : decide (0 ≤ ap) = true := decide_eq_true c39
              clear c39
              by_cases c40 : ap < (ar.length : Int)
              ·rw [if_pos c40] at H
               have c40b0 : decide (ap < (ar.length : Int)) = true := decide_eq_true c40
               clear c40
               obtain ⟨y254, hy254⟩ : ∃ y_ : List Bool, y_ = (ar.set (ap : Int).toNat true) := ⟨_, rfl⟩
               replace H : (if 0 ≤ b4 then (if b4 < (l1.length : Int) then ((switchbacklaw17_pick.f (rd l1 b4) (wrap64 ((al.length : Int) + 1))).bind fun b8 => (if 0 ≤ b8 then (if b8 ≤ (al.length : Int) then ((some (al.take (b8 : Int).toNat : List (S40))).bind fun cj => (if ([] : List (S40)).length + cj.length < 1954687338268 then ((some (([] : List (S40)) ++ cj : List (S40))).bind fun cv => (if cv.length < 1954687338268 then ((some (cv ++ [(⟨0, 0, 0, 0, 0, ap, ([] : List Int)⟩ : S40)] : List (S40))).bind fun cn => ((some (al.drop (b8 : Int).toNat : List (S40))).bind fun bd => (if cn.length + bd.length < 1954687338268 then (switchbacklaw17_RelaxLabels.l1 kj29 l1 y254 (cn ++ bd) ap (wrap64 (b4 + 1)) a9 a8 ab aj) else (none)))) else (none))) else (none))) else (none)) else (none))) else (none)) else (none)) = some r := by first | (rw [hy254]; with_reducible exact H) | (have H2_ := (Option.bind_some _ _).symm.trans H; rw [hy254]; with_reducible exact H2_) | (have H2_ := (Option.bind_some _ _).symm.trans H; with_reducible exact H2_) | with_reducible exact H | (rw [hy254]; exact H) | exact H
               have Ny254 := uZ hy254
               clear hy254
               by_cases c42 : 0 ≤ b4
               ·rw [if_pos c42] at H
                have c42b0 : decide (0 ≤ b4) = true := decide_eq_true c42
                clear c42
                by_cases c43 : b4 < (l1.length : Int)
                ·rw [if_pos c43] at H
                 have c43b0 : decide (b4 < (l1.length : Int)) = true := decide_eq_true c43
                 clear c43
                 replace H := Option.bind_eq_some_iff.mp H
                 obtain ⟨b8, A440, H⟩ := H
                 replace H : (if 0 ≤ b8 then (if b8 ≤ (al.length : Int) then ((some (al.take (b8 : Int).toNat : List (S40))).bind fun cj => (if ([] : List (S40)).length + cj.length < 1954687338268 then ((some (([] : List (S40)) ++ cj : List (S40))).bind fun cv => (if cv.length < 1954687338268 then ((some (cv ++ [(⟨0, 0, 0, 0, 0, ap, ([] : List Int)⟩ : S40)] : List (S40))).bind fun cn => ((some (al.drop (b8 : Int).toNat : List (S40))).bind fun bd => (if cn.length + bd.length < 1954687338268 then (switchbacklaw17_RelaxLabels.l1 kj29 l1 y254 (cn ++ bd) ap (wrap64 (b4 + 1)) a9 a8 ab aj) else (none)))) else (none))) else (none))) else (none)) else (none)) = some r := H
                 have A44 := uZ A440
                 clear A440
                 by_cases c45 : 0 ≤ b8
                 ·rw [if_pos c45] at H
                  have c45b0 := eq_true c45
                  have c45b1 : decide (0 ≤ b8) = true := decide_eq_true c45
                  clear c45
                  by_cases c46 : b8 ≤ (al.length : Int)
                  ·rw [if_pos c46] at H
                   have c46b0 := eq_true c46
                   have c46b1 : decide (b8 ≤ (al.length : Int)) = true := decide_eq_true c46
                   clear c46
                   obtain ⟨cj, hy257⟩ : ∃ y_ : List (S40), y_ = (al.take (b8 : Int).toNat) := ⟨_, rfl⟩
                   replace H : (if ([] : List (S40)).length + cj.length < 1954687338268 then ((some (([] : List (S40)) ++ cj : List (S40))).bind fun cv => (if cv.length < 1954687338268 then ((some (cv ++ [(⟨0, 0, 0, 0, 0, ap, ([] : List Int)⟩ : S40)] : List (S40))).bind fun cn => ((some (al.drop (b8 : Int).toNat : List (S40))).bind fun bd => (if cn.length + bd.length < 1954687338268 then (switchbacklaw17_RelaxLabels.l1 kj29 l1 y254 (cn ++ bd) ap (wrap64 (b4 + 1)) a9 a8 ab aj) else (none)))) else (none))) else (none)) = some r := by first | (rw [hy257]; with_reducible exact H) | (have H2_ := (Option.bind_some _ _).symm.trans H; rw [hy257]; with_reducible exact H2_) | (have H2_ := (Option.bind_some _ _).symm.trans H; with_reducible exact H2_) | with_reducible exact H | (rw [hy257]; exact H) | exact H
                   have Ny257 := uZ hy257
                   clear hy257
                   by_cases c47 : ([] : List (S40)).length + cj.length < 1954687338268
                   ·rw [if_pos c47] at H
                    have LMc47 := uZ c47
                    clear c47
                    obtain ⟨cv, hy262⟩ : ∃ y_ : List (S40), y_ = (([] : List (S40)) ++ cj) := ⟨_, rfl⟩
                    replace H : (if cv.length < 1954687338268 then ((some (cv ++ [(⟨0, 0, 0, 0, 0, ap, ([] : List Int)⟩ : S40)] : List (S40))).bind fun cn => ((some (al.drop (b8 : Int).toNat : List (S40))).bind fun bd => (if cn.length + bd.length < 1954687338268 then (switchbacklaw17_RelaxLabels.l1 kj29 l1 y254 (cn ++ bd) ap (wrap64 (b4 + 1)) a9 a8 ab aj) else (none)))) else (none)) = some r := by first | (rw [hy262]; with_reducible exact H) | (have H2_ := (Option.bind_some _ _).symm.trans H; rw [hy262]; with_reducible exact H2_) | (have H2_ := (Option.bind_some _ _).symm.trans H; with_reducible exact H2_) | with_reducible exact H | (rw [hy262]; exact H) | exact H
                    have Ny262 := uZ hy262
                    clear hy262
                    by_cases c48 : cv.length < 1954687338268
                    ·rw [if_pos c48] at H
                     have LMc48 := uZ c48
                     clear c48
                     obtain ⟨cn, hy265⟩ : ∃ y_ : List (S40), y_ = (cv ++ [(⟨0, 0, 0, 0, 0, ap, ([] : List Int)⟩ : S40)]) := ⟨_, rfl⟩
                     replace H : ((some (al.drop (b8 : Int).toNat : List (S40))).bind fun bd => (if cn.length + bd.length < 1954687338268 then (switchbacklaw17_RelaxLabels.l1 kj29 l1 y254 (cn ++ bd) ap (wrap64 (b4 + 1)) a9 a8 ab aj) else (none))) = some r := by first | (rw [hy265]; with_reducible exact H) | (have H2_ := (Option.bind_some _ _).symm.trans H; rw [hy265]; with_reducible exact H2_) | (have H2_ := (Option.bind_some _ _).symm.trans H; with_reducible exact H2_) | with_reducible exact H | (rw [hy265]; exact H) | exact H
                     have Ny265 := uZ hy265
                     clear hy265
                     have c49b0 := eq_true (uA : 0 ≤ b8)
                     have c50b0 := eq_true (uA : b8 ≤ (al.length : Int))
                     obtain ⟨bd, hy268⟩ : ∃ y_ : List (S40), y_ = (al.drop (b8 : Int).toNat) := ⟨_, rfl⟩
                     replace H : (if cn.length + bd.length < 1954687338268 then (switchbacklaw17_RelaxLabels.l1 kj29 l1 y254 (cn ++ bd) ap (wrap64 (b4 + 1)) a9 a8 ab aj) else (none)) = some r := by first | (rw [hy268]; with_reducible exact H) | (have H2_ := (Option.bind_some _ _).symm.trans H; rw [hy268]; with_reducible exact H2_) | (have H2_ := (Option.bind_some _ _).symm.trans H; with_reducible exact H2_) | with_reducible exact H | (rw [hy268]; exact H) | exact H
                     have Ny268 := uZ hy268
                     clear hy268
                     by_cases c51 : cn.length + bd.length < 1954687338268
                     ·rw [if_pos c51] at H
                      have LMc51 := uZ c51
                      clear c51
                      obtain ⟨y273, hy273⟩ : ∃ y_ : List (S40), y_ = (cn ++ bd) := ⟨_, rfl⟩
                      replace H : (switchbacklaw17_RelaxLabels.l1 kj29 l1 y254 y273 ap (wrap64 (b4 + 1)) a9 a8 ab aj) = some r := by first | (rw [hy273]; with_reducible exact H) | (have H2_ := (Option.bind_some _ _).symm.trans H; rw [hy273]; with_reducible exact H2_) | (have H2_ := (Option.bind_some _ _).symm.trans H; with_reducible exact H2_) | with_reducible exact H | (rw [hy273]; exact H) | exact H
                      have Ny273 := uZ hy273
                      clear hy273
                      have H' := uZ H
                      clear H
                      have p41 : 0 ≤ (ap : Int) := uA
                      have q41 : (ap : Int) < ((ar.length : Int) : Int) := uA
                      obtain ⟨b5, ba, eo41, gb41, gl41, cl41, HG41⟩ := Kd.R_form ai.out (by omega)
                      (first | cases eo41 | (injection eo41 with ea_ en_ ec_; (first | subst ea_ | (injection ea_ with ea_; subst ea_)); subst ec_; clear en_))
                      have GB41 := uZ gb41
                      have GG41 := uZ HG41
                      clear gb41 gl41 HG41
                      obtain ⟨hx41_0, hf41_0⟩ := Kd.R_celln false ai.out (ap : Int) p41 q41
                      replace p41 := eq_true p41
                      replace q41 := eq_true q41
                      have HP52 := Kd.R_putg ai.out (ap : Int) true
                      go_wp2_with (first | ((with_reducible refine gate_store (t := 4) (p := 79) rfl ?_); (try (rw [drewN_self wc]; generalize hq_ : World.drewN wc _ = wc; have n0_ := uZ (Kd.R_at hq_ ai.out); have n1_ := uZ (Kd.N_at hq_ ac.out); have n2_ := uZ (Kd.R_at hq_ a3.out); have n3_ := uZ (Kd.R_at hq_ a2.out); have n4_ := uZ (Kd.R_at hq_ a4.out); have n5_ := uZ (blk_at hq_ a5.out); have n6_ := uZ (below_at hq_ HB.out); clear hq_ ai ac a3 a2 a4 a5 HB; have ai := n0_; have ac := n1_; have a3 := n2_; have a2 := n3_; have a4 := n4_; have a5 := n5_; have HB := n6_; clear n0_ n1_ n2_ n3_ n4_ n5_ n6_; (try (have HP52 := Kd.R_putg ai.out (ap : Int) true)))); refine store_event (t := 4) (p := 79) (v := ?vo_w53) (w1 := (wc.setCell ⟨b5, (ap : Int).toNat, none⟩ (.bool true))) ?hg ?ho ?hn ?hr ?_; (case ho => rfl); (case hg => rfl); (case hn => rfl); (case hr => first | (go_simp; done) | (go_simp; rfl)); intro w53 hw; have hg : wc.grownBy w53 (some b5) := (by rw [hw]; exact HP52.2); have hp_ : Kd.R Kd.bool 4 w53 w.heap.size (fun _ => True) (.slice (some ⟨b5, 0, none⟩) ar.length ba) y254 := (by rw [hw, Ny254.out]; exact HP52.1); clear HP52; have n0_ := uZ (hp_); have n1_ := uZ (zT (v := (.slice (some ⟨b5, 0, none⟩) ar.length ba)) (v1 := (.slice (some ⟨b5, 0, none⟩) ar.length ba)) (ok := (fun k_ => some k_ ≠ (.slice ax a9.length co8 : Value).ownBlock ∧ some k_ ≠ (.slice ad a8.length ae : Value).ownBlock ∧ some k_ ≠ (.slice af ab.length ag : Value).ownBlock ∧ k_ ≠ a6)) (by (with_reducible repeat (first | apply zN | apply zO | apply zP)); exact zS ac.out (fun _ hk => ⟨⟨hk.2.1, ⟨hk.2.2.1, ⟨hk.2.2.2.1, hk.2.2.2.2⟩⟩⟩, hk.1⟩)) hg (.inl rfl)); have n2_ := uZ (zI (v := (.slice (some ⟨b5, 0, none⟩) ar.length ba)) (uR a3.out) (Kd.R_typed ai.out) (by decide) hg); have n3_ := uZ (zI (v := (.slice (some ⟨b5, 0, none⟩) ar.length ba)) (uR a2.out) (Kd.R_typed ai.out) (by decide) hg); have n4_ := uZ (zI (v := (.slice (some ⟨b5, 0, none⟩) ar.length ba)) (uR a4.out) (Kd.R_typed ai.out) (by decide) hg); have n5_ := uZ (yN (g := a6) (o := .cells #[.slice ax a9.length co8, .slice ad a8.length ae, .slice af ab.length ag, .int .i64 aj] 27 (0, 0)) (uK a5.out) hg (Kd.R_ne ai.out a5.out (by decide))); have n6_ := uZ ((by rw [hw]; exact yP (HB.out) GB41.out : Below w.heap.size w w53)); clear ai; clear ac; clear a3; clear a2; clear a4; clear a5; clear HB; have ai := n0_; have ac := n1_; have a3 := n2_; have a2 := n3_; have a4 := n4_; have a5 := n5_; have HB := n6_; clear n0_ n1_ n2_ n3_ n4_ n5_ n6_; clear hg hw hp_; have c_ : 0 ≤ (b4 : Int) := uA; have d0 : b4 < (l1.length : Int) := uA; obtain ⟨ad255, e255, bo⟩ := Kd.at_int HR1.out b4 c_ d0; cases e255; replace bo := (HB.out.cell (yS w _ bo)).trans bo; replace c_ := eq_true c_; replace d0 := eq_true d0; obtain ⟨ck, bx, eo54⟩ := Kd.N_slice ac.out; subst eo54) | (go_at_call 26; (with_reducible refine (switchbacklaw17_pick.calls (rd l1 b4) (wrap64 ((al.length : Int) + 1)) b8 _ A44.out).mono ?_); rintro e w' ⟨rfl, ⟨nd, rfl⟩⟩; (try first | exact ⟨rfl, _, World.drewN_drewN _ _ _⟩ | exact ⟨rfl, _, Eq.trans (World.drewN_drewN _ _ _) (congrArg (World.drewN _) (Nat.add_assoc _ _ _))⟩); have q55 : (b8 : Int) ≤ ((al.length : Int) : Int) := uA; obtain ⟨i055, hi055, _, hsz55, _⟩ := info_parts info40; have hroom55 : al.length ≤ bx := (zV ac.out).2.1; have hC55 : Kd.F k40 _ _ ck al.length al := (Kd.V_at (base := w.heap.size) (Kd.N_V ac.out)).2.2; have hcut55 := cut_to (P := Tryd.prog) 22 40 .i64 Tryd.underlying22 hi055 ck al.length bx b8 (uA) q55 hroom55; have hr55 := Kd.F_take (m := (b8 : Int).toNat) hC55 (by omega); have hy55 : cj.length = (b8 : Int).toNat := (by rw [Ny257.out, List.length_take]; omega); rw [← Ny257.out] at hr55; rw [← hy55] at hcut55; have bb := uZ (show Kd.V k40 40 _ w.heap.size _ (.slice ck cj.length bx) cj from Kd.V_mk (by omega) hr55); have HC261 := uZ (show cj.length ≤ bx from by omega); clear hr55 hC55 hroom55 hi055 hsz55; have KY55 := uZ hy55; clear hy55; replace q55 := eq_true q55) | ((with_reducible refine gate_builtin (b := .append) (xs := #[.tmp 88, .tmp 91]) rfl ?_); (try (refine gate_guard (by rfl) ?_; dsimp only)); at_builtin; refine zU k40 (w0 := w) w.heap.size rfl (.tmp 88) (.tmp 91) 22 40 (.agg #[(.int .i64 0), (.int .i64 0), (.int .i64 0), (.int .i64 0), (.int .u32 0), (.int .i64 0), (.slice none 0 0)]) 72 rfl Tryd.underlying22 info40 rfl (by decide) (by omega) (.slice none 0 0) ([] : List (S40)) cj _ _ _ (fun k_ => some k_ ≠ (.slice (some ⟨b5, 0, none⟩) ar.length ba : Value).ownBlock ∧ some k_ ≠ (.slice ax a9.length co8 : Value).ownBlock ∧ some k_ ≠ (.slice ad a8.length ae : Value).ownBlock ∧ some k_ ≠ (.slice af ab.length ag : Value).ownBlock ∧ k_ ≠ a6) (fun k_ => ((fun k_ => some k_ ≠ (.slice (some ⟨b5, 0, none⟩) ar.length ba : Value).ownBlock ∧ some k_ ≠ (.slice ax a9.length co8 : Value).ownBlock ∧ some k_ ≠ (.slice ad a8.length ae : Value).ownBlock ∧ some k_ ≠ (.slice af ab.length ag : Value).ownBlock ∧ k_ ≠ a6)) k_ ∧ some k_ ≠ (.slice none 0 0 : Value).ownBlock) rfl rfl ?aO ?aR (fun _ hk => hk) ?aF ?aB ?aS ?aL ?_; (case aR => exact (by skip; exact Kd.V_F (e := 40) (base := w.heap.size) (zW (e := 40) (base := w.heap.size) (ok' := (fun k_ => ((fun k_ => some k_ ≠ (.slice (some ⟨b5, 0, none⟩) ar.length ba : Value).ownBlock ∧ some k_ ≠ (.slice ax a9.length co8 : Value).ownBlock ∧ some k_ ≠ (.slice ad a8.length ae : Value).ownBlock ∧ some k_ ≠ (.slice af ab.length ag : Value).ownBlock ∧ k_ ≠ a6)) k_ ∧ some k_ ≠ (.slice none 0 0 : Value).ownBlock)) (bb.out) (fun k_ hk => ⟨⟨hk.2, ⟨hk.1.1, ⟨hk.1.2.1, ⟨hk.1.2.2.1, hk.1.2.2.2⟩⟩⟩⟩, (by simp [Value.ownBlock])⟩)))); (case aB => exact (uC HB.out ah.out)); (case aF => exact (fun k_ hk => ⟨yB (zH (uR ai.out)) k_ hk, yB (zH (uR a3.out)) k_ hk, yB (zH (uR a2.out)) k_ hk, yB (zH (uR a4.out)) k_ hk, yC (g := a6) (o := .cells #[.slice ax a9.length co8, .slice ad a8.length ae, .slice af ab.length ag, .int .i64 aj] 27 (0, 0)) (uK a5.out) k_ hk⟩)); (case aO => exact ((Kd.N_nil _ _ _ _ (fun k_ => some k_ ≠ (.slice (some ⟨b5, 0, none⟩) ar.length ba : Value).ownBlock ∧ some k_ ≠ (.slice ax a9.length co8 : Value).ownBlock ∧ some k_ ≠ (.slice ad a8.length ae : Value).ownBlock ∧ some k_ ≠ (.slice af ab.length ag : Value).ownBlock ∧ k_ ≠ a6)))); (case aS => exact (yQ (uC HB.out ah.out))); (case aL => have := LMc47.out; omega); intro v263 w56 ho hb hg hat; rw [← Ny262.out] at ho; have n0_ := uZ (Kd.R_grown (uR ai.out) hg (fun _ _ => by simp [Value.ownBlock])); have n1_ := uZ (zT (Kd.N_apart_nil (uN ac.out)) hg hat); have n2_ := uZ (Kd.R_grown (uR a3.out) hg (fun _ _ => by simp [Value.ownBlock])); have n3_ := uZ (Kd.R_grown (uR a2.out) hg (fun _ _ => by simp [Value.ownBlock])); have n4_ := uZ (Kd.R_grown (uR a4.out) hg (fun _ _ => by simp [Value.ownBlock])); have n5_ := uZ (yN (g := a6) (o := .cells #[.slice ax a9.length co8, .slice ad a8.length ae, .slice af ab.length ag, .int .i64 aj] 27 (0, 0)) (uK a5.out) hg (by simp [Value.ownBlock])); have n6_ := uZ (zX (Kd.V_apart_nil (uV bb.out)) hg hat); have n7_ := uZ (hb); have n8_ := uZ (ho); clear ai; clear ac; clear a3; clear a2; clear a4; clear a5; clear bb; clear HB; have ai := n0_; have ac := n1_; have a3 := n2_; have a2 := n3_; have a4 := n4_; have a5 := n5_; have bb := n6_; have HB := n7_; have bp := n8_; clear n0_ n1_ n2_ n3_ n4_ n5_ n6_ n7_ n8_; clear ho hb hg hat) | ((with_reducible refine gate_builtin (b := .append) (xs := #[.tmp 93, .tmp 96]) rfl ?_); (try (refine gate_guard (by rfl) ?_; dsimp only)); at_builtin; refine Kd.N_append k40 (w0 := w) w.heap.size rfl (.tmp 93) (.tmp 96) 22 40 (.agg #[(.int .i64 0), (.int .i64 0), (.int .i64 0), (.int .i64 0), (.int .u32 0), (.int .i64 0), (.slice none 0 0)]) 72 rfl Tryd.underlying22 info40 rfl (by decide) (by omega) v263 cv (⟨0, 0, 0, 0, 0, ap, ([] : List Int)⟩ : S40) [.int .i64 0, .int .i64 0, .int .i64 0, .int .i64 0, .int .u32 0, .int .i64 ap, .slice none 0 0] (fun k_ => some k_ ≠ (.slice (some ⟨b5, 0, none⟩) ar.length ba : Value).ownBlock ∧ some k_ ≠ (.slice ax a9.length co8 : Value).ownBlock ∧ some k_ ≠ (.slice ad a8.length ae : Value).ownBlock ∧ some k_ ≠ (.slice af ab.length ag : Value).ownBlock ∧ k_ ≠ a6) (fun k_ => ((fun k_ => some k_ ≠ (.slice (some ⟨b5, 0, none⟩) ar.length ba : Value).ownBlock ∧ some k_ ≠ (.slice ax a9.length co8 : Value).ownBlock ∧ some k_ ≠ (.slice ad a8.length ae : Value).ownBlock ∧ some k_ ≠ (.slice af ab.length ag : Value).ownBlock ∧ k_ ≠ a6)) k_ ∧ some k_ ≠ (v263 : Value).ownBlock) rfl rfl ?aP (fun _ hk => hk) ?aF ?aO ?aB ?aS ?aL ?_; (case aP => exact (k40_mkF _ _ (⟨0, 0, 0, 0, 0, ap, ([] : List Int)⟩ : S40) (Nat.le_refl _) (Kd.F_nil _ _ _))); (case aB => exact (uC HB.out ah.out)); (case aF => exact (fun k_ hk => ⟨yB (zH (uR ai.out)) k_ hk, yB (zH (uR a3.out)) k_ hk, yB (zH (uR a2.out)) k_ hk, yB (zH (uR a4.out)) k_ hk, yC (g := a6) (o := .cells #[.slice ax a9.length co8, .slice ad a8.length ae, .slice af ab.length ag, .int .i64 aj] 27 (0, 0)) (uK a5.out) k_ hk⟩)); (case aO => exact (uN bp.out)); (case aS => exact (yQ (uC HB.out ah.out))); (case aL => have := LMc48.out; omega); intro v266 w57 ho hb hg hat; rw [← Ny265.out] at ho; have n0_ := uZ (zI (uR ai.out) (Kd.N_typed (uN bp.out)) (by decide) hg); have n1_ := uZ (zT (ok := (fun k_ => some k_ ≠ (.slice (some ⟨b5, 0, none⟩) ar.length ba : Value).ownBlock ∧ some k_ ≠ (.slice ax a9.length co8 : Value).ownBlock ∧ some k_ ≠ (.slice ad a8.length ae : Value).ownBlock ∧ some k_ ≠ (.slice af ab.length ag : Value).ownBlock ∧ k_ ≠ a6)) (by (with_reducible repeat (first | apply zN | apply zO | apply zP)); exact zS ac.out (fun _ hk => ⟨⟨hk.1.2, ⟨hk.1.1.1, ⟨hk.1.1.2.1, ⟨hk.1.1.2.2.1, hk.1.1.2.2.2⟩⟩⟩⟩, hk.2⟩)) hg hat); have n2_ := uZ (zI (uR a3.out) (Kd.N_typed (uN bp.out)) (by decide) hg); have n3_ := uZ (zI (uR a2.out) (Kd.N_typed (uN bp.out)) (by decide) hg); have n4_ := uZ (zI (uR a4.out) (Kd.N_typed (uN bp.out)) (by decide) hg); have n5_ := uZ (yN (g := a6) (o := .cells #[.slice ax a9.length co8, .slice ad a8.length ae, .slice af ab.length ag, .int .i64 aj] 27 (0, 0)) (uK a5.out) hg (Kd.N_ne bp.out a5.out (by decide))); have n6_ := uZ (zX (ok := (fun k_ => some k_ ≠ (.slice (some ⟨b5, 0, none⟩) ar.length ba : Value).ownBlock ∧ some k_ ≠ (.slice ax a9.length co8 : Value).ownBlock ∧ some k_ ≠ (.slice ad a8.length ae : Value).ownBlock ∧ some k_ ≠ (.slice af ab.length ag : Value).ownBlock ∧ k_ ≠ a6)) (by (with_reducible repeat (first | apply Kd.V_alloc | apply Kd.V_drewN | apply Kd.V_drew)); exact zW bb.out (fun _ hk => ⟨⟨hk.1.2, ⟨hk.1.1.1, ⟨hk.1.1.2.1, ⟨hk.1.1.2.2.1, hk.1.1.2.2.2⟩⟩⟩⟩, hk.2⟩)) hg hat); have n7_ := uZ (hb); have n8_ := uZ (ho); clear ai; clear ac; clear a3; clear a2; clear a4; clear a5; clear bb; clear HB; clear bp; have ai := n0_; have ac := n1_; have a3 := n2_; have a2 := n3_; have a4 := n4_; have a5 := n5_; have bb := n6_; have HB := n7_; have bq := n8_; clear n0_ n1_ n2_ n3_ n4_ n5_ n6_ n7_ n8_; clear ho hb hg hat; have q58 : (b8 : Int) ≤ ((al.length : Int) : Int) := uA; obtain ⟨i058, hi058, _, hsz58, _⟩ := info_parts info40; have hroom58 : al.length ≤ bx := (zV ac.out).2.1; have hC58 : Kd.F k40 _ _ ck al.length al := (Kd.V_at (base := w.heap.size) (Kd.N_V ac.out)).2.2; have q058 : (0 : Int) ≤ (b8 : Int) := uA; have hcut58 := cut_from (P := Tryd.prog) 22 40 .i64 Tryd.underlying22 hi058 7 hsz58 ck al.length bx b8 q058 q58; have ct := Kd.F_cut (m := (b8 : Int).toNat) (c := bx) hC58 (by omega) hroom58; obtain ⟨A58, hA58⟩ : ∃ A1, A1 = (if bx = (b8 : Int).toNat then ck else (ck : Option Addr).map (·.add ((b8 : Int).toNat * 7))) := ⟨_, rfl⟩; obtain ⟨c58, d1⟩ : ∃ c1, c1 = bx - (b8 : Int).toNat := ⟨_, rfl⟩; have cu : bd.length = al.length - (b8 : Int).toNat := (by rw [Ny268.out, List.length_drop] <;> omega); rw [show (al).drop (b8 : Int).toNat = bd from Ny268.out.symm] at ct; replace ct : Kd.F k40 _ _ A58 bd.length bd := (by rw [hA58]; exact ct); rw [← cu, ← hA58, ← d1] at hcut58; have cm := uZ (show Kd.V k40 40 _ w.heap.size _ (.slice A58 bd.length c58) bd from Kd.V_mk (by rw [cu, d1]; exact Nat.sub_le_sub_right hroom58 _) ct); have HC272 := uZ (show bd.length ≤ c58 from by rw [cu, d1]; exact Nat.sub_le_sub_right hroom58 _); clear ct hC58 hroom58 hi058 hsz58 d1; have KY58 := uZ cu; have KA58 := uZ hA58; clear cu hA58; replace q58 := eq_true q58) | ((with_reducible refine gate_builtin (b := .append) (xs := #[.tmp 98, .tmp 101]) rfl ?_); (try (refine gate_guard (by rfl) ?_; dsimp only)); at_builtin; refine zU k40 (w0 := w) w.heap.size rfl (.tmp 98) (.tmp 101) 22 40 (.agg #[(.int .i64 0), (.int .i64 0), (.int .i64 0), (.int .i64 0), (.int .u32 0), (.int .i64 0), (.slice none 0 0)]) 72 rfl Tryd.underlying22 info40 rfl (by decide) (by omega) v266 cn bd _ _ _ (fun k_ => some k_ ≠ (.slice (some ⟨b5, 0, none⟩) ar.length ba : Value).ownBlock ∧ some k_ ≠ (.slice ax a9.length co8 : Value).ownBlock ∧ some k_ ≠ (.slice ad a8.length ae : Value).ownBlock ∧ some k_ ≠ (.slice af ab.length ag : Value).ownBlock ∧ k_ ≠ a6) (fun k_ => ((fun k_ => some k_ ≠ (.slice (some ⟨b5, 0, none⟩) ar.length ba : Value).ownBlock ∧ some k_ ≠ (.slice ax a9.length co8 : Value).ownBlock ∧ some k_ ≠ (.slice ad a8.length ae : Value).ownBlock ∧ some k_ ≠ (.slice af ab.length ag : Value).ownBlock ∧ k_ ≠ a6)) k_ ∧ some k_ ≠ (v266 : Value).ownBlock) rfl rfl ?aO ?aR (fun _ hk => hk) ?aF ?aB ?aS ?aL ?_; (case aR => exact (by skip; exact Kd.V_F (e := 40) (base := w.heap.size) (zW (e := 40) (base := w.heap.size) (ok' := (fun k_ => ((fun k_ => some k_ ≠ (.slice (some ⟨b5, 0, none⟩) ar.length ba : Value).ownBlock ∧ some k_ ≠ (.slice ax a9.length co8 : Value).ownBlock ∧ some k_ ≠ (.slice ad a8.length ae : Value).ownBlock ∧ some k_ ≠ (.slice af ab.length ag : Value).ownBlock ∧ k_ ≠ a6)) k_ ∧ some k_ ≠ (v266 : Value).ownBlock)) (cm.out) (fun k_ hk => ⟨⟨hk.1.1, ⟨hk.1.2.1, ⟨hk.1.2.2.1, ⟨hk.1.2.2.2.1, hk.1.2.2.2.2⟩⟩⟩⟩, hk.2⟩)))); (case aB => exact (uC HB.out ah.out)); (case aF => exact (fun k_ hk => ⟨yB (zH (uR ai.out)) k_ hk, yB (zH (uR a3.out)) k_ hk, yB (zH (uR a2.out)) k_ hk, yB (zH (uR a4.out)) k_ hk, yC (g := a6) (o := .cells #[.slice ax a9.length co8, .slice ad a8.length ae, .slice af ab.length ag, .int .i64 aj] 27 (0, 0)) (uK a5.out) k_ hk⟩)); (case aO => exact (uN bq.out)); (case aS => exact (yQ (uC HB.out ah.out))); (case aL => have := LMc51.out; omega); intro v274 w59 ho hb hg hat; rw [← Ny273.out] at ho; have n0_ := uZ (zI (uR ai.out) (Kd.N_typed (uN bq.out)) (by decide) hg); have n1_ := uZ (zT (ok := (fun k_ => some k_ ≠ (.slice (some ⟨b5, 0, none⟩) ar.length ba : Value).ownBlock ∧ some k_ ≠ (.slice ax a9.length co8 : Value).ownBlock ∧ some k_ ≠ (.slice ad a8.length ae : Value).ownBlock ∧ some k_ ≠ (.slice af ab.length ag : Value).ownBlock ∧ k_ ≠ a6)) (uN ac.out) hg hat); have n2_ := uZ (zI (uR a3.out) (Kd.N_typed (uN bq.out)) (by decide) hg); have n3_ := uZ (zI (uR a2.out) (Kd.N_typed (uN bq.out)) (by decide) hg); have n4_ := uZ (zI (uR a4.out) (Kd.N_typed (uN bq.out)) (by decide) hg); have n5_ := uZ (yN (g := a6) (o := .cells #[.slice ax a9.length co8, .slice ad a8.length ae, .slice af ab.length ag, .int .i64 aj] 27 (0, 0)) (uK a5.out) hg (Kd.N_ne bq.out a5.out (by decide))); have n6_ := uZ (zX (ok := (fun k_ => some k_ ≠ (.slice (some ⟨b5, 0, none⟩) ar.length ba : Value).ownBlock ∧ some k_ ≠ (.slice ax a9.length co8 : Value).ownBlock ∧ some k_ ≠ (.slice ad a8.length ae : Value).ownBlock ∧ some k_ ≠ (.slice af ab.length ag : Value).ownBlock ∧ k_ ≠ a6)) (uV bb.out) hg hat); have n7_ := uZ (zX (ok := (fun k_ => some k_ ≠ (.slice (some ⟨b5, 0, none⟩) ar.length ba : Value).ownBlock ∧ some k_ ≠ (.slice ax a9.length co8 : Value).ownBlock ∧ some k_ ≠ (.slice ad a8.length ae : Value).ownBlock ∧ some k_ ≠ (.slice af ab.length ag : Value).ownBlock ∧ k_ ≠ a6)) (uV cm.out) hg hat); have n8_ := uZ (hb); have n9_ := uZ (ho); clear ai; clear ac; clear a3; clear a2; clear a4; clear a5; clear bb; clear cm; clear HB; clear bq; have ai := n0_; have ac := n1_; have a3 := n2_; have a2 := n3_; have a4 := n4_; have a5 := n5_; have bb := n6_; have cm := n7_; have HB := n8_; have HO275 := n9_; clear n0_ n1_ n2_ n3_ n4_ n5_ n6_ n7_ n8_ n9_; clear ho hb hg hat))
                      repeat (go_quiet (first | ((with_reducible refine gate_store (t := 4) (p := 79) rfl ?_); (try (rw [drewN_self wc]; generalize hq_ : World.drewN wc _ = wc; have n0_ := uZ (Kd.R_at hq_ ai.out); have n1_ := uZ (Kd.N_at hq_ ac.out); have n2_ := uZ (Kd.R_at hq_ a3.out); have n3_ := uZ (Kd.R_at hq_ a2.out); have n4_ := uZ (Kd.R_at hq_ a4.out); have n5_ := uZ (blk_at hq_ a5.out); have n6_ := uZ (below_at hq_ HB.out); clear hq_ ai ac a3 a2 a4 a5 HB; have ai := n0_; have ac := n1_; have a3 := n2_; have a2 := n3_; have a4 := n4_; have a5 := n5_; have HB := n6_; clear n0_ n1_ n2_ n3_ n4_ n5_ n6_; (try (have HP52 := Kd.R_putg ai.out (ap : Int) true)))); refine store_event (t := 4) (p := 79) (v := ?vo_w53) (w1 := (wc.setCell ⟨b5, (ap : Int).toNat, none⟩ (.bool true))) ?hg ?ho ?hn ?hr ?_; (case ho => rfl); (case hg => rfl); (case hn => rfl); (case hr => first | (go_simp; done) | (go_simp; rfl)); intro w53 hw; have hg : wc.grownBy w53 (some b5) := (by rw [hw]; exact HP52.2); have hp_ : Kd.R Kd.bool 4 w53 w.heap.size (fun _ => True) (.slice (some ⟨b5, 0, none⟩) ar.length ba) y254 := (by rw [hw, Ny254.out]; exact HP52.1); clear HP52; have n0_ := uZ (hp_); have n1_ := uZ (zT (v := (.slice (some ⟨b5, 0, none⟩) ar.length ba)) (v1 := (.slice (some ⟨b5, 0, none⟩) ar.length ba)) (ok := (fun k_ => some k_ ≠ (.slice ax a9.length co8 : Value).ownBlock ∧ some k_ ≠ (.slice ad a8.length ae : Value).ownBlock ∧ some k_ ≠ (.slice af ab.length ag : Value).ownBlock ∧ k_ ≠ a6)) (by (with_reducible repeat (first | apply zN | apply zO | apply zP)); exact zS ac.out (fun _ hk => ⟨⟨hk.2.1, ⟨hk.2.2.1, ⟨hk.2.2.2.1, hk.2.2.2.2⟩⟩⟩, hk.1⟩)) hg (.inl rfl)); have n2_ := uZ (zI (v := (.slice (some ⟨b5, 0, none⟩) ar.length ba)) (uR a3.out) (Kd.R_typed ai.out) (by decide) hg); have n3_ := uZ (zI (v := (.slice (some ⟨b5, 0, none⟩) ar.length ba)) (uR a2.out) (Kd.R_typed ai.out) (by decide) hg); have n4_ := uZ (zI (v := (.slice (some ⟨b5, 0, none⟩) ar.length ba)) (uR a4.out) (Kd.R_typed ai.out) (by decide) hg); have n5_ := uZ (yN (g := a6) (o := .cells #[.slice ax a9.length co8, .slice ad a8.length ae, .slice af ab.length ag, .int .i64 aj] 27 (0, 0)) (uK a5.out) hg (Kd.R_ne ai.out a5.out (by decide))); have n6_ := uZ ((by rw [hw]; exact yP (HB.out) GB41.out : Below w.heap.size w w53)); clear ai; clear ac; clear a3; clear a2; clear a4; clear a5; clear HB; have ai := n0_; have ac := n1_; have a3 := n2_; have a2 := n3_; have a4 := n4_; have a5 := n5_; have HB := n6_; clear n0_ n1_ n2_ n3_ n4_ n5_ n6_; clear hg hw hp_; have c_ : 0 ≤ (b4 : Int) := uA; have d0 : b4 < (l1.length : Int) := uA; obtain ⟨ad255, e255, bo⟩ := Kd.at_int HR1.out b4 c_ d0; cases e255; replace bo := (HB.out.cell (yS w _ bo)).trans bo; replace c_ := eq_true c_; replace d0 := eq_true d0; obtain ⟨ck, bx, eo54⟩ := Kd.N_slice ac.out; subst eo54) | (go_at_call 26; (with_reducible refine (switchbacklaw17_pick.calls (rd l1 b4) (wrap64 ((al.length : Int) + 1)) b8 _ A44.out).mono ?_); rintro e w' ⟨rfl, ⟨nd, rfl⟩⟩; (try first | exact ⟨rfl, _, World.drewN_drewN _ _ _⟩ | exact ⟨rfl, _, Eq.trans (World.drewN_drewN _ _ _) (congrArg (World.drewN _) (Nat.add_assoc _ _ _))⟩); have q55 : (b8 : Int) ≤ ((al.length : Int) : Int) := uA; obtain ⟨i055, hi055, _, hsz55, _⟩ := info_parts info40; have hroom55 : al.length ≤ bx := (zV ac.out).2.1; have hC55 : Kd.F k40 _ _ ck al.length al := (Kd.V_at (base := w.heap.size) (Kd.N_V ac.out)).2.2; have hcut55 := cut_to (P := Tryd.prog) 22 40 .i64 Tryd.underlying22 hi055 ck al.length bx b8 (uA) q55 hroom55; have hr55 := Kd.F_take (m := (b8 : Int).toNat) hC55 (by omega); have hy55 : cj.length = (b8 : Int).toNat := (by rw [Ny257.out, List.length_take]; omega); rw [← Ny257.out] at hr55; rw [← hy55] at hcut55; have bb := uZ (show Kd.V k40 40 _ w.heap.size _ (.slice ck cj.length bx) cj from Kd.V_mk (by omega) hr55); have HC261 := uZ (show cj.length ≤ bx from by omega); clear hr55 hC55 hroom55 hi055 hsz55; have KY55 := uZ hy55; clear hy55; replace q55 := eq_true q55) | ((with_reducible refine gate_builtin (b := .append) (xs := #[.tmp 88, .tmp 91]) rfl ?_); (try (refine gate_guard (by rfl) ?_; dsimp only)); at_builtin; refine zU k40 (w0 := w) w.heap.size rfl (.tmp 88) (.tmp 91) 22 40 (.agg #[(.int .i64 0), (.int .i64 0), (.int .i64 0), (.int .i64 0), (.int .u32 0), (.int .i64 0), (.slice none 0 0)]) 72 rfl Tryd.underlying22 info40 rfl (by decide) (by omega) (.slice none 0 0) ([] : List (S40)) cj _ _ _ (fun k_ => some k_ ≠ (.slice (some ⟨b5, 0, none⟩) ar.length ba : Value).ownBlock ∧ some k_ ≠ (.slice ax a9.length co8 : Value).ownBlock ∧ some k_ ≠ (.slice ad a8.length ae : Value).ownBlock ∧ some k_ ≠ (.slice af ab.length ag : Value).ownBlock ∧ k_ ≠ a6) (fun k_ => ((fun k_ => some k_ ≠ (.slice (some ⟨b5, 0, none⟩) ar.length ba : Value).ownBlock ∧ some k_ ≠ (.slice ax a9.length co8 : Value).ownBlock ∧ some k_ ≠ (.slice ad a8.length ae : Value).ownBlock ∧ some k_ ≠ (.slice af ab.length ag : Value).ownBlock ∧ k_ ≠ a6)) k_ ∧ some k_ ≠ (.slice none 0 0 : Value).ownBlock) rfl rfl ?aO ?aR (fun _ hk => hk) ?aF ?aB ?aS ?aL ?_; (case aR => exact (by skip; exact Kd.V_F (e := 40) (base := w.heap.size) (zW (e := 40) (base := w.heap.size) (ok' := (fun k_ => ((fun k_ => some k_ ≠ (.slice (some ⟨b5, 0, none⟩) ar.length ba : Value).ownBlock ∧ some k_ ≠ (.slice ax a9.length co8 : Value).ownBlock ∧ some k_ ≠ (.slice ad a8.length ae : Value).ownBlock ∧ some k_ ≠ (.slice af ab.length ag : Value).ownBlock ∧ k_ ≠ a6)) k_ ∧ some k_ ≠ (.slice none 0 0 : Value).ownBlock)) (bb.out) (fun k_ hk => ⟨⟨hk.2, ⟨hk.1.1, ⟨hk.1.2.1, ⟨hk.1.2.2.1, hk.1.2.2.2⟩⟩⟩⟩, (by simp [Value.ownBlock])⟩)))); (case aB => exact (uC HB.out ah.out)); (case aF => exact (fun k_ hk => ⟨yB (zH (uR ai.out)) k_ hk, yB (zH (uR a3.out)) k_ hk, yB (zH (uR a2.out)) k_ hk, yB (zH (uR a4.out)) k_ hk, yC (g := a6) (o := .cells #[.slice ax a9.length co8, .slice ad a8.length ae, .slice af ab.length ag, .int .i64 aj] 27 (0, 0)) (uK a5.out) k_ hk⟩)); (case aO => exact ((Kd.N_nil _ _ _ _ (fun k_ => some k_ ≠ (.slice (some ⟨b5, 0, none⟩) ar.length ba : Value).ownBlock ∧ some k_ ≠ (.slice ax a9.length co8 : Value).ownBlock ∧ some k_ ≠ (.slice ad a8.length ae : Value).ownBlock ∧ some k_ ≠ (.slice af ab.length ag : Value).ownBlock ∧ k_ ≠ a6)))); (case aS => exact (yQ (uC HB.out ah.out))); (case aL => have := LMc47.out; omega); intro v263 w56 ho hb hg hat; rw [← Ny262.out] at ho; have n0_ := uZ (Kd.R_grown (uR ai.out) hg (fun _ _ => by simp [Value.ownBlock])); have n1_ := uZ (zT (Kd.N_apart_nil (uN ac.out)) hg hat); have n2_ := uZ (Kd.R_grown (uR a3.out) hg (fun _ _ => by simp [Value.ownBlock])); have n3_ := uZ (Kd.R_grown (uR a2.out) hg (fun _ _ => by simp [Value.ownBlock])); have n4_ := uZ (Kd.R_grown (uR a4.out) hg (fun _ _ => by simp [Value.ownBlock])); have n5_ := uZ (yN (g := a6) (o := .cells #[.slice ax a9.length co8, .slice ad a8.length ae, .slice af ab.length ag, .int .i64 aj] 27 (0, 0)) (uK a5.out) hg (by simp [Value.ownBlock])); have n6_ := uZ (zX (Kd.V_apart_nil (uV bb.out)) hg hat); have n7_ := uZ (hb); have n8_ := uZ (ho); clear ai; clear ac; clear a3; clear a2; clear a4; clear a5; clear bb; clear HB; have ai := n0_; have ac := n1_; have a3 := n2_; have a2 := n3_; have a4 := n4_; have a5 := n5_; have bb := n6_; have HB := n7_; have bp := n8_; clear n0_ n1_ n2_ n3_ n4_ n5_ n6_ n7_ n8_; clear ho hb hg hat) | ((with_reducible refine gate_builtin (b := .append) (xs := #[.tmp 93, .tmp 96]) rfl ?_); (try (refine gate_guard (by rfl) ?_; dsimp only)); at_builtin; refine Kd.N_append k40 (w0 := w) w.heap.size rfl (.tmp 93) (.tmp 96) 22 40 (.agg #[(.int .i64 0), (.int .i64 0), (.int .i64 0), (.int .i64 0), (.int .u32 0), (.int .i64 0), (.slice none 0 0)]) 72 rfl Tryd.underlying22 info40 rfl (by decide) (by omega) v263 cv (⟨0, 0, 0, 0, 0, ap, ([] : List Int)⟩ : S40) [.int .i64 0, .int .i64 0, .int .i64 0, .int .i64 0, .int .u32 0, .int .i64 ap, .slice none 0 0] (fun k_ => some k_ ≠ (.slice (some ⟨b5, 0, none⟩) ar.length ba : Value).ownBlock ∧ some k_ ≠ (.slice ax a9.length co8 : Value).ownBlock ∧ some k_ ≠ (.slice ad a8.length ae : Value).ownBlock ∧ some k_ ≠ (.slice af ab.length ag : Value).ownBlock ∧ k_ ≠ a6) (fun k_ => ((fun k_ => some k_ ≠ (.slice (some ⟨b5, 0, none⟩) ar.length ba : Value).ownBlock ∧ some k_ ≠ (.slice ax a9.length co8 : Value).ownBlock ∧ some k_ ≠ (.slice ad a8.length ae : Value).ownBlock ∧ some k_ ≠ (.slice af ab.length ag : Value).ownBlock ∧ k_ ≠ a6)) k_ ∧ some k_ ≠ (v263 : Value).ownBlock) rfl rfl ?aP (fun _ hk => hk) ?aF ?aO ?aB ?aS ?aL ?_; (case aP => exact (k40_mkF _ _ (⟨0, 0, 0, 0, 0, ap, ([] : List Int)⟩ : S40) (Nat.le_refl _) (Kd.F_nil _ _ _))); (case aB => exact (uC HB.out ah.out)); (case aF => exact (fun k_ hk => ⟨yB (zH (uR ai.out)) k_ hk, yB (zH (uR a3.out)) k_ hk, yB (zH (uR a2.out)) k_ hk, yB (zH (uR a4.out)) k_ hk, yC (g := a6) (o := .cells #[.slice ax a9.length co8, .slice ad a8.length ae, .slice af ab.length ag, .int .i64 aj] 27 (0, 0)) (uK a5.out) k_ hk⟩)); (case aO => exact (uN bp.out)); (case aS => exact (yQ (uC HB.out ah.out))); (case aL => have := LMc48.out; omega); intro v266 w57 ho hb hg hat; rw [← Ny265.out] at ho; have n0_ := uZ (zI (uR ai.out) (Kd.N_typed (uN bp.out)) (by decide) hg); have n1_ := uZ (zT (ok := (fun k_ => some k_ ≠ (.slice (some ⟨b5, 0, none⟩) ar.length ba : Value).ownBlock ∧ some k_ ≠ (.slice ax a9.length co8 : Value).ownBlock ∧ some k_ ≠ (.slice ad a8.length ae : Value).ownBlock ∧ some k_ ≠ (.slice af ab.length ag : Value).ownBlock ∧ k_ ≠ a6)) (by (with_reducible repeat (first | apply zN | apply zO | apply zP)); exact zS ac.out (fun _ hk => ⟨⟨hk.1.2, ⟨hk.1.1.1, ⟨hk.1.1.2.1, ⟨hk.1.1.2.2.1, hk.1.1.2.2.2⟩⟩⟩⟩, hk.2⟩)) hg hat); have n2_ := uZ (zI (uR a3.out) (Kd.N_typed (uN bp.out)) (by decide) hg); have n3_ := uZ (zI (uR a2.out) (Kd.N_typed (uN bp.out)) (by decide) hg); have n4_ := uZ (zI (uR a4.out) (Kd.N_typed (uN bp.out)) (by decide) hg); have n5_ := uZ (yN (g := a6) (o := .cells #[.slice ax a9.length co8, .slice ad a8.length ae, .slice af ab.length ag, .int .i64 aj] 27 (0, 0)) (uK a5.out) hg (Kd.N_ne bp.out a5.out (by decide))); have n6_ := uZ (zX (ok := (fun k_ => some k_ ≠ (.slice (some ⟨b5, 0, none⟩) ar.length ba : Value).ownBlock ∧ some k_ ≠ (.slice ax a9.length co8 : Value).ownBlock ∧ some k_ ≠ (.slice ad a8.length ae : Value).ownBlock ∧ some k_ ≠ (.slice af ab.length ag : Value).ownBlock ∧ k_ ≠ a6)) (by (with_reducible repeat (first | apply Kd.V_alloc | apply Kd.V_drewN | apply Kd.V_drew)); exact zW bb.out (fun _ hk => ⟨⟨hk.1.2, ⟨hk.1.1.1, ⟨hk.1.1.2.1, ⟨hk.1.1.2.2.1, hk.1.1.2.2.2⟩⟩⟩⟩, hk.2⟩)) hg hat); have n7_ := uZ (hb); have n8_ := uZ (ho); clear ai; clear ac; clear a3; clear a2; clear a4; clear a5; clear bb; clear HB; clear bp; have ai := n0_; have ac := n1_; have a3 := n2_; have a2 := n3_; have a4 := n4_; have a5 := n5_; have bb := n6_; have HB := n7_; have bq := n8_; clear n0_ n1_ n2_ n3_ n4_ n5_ n6_ n7_ n8_; clear ho hb hg hat; have q58 : (b8 : Int) ≤ ((al.length : Int) : Int) := uA; obtain ⟨i058, hi058, _, hsz58, _⟩ := info_parts info40; have hroom58 : al.length ≤ bx := (zV ac.out).2.1; have hC58 : Kd.F k40 _ _ ck al.length al := (Kd.V_at (base := w.heap.size) (Kd.N_V ac.out)).2.2; have q058 : (0 : Int) ≤ (b8 : Int) := uA; have hcut58 := cut_from (P := Tryd.prog) 22 40 .i64 Tryd.underlying22 hi058 7 hsz58 ck al.length bx b8 q058 q58; have ct := Kd.F_cut (m := (b8 : Int).toNat) (c := bx) hC58 (by omega) hroom58; obtain ⟨A58, hA58⟩ : ∃ A1, A1 = (if bx = (b8 : Int).toNat then ck else (ck : Option Addr).map (·.add ((b8 : Int).toNat * 7))) := ⟨_, rfl⟩; obtain ⟨c58, d1⟩ : ∃ c1, c1 = bx - (b8 : Int).toNat := ⟨_, rfl⟩; have cu : bd.length = al.length - (b8 : Int).toNat := (by rw [Ny268.out, List.length_drop] <;> omega); rw [show (al).drop (b8 : Int).toNat = bd from Ny268.out.symm] at ct; replace ct : Kd.F k40 _ _ A58 bd.length bd := (by rw [hA58]; exact ct); rw [← cu, ← hA58, ← d1] at hcut58; have cm := uZ (show Kd.V k40 40 _ w.heap.size _ (.slice A58 bd.length c58) bd from Kd.V_mk (by rw [cu, d1]; exact Nat.sub_le_sub_right hroom58 _) ct); have HC272 := uZ (show bd.length ≤ c58 from by rw [cu, d1]; exact Nat.sub_le_sub_right hroom58 _); clear ct hC58 hroom58 hi058 hsz58 d1; have KY58 := uZ cu; have KA58 := uZ hA58; clear cu hA58; replace q58 := eq_true q58) | ((with_reducible refine gate_builtin (b := .append) (xs := #[.tmp 98, .tmp 101]) rfl ?_); (try (refine gate_guard (by rfl) ?_; dsimp only)); at_builtin; refine zU k40 (w0 := w) w.heap.size rfl (.tmp 98) (.tmp 101) 22 40 (.agg #[(.int .i64 0), (.int .i64 0), (.int .i64 0), (.int .i64 0), (.int .u32 0), (.int .i64 0), (.slice none 0 0)]) 72 rfl Tryd.underlying22 info40 rfl (by decide) (by omega) v266 cn bd _ _ _ (fun k_ => some k_ ≠ (.slice (some ⟨b5, 0, none⟩) ar.length ba : Value).ownBlock ∧ some k_ ≠ (.slice ax a9.length co8 : Value).ownBlock ∧ some k_ ≠ (.slice ad a8.length ae : Value).ownBlock ∧ some k_ ≠ (.slice af ab.length ag : Value).ownBlock ∧ k_ ≠ a6) (fun k_ => ((fun k_ => some k_ ≠ (.slice (some ⟨b5, 0, none⟩) ar.length ba : Value).ownBlock ∧ some k_ ≠ (.slice ax a9.length co8 : Value).ownBlock ∧ some k_ ≠ (.slice ad a8.length ae : Value).ownBlock ∧ some k_ ≠ (.slice af ab.length ag : Value).ownBlock ∧ k_ ≠ a6)) k_ ∧ some k_ ≠ (v266 : Value).ownBlock) rfl rfl ?aO ?aR (fun _ hk => hk) ?aF ?aB ?aS ?aL ?_; (case aR => exact (by skip; exact Kd.V_F (e := 40) (base := w.heap.size) (zW (e := 40) (base := w.heap.size) (ok' := (fun k_ => ((fun k_ => some k_ ≠ (.slice (some ⟨b5, 0, none⟩) ar.length ba : Value).ownBlock ∧ some k_ ≠ (.slice ax a9.length co8 : Value).ownBlock ∧ some k_ ≠ (.slice ad a8.length ae : Value).ownBlock ∧ some k_ ≠ (.slice af ab.length ag : Value).ownBlock ∧ k_ ≠ a6)) k_ ∧ some k_ ≠ (v266 : Value).ownBlock)) (cm.out) (fun k_ hk => ⟨⟨hk.1.1, ⟨hk.1.2.1, ⟨hk.1.2.2.1, ⟨hk.1.2.2.2.1, hk.1.2.2.2.2⟩⟩⟩⟩, hk.2⟩)))); (case aB => exact (uC HB.out ah.out)); (case aF => exact (fun k_ hk => ⟨yB (zH (uR ai.out)) k_ hk, yB (zH (uR a3.out)) k_ hk, yB (zH (uR a2.out)) k_ hk, yB (zH (uR a4.out)) k_ hk, yC (g := a6) (o := .cells #[.slice ax a9.length co8, .slice ad a8.length ae, .slice af ab.length ag, .int .i64 aj] 27 (0, 0)) (uK a5.out) k_ hk⟩)); (case aO => exact (uN bq.out)); (case aS => exact (yQ (uC HB.out ah.out))); (case aL => have := LMc51.out; omega); intro v274 w59 ho hb hg hat; rw [← Ny273.out] at ho; have n0_ := uZ (zI (uR ai.out) (Kd.N_typed (uN bq.out)) (by decide) hg); have n1_ := uZ (zT (ok := (fun k_ => some k_ ≠ (.slice (some ⟨b5, 0, none⟩) ar.length ba : Value).ownBlock ∧ some k_ ≠ (.slice ax a9.length co8 : Value).ownBlock ∧ some k_ ≠ (.slice ad a8.length ae : Value).ownBlock ∧ some k_ ≠ (.slice af ab.length ag : Value).ownBlock ∧ k_ ≠ a6)) (uN ac.out) hg hat); have n2_ := uZ (zI (uR a3.out) (Kd.N_typed (uN bq.out)) (by decide) hg); have n3_ := uZ (zI (uR a2.out) (Kd.N_typed (uN bq.out)) (by decide) hg); have n4_ := uZ (zI (uR a4.out) (Kd.N_typed (uN bq.out)) (by decide) hg); have n5_ := uZ (yN (g := a6) (o := .cells #[.slice ax a9.length co8, .slice ad a8.length ae, .slice af ab.length ag, .int .i64 aj] 27 (0, 0)) (uK a5.out) hg (Kd.N_ne bq.out a5.out (by decide))); have n6_ := uZ (zX (ok := (fun k_ => some k_ ≠ (.slice (some ⟨b5, 0, none⟩) ar.length ba : Value).ownBlock ∧ some k_ ≠ (.slice ax a9.length co8 : Value).ownBlock ∧ some k_ ≠ (.slice ad a8.length ae : Value).ownBlock ∧ some k_ ≠ (.slice af ab.length ag : Value).ownBlock ∧ k_ ≠ a6)) (uV bb.out) hg hat); have n7_ := uZ (zX (ok := (fun k_ => some k_ ≠ (.slice (some ⟨b5, 0, none⟩) ar.length ba : Value).ownBlock ∧ some k_ ≠ (.slice ax a9.length co8 : Value).ownBlock ∧ some k_ ≠ (.slice ad a8.length ae : Value).ownBlock ∧ some k_ ≠ (.slice af ab.length ag : Value).ownBlock ∧ k_ ≠ a6)) (uV cm.out) hg hat); have n8_ := uZ (hb); have n9_ := uZ (ho); clear ai; clear ac; clear a3; clear a2; clear a4; clear a5; clear bb; clear cm; clear HB; clear bq; have ai := n0_; have ac := n1_; have a3 := n2_; have a2 := n3_; have a4 := n4_; have a5 := n5_; have bb := n6_; have cm := n7_; have HB := n8_; have HO275 := n9_; clear n0_ n1_ n2_ n3_ n4_ n5_ n6_ n7_ n8_ n9_; clear ho hb hg hat)); try go_wp2_with (first | ((with_reducible refine gate_store (t := 4) (p := 79) rfl ?_); (try (rw [drewN_self wc]; generalize hq_ : World.drewN wc _ = wc; have n0_ := uZ (Kd.R_at hq_ ai.out); have n1_ := uZ (Kd.N_at hq_ ac.out); have n2_ := uZ (Kd.R_at hq_ a3.out); have n3_ := uZ (Kd.R_at hq_ a2.out); have n4_ := uZ (Kd.R_at hq_ a4.out); have n5_ := uZ (blk_at hq_ a5.out); have n6_ := uZ (below_at hq_ HB.out); clear hq_ ai ac a3 a2 a4 a5 HB; have ai := n0_; have ac := n1_; have a3 := n2_; have a2 := n3_; have a4 := n4_; have a5 := n5_; have HB := n6_; clear n0_ n1_ n2_ n3_ n4_ n5_ n6_; (try (have HP52 := Kd.R_putg ai.out (ap : Int) true)))); refine store_event (t := 4) (p := 79) (v := ?vo_w53) (w1 := (wc.setCell ⟨b5, (ap : Int).toNat, none⟩ (.bool true))) ?hg ?ho ?hn ?hr ?_; (case ho => rfl); (case hg => rfl); (case hn => rfl); (case hr => first | (go_simp; done) | (go_simp; rfl)); intro w53 hw; have hg : wc.grownBy w53 (some b5) := (by rw [hw]; exact HP52.2); have hp_ : Kd.R Kd.bool 4 w53 w.heap.size (fun _ => True) (.slice (some ⟨b5, 0, none⟩) ar.length ba) y254 := (by rw [hw, Ny254.out]; exact HP52.1); clear HP52; have n0_ := uZ (hp_); have n1_ := uZ (zT (v := (.slice (some ⟨b5, 0, none⟩) ar.length ba)) (v1 := (.slice (some ⟨b5, 0, none⟩) ar.length ba)) (ok := (fun k_ => some k_ ≠ (.slice ax a9.length co8 : Value).ownBlock ∧ some k_ ≠ (.slice ad a8.length ae : Value).ownBlock ∧ some k_ ≠ (.slice af ab.length ag : Value).ownBlock ∧ k_ ≠ a6)) (by (with_reducible repeat (first | apply zN | apply zO | apply zP)); exact zS ac.out (fun _ hk => ⟨⟨hk.2.1, ⟨hk.2.2.1, ⟨hk.2.2.2.1, hk.2.2.2.2⟩⟩⟩, hk.1⟩)) hg (.inl rfl)); have n2_ := uZ (zI (v := (.slice (some ⟨b5, 0, none⟩) ar.length ba)) (uR a3.out) (Kd.R_typed ai.out) (by decide) hg); have n3_ := uZ (zI (v := (.slice (some ⟨b5, 0, none⟩) ar.length ba)) (uR a2.out) (Kd.R_typed ai.out) (by decide) hg); have n4_ := uZ (zI (v := (.slice (some ⟨b5, 0, none⟩) ar.length ba)) (uR a4.out) (Kd.R_typed ai.out) (by decide) hg); have n5_ := uZ (yN (g := a6) (o := .cells #[.slice ax a9.length co8, .slice ad a8.length ae, .slice af ab.length ag, .int .i64 aj] 27 (0, 0)) (uK a5.out) hg (Kd.R_ne ai.out a5.out (by decide))); have n6_ := uZ ((by rw [hw]; exact yP (HB.out) GB41.out : Below w.heap.size w w53)); clear ai; clear ac; clear a3; clear a2; clear a4; clear a5; clear HB; have ai := n0_; have ac := n1_; have a3 := n2_; have a2 := n3_; have a4 := n4_; have a5 := n5_; have HB := n6_; clear n0_ n1_ n2_ n3_ n4_ n5_ n6_; clear hg hw hp_; have c_ : 0 ≤ (b4 : Int) := uA; have d0 : b4 < (l1.length : Int) := uA; obtain ⟨ad255, e255, bo⟩ := Kd.at_int HR1.out b4 c_ d0; cases e255; replace bo := (HB.out.cell (yS w _ bo)).trans bo; replace c_ := eq_true c_; replace d0 := eq_true d0; obtain ⟨ck, bx, eo54⟩ := Kd.N_slice ac.out; subst eo54) | (go_at_call 26; (with_reducible refine (switchbacklaw17_pick.calls (rd l1 b4) (wrap64 ((al.length : Int) + 1)) b8 _ A44.out).mono ?_); rintro e w' ⟨rfl, ⟨nd, rfl⟩⟩; (try first | exact ⟨rfl, _, World.drewN_drewN _ _ _⟩ | exact ⟨rfl, _, Eq.trans (World.drewN_drewN _ _ _) (congrArg (World.drewN _) (Nat.add_assoc _ _ _))⟩); have q55 : (b8 : Int) ≤ ((al.length : Int) : Int) := uA; obtain ⟨i055, hi055, _, hsz55, _⟩ := info_parts info40; have hroom55 : al.length ≤ bx := (zV ac.out).2.1; have hC55 : Kd.F k40 _ _ ck al.length al := (Kd.V_at (base := w.heap.size) (Kd.N_V ac.out)).2.2; have hcut55 := cut_to (P := Tryd.prog) 22 40 .i64 Tryd.underlying22 hi055 ck al.length bx b8 (uA) q55 hroom55; have hr55 := Kd.F_take (m := (b8 : Int).toNat) hC55 (by omega); have hy55 : cj.length = (b8 : Int).toNat := (by rw [Ny257.out, List.length_take]; omega); rw [← Ny257.out] at hr55; rw [← hy55] at hcut55; have bb := uZ (show Kd.V k40 40 _ w.heap.size _ (.slice ck cj.length bx) cj from Kd.V_mk (by omega) hr55); have HC261 := uZ (show cj.length ≤ bx from by omega); clear hr55 hC55 hroom55 hi055 hsz55; have KY55 := uZ hy55; clear hy55; replace q55 := eq_true q55) | ((with_reducible refine gate_builtin (b := .append) (xs := #[.tmp 88, .tmp 91]) rfl ?_); (try (refine gate_guard (by rfl) ?_; dsimp only)); at_builtin; refine zU k40 (w0 := w) w.heap.size rfl (.tmp 88) (.tmp 91) 22 40 (.agg #[(.int .i64 0), (.int .i64 0), (.int .i64 0), (.int .i64 0), (.int .u32 0), (.int .i64 0), (.slice none 0 0)]) 72 rfl Tryd.underlying22 info40 rfl (by decide) (by omega) (.slice none 0 0) ([] : List (S40)) cj _ _ _ (fun k_ => some k_ ≠ (.slice (some ⟨b5, 0, none⟩) ar.length ba : Value).ownBlock ∧ some k_ ≠ (.slice ax a9.length co8 : Value).ownBlock ∧ some k_ ≠ (.slice ad a8.length ae : Value).ownBlock ∧ some k_ ≠ (.slice af ab.length ag : Value).ownBlock ∧ k_ ≠ a6) (fun k_ => ((fun k_ => some k_ ≠ (.slice (some ⟨b5, 0, none⟩) ar.length ba : Value).ownBlock ∧ some k_ ≠ (.slice ax a9.length co8 : Value).ownBlock ∧ some k_ ≠ (.slice ad a8.length ae : Value).ownBlock ∧ some k_ ≠ (.slice af ab.length ag : Value).ownBlock ∧ k_ ≠ a6)) k_ ∧ some k_ ≠ (.slice none 0 0 : Value).ownBlock) rfl rfl ?aO ?aR (fun _ hk => hk) ?aF ?aB ?aS ?aL ?_; (case aR => exact (by skip; exact Kd.V_F (e := 40) (base := w.heap.size) (zW (e := 40) (base := w.heap.size) (ok' := (fun k_ => ((fun k_ => some k_ ≠ (.slice (some ⟨b5, 0, none⟩) ar.length ba : Value).ownBlock ∧ some k_ ≠ (.slice ax a9.length co8 : Value).ownBlock ∧ some k_ ≠ (.slice ad a8.length ae : Value).ownBlock ∧ some k_ ≠ (.slice af ab.length ag : Value).ownBlock ∧ k_ ≠ a6)) k_ ∧ some k_ ≠ (.slice none 0 0 : Value).ownBlock)) (bb.out) (fun k_ hk => ⟨⟨hk.2, ⟨hk.1.1, ⟨hk.1.2.1, ⟨hk.1.2.2.1, hk.1.2.2.2⟩⟩⟩⟩, (by simp [Value.ownBlock])⟩)))); (case aB => exact (uC HB.out ah.out)); (case aF => exact (fun k_ hk => ⟨yB (zH (uR ai.out)) k_ hk, yB (zH (uR a3.out)) k_ hk, yB (zH (uR a2.out)) k_ hk, yB (zH (uR a4.out)) k_ hk, yC (g := a6) (o := .cells #[.slice ax a9.length co8, .slice ad a8.length ae, .slice af ab.length ag, .int .i64 aj] 27 (0, 0)) (uK a5.out) k_ hk⟩)); (case aO => exact ((Kd.N_nil _ _ _ _ (fun k_ => some k_ ≠ (.slice (some ⟨b5, 0, none⟩) ar.length ba : Value).ownBlock ∧ some k_ ≠ (.slice ax a9.length co8 : Value).ownBlock ∧ some k_ ≠ (.slice ad a8.length ae : Value).ownBlock ∧ some k_ ≠ (.slice af ab.length ag : Value).ownBlock ∧ k_ ≠ a6)))); (case aS => exact (yQ (uC HB.out ah.out))); (case aL => have := LMc47.out; omega); intro v263 w56 ho hb hg hat; rw [← Ny262.out] at ho; have n0_ := uZ (Kd.R_grown (uR ai.out) hg (fun _ _ => by simp [Value.ownBlock])); have n1_ := uZ (zT (Kd.N_apart_nil (uN ac.out)) hg hat); have n2_ := uZ (Kd.R_grown (uR a3.out) hg (fun _ _ => by simp [Value.ownBlock])); have n3_ := uZ (Kd.R_grown (uR a2.out) hg (fun _ _ => by simp [Value.ownBlock])); have n4_ := uZ (Kd.R_grown (uR a4.out) hg (fun _ _ => by simp [Value.ownBlock])); have n5_ := uZ (yN (g := a6) (o := .cells #[.slice ax a9.length co8, .slice ad a8.length ae, .slice af ab.length ag, .int .i64 aj] 27 (0, 0)) (uK a5.out) hg (by simp [Value.ownBlock])); have n6_ := uZ (zX (Kd.V_apart_nil (uV bb.out)) hg hat); have n7_ := uZ (hb); have n8_ := uZ (ho); clear ai; clear ac; clear a3; clear a2; clear a4; clear a5; clear bb; clear HB; have ai := n0_; have ac := n1_; have a3 := n2_; have a2 := n3_; have a4 := n4_; have a5 := n5_; have bb := n6_; have HB := n7_; have bp := n8_; clear n0_ n1_ n2_ n3_ n4_ n5_ n6_ n7_ n8_; clear ho hb hg hat) | ((with_reducible refine gate_builtin (b := .append) (xs := #[.tmp 93, .tmp 96]) rfl ?_); (try (refine gate_guard (by rfl) ?_; dsimp only)); at_builtin; refine Kd.N_append k40 (w0 := w) w.heap.size rfl (.tmp 93) (.tmp 96) 22 40 (.agg #[(.int .i64 0), (.int .i64 0), (.int .i64 0), (.int .i64 0), (.int .u32 0), (.int .i64 0), (.slice none 0 0)]) 72 rfl Tryd.underlying22 info40 rfl (by decide) (by omega) v263 cv (⟨0, 0, 0, 0, 0, ap, ([] : List Int)⟩ : S40) [.int .i64 0, .int .i64 0, .int .i64 0, .int .i64 0, .int .u32 0, .int .i64 ap, .slice none 0 0] (fun k_ => some k_ ≠ (.slice (some ⟨b5, 0, none⟩) ar.length ba : Value).ownBlock ∧ some k_ ≠ (.slice ax a9.length co8 : Value).ownBlock ∧ some k_ ≠ (.slice ad a8.length ae : Value).ownBlock ∧ some k_ ≠ (.slice af ab.length ag : Value).ownBlock ∧ k_ ≠ a6) (fun k_ => ((fun k_ => some k_ ≠ (.slice (some ⟨b5, 0, none⟩) ar.length ba : Value).ownBlock ∧ some k_ ≠ (.slice ax a9.length co8 : Value).ownBlock ∧ some k_ ≠ (.slice ad a8.length ae : Value).ownBlock ∧ some k_ ≠ (.slice af ab.length ag : Value).ownBlock ∧ k_ ≠ a6)) k_ ∧ some k_ ≠ (v263 : Value).ownBlock) rfl rfl ?aP (fun _ hk => hk) ?aF ?aO ?aB ?aS ?aL ?_; (case aP => exact (k40_mkF _ _ (⟨0, 0, 0, 0, 0, ap, ([] : List Int)⟩ : S40) (Nat.le_refl _) (Kd.F_nil _ _ _))); (case aB => exact (uC HB.out ah.out)); (case aF => exact (fun k_ hk => ⟨yB (zH (uR ai.out)) k_ hk, yB (zH (uR a3.out)) k_ hk, yB (zH (uR a2.out)) k_ hk, yB (zH (uR a4.out)) k_ hk, yC (g := a6) (o := .cells #[.slice ax a9.length co8, .slice ad a8.length ae, .slice af ab.length ag, .int .i64 aj] 27 (0, 0)) (uK a5.out) k_ hk⟩)); (case aO => exact (uN bp.out)); (case aS => exact (yQ (uC HB.out ah.out))); (case aL => have := LMc48.out; omega); intro v266 w57 ho hb hg hat; rw [← Ny265.out] at ho; have n0_ := uZ (zI (uR ai.out) (Kd.N_typed (uN bp.out)) (by decide) hg); have n1_ := uZ (zT (ok := (fun k_ => some k_ ≠ (.slice (some ⟨b5, 0, none⟩) ar.length ba : Value).ownBlock ∧ some k_ ≠ (.slice ax a9.length co8 : Value).ownBlock ∧ some k_ ≠ (.slice ad a8.length ae : Value).ownBlock ∧ some k_ ≠ (.slice af ab.length ag : Value).ownBlock ∧ k_ ≠ a6)) (by (with_reducible repeat (first | apply zN | apply zO | apply zP)); exact zS ac.out (fun _ hk => ⟨⟨hk.1.2, ⟨hk.1.1.1, ⟨hk.1.1.2.1, ⟨hk.1.1.2.2.1, hk.1.1.2.2.2⟩⟩⟩⟩, hk.2⟩)) hg hat); have n2_ := uZ (zI (uR a3.out) (Kd.N_typed (uN bp.out)) (by decide) hg); have n3_ := uZ (zI (uR a2.out) (Kd.N_typed (uN bp.out)) (by decide) hg); have n4_ := uZ (zI (uR a4.out) (Kd.N_typed (uN bp.out)) (by decide) hg); have n5_ := uZ (yN (g := a6) (o := .cells #[.slice ax a9.length co8, .slice ad a8.length ae, .slice af ab.length ag, .int .i64 aj] 27 (0, 0)) (uK a5.out) hg (Kd.N_ne bp.out a5.out (by decide))); have n6_ := uZ (zX (ok := (fun k_ => some k_ ≠ (.slice (some ⟨b5, 0, none⟩) ar.length ba : Value).ownBlock ∧ some k_ ≠ (.slice ax a9.length co8 : Value).ownBlock ∧ some k_ ≠ (.slice ad a8.length ae : Value).ownBlock ∧ some k_ ≠ (.slice af ab.length ag : Value).ownBlock ∧ k_ ≠ a6)) (by (with_reducible repeat (first | apply Kd.V_alloc | apply Kd.V_drewN | apply Kd.V_drew)); exact zW bb.out (fun _ hk => ⟨⟨hk.1.2, ⟨hk.1.1.1, ⟨hk.1.1.2.1, ⟨hk.1.1.2.2.1, hk.1.1.2.2.2⟩⟩⟩⟩, hk.2⟩)) hg hat); have n7_ := uZ (hb); have n8_ := uZ (ho); clear ai; clear ac; clear a3; clear a2; clear a4; clear a5; clear bb; clear HB; clear bp; have ai := n0_; have ac := n1_; have a3 := n2_; have a2 := n3_; have a4 := n4_; have a5 := n5_; have bb := n6_; have HB := n7_; have bq := n8_; clear n0_ n1_ n2_ n3_ n4_ n5_ n6_ n7_ n8_; clear ho hb hg hat; have q58 : (b8 : Int) ≤ ((al.length : Int) : Int) := uA; obtain ⟨i058, hi058, _, hsz58, _⟩ := info_parts info40; have hroom58 : al.length ≤ bx := (zV ac.out).2.1; have hC58 : Kd.F k40 _ _ ck al.length al := (Kd.V_at (base := w.heap.size) (Kd.N_V ac.out)).2.2; have q058 : (0 : Int) ≤ (b8 : Int) := uA; have hcut58 := cut_from (P := Tryd.prog) 22 40 .i64 Tryd.underlying22 hi058 7 hsz58 ck al.length bx b8 q058 q58; have ct := Kd.F_cut (m := (b8 : Int).toNat) (c := bx) hC58 (by omega) hroom58; obtain ⟨A58, hA58⟩ : ∃ A1, A1 = (if bx = (b8 : Int).toNat then ck else (ck : Option Addr).map (·.add ((b8 : Int).toNat * 7))) := ⟨_, rfl⟩; obtain ⟨c58, d1⟩ : ∃ c1, c1 = bx - (b8 : Int).toNat := ⟨_, rfl⟩; have cu : bd.length = al.length - (b8 : Int).toNat := (by rw [Ny268.out, List.length_drop] <;> omega); rw [show (al).drop (b8 : Int).toNat = bd from Ny268.out.symm] at ct; replace ct : Kd.F k40 _ _ A58 bd.length bd := (by rw [hA58]; exact ct); rw [← cu, ← hA58, ← d1] at hcut58; have cm := uZ (show Kd.V k40 40 _ w.heap.size _ (.slice A58 bd.length c58) bd from Kd.V_mk (by rw [cu, d1]; exact Nat.sub_le_sub_right hroom58 _) ct); have HC272 := uZ (show bd.length ≤ c58 from by rw [cu, d1]; exact Nat.sub_le_sub_right hroom58 _); clear ct hC58 hroom58 hi058 hsz58 d1; have KY58 := uZ cu; have KA58 := uZ hA58; clear cu hA58; replace q58 := eq_true q58) | ((with_reducible refine gate_builtin (b := .append) (xs := #[.tmp 98, .tmp 101]) rfl ?_); (try (refine gate_guard (by rfl) ?_; dsimp only)); at_builtin; refine zU k40 (w0 := w) w.heap.size rfl (.tmp 98) (.tmp 101) 22 40 (.agg #[(.int .i64 0), (.int .i64 0), (.int .i64 0), (.int .i64 0), (.int .u32 0), (.int .i64 0), (.slice none 0 0)]) 72 rfl Tryd.underlying22 info40 rfl (by decide) (by omega) v266 cn bd _ _ _ (fun k_ => some k_ ≠ (.slice (some ⟨b5, 0, none⟩) ar.length ba : Value).ownBlock ∧ some k_ ≠ (.slice ax a9.length co8 : Value).ownBlock ∧ some k_ ≠ (.slice ad a8.length ae : Value).ownBlock ∧ some k_ ≠ (.slice af ab.length ag : Value).ownBlock ∧ k_ ≠ a6) (fun k_ => ((fun k_ => some k_ ≠ (.slice (some ⟨b5, 0, none⟩) ar.length ba : Value).ownBlock ∧ some k_ ≠ (.slice ax a9.length co8 : Value).ownBlock ∧ some k_ ≠ (.slice ad a8.length ae : Value).ownBlock ∧ some k_ ≠ (.slice af ab.length ag : Value).ownBlock ∧ k_ ≠ a6)) k_ ∧ some k_ ≠ (v266 : Value).ownBlock) rfl rfl ?aO ?aR (fun _ hk => hk) ?aF ?aB ?aS ?aL ?_; (case aR => exact (by skip; exact Kd.V_F (e := 40) (base := w.heap.size) (zW (e := 40) (base := w.heap.size) (ok' := (fun k_ => ((fun k_ => some k_ ≠ (.slice (some ⟨b5, 0, none⟩) ar.length ba : Value).ownBlock ∧ some k_ ≠ (.slice ax a9.length co8 : Value).ownBlock ∧ some k_ ≠ (.slice ad a8.length ae : Value).ownBlock ∧ some k_ ≠ (.slice af ab.length ag : Value).ownBlock ∧ k_ ≠ a6)) k_ ∧ some k_ ≠ (v266 : Value).ownBlock)) (cm.out) (fun k_ hk => ⟨⟨hk.1.1, ⟨hk.1.2.1, ⟨hk.1.2.2.1, ⟨hk.1.2.2.2.1, hk.1.2.2.2.2⟩⟩⟩⟩, hk.2⟩)))); (case aB => exact (uC HB.out ah.out)); (case aF => exact (fun k_ hk => ⟨yB (zH (uR ai.out)) k_ hk, yB (zH (uR a3.out)) k_ hk, yB (zH (uR a2.out)) k_ hk, yB (zH (uR a4.out)) k_ hk, yC (g := a6) (o := .cells #[.slice ax a9.length co8, .slice ad a8.length ae, .slice af ab.length ag, .int .i64 aj] 27 (0, 0)) (uK a5.out) k_ hk⟩)); (case aO => exact (uN bq.out)); (case aS => exact (yQ (uC HB.out ah.out))); (case aL => have := LMc51.out; omega); intro v274 w59 ho hb hg hat; rw [← Ny273.out] at ho; have n0_ := uZ (zI (uR ai.out) (Kd.N_typed (uN bq.out)) (by decide) hg); have n1_ := uZ (zT (ok := (fun k_ => some k_ ≠ (.slice (some ⟨b5, 0, none⟩) ar.length ba : Value).ownBlock ∧ some k_ ≠ (.slice ax a9.length co8 : Value).ownBlock ∧ some k_ ≠ (.slice ad a8.length ae : Value).ownBlock ∧ some k_ ≠ (.slice af ab.length ag : Value).ownBlock ∧ k_ ≠ a6)) (uN ac.out) hg hat); have n2_ := uZ (zI (uR a3.out) (Kd.N_typed (uN bq.out)) (by decide) hg); have n3_ := uZ (zI (uR a2.out) (Kd.N_typed (uN bq.out)) (by decide) hg); have n4_ := uZ (zI (uR a4.out) (Kd.N_typed (uN bq.out)) (by decide) hg); have n5_ := uZ (yN (g := a6) (o := .cells #[.slice ax a9.length co8, .slice ad a8.length ae, .slice af ab.length ag, .int .i64 aj] 27 (0, 0)) (uK a5.out) hg (Kd.N_ne bq.out a5.out (by decide))); have n6_ := uZ (zX (ok := (fun k_ => some k_ ≠ (.slice (some ⟨b5, 0, none⟩) ar.length ba : Value).ownBlock ∧ some k_ ≠ (.slice ax a9.length co8 : Value).ownBlock ∧ some k_ ≠ (.slice ad a8.length ae : Value).ownBlock ∧ some k_ ≠ (.slice af ab.length ag : Value).ownBlock ∧ k_ ≠ a6)) (uV bb.out) hg hat); have n7_ := uZ (zX (ok := (fun k_ => some k_ ≠ (.slice (some ⟨b5, 0, none⟩) ar.length ba : Value).ownBlock ∧ some k_ ≠ (.slice ax a9.length co8 : Value).ownBlock ∧ some k_ ≠ (.slice ad a8.length ae : Value).ownBlock ∧ some k_ ≠ (.slice af ab.length ag : Value).ownBlock ∧ k_ ≠ a6)) (uV cm.out) hg hat); have n8_ := uZ (hb); have n9_ := uZ (ho); clear ai; clear ac; clear a3; clear a2; clear a4; clear a5; clear bb; clear cm; clear HB; clear bq; have ai := n0_; have ac := n1_; have a3 := n2_; have a2 := n3_; have a4 := n4_; have a5 := n5_; have bb := n6_; have cm := n7_; have HB := n8_; have HO275 := n9_; clear n0_ n1_ n2_ n3_ n4_ n5_ n6_ n7_ n8_ n9_; clear ho hb hg hat)))
                      go_roundg kj29
                      case measure => have := HK1.out; have := HK2.out; have := HJ24.out; have := HJ29.out; omega
                      case rel => exact ⟨(y254), (y273), (ap), (wrap64 (b4 + 1)), (by first | rfl | (simp; done) | (simp [*]; done)), (by first | rfl | (simp; done) | (simp [*]; done)), H', ⟨by have := HK1.out; have := HK2.out; have := HJ24.out; have := HJ29.out; omega⟩, ⟨uR ai.out⟩, ⟨uN HO275.out⟩, ⟨uR a3.out⟩, ⟨uR a2.out⟩, ⟨uR a4.out⟩, ⟨uK a5.out⟩, ⟨uC HB.out ah.out⟩⟩
                     rw [if_neg c51] at H
                     exact absurd H (by simp)
                    rw [if_neg c48] at H
                    exact absurd H (by simp)
                   rw [if_neg c47] at H
                   exact absurd H (by simp)
                  rw [if_neg c46] at H
                  exact absurd H (by simp)
                 rw [if_neg c45] at H
                 exact absurd H (by simp)
                rw [if_neg c43] at H
                exact absurd H (by simp)
               rw [if_neg c42] at H
               exact absurd H (by simp)
              rw [if_neg c40] at H
              exact absurd H (by simp)
             rw [if_neg c39] at H
             exact absurd H (by simp)
          replace c29 := Bool.eq_false_iff.mpr c29
          subst c29
          have H1 : (switchbacklaw17_RelaxLabels.j5 kj24 al a9 a8 ab aj) = some r := by rw [if_neg (show ¬ (false = true) by decide)] at H; exact H
          clear H
          have H := H1
          clear H1
          have H' := uZ H
          clear H
          go_wp2
          repeat (go_quiet (fail); try go_wp2)
          go_meet
          case rel => exact ⟨_, (al), H', ⟨by have := HK1.out; have := HK2.out; have := HJ24.out; first | omega | exact Nat.le_refl _⟩, ⟨by (with_reducible repeat (first | apply zN | apply zO | apply zP)); exact zS ac.out (fun _ hk => ⟨hk.2.1, ⟨hk.2.2.1, ⟨hk.2.2.2.1, hk.2.2.2.2⟩⟩⟩)⟩, ⟨uR a3.out⟩, ⟨uR a2.out⟩, ⟨uR a4.out⟩, ⟨uK a5.out⟩, ⟨uC HB.out ah.out⟩⟩
     case rest =>
      clear HC23
      try clear c1
      try clear p1
      try clear q1
      try clear hx1
      try clear c2
      try clear p2
      try clear q2
      try clear hx2
      try clear c3
      try clear q3
      try clear c4
      try clear c4b0
      try clear c4b1
      try clear p4
      try clear q4
      try clear hx4
      try clear hf4
      try clear c5
      try clear c5b0
      try clear c5b1
      try clear q5
      try clear c6
      try clear p6
      try clear c14
      try clear c14b0
      try clear c15
      try clear c15b0
      try clear c16
      try clear c16b0
      try clear c16b1
      try clear c17
      try clear c17b0
      try clear c18
      try clear c18b0
      try clear p19
      try clear q19
      try clear hx19
      try clear hf19
      try clear c24
      try clear p24
      try clear q24
      try clear hx24
      try clear p25
      try clear q25
      try clear hx25
      try clear c26
      try clear c26b0
      try clear c27
      try clear c27b0
      try clear c29
      try clear c31
      try clear c31b0
      try clear c32
      try clear c32b0
      try clear c33
      try clear c33b0
      try clear q34
      try clear c35
      try clear c38
      try clear c38b0
      try clear c38b1
      try clear c39
      try clear c39b0
      try clear c40
      try clear c40b0
      try clear p41
      try clear q41
      try clear hx41
      try clear hf41
      try clear c42
      try clear c42b0
      try clear c43
      try clear c43b0
      try clear c45
      try clear c45b0
      try clear c45b1
      try clear c46
      try clear c46b0
      try clear c46b1
      try clear c47
      try clear c48
      try clear c49
      try clear c49b0
      try clear c50
      try clear c50b0
      try clear c51
      try clear q55
      try clear c58
      try clear q58
      try clear hcz9_0
      try clear hcz9_1
      try clear hcz9_2
      try clear hcz9_3
      try clear hfz9_0
      try clear hfz9_1
      try clear hfz9_2
      try clear hfz9_3
      try clear cw
      try clear bh
      try clear bi
      try clear bj
      try clear bk
      try clear bl
      try clear bm
      try clear bg
      try clear cb
      try clear cc
      try clear cd
      try clear ce
      try clear cf
      try clear cg
      try clear bw
      try clear co
      try clear bo
      try clear hx41_0
      try clear p1
      try clear p19
      try clear p2
      try clear p24
      try clear cy
      try clear p248
      try clear p25
      try clear p253
      try clear c_
      try clear p41
      try clear p6
      try clear q058
      try clear q1
      try clear q19
      try clear q2
      try clear q24
      try clear cz
      try clear q248
      try clear q25
      try clear q253
      try clear d0
      try clear q3
      try clear q34
      try clear q41
      try clear q55
      try clear q58
      obtain ⟨kq, be, HA, HJ22, ac, a3, a2, a4, a5, HB⟩ := hcut
      cases kq with
      | zero => exact absurd HA.out (by simp [switchbacklaw17_RelaxLabels.j5])
      | succ kj22 =>
       have H := HA.out
       clear HA
       simp only [switchbacklaw17_RelaxLabels.j5] at H
       replace H := Option.bind_eq_some_iff.mp H
       obtain ⟨⟨am, an, av, b9, t286, t287⟩, A600, H⟩ := H
       replace H : (if t286 = 0 then (if t287 = 0 then (if (am.length : Int) = (a9.length : Int) then (if (an.length : Int) = (a8.length : Int) then (switchbacklaw17_RelaxLabels.j6 kj22 be (b9 != aj) a9 a8 ab aj am an av b9) else (switchbacklaw17_RelaxLabels.j6 kj22 be true a9 a8 ab aj am an av b9)) else (switchbacklaw17_RelaxLabels.j6 kj22 be true a9 a8 ab aj am an av b9)) else (switchbacklaw17_RelaxLabels.j6 kj22 be true a9 a8 ab aj am an av b9)) else (switchbacklaw17_RelaxLabels.j6 kj22 be true a9 a8 ab aj am an av b9)) = some r := H
       have A60 := uZ A600
       clear A600
       have HC61 := uZ H
       clear H
       obtain ⟨Ao62, co62, eo62⟩ := Kd.N_slice ac.out
       subst eo62
       go_upto_region 25 with (first | (go_at_call 19; (with_reducible refine (relax_Assemble.calls _ _ be am an av b9 t286 t287 _ ?side1 ?side2 (uZ (hLaid_.out.below (by repeat (first | (with_reducible first | exact HB.out | apply yH | apply yG | apply yI) | refine yP ?_ (Aside0.out (by assumption)) | exact HB.out)))) A60.out).mono ?_); (case side1 => repeat (first | exact (zV ac.out).2.2 | (with_reducible refine zY ?_ _) | (with_reducible refine zZ ?_ _) | (with_reducible refine yA ?_))); (case side2 => exact (zV ac.out).2.1); rintro e w63 ⟨v277, v280, v283, rfl, ho0, ho1, ho2, hb⟩; have n0_ := uZ (zS (Kd.N_told (Kd.N_told (Kd.N_told (Kd.N_old (uN ac.out) hb) (zJ ho0)) (zJ ho1)) (zJ ho2)) (fun _ h_ => h_.1)); have n1_ := uZ (Kd.R_elder' (uR a3.out) (zJ ho0) hb); have n2_ := uZ (zF (Kd.R_told (Kd.R_told (Kd.R_old (uR a2.out) hb) (zJ ho1)) (zJ ho2)) (fun _ h_ => h_.1)); have n3_ := uZ (zF (Kd.R_told (Kd.R_told (Kd.R_old (uR a4.out) hb) (zJ ho1)) (zJ ho2)) (fun _ h_ => h_.1)); have n4_ := uZ (zK (Kd.R_new' ho0 (zH (uR a3.out))) (yQ (uC HB.out ah.out))); have n5_ := uZ (zK (Kd.R_new' (Kd.R_new' ho1 (zH (uR a2.out))) (zH (uR a4.out))) (yQ (uC HB.out ah.out))); have n6_ := uZ (zK (Kd.R_new' (Kd.R_new' ho2 (zH (uR a2.out))) (zH (uR a4.out))) (yQ (uC HB.out ah.out))); have n7_ := uZ (yO (g := a6) (o := .cells #[.slice ax a9.length co8, .slice ad a8.length ae, .slice af ab.length ag, .int .i64 aj] 27 (0, 0)) (uK a5.out) hb); have n8_ := uZ (yR (uC HB.out ah.out) hb); clear ac; clear a3; clear a2; clear a4; clear a5; clear HB; have ac := n0_; have a3 := n1_; have a2 := n2_; have a4 := n3_; have bz := n4_; have c9 := n5_; have ca := n6_; have a5 := n7_; have HB := n8_; clear n0_ n1_ n2_ n3_ n4_ n5_ n6_ n7_ n8_; (try clear hb); (try clear hb2); (try clear hk); (try clear hi); (try clear ho0); (try clear ho1); (try clear ho2)) | ((with_reducible refine gate_dst (N := 15) rfl ?_); (try (refine gate_guard (by rfl) ?_; dsimp only)); refine box_event ?hg (N := 15) ?hd (cs := #[.slice none 0 0, .slice none 0 0, .slice none 0 0, .int .i64 0]) (t := 27) ?hr ?_; (case hd => rfl); (case hg => rfl); (case hr => first | (go_simp; done) | (go_simp; rfl)); intro a7 hg cp hbox hb; have n0_ := uZ (zR (Kd.N_elderB (uN ac.out) a7 (Nat.le_of_eq hg.symm)) hb); have n1_ := uZ (zE (uR a3.out) hb); have n2_ := uZ (zE (uR a2.out) hb); have n3_ := uZ (zE (uR a4.out) hb); have n4_ := uZ (zE (uR bz.out) hb); have n5_ := uZ (zE (uR c9.out) hb); have n6_ := uZ (zE (uR ca.out) hb); have n7_ := uZ (yO (g := a6) (o := .cells #[.slice ax a9.length co8, .slice ad a8.length ae, .slice af ab.length ag, .int .i64 aj] 27 (0, 0)) (uK a5.out) hb); have n8_ := uZ (yR (uC HB.out ah.out) hb); have n9_ := uZ (hbox); have n10_ := uZ ((by rw [hg]; exact (yQ (uC HB.out ah.out)) : w.heap.size ≤ a7)); have n11_ := uZ ((by rw [hg]; exact (yQ (uC HB.out ah.out)) : w.heap.size ≤ a7)); have n12_ := uZ ((by rw [hg]; exact Nat.ne_of_lt (blk_lt (g := a6) (o := .cells #[.slice ax a9.length co8, .slice ad a8.length ae, .slice af ab.length ag, .int .i64 aj] 27 (0, 0)) (uK a5.out)) : a6 ≠ a7)); have n13_ := uZ ((by rw [hg]; exact Nat.ne_of_gt (blk_lt (g := a6) (o := .cells #[.slice ax a9.length co8, .slice ad a8.length ae, .slice af ab.length ag, .int .i64 aj] 27 (0, 0)) (uK a5.out)) : a7 ≠ a6)); clear ac; clear a3; clear a2; clear a4; clear bz; clear c9; clear ca; clear a5; clear HB; have ac := n0_; have a3 := n1_; have a2 := n2_; have a4 := n3_; have bz := n4_; have c9 := n5_; have ca := n6_; have a5 := n7_; have HB := n8_; have aa := n9_; have GW288 := n10_; have bt := n11_; have ak := n12_; have bc := n13_; clear n0_ n1_ n2_ n3_ n4_ n5_ n6_ n7_ n8_ n9_ n10_ n11_ n12_ n13_; clear hb hbox hg; obtain ⟨b0, b1, eo65⟩ := zL bz.out; subst eo65; have hnb66 := bc.out; have hnc66 := ak.out; have hcz67_0 : cp.cell? ⟨a7, 0, none⟩ = some (.slice none 0 0) := (yK aa.out 0).trans rfl; have hcz67_1 : cp.cell? ⟨a7, 1, none⟩ = some (.slice none 0 0) := (yK aa.out 1).trans rfl; have hcz67_2 : cp.cell? ⟨a7, 2, none⟩ = some (.slice none 0 0) := (yK aa.out 2).trans rfl; have hcz67_3 : cp.cell? ⟨a7, 3, none⟩ = some (.int .i64 0) := (yK aa.out 3).trans rfl; have hfz67_0 := yJ aa.out 0; have hfz67_1 := yJ aa.out 1; have hfz67_2 := yJ aa.out 2; have hfz67_3 := yJ aa.out 3; obtain ⟨b2, b3, eo68⟩ := zL c9.out; subst eo68; obtain ⟨b6, b7, eo69⟩ := zL ca.out; subst eo69))
       repeat (go_quiet (first | (go_at_call 19; (with_reducible refine (relax_Assemble.calls _ _ be am an av b9 t286 t287 _ ?side1 ?side2 (uZ (hLaid_.out.below (by repeat (first | (with_reducible first | exact HB.out | apply yH | apply yG | apply yI) | refine yP ?_ (Aside0.out (by assumption)) | exact HB.out)))) A60.out).mono ?_); (case side1 => repeat (first | exact (zV ac.out).2.2 | (with_reducible refine zY ?_ _) | (with_reducible refine zZ ?_ _) | (with_reducible refine yA ?_))); (case side2 => exact (zV ac.out).2.1); rintro e w63 ⟨v277, v280, v283, rfl, ho0, ho1, ho2, hb⟩; have n0_ := uZ (zS (Kd.N_told (Kd.N_told (Kd.N_told (Kd.N_old (uN ac.out) hb) (zJ ho0)) (zJ ho1)) (zJ ho2)) (fun _ h_ => h_.1)); have n1_ := uZ (Kd.R_elder' (uR a3.out) (zJ ho0) hb); have n2_ := uZ (zF (Kd.R_told (Kd.R_told (Kd.R_old (uR a2.out) hb) (zJ ho1)) (zJ ho2)) (fun _ h_ => h_.1)); have n3_ := uZ (zF (Kd.R_told (Kd.R_told (Kd.R_old (uR a4.out) hb) (zJ ho1)) (zJ ho2)) (fun _ h_ => h_.1)); have n4_ := uZ (zK (Kd.R_new' ho0 (zH (uR a3.out))) (yQ (uC HB.out ah.out))); have n5_ := uZ (zK (Kd.R_new' (Kd.R_new' ho1 (zH (uR a2.out))) (zH (uR a4.out))) (yQ (uC HB.out ah.out))); have n6_ := uZ (zK (Kd.R_new' (Kd.R_new' ho2 (zH (uR a2.out))) (zH (uR a4.out))) (yQ (uC HB.out ah.out))); have n7_ := uZ (yO (g := a6) (o := .cells #[.slice ax a9.length co8, .slice ad a8.length ae, .slice af ab.length ag, .int .i64 aj] 27 (0, 0)) (uK a5.out) hb); have n8_ := uZ (yR (uC HB.out ah.out) hb); clear ac; clear a3; clear a2; clear a4; clear a5; clear HB; have ac := n0_; have a3 := n1_; have a2 := n2_; have a4 := n3_; have bz := n4_; have c9 := n5_; have ca := n6_; have a5 := n7_; have HB := n8_; clear n0_ n1_ n2_ n3_ n4_ n5_ n6_ n7_ n8_; (try clear hb); (try clear hb2); (try clear hk); (try clear hi); (try clear ho0); (try clear ho1); (try clear ho2)) | ((with_reducible refine gate_dst (N := 15) rfl ?_); (try (refine gate_guard (by rfl) ?_; dsimp only)); refine box_event ?hg (N := 15) ?hd (cs := #[.slice none 0 0, .slice none 0 0, .slice none 0 0, .int .i64 0]) (t := 27) ?hr ?_; (case hd => rfl); (case hg => rfl); (case hr => first | (go_simp; done) | (go_simp; rfl)); intro a7 hg cp hbox hb; have n0_ := uZ (zR (Kd.N_elderB (uN ac.out) a7 (Nat.le_of_eq hg.symm)) hb); have n1_ := uZ (zE (uR a3.out) hb); have n2_ := uZ (zE (uR a2.out) hb); have n3_ := uZ (zE (uR a4.out) hb); have n4_ := uZ (zE (uR bz.out) hb); have n5_ := uZ (zE (uR c9.out) hb); have n6_ := uZ (zE (uR ca.out) hb); have n7_ := uZ (yO (g := a6) (o := .cells #[.slice ax a9.length co8, .slice ad a8.length ae, .slice af ab.length ag, .int .i64 aj] 27 (0, 0)) (uK a5.out) hb); have n8_ := uZ (yR (uC HB.out ah.out) hb); have n9_ := uZ (hbox); have n10_ := uZ ((by rw [hg]; exact (yQ (uC HB.out ah.out)) : w.heap.size ≤ a7)); have n11_ := uZ ((by rw [hg]; exact (yQ (uC HB.out ah.out)) : w.heap.size ≤ a7)); have n12_ := uZ ((by rw [hg]; exact Nat.ne_of_lt (blk_lt (g := a6) (o := .cells #[.slice ax a9.length co8, .slice ad a8.length ae, .slice af ab.length ag, .int .i64 aj] 27 (0, 0)) (uK a5.out)) : a6 ≠ a7)); have n13_ := uZ ((by rw [hg]; exact Nat.ne_of_gt (blk_lt (g := a6) (o := .cells #[.slice ax a9.length co8, .slice ad a8.length ae, .slice af ab.length ag, .int .i64 aj] 27 (0, 0)) (uK a5.out)) : a7 ≠ a6)); clear ac; clear a3; clear a2; clear a4; clear bz; clear c9; clear ca; clear a5; clear HB; have ac := n0_; have a3 := n1_; have a2 := n2_; have a4 := n3_; have bz := n4_; have c9 := n5_; have ca := n6_; have a5 := n7_; have HB := n8_; have aa := n9_; have GW288 := n10_; have bt := n11_; have ak := n12_; have bc := n13_; clear n0_ n1_ n2_ n3_ n4_ n5_ n6_ n7_ n8_ n9_ n10_ n11_ n12_ n13_; clear hb hbox hg; obtain ⟨b0, b1, eo65⟩ := zL bz.out; subst eo65; have hnb66 := bc.out; have hnc66 := ak.out; have hcz67_0 : cp.cell? ⟨a7, 0, none⟩ = some (.slice none 0 0) := (yK aa.out 0).trans rfl; have hcz67_1 : cp.cell? ⟨a7, 1, none⟩ = some (.slice none 0 0) := (yK aa.out 1).trans rfl; have hcz67_2 : cp.cell? ⟨a7, 2, none⟩ = some (.slice none 0 0) := (yK aa.out 2).trans rfl; have hcz67_3 : cp.cell? ⟨a7, 3, none⟩ = some (.int .i64 0) := (yK aa.out 3).trans rfl; have hfz67_0 := yJ aa.out 0; have hfz67_1 := yJ aa.out 1; have hfz67_2 := yJ aa.out 2; have hfz67_3 := yJ aa.out 3; obtain ⟨b2, b3, eo68⟩ := zL c9.out; subst eo68; obtain ⟨b6, b7, eo69⟩ := zL ca.out; subst eo69)); go_upto_region 25 with (first | (go_at_call 19; (with_reducible refine (relax_Assemble.calls _ _ be am an av b9 t286 t287 _ ?side1 ?side2 (uZ (hLaid_.out.below (by repeat (first | (with_reducible first | exact HB.out | apply yH | apply yG | apply yI) | refine yP ?_ (Aside0.out (by assumption)) | exact HB.out)))) A60.out).mono ?_); (case side1 => repeat (first | exact (zV ac.out).2.2 | (with_reducible refine zY ?_ _) | (with_reducible refine zZ ?_ _) | (with_reducible refine yA ?_))); (case side2 => exact (zV ac.out).2.1); rintro e w63 ⟨v277, v280, v283, rfl, ho0, ho1, ho2, hb⟩; have n0_ := uZ (zS (Kd.N_told (Kd.N_told (Kd.N_told (Kd.N_old (uN ac.out) hb) (zJ ho0)) (zJ ho1)) (zJ ho2)) (fun _ h_ => h_.1)); have n1_ := uZ (Kd.R_elder' (uR a3.out) (zJ ho0) hb); have n2_ := uZ (zF (Kd.R_told (Kd.R_told (Kd.R_old (uR a2.out) hb) (zJ ho1)) (zJ ho2)) (fun _ h_ => h_.1)); have n3_ := uZ (zF (Kd.R_told (Kd.R_told (Kd.R_old (uR a4.out) hb) (zJ ho1)) (zJ ho2)) (fun _ h_ => h_.1)); have n4_ := uZ (zK (Kd.R_new' ho0 (zH (uR a3.out))) (yQ (uC HB.out ah.out))); have n5_ := uZ (zK (Kd.R_new' (Kd.R_new' ho1 (zH (uR a2.out))) (zH (uR a4.out))) (yQ (uC HB.out ah.out))); have n6_ := uZ (zK (Kd.R_new' (Kd.R_new' ho2 (zH (uR a2.out))) (zH (uR a4.out))) (yQ (uC HB.out ah.out))); have n7_ := uZ (yO (g := a6) (o := .cells #[.slice ax a9.length co8, .slice ad a8.length ae, .slice af ab.length ag, .int .i64 aj] 27 (0, 0)) (uK a5.out) hb); have n8_ := uZ (yR (uC HB.out ah.out) hb); clear ac; clear a3; clear a2; clear a4; clear a5; clear HB; have ac := n0_; have a3 := n1_; have a2 := n2_; have a4 := n3_; have bz := n4_; have c9 := n5_; have ca := n6_; have a5 := n7_; have HB := n8_; clear n0_ n1_ n2_ n3_ n4_ n5_ n6_ n7_ n8_; (try clear hb); (try clear hb2); (try clear hk); (try clear hi); (try clear ho0); (try clear ho1); (try clear ho2)) | ((with_reducible refine gate_dst (N := 15) rfl ?_); (try (refine gate_guard (by rfl) ?_; dsimp only)); refine box_event ?hg (N := 15) ?hd (cs := #[.slice none 0 0, .slice none 0 0, .slice none 0 0, .int .i64 0]) (t := 27) ?hr ?_; (case hd => rfl); (case hg => rfl); (case hr => first | (go_simp; done) | (go_simp; rfl)); intro a7 hg cp hbox hb; have n0_ := uZ (zR (Kd.N_elderB (uN ac.out) a7 (Nat.le_of_eq hg.symm)) hb); have n1_ := uZ (zE (uR a3.out) hb); have n2_ := uZ (zE (uR a2.out) hb); have n3_ := uZ (zE (uR a4.out) hb); have n4_ := uZ (zE (uR bz.out) hb); have n5_ := uZ (zE (uR c9.out) hb); have n6_ := uZ (zE (uR ca.out) hb); have n7_ := uZ (yO (g := a6) (o := .cells #[.slice ax a9.length co8, .slice ad a8.length ae, .slice af ab.length ag, .int .i64 aj] 27 (0, 0)) (uK a5.out) hb); have n8_ := uZ (yR (uC HB.out ah.out) hb); have n9_ := uZ (hbox); have n10_ := uZ ((by rw [hg]; exact (yQ (uC HB.out ah.out)) : w.heap.size ≤ a7)); have n11_ := uZ ((by rw [hg]; exact (yQ (uC HB.out ah.out)) : w.heap.size ≤ a7)); have n12_ := uZ ((by rw [hg]; exact Nat.ne_of_lt (blk_lt (g := a6) (o := .cells #[.slice ax a9.length co8, .slice ad a8.length ae, .slice af ab.length ag, .int .i64 aj] 27 (0, 0)) (uK a5.out)) : a6 ≠ a7)); have n13_ := uZ ((by rw [hg]; exact Nat.ne_of_gt (blk_lt (g := a6) (o := .cells #[.slice ax a9.length co8, .slice ad a8.length ae, .slice af ab.length ag, .int .i64 aj] 27 (0, 0)) (uK a5.out)) : a7 ≠ a6)); clear ac; clear a3; clear a2; clear a4; clear bz; clear c9; clear ca; clear a5; clear HB; have ac := n0_; have a3 := n1_; have a2 := n2_; have a4 := n3_; have bz := n4_; have c9 := n5_; have ca := n6_; have a5 := n7_; have HB := n8_; have aa := n9_; have GW288 := n10_; have bt := n11_; have ak := n12_; have bc := n13_; clear n0_ n1_ n2_ n3_ n4_ n5_ n6_ n7_ n8_ n9_ n10_ n11_ n12_ n13_; clear hb hbox hg; obtain ⟨b0, b1, eo65⟩ := zL bz.out; subst eo65; have hnb66 := bc.out; have hnc66 := ak.out; have hcz67_0 : cp.cell? ⟨a7, 0, none⟩ = some (.slice none 0 0) := (yK aa.out 0).trans rfl; have hcz67_1 : cp.cell? ⟨a7, 1, none⟩ = some (.slice none 0 0) := (yK aa.out 1).trans rfl; have hcz67_2 : cp.cell? ⟨a7, 2, none⟩ = some (.slice none 0 0) := (yK aa.out 2).trans rfl; have hcz67_3 : cp.cell? ⟨a7, 3, none⟩ = some (.int .i64 0) := (yK aa.out 3).trans rfl; have hfz67_0 := yJ aa.out 0; have hfz67_1 := yJ aa.out 1; have hfz67_2 := yJ aa.out 2; have hfz67_3 := yJ aa.out 3; obtain ⟨b2, b3, eo68⟩ := zL c9.out; subst eo68; obtain ⟨b6, b7, eo69⟩ := zL ca.out; subst eo69)))
       (try simp only [Act.put, List.setIfInBounds_toArray, List.set_cons_zero, List.set_cons_succ])
       go_cut [139] (fun v139 wc => ∃ (kq : Nat) (x139_60 : Bool), v139 = .bool x139_60 ∧ Aside0 (switchbacklaw17_RelaxLabels.j6 kq be x139_60 a9 a8 ab aj am an av b9 = some r) ∧ Aside0 (kq ≤ kj22) ∧ Aside0 (Kd.N k40 40 wc w.heap.size (fun k_ => some k_ ≠ ((.slice ax a9.length co8) : Value).ownBlock ∧ some k_ ≠ ((.slice ad a8.length ae) : Value).ownBlock ∧ some k_ ≠ ((.slice af ab.length ag) : Value).ownBlock ∧ some k_ ≠ ((.slice b0 am.length b1) : Value).ownBlock ∧ some k_ ≠ ((.slice b2 an.length b3) : Value).ownBlock ∧ some k_ ≠ ((.slice b6 av.length b7) : Value).ownBlock ∧ k_ ≠ a6 ∧ k_ ≠ a7) (.slice Ao62 be.length co62) be) ∧ Aside0 (Kd.R (Kd.int .u32) 38 wc w.heap.size (fun k_ => some k_ ≠ ((.slice b0 am.length b1) : Value).ownBlock) (.slice ax a9.length co8) a9) ∧ Aside0 (Kd.R (Kd.int .i64) 3 wc w.heap.size (fun k_ => some k_ ≠ ((.slice af ab.length ag) : Value).ownBlock ∧ some k_ ≠ ((.slice b2 an.length b3) : Value).ownBlock ∧ some k_ ≠ ((.slice b6 av.length b7) : Value).ownBlock) (.slice ad a8.length ae) a8) ∧ Aside0 (Kd.R (Kd.int .i64) 3 wc w.heap.size (fun k_ => some k_ ≠ ((.slice ad a8.length ae) : Value).ownBlock ∧ some k_ ≠ ((.slice b2 an.length b3) : Value).ownBlock ∧ some k_ ≠ ((.slice b6 av.length b7) : Value).ownBlock) (.slice af ab.length ag) ab) ∧ Aside0 (Kd.R (Kd.int .u32) 38 wc w.heap.size (fun k_ => some k_ ≠ ((.slice ax a9.length co8) : Value).ownBlock) (.slice b0 am.length b1) am) ∧ Aside0 (Kd.R (Kd.int .i64) 3 wc w.heap.size (fun k_ => some k_ ≠ ((.slice ad a8.length ae) : Value).ownBlock ∧ some k_ ≠ ((.slice af ab.length ag) : Value).ownBlock ∧ some k_ ≠ ((.slice b6 av.length b7) : Value).ownBlock) (.slice b2 an.length b3) an) ∧ Aside0 (Kd.R (Kd.int .i64) 3 wc w.heap.size (fun k_ => some k_ ≠ ((.slice ad a8.length ae) : Value).ownBlock ∧ some k_ ≠ ((.slice af ab.length ag) : Value).ownBlock ∧ some k_ ≠ ((.slice b2 an.length b3) : Value).ownBlock) (.slice b6 av.length b7) av) ∧ Aside0 (wc.heap[a6]? = some (.cells #[(.slice ax a9.length co8), (.slice ad a8.length ae), (.slice af ab.length ag), .int .i64 aj] 27 (0, 0))) ∧ Aside0 (wc.heap[a7]? = some (.cells #[(.slice b0 am.length b1), (.slice b2 an.length b3), (.slice b6 av.length b7), .int .i64 b9] 27 (0, 0))) ∧ Aside0 (Below w.heap.size w wc))
       case first =>
        have H := HC61.out
        clear HC61
        by_cases c70 : t286 = 0
        ·rw [if_pos c70] at H
         have c70b0 : (t286 == 0) = true := beq_iff_eq.mpr c70
         have c70b1 : (t286 != 0) = false := bne_eq_false_iff_eq.mpr c70
         clear c70
         (first | rw [c70b0] | (simp only [i64_w, i32_w]; rw [c70b0]) | skip)
         by_cases c71 : t287 = 0
         ·rw [if_pos c71] at H
          have c71b0 : (t287 == 0) = true := beq_iff_eq.mpr c71
          have c71b1 : (t287 != 0) = false := bne_eq_false_iff_eq.mpr c71
          clear c71
          by_cases c72 : (am.length : Int) = (a9.length : Int)
          ·rw [if_pos c72] at H
           have c72b0 : ((am.length : Int) == (a9.length : Int)) = true := beq_iff_eq.mpr c72
           have c72b1 : ((am.length : Int) != (a9.length : Int)) = false := bne_eq_false_iff_eq.mpr c72
           have c72b2 : (am.length == a9.length) = true := by first | simpa using c72 | (simp at c72 ⊢; omega)
           clear c72
           by_cases c73 : (an.length : Int) = (a8.length : Int)
           ·rw [if_pos c73] at H
            have c73b0 : ((an.length : Int) == (a8.length : Int)) = true := beq_iff_eq.mpr c73
            have c73b1 : ((an.length : Int) != (a8.length : Int)) = false := bne_eq_false_iff_eq.mpr c73
            have c73b2 : (an.length == a8.length) = true := by first | simpa using c73 | (simp at c73 ⊢; omega)
            clear c73
            have H' := uZ H
            clear H
            have hnb74 := bc.out
            have hnc74 := ak.out
            have hcz75_0 : cp.cell? ⟨a7, 0, none⟩ = some (.slice none 0 0) := (yK aa.out 0).trans rfl
            have hcz75_1 : cp.cell? ⟨a7, 1, none⟩ = some (.slice none 0 0) := (yK aa.out 1).trans rfl
            have hcz75_2 : cp.cell? ⟨a7, 2, none⟩ = some (.slice none 0 0) := (yK aa.out 2).trans rfl
            have hcz75_3 : cp.cell? ⟨a7, 3, none⟩ = some (.int .i64 0) := (yK aa.out 3).trans rfl
            have hfz75_0 := yJ aa.out 0
            have hfz75_1 := yJ aa.out 1
            have hfz75_2 := yJ aa.out 2
            have hfz75_3 := yJ aa.out 3
            have hcz76_0 : cp.cell? ⟨a6, 0, none⟩ = some (.slice ax a9.length co8) := (yK a5.out 0).trans rfl
            have hcz76_1 : cp.cell? ⟨a6, 1, none⟩ = some (.slice ad a8.length ae) := (yK a5.out 1).trans rfl
            have hcz76_2 : cp.cell? ⟨a6, 2, none⟩ = some (.slice af ab.length ag) := (yK a5.out 2).trans rfl
            have hcz76_3 : cp.cell? ⟨a6, 3, none⟩ = some (.int .i64 aj) := (yK a5.out 3).trans rfl
            have hfz76_0 := yJ a5.out 0
            have hfz76_1 := yJ a5.out 1
            have hfz76_2 := yJ a5.out 2
            have hfz76_3 := yJ a5.out 3
            go_wp2
            repeat (go_quiet (fail); try go_wp2)
            go_meet
            case rel => exact ⟨_, ((b9 != aj)), (by first | rfl | (simp; done) | (simp [*]; done)), H', ⟨by have := HK1.out; have := HJ22.out; first | omega | exact Nat.le_refl _⟩, ⟨by (with_reducible repeat (first | apply zN | apply zO | apply zP)); exact zS (zQ (p := ⟨a7, 3, none⟩) (zQ (p := ⟨a7, 2, none⟩) (zQ (p := ⟨a7, 1, none⟩) (zQ (p := ⟨a7, 0, none⟩) (zS ac.out (fun k_ hk => (⟨hk, hk.2⟩ : _ ∧ k_ ≠ a7))) (fun _ hk => hk.2) (.slice b0 am.length b1)) (fun _ hk => hk.2) (.slice b2 an.length b3)) (fun _ hk => hk.2) (.slice b6 av.length b7)) (fun _ hk => hk.2) (.int .i64 b9)) (fun _ hk => ⟨hk.1.1.1.1.1.1, ⟨hk.1.1.1.1.1.2.1, ⟨hk.1.1.1.1.1.2.2.1, ⟨hk.1.1.1.1.2, ⟨hk.1.1.1.2, ⟨hk.1.1.2, ⟨hk.1.1.1.1.1.2.2.2, hk.1.2⟩⟩⟩⟩⟩⟩⟩)⟩, ⟨by (with_reducible repeat (first | apply zA | apply zB | apply zC)); exact zF (zD (p := ⟨a7, 3, none⟩) (zD (p := ⟨a7, 2, none⟩) (zD (p := ⟨a7, 1, none⟩) (zD (p := ⟨a7, 0, none⟩) (zG a3.out aa.out (by decide)) (fun _ hk => hk.2) (.slice b0 am.length b1)) (fun _ hk => hk.2) (.slice b2 an.length b3)) (fun _ hk => hk.2) (.slice b6 av.length b7)) (fun _ hk => hk.2) (.int .i64 b9)) (fun _ hk => hk.1.2)⟩, ⟨by (with_reducible repeat (first | apply zA | apply zB | apply zC)); exact zF (zD (p := ⟨a7, 3, none⟩) (zD (p := ⟨a7, 2, none⟩) (zD (p := ⟨a7, 1, none⟩) (zD (p := ⟨a7, 0, none⟩) (zG a2.out aa.out (by decide)) (fun _ hk => hk.2) (.slice b0 am.length b1)) (fun _ hk => hk.2) (.slice b2 an.length b3)) (fun _ hk => hk.2) (.slice b6 av.length b7)) (fun _ hk => hk.2) (.int .i64 b9)) (fun _ hk => ⟨hk.1.1.1, ⟨hk.1.1.2, hk.1.2⟩⟩)⟩, ⟨by (with_reducible repeat (first | apply zA | apply zB | apply zC)); exact zF (zD (p := ⟨a7, 3, none⟩) (zD (p := ⟨a7, 2, none⟩) (zD (p := ⟨a7, 1, none⟩) (zD (p := ⟨a7, 0, none⟩) (zG a4.out aa.out (by decide)) (fun _ hk => hk.2) (.slice b0 am.length b1)) (fun _ hk => hk.2) (.slice b2 an.length b3)) (fun _ hk => hk.2) (.slice b6 av.length b7)) (fun _ hk => hk.2) (.int .i64 b9)) (fun _ hk => ⟨hk.1.1.1, ⟨hk.1.1.2, hk.1.2⟩⟩)⟩, ⟨by (with_reducible repeat (first | apply zA | apply zB | apply zC)); exact zF (zD (p := ⟨a7, 3, none⟩) (zD (p := ⟨a7, 2, none⟩) (zD (p := ⟨a7, 1, none⟩) (zD (p := ⟨a7, 0, none⟩) (zG bz.out aa.out (by decide)) (fun _ hk => hk.2) (.slice b0 am.length b1)) (fun _ hk => hk.2) (.slice b2 an.length b3)) (fun _ hk => hk.2) (.slice b6 av.length b7)) (fun _ hk => hk.2) (.int .i64 b9)) (fun _ hk => hk.1.2)⟩, ⟨by (with_reducible repeat (first | apply zA | apply zB | apply zC)); exact zF (zD (p := ⟨a7, 3, none⟩) (zD (p := ⟨a7, 2, none⟩) (zD (p := ⟨a7, 1, none⟩) (zD (p := ⟨a7, 0, none⟩) (zG c9.out aa.out (by decide)) (fun _ hk => hk.2) (.slice b0 am.length b1)) (fun _ hk => hk.2) (.slice b2 an.length b3)) (fun _ hk => hk.2) (.slice b6 av.length b7)) (fun _ hk => hk.2) (.int .i64 b9)) (fun _ hk => ⟨hk.1.1.2, ⟨hk.1.2, hk.1.1.1⟩⟩)⟩, ⟨by (with_reducible repeat (first | apply zA | apply zB | apply zC)); exact zF (zD (p := ⟨a7, 3, none⟩) (zD (p := ⟨a7, 2, none⟩) (zD (p := ⟨a7, 1, none⟩) (zD (p := ⟨a7, 0, none⟩) (zG ca.out aa.out (by decide)) (fun _ hk => hk.2) (.slice b0 am.length b1)) (fun _ hk => hk.2) (.slice b2 an.length b3)) (fun _ hk => hk.2) (.slice b6 av.length b7)) (fun _ hk => hk.2) (.int .i64 b9)) (fun _ hk => ⟨hk.1.1.2, ⟨hk.1.2, hk.1.1.1⟩⟩)⟩, ⟨by (with_reducible repeat (first | apply yD | apply yE | apply yF)); refine yM ?_ ak.out _; (with_reducible repeat (first | apply yD | apply yE | apply yF)); refine yM ?_ ak.out _; (with_reducible repeat (first | apply yD | apply yE | apply yF)); refine yM ?_ ak.out _; (with_reducible repeat (first | apply yD | apply yE | apply yF)); refine yM ?_ ak.out _; (with_reducible repeat (first | apply yD | apply yE | apply yF)); exact a5.out⟩, ⟨by (with_reducible repeat (first | apply yD | apply yE | apply yF)); refine yL (cs := #[.slice b0 am.length b1, .slice b2 an.length b3, .slice b6 av.length b7, .int .i64 0]) ?_ 3 _ rfl; (with_reducible repeat (first | apply yD | apply yE | apply yF)); refine yL (cs := #[.slice b0 am.length b1, .slice b2 an.length b3, .slice none 0 0, .int .i64 0]) ?_ 2 _ rfl; (with_reducible repeat (first | apply yD | apply yE | apply yF)); refine yL (cs := #[.slice b0 am.length b1, .slice none 0 0, .slice none 0 0, .int .i64 0]) ?_ 1 _ rfl; (with_reducible repeat (first | apply yD | apply yE | apply yF)); refine yL (cs := #[.slice none 0 0, .slice none 0 0, .slice none 0 0, .int .i64 0]) ?_ 0 _ rfl; (with_reducible repeat (first | apply yD | apply yE | apply yF)); exact aa.out⟩, ⟨uD HB.out ah.out bt.out⟩⟩
           rw [if_neg c73] at H
           have c73b0 : ((an.length : Int) == (a8.length : Int)) = false := beq_eq_false_iff_ne.mpr c73
           have c73b1 : ((an.length : Int) != (a8.length : Int)) = true := bne_iff_ne.mpr c73
           have c73b2 : (an.length == a8.length) = false := by first | simpa using c73 | (simp at c73 ⊢; omega)
           have H' := uZ H
           clear H
           have hnb77 := bc.out
           have hnc77 := ak.out
           have hcz78_0 : cp.cell? ⟨a7, 0, none⟩ = some (.slice none 0 0) := (yK aa.out 0).trans rfl
           have hcz78_1 : cp.cell? ⟨a7, 1, none⟩ = some (.slice none 0 0) := (yK aa.out 1).trans rfl
           have hcz78_2 : cp.cell? ⟨a7, 2, none⟩ = some (.slice none 0 0) := (yK aa.out 2).trans rfl
           have hcz78_3 : cp.cell? ⟨a7, 3, none⟩ = some (.int .i64 0) := (yK aa.out 3).trans rfl
           have hfz78_0 := yJ aa.out 0
           have hfz78_1 := yJ aa.out 1
           have hfz78_2 := yJ aa.out 2
           have hfz78_3 := yJ aa.out 3
           have hcz79_0 : cp.cell? ⟨a6, 0, none⟩ = some (.slice ax a9.length co8) := (yK a5.out 0).trans rfl
           have hcz79_1 : cp.cell? ⟨a6, 1, none⟩ = some (.slice ad a8.length ae) := (yK a5.out 1).trans rfl
           have hcz79_2 : cp.cell? ⟨a6, 2, none⟩ = some (.slice af ab.length ag) := (yK a5.out 2).trans rfl
           have hcz79_3 : cp.cell? ⟨a6, 3, none⟩ = some (.int .i64 aj) := (yK a5.out 3).trans rfl
           have hfz79_0 := yJ a5.out 0
           have hfz79_1 := yJ a5.out 1
           have hfz79_2 := yJ a5.out 2
           have hfz79_3 := yJ a5.out 3
           go_wp2
           repeat (go_quiet (fail); try go_wp2)
           go_meet
           case rel => exact ⟨_, (true), (by first | rfl | (simp; done) | (simp [*]; done)), H', ⟨by have := HK1.out; have := HJ22.out; first | omega | exact Nat.le_refl _⟩, ⟨by (with_reducible repeat (first | apply zN | apply zO | apply zP)); exact zS (zQ (p := ⟨a7, 3, none⟩) (zQ (p := ⟨a7, 2, none⟩) (zQ (p := ⟨a7, 1, none⟩) (zQ (p := ⟨a7, 0, none⟩) (zS ac.out (fun k_ hk => (⟨hk, hk.2⟩ : _ ∧ k_ ≠ a7))) (fun _ hk => hk.2) (.slice b0 am.length b1)) (fun _ hk => hk.2) (.slice b2 an.length b3)) (fun _ hk => hk.2) (.slice b6 av.length b7)) (fun _ hk => hk.2) (.int .i64 b9)) (fun _ hk => ⟨hk.1.1.1.1.1.1, ⟨hk.1.1.1.1.1.2.1, ⟨hk.1.1.1.1.1.2.2.1, ⟨hk.1.1.1.1.2, ⟨hk.1.1.1.2, ⟨hk.1.1.2, ⟨hk.1.1.1.1.1.2.2.2, hk.1.2⟩⟩⟩⟩⟩⟩⟩)⟩, ⟨by (with_reducible repeat (first | apply zA | apply zB | apply zC)); exact zF (zD (p := ⟨a7, 3, none⟩) (zD (p := ⟨a7, 2, none⟩) (zD (p := ⟨a7, 1, none⟩) (zD (p := ⟨a7, 0, none⟩) (zG a3.out aa.out (by decide)) (fun _ hk => hk.2) (.slice b0 am.length b1)) (fun _ hk => hk.2) (.slice b2 an.length b3)) (fun _ hk => hk.2) (.slice b6 av.length b7)) (fun _ hk => hk.2) (.int .i64 b9)) (fun _ hk => hk.1.2)⟩, ⟨by (with_reducible repeat (first | apply zA | apply zB | apply zC)); exact zF (zD (p := ⟨a7, 3, none⟩) (zD (p := ⟨a7, 2, none⟩) (zD (p := ⟨a7, 1, none⟩) (zD (p := ⟨a7, 0, none⟩) (zG a2.out aa.out (by decide)) (fun _ hk => hk.2) (.slice b0 am.length b1)) (fun _ hk => hk.2) (.slice b2 an.length b3)) (fun _ hk => hk.2) (.slice b6 av.length b7)) (fun _ hk => hk.2) (.int .i64 b9)) (fun _ hk => ⟨hk.1.1.1, ⟨hk.1.1.2, hk.1.2⟩⟩)⟩, ⟨by (with_reducible repeat (first | apply zA | apply zB | apply zC)); exact zF (zD (p := ⟨a7, 3, none⟩) (zD (p := ⟨a7, 2, none⟩) (zD (p := ⟨a7, 1, none⟩) (zD (p := ⟨a7, 0, none⟩) (zG a4.out aa.out (by decide)) (fun _ hk => hk.2) (.slice b0 am.length b1)) (fun _ hk => hk.2) (.slice b2 an.length b3)) (fun _ hk => hk.2) (.slice b6 av.length b7)) (fun _ hk => hk.2) (.int .i64 b9)) (fun _ hk => ⟨hk.1.1.1, ⟨hk.1.1.2, hk.1.2⟩⟩)⟩, ⟨by (with_reducible repeat (first | apply zA | apply zB | apply zC)); exact zF (zD (p := ⟨a7, 3, none⟩) (zD (p := ⟨a7, 2, none⟩) (zD (p := ⟨a7, 1, none⟩) (zD (p := ⟨a7, 0, none⟩) (zG bz.out aa.out (by decide)) (fun _ hk => hk.2) (.slice b0 am.length b1)) (fun _ hk => hk.2) (.slice b2 an.length b3)) (fun _ hk => hk.2) (.slice b6 av.length b7)) (fun _ hk => hk.2) (.int .i64 b9)) (fun _ hk => hk.1.2)⟩, ⟨by (with_reducible repeat (first | apply zA | apply zB | apply zC)); exact zF (zD (p := ⟨a7, 3, none⟩) (zD (p := ⟨a7, 2, none⟩) (zD (p := ⟨a7, 1, none⟩) (zD (p := ⟨a7, 0, none⟩) (zG c9.out aa.out (by decide)) (fun _ hk => hk.2) (.slice b0 am.length b1)) (fun _ hk => hk.2) (.slice b2 an.length b3)) (fun _ hk => hk.2) (.slice b6 av.length b7)) (fun _ hk => hk.2) (.int .i64 b9)) (fun _ hk => ⟨hk.1.1.2, ⟨hk.1.2, hk.1.1.1⟩⟩)⟩, ⟨by (with_reducible repeat (first | apply zA | apply zB | apply zC)); exact zF (zD (p := ⟨a7, 3, none⟩) (zD (p := ⟨a7, 2, none⟩) (zD (p := ⟨a7, 1, none⟩) (zD (p := ⟨a7, 0, none⟩) (zG ca.out aa.out (by decide)) (fun _ hk => hk.2) (.slice b0 am.length b1)) (fun _ hk => hk.2) (.slice b2 an.length b3)) (fun _ hk => hk.2) (.slice b6 av.length b7)) (fun _ hk => hk.2) (.int .i64 b9)) (fun _ hk => ⟨hk.1.1.2, ⟨hk.1.2, hk.1.1.1⟩⟩)⟩, ⟨by (with_reducible repeat (first | apply yD | apply yE | apply yF)); refine yM ?_ ak.out _; (with_reducible repeat (first | apply yD | apply yE | apply yF)); refine yM ?_ ak.out _; (with_reducible repeat (first | apply yD | apply yE | apply yF)); refine yM ?_ ak.out _; (with_reducible repeat (first | apply yD | apply yE | apply yF)); refine yM ?_ ak.out _; (with_reducible repeat (first | apply yD | apply yE | apply yF)); exact a5.out⟩, ⟨by (with_reducible repeat (first | apply yD | apply yE | apply yF)); refine yL (cs := #[.slice b0 am.length b1, .slice b2 an.length b3, .slice b6 av.length b7, .int .i64 0]) ?_ 3 _ rfl; (with_reducible repeat (first | apply yD | apply yE | apply yF)); refine yL (cs := #[.slice b0 am.length b1, .slice b2 an.length b3, .slice none 0 0, .int .i64 0]) ?_ 2 _ rfl; (with_reducible repeat (first | apply yD | apply yE | apply yF)); refine yL (cs := #[.slice b0 am.length b1, .slice none 0 0, .slice none 0 0, .int .i64 0]) ?_ 1 _ rfl; (with_reducible repeat (first | apply yD | apply yE | apply yF)); refine yL (cs := #[.slice none 0 0, .slice none 0 0, .slice none 0 0, .int .i64 0]) ?_ 0 _ rfl; (with_reducible repeat (first | apply yD | apply yE | apply yF)); exact aa.out⟩, ⟨uD HB.out ah.out bt.out⟩⟩
          rw [if_neg c72] at H
          have c72b0 : ((am.length : Int) == (a9.length : Int)) = false := beq_eq_false_iff_ne.mpr c72
          have c72b1 : ((am.length : Int) != (a9.length : Int)) = true := bne_iff_ne.mpr c72
          have c72b2 : (am.length == a9.length) = false := by first | simpa using c72 | (simp at c72 ⊢; omega)
          have H' := uZ H
          clear H
          have hnb80 := bc.out
          have hnc80 := ak.out
          have hcz81_0 : cp.cell? ⟨a7, 0, none⟩ = some (.slice none 0 0) := (yK aa.out 0).trans rfl
          have hcz81_1 : cp.cell? ⟨a7, 1, none⟩ = some (.slice none 0 0) := (yK aa.out 1).trans rfl
          have hcz81_2 : cp.cell? ⟨a7, 2, none⟩ = some (.slice none 0 0) := (yK aa.out 2).trans rfl
          have hcz81_3 : cp.cell? ⟨a7, 3, none⟩ = some (.int .i64 0) := (yK aa.out 3).trans rfl
          have hfz81_0 := yJ aa.out 0
          have hfz81_1 := yJ aa.out 1
          have hfz81_2 := yJ aa.out 2
          have hfz81_3 := yJ aa.out 3
          have hcz82_0 : cp.cell? ⟨a6, 0, none⟩ = some (.slice ax a9.length co8) := (yK a5.out 0).trans rfl
          have hcz82_1 : cp.cell? ⟨a6, 1, none⟩ = some (.slice ad a8.length ae) := (yK a5.out 1).trans rfl
          have hcz82_2 : cp.cell? ⟨a6, 2, none⟩ = some (.slice af ab.length ag) := (yK a5.out 2).trans rfl
          have hcz82_3 : cp.cell? ⟨a6, 3, none⟩ = some (.int .i64 aj) := (yK a5.out 3).trans rfl
          have hfz82_0 := yJ a5.out 0
          have hfz82_1 := yJ a5.out 1
          have hfz82_2 := yJ a5.out 2
          have hfz82_3 := yJ a5.out 3
          go_wp2
          repeat (go_quiet (fail); try go_wp2)
          go_meet
          case rel => exact ⟨_, (true), (by first | rfl | (simp; done) | (simp [*]; done)), H', ⟨by have := HK1.out; have := HJ22.out; first | omega | exact Nat.le_refl _⟩, ⟨by (with_reducible repeat (first | apply zN | apply zO | apply zP)); exact zS (zQ (p := ⟨a7, 3, none⟩) (zQ (p := ⟨a7, 2, none⟩) (zQ (p := ⟨a7, 1, none⟩) (zQ (p := ⟨a7, 0, none⟩) (zS ac.out (fun k_ hk => (⟨hk, hk.2⟩ : _ ∧ k_ ≠ a7))) (fun _ hk => hk.2) (.slice b0 am.length b1)) (fun _ hk => hk.2) (.slice b2 an.length b3)) (fun _ hk => hk.2) (.slice b6 av.length b7)) (fun _ hk => hk.2) (.int .i64 b9)) (fun _ hk => ⟨hk.1.1.1.1.1.1, ⟨hk.1.1.1.1.1.2.1, ⟨hk.1.1.1.1.1.2.2.1, ⟨hk.1.1.1.1.2, ⟨hk.1.1.1.2, ⟨hk.1.1.2, ⟨hk.1.1.1.1.1.2.2.2, hk.1.2⟩⟩⟩⟩⟩⟩⟩)⟩, ⟨by (with_reducible repeat (first | apply zA | apply zB | apply zC)); exact zF (zD (p := ⟨a7, 3, none⟩) (zD (p := ⟨a7, 2, none⟩) (zD (p := ⟨a7, 1, none⟩) (zD (p := ⟨a7, 0, none⟩) (zG a3.out aa.out (by decide)) (fun _ hk => hk.2) (.slice b0 am.length b1)) (fun _ hk => hk.2) (.slice b2 an.length b3)) (fun _ hk => hk.2) (.slice b6 av.length b7)) (fun _ hk => hk.2) (.int .i64 b9)) (fun _ hk => hk.1.2)⟩, ⟨by (with_reducible repeat (first | apply zA | apply zB | apply zC)); exact zF (zD (p := ⟨a7, 3, none⟩) (zD (p := ⟨a7, 2, none⟩) (zD (p := ⟨a7, 1, none⟩) (zD (p := ⟨a7, 0, none⟩) (zG a2.out aa.out (by decide)) (fun _ hk => hk.2) (.slice b0 am.length b1)) (fun _ hk => hk.2) (.slice b2 an.length b3)) (fun _ hk => hk.2) (.slice b6 av.length b7)) (fun _ hk => hk.2) (.int .i64 b9)) (fun _ hk => ⟨hk.1.1.1, ⟨hk.1.1.2, hk.1.2⟩⟩)⟩, ⟨by (with_reducible repeat (first | apply zA | apply zB | apply zC)); exact zF (zD (p := ⟨a7, 3, none⟩) (zD (p := ⟨a7, 2, none⟩) (zD (p := ⟨a7, 1, none⟩) (zD (p := ⟨a7, 0, none⟩) (zG a4.out aa.out (by decide)) (fun _ hk => hk.2) (.slice b0 am.length b1)) (fun _ hk => hk.2) (.slice b2 an.length b3)) (fun _ hk => hk.2) (.slice b6 av.length b7)) (fun _ hk => hk.2) (.int .i64 b9)) (fun _ hk => ⟨hk.1.1.1, ⟨hk.1.1.2, hk.1.2⟩⟩)⟩, ⟨by (with_reducible repeat (first | apply zA | apply zB | apply zC)); exact zF (zD (p := ⟨a7, 3, none⟩) (zD (p := ⟨a7, 2, none⟩) (zD (p := ⟨a7, 1, none⟩) (zD (p := ⟨a7, 0, none⟩) (zG bz.out aa.out (by decide)) (fun _ hk => hk.2) (.slice b0 am.length b1)) (fun _ hk => hk.2) (.slice b2 an.length b3)) (fun _ hk => hk.2) (.slice b6 av.length b7)) (fun _ hk => hk.2) (.int .i64 b9)) (fun _ hk => hk.1.2)⟩, ⟨by (with_reducible repeat (first | apply zA | apply zB | apply zC)); exact zF (zD (p := ⟨a7, 3, none⟩) (zD (p := ⟨a7, 2, none⟩) (zD (p := ⟨a7, 1, none⟩) (zD (p := ⟨a7, 0, none⟩) (zG c9.out aa.out (by decide)) (fun _ hk => hk.2) (.slice b0 am.length b1)) (fun _ hk => hk.2) (.slice b2 an.length b3)) (fun _ hk => hk.2) (.slice b6 av.length b7)) (fun _ hk => hk.2) (.int .i64 b9)) (fun _ hk => ⟨hk.1.1.2, ⟨hk.1.2, hk.1.1.1⟩⟩)⟩, ⟨by (with_reducible repeat (first | apply zA | apply zB | apply zC)); exact zF (zD (p := ⟨a7, 3, none⟩) (zD (p := ⟨a7, 2, none⟩) (zD (p := ⟨a7, 1, none⟩) (zD (p := ⟨a7, 0, none⟩) (zG ca.out aa.out (by decide)) (fun _ hk => hk.2) (.slice b0 am.length b1)) (fun _ hk => hk.2) (.slice b2 an.length b3)) (fun _ hk => hk.2) (.slice b6 av.length b7)) (fun _ hk => hk.2) (.int .i64 b9)) (fun _ hk => ⟨hk.1.1.2, ⟨hk.1.2, hk.1.1.1⟩⟩)⟩, ⟨by (with_reducible repeat (first | apply yD | apply yE | apply yF)); refine yM ?_ ak.out _; (with_reducible repeat (first | apply yD | apply yE | apply yF)); refine yM ?_ ak.out _; (with_reducible repeat (first | apply yD | apply yE | apply yF)); refine yM ?_ ak.out _; (with_reducible repeat (first | apply yD | apply yE | apply yF)); refine yM ?_ ak.out _; (with_reducible repeat (first | apply yD | apply yE | apply yF)); exact a5.out⟩, ⟨by (with_reducible repeat (first | apply yD | apply yE | apply yF)); refine yL (cs := #[.slice b0 am.length b1, .slice b2 an.length b3, .slice b6 av.length b7, .int .i64 0]) ?_ 3 _ rfl; (with_reducible repeat (first | apply yD | apply yE | apply yF)); refine yL (cs := #[.slice b0 am.length b1, .slice b2 an.length b3, .slice none 0 0, .int .i64 0]) ?_ 2 _ rfl; (with_reducible repeat (first | apply yD | apply yE | apply yF)); refine yL (cs := #[.slice b0 am.length b1, .slice none 0 0, .slice none 0 0, .int .i64 0]) ?_ 1 _ rfl; (with_reducible repeat (first | apply yD | apply yE | apply yF)); refine yL (cs := #[.slice none 0 0, .slice none 0 0, .slice none 0 0, .int .i64 0]) ?_ 0 _ rfl; (with_reducible repeat (first | apply yD | apply yE | apply yF)); exact aa.out⟩, ⟨uD HB.out ah.out bt.out⟩⟩
         rw [if_neg c71] at H
         have c71b0 : (t287 == 0) = false := beq_eq_false_iff_ne.mpr c71
         have c71b1 : (t287 != 0) = true := bne_iff_ne.mpr c71
         have H' := uZ H
         clear H
         go_wp2
         repeat (go_quiet (fail); try go_wp2)
         go_meet
         case rel => exact ⟨_, (true), (by first | rfl | (simp; done) | (simp [*]; done)), H', ⟨by have := HK1.out; have := HJ22.out; first | omega | exact Nat.le_refl _⟩, ⟨by (with_reducible repeat (first | apply zN | apply zO | apply zP)); exact zS (zQ (p := ⟨a7, 3, none⟩) (zQ (p := ⟨a7, 2, none⟩) (zQ (p := ⟨a7, 1, none⟩) (zQ (p := ⟨a7, 0, none⟩) (zS ac.out (fun k_ hk => (⟨hk, hk.2⟩ : _ ∧ k_ ≠ a7))) (fun _ hk => hk.2) (.slice b0 am.length b1)) (fun _ hk => hk.2) (.slice b2 an.length b3)) (fun _ hk => hk.2) (.slice b6 av.length b7)) (fun _ hk => hk.2) (.int .i64 b9)) (fun _ hk => ⟨hk.1.1.1.1.1.1, ⟨hk.1.1.1.1.1.2.1, ⟨hk.1.1.1.1.1.2.2.1, ⟨hk.1.1.1.1.2, ⟨hk.1.1.1.2, ⟨hk.1.1.2, ⟨hk.1.1.1.1.1.2.2.2, hk.1.2⟩⟩⟩⟩⟩⟩⟩)⟩, ⟨by (with_reducible repeat (first | apply zA | apply zB | apply zC)); exact zF (zD (p := ⟨a7, 3, none⟩) (zD (p := ⟨a7, 2, none⟩) (zD (p := ⟨a7, 1, none⟩) (zD (p := ⟨a7, 0, none⟩) (zG a3.out aa.out (by decide)) (fun _ hk => hk.2) (.slice b0 am.length b1)) (fun _ hk => hk.2) (.slice b2 an.length b3)) (fun _ hk => hk.2) (.slice b6 av.length b7)) (fun _ hk => hk.2) (.int .i64 b9)) (fun _ hk => hk.1.2)⟩, ⟨by (with_reducible repeat (first | apply zA | apply zB | apply zC)); exact zF (zD (p := ⟨a7, 3, none⟩) (zD (p := ⟨a7, 2, none⟩) (zD (p := ⟨a7, 1, none⟩) (zD (p := ⟨a7, 0, none⟩) (zG a2.out aa.out (by decide)) (fun _ hk => hk.2) (.slice b0 am.length b1)) (fun _ hk => hk.2) (.slice b2 an.length b3)) (fun _ hk => hk.2) (.slice b6 av.length b7)) (fun _ hk => hk.2) (.int .i64 b9)) (fun _ hk => ⟨hk.1.1.1, ⟨hk.1.1.2, hk.1.2⟩⟩)⟩, ⟨by (with_reducible repeat (first | apply zA | apply zB | apply zC)); exact zF (zD (p := ⟨a7, 3, none⟩) (zD (p := ⟨a7, 2, none⟩) (zD (p := ⟨a7, 1, none⟩) (zD (p := ⟨a7, 0, none⟩) (zG a4.out aa.out (by decide)) (fun _ hk => hk.2) (.slice b0 am.length b1)) (fun _ hk => hk.2) (.slice b2 an.length b3)) (fun _ hk => hk.2) (.slice b6 av.length b7)) (fun _ hk => hk.2) (.int .i64 b9)) (fun _ hk => ⟨hk.1.1.1, ⟨hk.1.1.2, hk.1.2⟩⟩)⟩, ⟨by (with_reducible repeat (first | apply zA | apply zB | apply zC)); exact zF (zD (p := ⟨a7, 3, none⟩) (zD (p := ⟨a7, 2, none⟩) (zD (p := ⟨a7, 1, none⟩) (zD (p := ⟨a7, 0, none⟩) (zG bz.out aa.out (by decide)) (fun _ hk => hk.2) (.slice b0 am.length b1)) (fun _ hk => hk.2) (.slice b2 an.length b3)) (fun _ hk => hk.2) (.slice b6 av.length b7)) (fun _ hk => hk.2) (.int .i64 b9)) (fun _ hk => hk.1.2)⟩, ⟨by (with_reducible repeat (first | apply zA | apply zB | apply zC)); exact zF (zD (p := ⟨a7, 3, none⟩) (zD (p := ⟨a7, 2, none⟩) (zD (p := ⟨a7, 1, none⟩) (zD (p := ⟨a7, 0, none⟩) (zG c9.out aa.out (by decide)) (fun _ hk => hk.2) (.slice b0 am.length b1)) (fun _ hk => hk.2) (.slice b2 an.length b3)) (fun _ hk => hk.2) (.slice b6 av.length b7)) (fun _ hk => hk.2) (.int .i64 b9)) (fun _ hk => ⟨hk.1.1.2, ⟨hk.1.2, hk.1.1.1⟩⟩)⟩, ⟨by (with_reducible repeat (first | apply zA | apply zB | apply zC)); exact zF (zD (p := ⟨a7, 3, none⟩) (zD (p := ⟨a7, 2, none⟩) (zD (p := ⟨a7, 1, none⟩) (zD (p := ⟨a7, 0, none⟩) (zG ca.out aa.out (by decide)) (fun _ hk => hk.2) (.slice b0 am.length b1)) (fun _ hk => hk.2) (.slice b2 an.length b3)) (fun _ hk => hk.2) (.slice b6 av.length b7)) (fun _ hk => hk.2) (.int .i64 b9)) (fun _ hk => ⟨hk.1.1.2, ⟨hk.1.2, hk.1.1.1⟩⟩)⟩, ⟨by (with_reducible repeat (first | apply yD | apply yE | apply yF)); refine yM ?_ ak.out _; (with_reducible repeat (first | apply yD | apply yE | apply yF)); refine yM ?_ ak.out _; (with_reducible repeat (first | apply yD | apply yE | apply yF)); refine yM ?_ ak.out _; (with_reducible repeat (first | apply yD | apply yE | apply yF)); refine yM ?_ ak.out _; (with_reducible repeat (first | apply yD | apply yE | apply yF)); exact a5.out⟩, ⟨by (with_reducible repeat (first | apply yD | apply yE | apply yF)); refine yL (cs := #[.slice b0 am.length b1, .slice b2 an.length b3, .slice b6 av.length b7, .int .i64 0]) ?_ 3 _ rfl; (with_reducible repeat (first | apply yD | apply yE | apply yF)); refine yL (cs := #[.slice b0 am.length b1, .slice b2 an.length b3, .slice none 0 0, .int .i64 0]) ?_ 2 _ rfl; (with_reducible repeat (first | apply yD | apply yE | apply yF)); refine yL (cs := #[.slice b0 am.length b1, .slice none 0 0, .slice none 0 0, .int .i64 0]) ?_ 1 _ rfl; (with_reducible repeat (first | apply yD | apply yE | apply yF)); refine yL (cs := #[.slice none 0 0, .slice none 0 0, .slice none 0 0, .int .i64 0]) ?_ 0 _ rfl; (with_reducible repeat (first | apply yD | apply yE | apply yF)); exact aa.out⟩, ⟨uD HB.out ah.out bt.out⟩⟩
        rw [if_neg c70] at H
        have c70b0 : (t286 == 0) = false := beq_eq_false_iff_ne.mpr c70
        have c70b1 : (t286 != 0) = true := bne_iff_ne.mpr c70
        (first | rw [c70b0] | (simp only [i64_w, i32_w]; rw [c70b0]) | skip)
        have H' := uZ H
        clear H
        go_wp2
        repeat (go_quiet (fail); try go_wp2)
        go_meet
        case rel => exact ⟨_, (true), (by first | rfl | (simp; done) | (simp [*]; done)), H', ⟨by have := HK1.out; have := HJ22.out; first | omega | exact Nat.le_refl _⟩, ⟨by (with_reducible repeat (first | apply zN | apply zO | apply zP)); exact zS (zQ (p := ⟨a7, 3, none⟩) (zQ (p := ⟨a7, 2, none⟩) (zQ (p := ⟨a7, 1, none⟩) (zQ (p := ⟨a7, 0, none⟩) (zS ac.out (fun k_ hk => (⟨hk, hk.2⟩ : _ ∧ k_ ≠ a7))) (fun _ hk => hk.2) (.slice b0 am.length b1)) (fun _ hk => hk.2) (.slice b2 an.length b3)) (fun _ hk => hk.2) (.slice b6 av.length b7)) (fun _ hk => hk.2) (.int .i64 b9)) (fun _ hk => ⟨hk.1.1.1.1.1.1, ⟨hk.1.1.1.1.1.2.1, ⟨hk.1.1.1.1.1.2.2.1, ⟨hk.1.1.1.1.2, ⟨hk.1.1.1.2, ⟨hk.1.1.2, ⟨hk.1.1.1.1.1.2.2.2, hk.1.2⟩⟩⟩⟩⟩⟩⟩)⟩, ⟨by (with_reducible repeat (first | apply zA | apply zB | apply zC)); exact zF (zD (p := ⟨a7, 3, none⟩) (zD (p := ⟨a7, 2, none⟩) (zD (p := ⟨a7, 1, none⟩) (zD (p := ⟨a7, 0, none⟩) (zG a3.out aa.out (by decide)) (fun _ hk => hk.2) (.slice b0 am.length b1)) (fun _ hk => hk.2) (.slice b2 an.length b3)) (fun _ hk => hk.2) (.slice b6 av.length b7)) (fun _ hk => hk.2) (.int .i64 b9)) (fun _ hk => hk.1.2)⟩, ⟨by (with_reducible repeat (first | apply zA | apply zB | apply zC)); exact zF (zD (p := ⟨a7, 3, none⟩) (zD (p := ⟨a7, 2, none⟩) (zD (p := ⟨a7, 1, none⟩) (zD (p := ⟨a7, 0, none⟩) (zG a2.out aa.out (by decide)) (fun _ hk => hk.2) (.slice b0 am.length b1)) (fun _ hk => hk.2) (.slice b2 an.length b3)) (fun _ hk => hk.2) (.slice b6 av.length b7)) (fun _ hk => hk.2) (.int .i64 b9)) (fun _ hk => ⟨hk.1.1.1, ⟨hk.1.1.2, hk.1.2⟩⟩)⟩, ⟨by (with_reducible repeat (first | apply zA | apply zB | apply zC)); exact zF (zD (p := ⟨a7, 3, none⟩) (zD (p := ⟨a7, 2, none⟩) (zD (p := ⟨a7, 1, none⟩) (zD (p := ⟨a7, 0, none⟩) (zG a4.out aa.out (by decide)) (fun _ hk => hk.2) (.slice b0 am.length b1)) (fun _ hk => hk.2) (.slice b2 an.length b3)) (fun _ hk => hk.2) (.slice b6 av.length b7)) (fun _ hk => hk.2) (.int .i64 b9)) (fun _ hk => ⟨hk.1.1.1, ⟨hk.1.1.2, hk.1.2⟩⟩)⟩, ⟨by (with_reducible repeat (first | apply zA | apply zB | apply zC)); exact zF (zD (p := ⟨a7, 3, none⟩) (zD (p := ⟨a7, 2, none⟩) (zD (p := ⟨a7, 1, none⟩) (zD (p := ⟨a7, 0, none⟩) (zG bz.out aa.out (by decide)) (fun _ hk => hk.2) (.slice b0 am.length b1)) (fun _ hk => hk.2) (.slice b2 an.length b3)) (fun _ hk => hk.2) (.slice b6 av.length b7)) (fun _ hk => hk.2) (.int .i64 b9)) (fun _ hk => hk.1.2)⟩, ⟨by (with_reducible repeat (first | apply zA | apply zB | apply zC)); exact zF (zD (p := ⟨a7, 3, none⟩) (zD (p := ⟨a7, 2, none⟩) (zD (p := ⟨a7, 1, none⟩) (zD (p := ⟨a7, 0, none⟩) (zG c9.out aa.out (by decide)) (fun _ hk => hk.2) (.slice b0 am.length b1)) (fun _ hk => hk.2) (.slice b2 an.length b3)) (fun _ hk => hk.2) (.slice b6 av.length b7)) (fun _ hk => hk.2) (.int .i64 b9)) (fun _ hk => ⟨hk.1.1.2, ⟨hk.1.2, hk.1.1.1⟩⟩)⟩, ⟨by (with_reducible repeat (first | apply zA | apply zB | apply zC)); exact zF (zD (p := ⟨a7, 3, none⟩) (zD (p := ⟨a7, 2, none⟩) (zD (p := ⟨a7, 1, none⟩) (zD (p := ⟨a7, 0, none⟩) (zG ca.out aa.out (by decide)) (fun _ hk => hk.2) (.slice b0 am.length b1)) (fun _ hk => hk.2) (.slice b2 an.length b3)) (fun _ hk => hk.2) (.slice b6 av.length b7)) (fun _ hk => hk.2) (.int .i64 b9)) (fun _ hk => ⟨hk.1.1.2, ⟨hk.1.2, hk.1.1.1⟩⟩)⟩, ⟨by (with_reducible repeat (first | apply yD | apply yE | apply yF)); refine yM ?_ ak.out _; (with_reducible repeat (first | apply yD | apply yE | apply yF)); refine yM ?_ ak.out _; (with_reducible repeat (first | apply yD | apply yE | apply yF)); refine yM ?_ ak.out _; (with_reducible repeat (first | apply yD | apply yE | apply yF)); refine yM ?_ ak.out _; (with_reducible repeat (first | apply yD | apply yE | apply yF)); exact a5.out⟩, ⟨by (with_reducible repeat (first | apply yD | apply yE | apply yF)); refine yL (cs := #[.slice b0 am.length b1, .slice b2 an.length b3, .slice b6 av.length b7, .int .i64 0]) ?_ 3 _ rfl; (with_reducible repeat (first | apply yD | apply yE | apply yF)); refine yL (cs := #[.slice b0 am.length b1, .slice b2 an.length b3, .slice none 0 0, .int .i64 0]) ?_ 2 _ rfl; (with_reducible repeat (first | apply yD | apply yE | apply yF)); refine yL (cs := #[.slice b0 am.length b1, .slice none 0 0, .slice none 0 0, .int .i64 0]) ?_ 1 _ rfl; (with_reducible repeat (first | apply yD | apply yE | apply yF)); refine yL (cs := #[.slice none 0 0, .slice none 0 0, .slice none 0 0, .int .i64 0]) ?_ 0 _ rfl; (with_reducible repeat (first | apply yD | apply yE | apply yF)); exact aa.out⟩, ⟨uD HB.out ah.out bt.out⟩⟩
       case rest =>
        clear HC61
        try clear c1
        try clear p1
        try clear q1
        try clear hx1
        try clear c2
        try clear p2
        try clear q2
        try clear hx2
        try clear c3
        try clear q3
        try clear c4
        try clear c4b0
        try clear c4b1
        try clear p4
        try clear q4
        try clear hx4
        try clear hf4
        try clear c5
        try clear c5b0
        try clear c5b1
        try clear q5
        try clear c6
        try clear p6
        try clear c7
        try clear c8
        try clear c14
        try clear c14b0
        try clear c15
        try clear c15b0
        try clear c16
        try clear c16b0
        try clear c16b1
        try clear c17
        try clear c17b0
        try clear c18
        try clear c18b0
        try clear p19
        try clear q19
        try clear hx19
        try clear hf19
        try clear c24
        try clear p24
        try clear q24
        try clear hx24
        try clear p25
        try clear q25
        try clear hx25
        try clear c26
        try clear c26b0
        try clear c27
        try clear c27b0
        try clear c29
        try clear c31
        try clear c31b0
        try clear c32
        try clear c32b0
        try clear c33
        try clear c33b0
        try clear q34
        try clear c35
        try clear c38
        try clear c38b0
        try clear c38b1
        try clear c39
        try clear c39b0
        try clear c40
        try clear c40b0
        try clear p41
        try clear q41
        try clear hx41
        try clear hf41
        try clear c42
        try clear c42b0
        try clear c43
        try clear c43b0
        try clear c45
        try clear c45b0
        try clear c45b1
        try clear c46
        try clear c46b0
        try clear c46b1
        try clear c47
        try clear c48
        try clear c49
        try clear c49b0
        try clear c50
        try clear c50b0
        try clear c51
        try clear q55
        try clear c58
        try clear q58
        try clear p64
        try clear c66
        try clear c70
        try clear c70b0
        try clear c70b1
        try clear c71
        try clear c71b0
        try clear c71b1
        try clear c72
        try clear c72b0
        try clear c72b1
        try clear c72b2
        try clear c73
        try clear c73b0
        try clear c73b1
        try clear c73b2
        try clear c74
        try clear c77
        try clear c80
        try clear hcz67_0
        try clear hcz67_1
        try clear hcz67_2
        try clear hcz67_3
        try clear hcz75_0
        try clear hcz75_1
        try clear hcz75_2
        try clear hcz75_3
        try clear hcz76_0
        try clear hcz76_1
        try clear hcz76_2
        try clear hcz76_3
        try clear hcz78_0
        try clear hcz78_1
        try clear hcz78_2
        try clear hcz78_3
        try clear hcz79_0
        try clear hcz79_1
        try clear hcz79_2
        try clear hcz79_3
        try clear hcz81_0
        try clear hcz81_1
        try clear hcz81_2
        try clear hcz81_3
        try clear hcz82_0
        try clear hcz82_1
        try clear hcz82_2
        try clear hcz82_3
        try clear hcz9_0
        try clear hcz9_1
        try clear hcz9_2
        try clear hcz9_3
        try clear hfz67_0
        try clear hfz67_1
        try clear hfz67_2
        try clear hfz67_3
        try clear hfz75_0
        try clear hfz75_1
        try clear hfz75_2
        try clear hfz75_3
        try clear hfz76_0
        try clear hfz76_1
        try clear hfz76_2
        try clear hfz76_3
        try clear hfz78_0
        try clear hfz78_1
        try clear hfz78_2
        try clear hfz78_3
        try clear hfz79_0
        try clear hfz79_1
        try clear hfz79_2
        try clear hfz79_3
        try clear hfz81_0
        try clear hfz81_1
        try clear hfz81_2
        try clear hfz81_3
        try clear hfz82_0
        try clear hfz82_1
        try clear hfz82_2
        try clear hfz82_3
        try clear hfz9_0
        try clear hfz9_1
        try clear hfz9_2
        try clear hfz9_3
        try clear cw
        try clear bh
        try clear bi
        try clear bj
        try clear bk
        try clear bl
        try clear bm
        try clear bg
        try clear cb
        try clear cc
        try clear cd
        try clear ce
        try clear cf
        try clear cg
        try clear bw
        try clear co
        try clear bo
        try clear hx41_0
        try clear p1
        try clear p19
        try clear p2
        try clear p24
        try clear cy
        try clear p248
        try clear p25
        try clear p253
        try clear c_
        try clear p4
        try clear p41
        try clear p6
        try clear q058
        try clear q1
        try clear q19
        try clear q2
        try clear q24
        try clear cz
        try clear q248
        try clear q25
        try clear q253
        try clear d0
        try clear q3
        try clear q34
        try clear q4
        try clear q41
        try clear q5
        try clear q55
        try clear q58
        obtain ⟨kq, x139_60, rfl, HA, HJ60, ac, a3, a2, a4, aq, au, aw, a5, aa, HB⟩ := hcut
        cases kq with
        | zero => exact absurd HA.out (by simp [switchbacklaw17_RelaxLabels.j6])
        | succ kj60 =>
         have H := HA.out
         clear HA
         simp only [switchbacklaw17_RelaxLabels.j6] at H
         by_cases c83 : x139_60 = true
         ·subst c83
          have H1 : (some false) = some r := by rw [if_pos rfl] at H; exact H
          clear H
          have H := H1
          clear H1
          obtain rfl := Option.some.inj H
          go_wp2
          repeat (go_quiet (fail); try go_wp2)
          go_ret
          exact ⟨by first | rfl | (simp [errW_none, errW_some] <;> rfl) | (simp [*, errW_none, errW_some] <;> rfl), by repeat (first | (with_reducible first | exact HB.out | apply yH | apply yG | apply yI | refine yP ?_ ah.out | refine yP ?_ bt.out) | exact HB.out)⟩
         replace c83 := Bool.eq_false_iff.mpr c83
         subst c83
         have H1 : (switchbacklaw17_RelaxLabels.l3 kj60 be 0 a9 a8 ab aj am an av b9) = some r := by rw [if_neg (show ¬ (false = true) by decide)] at H; exact H
         clear H
         have H := H1
         clear H1
         have H' := uZ H
         clear H
         go_wp2
         repeat (go_quiet (fail); try go_wp2)
         go_loopg [18] kj60 (fun kq v18 w' => ∃ (ao : Int), v18 = .int .i64 ao ∧ Aside0 (switchbacklaw17_RelaxLabels.l3 kq be ao a9 a8 ab aj am an av b9 = some r) ∧ Aside0 (kq ≤ kj60) ∧ Aside0 (Kd.N k40 40 w' w.heap.size (fun k_ => some k_ ≠ ((.slice ax a9.length co8) : Value).ownBlock ∧ some k_ ≠ ((.slice ad a8.length ae) : Value).ownBlock ∧ some k_ ≠ ((.slice af ab.length ag) : Value).ownBlock ∧ some k_ ≠ ((.slice b0 am.length b1) : Value).ownBlock ∧ some k_ ≠ ((.slice b2 an.length b3) : Value).ownBlock ∧ some k_ ≠ ((.slice b6 av.length b7) : Value).ownBlock ∧ k_ ≠ a6 ∧ k_ ≠ a7) (.slice Ao62 be.length co62) be) ∧ Aside0 (Kd.R (Kd.int .u32) 38 w' w.heap.size (fun k_ => some k_ ≠ ((.slice b0 am.length b1) : Value).ownBlock) (.slice ax a9.length co8) a9) ∧ Aside0 (Kd.R (Kd.int .i64) 3 w' w.heap.size (fun k_ => some k_ ≠ ((.slice af ab.length ag) : Value).ownBlock ∧ some k_ ≠ ((.slice b2 an.length b3) : Value).ownBlock ∧ some k_ ≠ ((.slice b6 av.length b7) : Value).ownBlock) (.slice ad a8.length ae) a8) ∧ Aside0 (Kd.R (Kd.int .i64) 3 w' w.heap.size (fun k_ => some k_ ≠ ((.slice ad a8.length ae) : Value).ownBlock ∧ some k_ ≠ ((.slice b2 an.length b3) : Value).ownBlock ∧ some k_ ≠ ((.slice b6 av.length b7) : Value).ownBlock) (.slice af ab.length ag) ab) ∧ Aside0 (Kd.R (Kd.int .u32) 38 w' w.heap.size (fun k_ => some k_ ≠ ((.slice ax a9.length co8) : Value).ownBlock) (.slice b0 am.length b1) am) ∧ Aside0 (Kd.R (Kd.int .i64) 3 w' w.heap.size (fun k_ => some k_ ≠ ((.slice ad a8.length ae) : Value).ownBlock ∧ some k_ ≠ ((.slice af ab.length ag) : Value).ownBlock ∧ some k_ ≠ ((.slice b6 av.length b7) : Value).ownBlock) (.slice b2 an.length b3) an) ∧ Aside0 (Kd.R (Kd.int .i64) 3 w' w.heap.size (fun k_ => some k_ ≠ ((.slice ad a8.length ae) : Value).ownBlock ∧ some k_ ≠ ((.slice af ab.length ag) : Value).ownBlock ∧ some k_ ≠ ((.slice b2 an.length b3) : Value).ownBlock) (.slice b6 av.length b7) av) ∧ Aside0 (w'.heap[a6]? = some (.cells #[(.slice ax a9.length co8), (.slice ad a8.length ae), (.slice af ab.length ag), .int .i64 aj] 27 (0, 0))) ∧ Aside0 (w'.heap[a7]? = some (.cells #[(.slice b0 am.length b1), (.slice b2 an.length b3), (.slice b6 av.length b7), .int .i64 b9] 27 (0, 0))) ∧ Aside0 (Below w.heap.size w w'))
         case atStart => exact ⟨(0), (by first | rfl | (simp; done) | (simp [*]; done)), H', ⟨Nat.le_refl _⟩, ⟨uN ac.out⟩, ⟨uR a3.out⟩, ⟨uR a2.out⟩, ⟨uR a4.out⟩, ⟨uR aq.out⟩, ⟨uR au.out⟩, ⟨uR aw.out⟩, ⟨uK a5.out⟩, ⟨uK aa.out⟩, ⟨uD HB.out ah.out bt.out⟩⟩
         case round =>
          clear H'
          try clear c1
          try clear p1
          try clear q1
          try clear hx1
          try clear c2
          try clear p2
          try clear q2
          try clear hx2
          try clear c3
          try clear q3
          try clear c4
          try clear c4b0
          try clear c4b1
          try clear p4
          try clear q4
          try clear hx4
          try clear hf4
          try clear c5
          try clear c5b0
          try clear c5b1
          try clear q5
          try clear c6
          try clear p6
          try clear c7
          try clear c8
          try clear c14
          try clear c14b0
          try clear c15
          try clear c15b0
          try clear c16
          try clear c16b0
          try clear c16b1
          try clear c17
          try clear c17b0
          try clear c18
          try clear c18b0
          try clear p19
          try clear q19
          try clear hx19
          try clear hf19
          try clear c24
          try clear p24
          try clear q24
          try clear hx24
          try clear p25
          try clear q25
          try clear hx25
          try clear c26
          try clear c26b0
          try clear c27
          try clear c27b0
          try clear c29
          try clear c31
          try clear c31b0
          try clear c32
          try clear c32b0
          try clear c33
          try clear c33b0
          try clear q34
          try clear c35
          try clear c38
          try clear c38b0
          try clear c38b1
          try clear c39
          try clear c39b0
          try clear c40
          try clear c40b0
          try clear p41
          try clear q41
          try clear hx41
          try clear hf41
          try clear c42
          try clear c42b0
          try clear c43
          try clear c43b0
          try clear c45
          try clear c45b0
          try clear c45b1
          try clear c46
          try clear c46b0
          try clear c46b1
          try clear c47
          try clear c48
          try clear c49
          try clear c49b0
          try clear c50
          try clear c50b0
          try clear c51
          try clear q55
          try clear c58
          try clear q58
          try clear p64
          try clear c66
          try clear c70
          try clear c70b0
          try clear c70b1
          try clear c71
          try clear c71b0
          try clear c71b1
          try clear c72
          try clear c72b0
          try clear c72b1
          try clear c72b2
          try clear c73
          try clear c73b0
          try clear c73b1
          try clear c73b2
          try clear c74
          try clear c77
          try clear c80
          try clear c83
          try clear hcz67_0
          try clear hcz67_1
          try clear hcz67_2
          try clear hcz67_3
          try clear hcz75_0
          try clear hcz75_1
          try clear hcz75_2
          try clear hcz75_3
          try clear hcz76_0
          try clear hcz76_1
          try clear hcz76_2
          try clear hcz76_3
          try clear hcz78_0
          try clear hcz78_1
          try clear hcz78_2
          try clear hcz78_3
          try clear hcz79_0
          try clear hcz79_1
          try clear hcz79_2
          try clear hcz79_3
          try clear hcz81_0
          try clear hcz81_1
          try clear hcz81_2
          try clear hcz81_3
          try clear hcz82_0
          try clear hcz82_1
          try clear hcz82_2
          try clear hcz82_3
          try clear hcz9_0
          try clear hcz9_1
          try clear hcz9_2
          try clear hcz9_3
          try clear hfz67_0
          try clear hfz67_1
          try clear hfz67_2
          try clear hfz67_3
          try clear hfz75_0
          try clear hfz75_1
          try clear hfz75_2
          try clear hfz75_3
          try clear hfz76_0
          try clear hfz76_1
          try clear hfz76_2
          try clear hfz76_3
          try clear hfz78_0
          try clear hfz78_1
          try clear hfz78_2
          try clear hfz78_3
          try clear hfz79_0
          try clear hfz79_1
          try clear hfz79_2
          try clear hfz79_3
          try clear hfz81_0
          try clear hfz81_1
          try clear hfz81_2
          try clear hfz81_3
          try clear hfz82_0
          try clear hfz82_1
          try clear hfz82_2
          try clear hfz82_3
          try clear hfz9_0
          try clear hfz9_1
          try clear hfz9_2
          try clear hfz9_3
          try clear cw
          try clear bh
          try clear bi
          try clear bj
          try clear bk
          try clear bl
          try clear bm
          try clear bg
          try clear cb
          try clear cc
          try clear cd
          try clear ce
          try clear cf
          try clear cg
          try clear bw
          try clear co
          try clear bo
          try clear hx41_0
          try clear p1
          try clear p19
          try clear p2
          try clear p24
          try clear cy
          try clear p248
          try clear p25
          try clear p253
          try clear c_
          try clear p4
          try clear p41
          try clear p6
          try clear p64
          try clear q058
          try clear q1
          try clear q19
          try clear q2
          try clear q24
          try clear cz
          try clear q248
          try clear q25
          try clear q253
          try clear d0
          try clear q3
          try clear q34
          try clear q4
          try clear q41
          try clear q5
          try clear q55
          try clear q58
          obtain ⟨ao, rfl, HA, HK4, ac, a3, a2, a4, aq, au, aw, a5, aa, HB⟩ := hrel
          cases gk with
          | zero => exact absurd HA.out (by simp [switchbacklaw17_RelaxLabels.l3])
          | succ k4 =>
           have H := HA.out
           clear HA
           simp only [switchbacklaw17_RelaxLabels.l3] at H
           by_cases c84 : ao < (a9.length : Int)
           ·rw [if_pos c84] at H
            have c84b0 : decide (ao < (a9.length : Int)) = true := decide_eq_true c84
            clear c84
            by_cases c85 : 0 ≤ ao
            ·rw [if_pos c85] at H
             have c85b0 : decide (0 ≤ ao) = true := decide_eq_true c85
             clear c85
             by_cases c86 : ao < (am.length : Int)
             ·rw [if_pos c86] at H
              have c86b0 : decide (ao < (am.length : Int)) = true := decide_eq_true c86
              clear c86
              by_cases c87 : (rd a9 ao) = (rd am ao)
              ·rw [if_pos c87] at H
               have c87b0 : ((rd a9 ao) == (rd am ao)) = true := beq_iff_eq.mpr c87
               have c87b1 : ((rd a9 ao) != (rd am ao)) = false := bne_eq_false_iff_eq.mpr c87
               clear c87
               by_cases c88 : ao < (a8.length : Int)
               ·rw [if_pos c88] at H
                have c88b0 : decide (ao < (a8.length : Int)) = true := decide_eq_true c88
                clear c88
                by_cases c89 : ao < (an.length : Int)
                ·rw [if_pos c89] at H
                 have c89b0 : decide (ao < (an.length : Int)) = true := decide_eq_true c89
                 clear c89
                 by_cases c90 : (rd a8 ao) = (rd an ao)
                 ·rw [if_pos c90] at H
                  have c90b0 : ((rd a8 ao) == (rd an ao)) = true := beq_iff_eq.mpr c90
                  have c90b1 : ((rd a8 ao) != (rd an ao)) = false := bne_eq_false_iff_eq.mpr c90
                  clear c90
                  have H' := uZ H
                  clear H
                  have hnb91 := ak.out
                  have hnc91 := bc.out
                  have hcz92_0 : wr.cell? ⟨a6, 0, none⟩ = some (.slice ax a9.length co8) := (yK a5.out 0).trans rfl
                  have hcz92_1 : wr.cell? ⟨a6, 1, none⟩ = some (.slice ad a8.length ae) := (yK a5.out 1).trans rfl
                  have hcz92_2 : wr.cell? ⟨a6, 2, none⟩ = some (.slice af ab.length ag) := (yK a5.out 2).trans rfl
                  have hcz92_3 : wr.cell? ⟨a6, 3, none⟩ = some (.int .i64 aj) := (yK a5.out 3).trans rfl
                  have hfz92_0 := yJ a5.out 0
                  have hfz92_1 := yJ a5.out 1
                  have hfz92_2 := yJ a5.out 2
                  have hfz92_3 := yJ a5.out 3
                  have p289 : 0 ≤ (ao : Int) := uA
                  have q289 : ao < (a9.length : Int) := uA
                  obtain ⟨ad289, e289, hx289_0⟩ := Kd.at_int (zM a3.out).2.2 ao p289 q289
                  cases e289
                  replace p289 := eq_true p289
                  replace q289 := eq_true q289
                  have hcz93_0 : wr.cell? ⟨a7, 0, none⟩ = some (.slice b0 am.length b1) := (yK aa.out 0).trans rfl
                  have hcz93_1 : wr.cell? ⟨a7, 1, none⟩ = some (.slice b2 an.length b3) := (yK aa.out 1).trans rfl
                  have hcz93_2 : wr.cell? ⟨a7, 2, none⟩ = some (.slice b6 av.length b7) := (yK aa.out 2).trans rfl
                  have hcz93_3 : wr.cell? ⟨a7, 3, none⟩ = some (.int .i64 b9) := (yK aa.out 3).trans rfl
                  have hfz93_0 := yJ aa.out 0
                  have hfz93_1 := yJ aa.out 1
                  have hfz93_2 := yJ aa.out 2
                  have hfz93_3 := yJ aa.out 3
                  have p290 : 0 ≤ (ao : Int) := uA
                  have q290 : ao < (am.length : Int) := uA
                  obtain ⟨ad290, e290, hx290_0⟩ := Kd.at_int (zM aq.out).2.2 ao p290 q290
                  cases e290
                  replace p290 := eq_true p290
                  replace q290 := eq_true q290
                  have p291 : 0 ≤ (ao : Int) := uA
                  have q291 : ao < (a8.length : Int) := uA
                  obtain ⟨ad291, e291, hx291_0⟩ := Kd.at_int (zM a2.out).2.2 ao p291 q291
                  cases e291
                  replace p291 := eq_true p291
                  replace q291 := eq_true q291
                  have p292 : 0 ≤ (ao : Int) := uA
                  have q292 : ao < (an.length : Int) := uA
                  obtain ⟨ad292, e292, hx292_0⟩ := Kd.at_int (zM au.out).2.2 ao p292 q292
                  cases e292
                  replace p292 := eq_true p292
                  replace q292 := eq_true q292
                  go_wp2
                  repeat (go_quiet (fail); try go_wp2)
                  go_roundg k4
                  case measure => have := HK1.out; have := HJ22.out; have := HJ60.out; have := HK4.out; omega
                  case rel => exact ⟨(wrap64 (ao + 1)), (by first | rfl | (simp; done) | (simp [*]; done)), H', ⟨by have := HK1.out; have := HJ22.out; have := HJ60.out; have := HK4.out; omega⟩, ⟨uN ac.out⟩, ⟨uR a3.out⟩, ⟨uR a2.out⟩, ⟨uR a4.out⟩, ⟨uR aq.out⟩, ⟨uR au.out⟩, ⟨uR aw.out⟩, ⟨uK a5.out⟩, ⟨uK aa.out⟩, ⟨uD HB.out ah.out bt.out⟩⟩
                 rw [if_neg c90] at H
                 have c90b0 : ((rd a8 ao) == (rd an ao)) = false := beq_eq_false_iff_ne.mpr c90
                 have c90b1 : ((rd a8 ao) != (rd an ao)) = true := bne_iff_ne.mpr c90
                 obtain rfl := Option.some.inj H
                 have hnb94 := ak.out
                 have hnc94 := bc.out
                 have hcz95_0 : wr.cell? ⟨a6, 0, none⟩ = some (.slice ax a9.length co8) := (yK a5.out 0).trans rfl
                 have hcz95_1 : wr.cell? ⟨a6, 1, none⟩ = some (.slice ad a8.length ae) := (yK a5.out 1).trans rfl
                 have hcz95_2 : wr.cell? ⟨a6, 2, none⟩ = some (.slice af ab.length ag) := (yK a5.out 2).trans rfl
                 have hcz95_3 : wr.cell? ⟨a6, 3, none⟩ = some (.int .i64 aj) := (yK a5.out 3).trans rfl
                 have hfz95_0 := yJ a5.out 0
                 have hfz95_1 := yJ a5.out 1
                 have hfz95_2 := yJ a5.out 2
                 have hfz95_3 := yJ a5.out 3
                 have p289 : 0 ≤ (ao : Int) := uA
                 have q289 : ao < (a9.length : Int) := uA
                 obtain ⟨ad289, e289, hx289_0⟩ := Kd.at_int (zM a3.out).2.2 ao p289 q289
                 cases e289
                 replace p289 := eq_true p289
                 replace q289 := eq_true q289
                 have hcz96_0 : wr.cell? ⟨a7, 0, none⟩ = some (.slice b0 am.length b1) := (yK aa.out 0).trans rfl
                 have hcz96_1 : wr.cell? ⟨a7, 1, none⟩ = some (.slice b2 an.length b3) := (yK aa.out 1).trans rfl
                 have hcz96_2 : wr.cell? ⟨a7, 2, none⟩ = some (.slice b6 av.length b7) := (yK aa.out 2).trans rfl
                 have hcz96_3 : wr.cell? ⟨a7, 3, none⟩ = some (.int .i64 b9) := (yK aa.out 3).trans rfl
                 have hfz96_0 := yJ aa.out 0
                 have hfz96_1 := yJ aa.out 1
                 have hfz96_2 := yJ aa.out 2
                 have hfz96_3 := yJ aa.out 3
                 have p290 : 0 ≤ (ao : Int) := uA
                 have q290 : ao < (am.length : Int) := uA
                 obtain ⟨ad290, e290, hx290_0⟩ := Kd.at_int (zM aq.out).2.2 ao p290 q290
                 cases e290
                 replace p290 := eq_true p290
                 replace q290 := eq_true q290
                 have p291 : 0 ≤ (ao : Int) := uA
                 have q291 : ao < (a8.length : Int) := uA
                 obtain ⟨ad291, e291, hx291_0⟩ := Kd.at_int (zM a2.out).2.2 ao p291 q291
                 cases e291
                 replace p291 := eq_true p291
                 replace q291 := eq_true q291
                 have p292 : 0 ≤ (ao : Int) := uA
                 have q292 : ao < (an.length : Int) := uA
                 obtain ⟨ad292, e292, hx292_0⟩ := Kd.at_int (zM au.out).2.2 ao p292 q292
                 cases e292
                 replace p292 := eq_true p292
                 replace q292 := eq_true q292
                 go_wp2
                 repeat (go_quiet (fail); try go_wp2)
                 go_ret
                 exact ⟨by first | rfl | (simp [errW_none, errW_some] <;> rfl) | (simp [*, errW_none, errW_some] <;> rfl), by repeat (first | (with_reducible first | exact HB.out | apply yH | apply yG | apply yI | refine yP ?_ ah.out | refine yP ?_ bt.out) | exact HB.out)⟩
                rw [if_neg c89] at H
                exact absurd H (by simp)
               rw [if_neg c88] at H
               exact absurd H (by simp)
              rw [if_neg c87] at H
              have c87b0 : ((rd a9 ao) == (rd am ao)) = false := beq_eq_false_iff_ne.mpr c87
              have c87b1 : ((rd a9 ao) != (rd am ao)) = true := bne_iff_ne.mpr c87
              obtain rfl := Option.some.inj H
              have hnb97 := ak.out
              have hnc97 := bc.out
              have hcz98_0 : wr.cell? ⟨a6, 0, none⟩ = some (.slice ax a9.length co8) := (yK a5.out 0).trans rfl
              have hcz98_1 : wr.cell? ⟨a6, 1, none⟩ = some (.slice ad a8.length ae) := (yK a5.out 1).trans rfl
              have hcz98_2 : wr.cell? ⟨a6, 2, none⟩ = some (.slice af ab.length ag) := (yK a5.out 2).trans rfl
              have hcz98_3 : wr.cell? ⟨a6, 3, none⟩ = some (.int .i64 aj) := (yK a5.out 3).trans rfl
              have hfz98_0 := yJ a5.out 0
              have hfz98_1 := yJ a5.out 1
              have hfz98_2 := yJ a5.out 2
              have hfz98_3 := yJ a5.out 3
              have p289 : 0 ≤ (ao : Int) := uA
              have q289 : ao < (a9.length : Int) := uA
              obtain ⟨ad289, e289, hx289_0⟩ := Kd.at_int (zM a3.out).2.2 ao p289 q289
              cases e289
              replace p289 := eq_true p289
              replace q289 := eq_true q289
              have hcz99_0 : wr.cell? ⟨a7, 0, none⟩ = some (.slice b0 am.length b1) := (yK aa.out 0).trans rfl
              have hcz99_1 : wr.cell? ⟨a7, 1, none⟩ = some (.slice b2 an.length b3) := (yK aa.out 1).trans rfl
              have hcz99_2 : wr.cell? ⟨a7, 2, none⟩ = some (.slice b6 av.length b7) := (yK aa.out 2).trans rfl
              have hcz99_3 : wr.cell? ⟨a7, 3, none⟩ = some (.int .i64 b9) := (yK aa.out 3).trans rfl
              have hfz99_0 := yJ aa.out 0
              have hfz99_1 := yJ aa.out 1
              have hfz99_2 := yJ aa.out 2
              have hfz99_3 := yJ aa.out 3
              have p290 : 0 ≤ (ao : Int) := uA
              have q290 : ao < (am.length : Int) := uA
              obtain ⟨ad290, e290, hx290_0⟩ := Kd.at_int (zM aq.out).2.2 ao p290 q290
              cases e290
              replace p290 := eq_true p290
              replace q290 := eq_true q290
              go_wp2
              repeat (go_quiet (fail); try go_wp2)
              go_ret
              exact ⟨by first | rfl | (simp [errW_none, errW_some] <;> rfl) | (simp [*, errW_none, errW_some] <;> rfl), by repeat (first | (with_reducible first | exact HB.out | apply yH | apply yG | apply yI | refine yP ?_ ah.out | refine yP ?_ bt.out) | exact HB.out)⟩
             rw [if_neg c86] at H
             exact absurd H (by simp)
            rw [if_neg c85] at H
            exact absurd H (by simp)
           rw [if_neg c84] at H
           have c84b0 : decide (ao < (a9.length : Int)) = false := decide_eq_false c84
           clear c84
           replace H := Option.bind_eq_some_iff.mp H
           obtain ⟨t293, A1000, H⟩ := H
           replace H : (if t293 = true then (some ((av.length : Int) == (be.length : Int))) else (some false)) = some r := H
           have A100 := uZ A1000
           clear A1000
           by_cases c101 : t293 = true
           ·subst c101
            have H1 : (some ((av.length : Int) == (be.length : Int))) = some r := by rw [if_pos rfl] at H; exact H
            clear H
            have H := H1
            clear H1
            obtain rfl := Option.some.inj H
            have hnb102 := ak.out
            have hnc102 := bc.out
            have hcz103_0 : wr.cell? ⟨a6, 0, none⟩ = some (.slice ax a9.length co8) := (yK a5.out 0).trans rfl
            have hcz103_1 : wr.cell? ⟨a6, 1, none⟩ = some (.slice ad a8.length ae) := (yK a5.out 1).trans rfl
            have hcz103_2 : wr.cell? ⟨a6, 2, none⟩ = some (.slice af ab.length ag) := (yK a5.out 2).trans rfl
            have hcz103_3 : wr.cell? ⟨a6, 3, none⟩ = some (.int .i64 aj) := (yK a5.out 3).trans rfl
            have hfz103_0 := yJ a5.out 0
            have hfz103_1 := yJ a5.out 1
            have hfz103_2 := yJ a5.out 2
            have hfz103_3 := yJ a5.out 3
            go_wp2_with (first | (go_at_call 21; (with_reducible refine (switchbacklaw17_live.calls  true _ (uZ (hLaid_.out.below (by repeat (first | (with_reducible first | exact HB.out | apply yH | apply yG | apply yI) | refine yP ?_ (Aside0.out (by assumption)) | exact HB.out)))) A100.out).mono ?_); rintro e d2 ⟨rfl, hb⟩; have n0_ := uZ (zR (uN ac.out) hb); have n1_ := uZ (zE (uR a3.out) hb); have n2_ := uZ (zE (uR a2.out) hb); have n3_ := uZ (zE (uR a4.out) hb); have n4_ := uZ (zE (uR aq.out) hb); have n5_ := uZ (zE (uR au.out) hb); have n6_ := uZ (zE (uR aw.out) hb); have n7_ := uZ (yO (g := a6) (o := .cells #[.slice ax a9.length co8, .slice ad a8.length ae, .slice af ab.length ag, .int .i64 aj] 27 (0, 0)) (uK a5.out) hb); have n8_ := uZ (yO (g := a7) (o := .cells #[.slice b0 am.length b1, .slice b2 an.length b3, .slice b6 av.length b7, .int .i64 b9] 27 (0, 0)) (uK aa.out) hb); have n9_ := uZ (yR (uD HB.out ah.out bt.out) hb); clear ac; clear a3; clear a2; clear a4; clear aq; clear au; clear aw; clear a5; clear aa; clear HB; have ac := n0_; have a3 := n1_; have a2 := n2_; have a4 := n3_; have aq := n4_; have au := n5_; have aw := n6_; have a5 := n7_; have aa := n8_; have HB := n9_; clear n0_ n1_ n2_ n3_ n4_ n5_ n6_ n7_ n8_ n9_; (try clear hb); (try clear hb2); (try clear hk); (try clear hi); have hcz105_0 : d2.cell? ⟨a7, 0, none⟩ = some (.slice b0 am.length b1) := (yK aa.out 0).trans rfl; have hcz105_1 : d2.cell? ⟨a7, 1, none⟩ = some (.slice b2 an.length b3) := (yK aa.out 1).trans rfl; have hcz105_2 : d2.cell? ⟨a7, 2, none⟩ = some (.slice b6 av.length b7) := (yK aa.out 2).trans rfl; have hcz105_3 : d2.cell? ⟨a7, 3, none⟩ = some (.int .i64 b9) := (yK aa.out 3).trans rfl; have hfz105_0 := yJ aa.out 0; have hfz105_1 := yJ aa.out 1; have hfz105_2 := yJ aa.out 2; have hfz105_3 := yJ aa.out 3))
            repeat (go_quiet (first | (go_at_call 21; (with_reducible refine (switchbacklaw17_live.calls  true _ (uZ (hLaid_.out.below (by repeat (first | (with_reducible first | exact HB.out | apply yH | apply yG | apply yI) | refine yP ?_ (Aside0.out (by assumption)) | exact HB.out)))) A100.out).mono ?_); rintro e d2 ⟨rfl, hb⟩; have n0_ := uZ (zR (uN ac.out) hb); have n1_ := uZ (zE (uR a3.out) hb); have n2_ := uZ (zE (uR a2.out) hb); have n3_ := uZ (zE (uR a4.out) hb); have n4_ := uZ (zE (uR aq.out) hb); have n5_ := uZ (zE (uR au.out) hb); have n6_ := uZ (zE (uR aw.out) hb); have n7_ := uZ (yO (g := a6) (o := .cells #[.slice ax a9.length co8, .slice ad a8.length ae, .slice af ab.length ag, .int .i64 aj] 27 (0, 0)) (uK a5.out) hb); have n8_ := uZ (yO (g := a7) (o := .cells #[.slice b0 am.length b1, .slice b2 an.length b3, .slice b6 av.length b7, .int .i64 b9] 27 (0, 0)) (uK aa.out) hb); have n9_ := uZ (yR (uD HB.out ah.out bt.out) hb); clear ac; clear a3; clear a2; clear a4; clear aq; clear au; clear aw; clear a5; clear aa; clear HB; have ac := n0_; have a3 := n1_; have a2 := n2_; have a4 := n3_; have aq := n4_; have au := n5_; have aw := n6_; have a5 := n7_; have aa := n8_; have HB := n9_; clear n0_ n1_ n2_ n3_ n4_ n5_ n6_ n7_ n8_ n9_; (try clear hb); (try clear hb2); (try clear hk); (try clear hi); have hcz105_0 : d2.cell? ⟨a7, 0, none⟩ = some (.slice b0 am.length b1) := (yK aa.out 0).trans rfl; have hcz105_1 : d2.cell? ⟨a7, 1, none⟩ = some (.slice b2 an.length b3) := (yK aa.out 1).trans rfl; have hcz105_2 : d2.cell? ⟨a7, 2, none⟩ = some (.slice b6 av.length b7) := (yK aa.out 2).trans rfl; have hcz105_3 : d2.cell? ⟨a7, 3, none⟩ = some (.int .i64 b9) := (yK aa.out 3).trans rfl; have hfz105_0 := yJ aa.out 0; have hfz105_1 := yJ aa.out 1; have hfz105_2 := yJ aa.out 2; have hfz105_3 := yJ aa.out 3)); try go_wp2_with (first | (go_at_call 21; (with_reducible refine (switchbacklaw17_live.calls  true _ (uZ (hLaid_.out.below (by repeat (first | (with_reducible first | exact HB.out | apply yH | apply yG | apply yI) | refine yP ?_ (Aside0.out (by assumption)) | exact HB.out)))) A100.out).mono ?_); rintro e d2 ⟨rfl, hb⟩; have n0_ := uZ (zR (uN ac.out) hb); have n1_ := uZ (zE (uR a3.out) hb); have n2_ := uZ (zE (uR a2.out) hb); have n3_ := uZ (zE (uR a4.out) hb); have n4_ := uZ (zE (uR aq.out) hb); have n5_ := uZ (zE (uR au.out) hb); have n6_ := uZ (zE (uR aw.out) hb); have n7_ := uZ (yO (g := a6) (o := .cells #[.slice ax a9.length co8, .slice ad a8.length ae, .slice af ab.length ag, .int .i64 aj] 27 (0, 0)) (uK a5.out) hb); have n8_ := uZ (yO (g := a7) (o := .cells #[.slice b0 am.length b1, .slice b2 an.length b3, .slice b6 av.length b7, .int .i64 b9] 27 (0, 0)) (uK aa.out) hb); have n9_ := uZ (yR (uD HB.out ah.out bt.out) hb); clear ac; clear a3; clear a2; clear a4; clear aq; clear au; clear aw; clear a5; clear aa; clear HB; have ac := n0_; have a3 := n1_; have a2 := n2_; have a4 := n3_; have aq := n4_; have au := n5_; have aw := n6_; have a5 := n7_; have aa := n8_; have HB := n9_; clear n0_ n1_ n2_ n3_ n4_ n5_ n6_ n7_ n8_ n9_; (try clear hb); (try clear hb2); (try clear hk); (try clear hi); have hcz105_0 : d2.cell? ⟨a7, 0, none⟩ = some (.slice b0 am.length b1) := (yK aa.out 0).trans rfl; have hcz105_1 : d2.cell? ⟨a7, 1, none⟩ = some (.slice b2 an.length b3) := (yK aa.out 1).trans rfl; have hcz105_2 : d2.cell? ⟨a7, 2, none⟩ = some (.slice b6 av.length b7) := (yK aa.out 2).trans rfl; have hcz105_3 : d2.cell? ⟨a7, 3, none⟩ = some (.int .i64 b9) := (yK aa.out 3).trans rfl; have hfz105_0 := yJ aa.out 0; have hfz105_1 := yJ aa.out 1; have hfz105_2 := yJ aa.out 2; have hfz105_3 := yJ aa.out 3)))
            go_ret
            exact ⟨by first | rfl | (simp [errW_none, errW_some] <;> rfl) | (simp [*, errW_none, errW_some] <;> rfl), by repeat (first | (with_reducible first | exact HB.out | apply yH | apply yG | apply yI | refine yP ?_ ah.out | refine yP ?_ bt.out) | exact HB.out)⟩
           replace c101 := Bool.eq_false_iff.mpr c101
           subst c101
           have H1 : (some false) = some r := by rw [if_neg (show ¬ (false = true) by decide)] at H; exact H
           clear H
           have H := H1
           clear H1
           obtain rfl := Option.some.inj H
           have hnb106 := ak.out
           have hnc106 := bc.out
           have hcz107_0 : wr.cell? ⟨a6, 0, none⟩ = some (.slice ax a9.length co8) := (yK a5.out 0).trans rfl
           have hcz107_1 : wr.cell? ⟨a6, 1, none⟩ = some (.slice ad a8.length ae) := (yK a5.out 1).trans rfl
           have hcz107_2 : wr.cell? ⟨a6, 2, none⟩ = some (.slice af ab.length ag) := (yK a5.out 2).trans rfl
           have hcz107_3 : wr.cell? ⟨a6, 3, none⟩ = some (.int .i64 aj) := (yK a5.out 3).trans rfl
           have hfz107_0 := yJ a5.out 0
           have hfz107_1 := yJ a5.out 1
           have hfz107_2 := yJ a5.out 2
           have hfz107_3 := yJ a5.out 3
           go_wp2_with (first | (go_at_call 21; (with_reducible refine (switchbacklaw17_live.calls  false _ (uZ (hLaid_.out.below (by repeat (first | (with_reducible first | exact HB.out | apply yH | apply yG | apply yI) | refine yP ?_ (Aside0.out (by assumption)) | exact HB.out)))) A100.out).mono ?_); rintro e w108 ⟨rfl, hb⟩; have n0_ := uZ (zR (uN ac.out) hb); have n1_ := uZ (zE (uR a3.out) hb); have n2_ := uZ (zE (uR a2.out) hb); have n3_ := uZ (zE (uR a4.out) hb); have n4_ := uZ (zE (uR aq.out) hb); have n5_ := uZ (zE (uR au.out) hb); have n6_ := uZ (zE (uR aw.out) hb); have n7_ := uZ (yO (g := a6) (o := .cells #[.slice ax a9.length co8, .slice ad a8.length ae, .slice af ab.length ag, .int .i64 aj] 27 (0, 0)) (uK a5.out) hb); have n8_ := uZ (yO (g := a7) (o := .cells #[.slice b0 am.length b1, .slice b2 an.length b3, .slice b6 av.length b7, .int .i64 b9] 27 (0, 0)) (uK aa.out) hb); have n9_ := uZ (yR (uD HB.out ah.out bt.out) hb); clear ac; clear a3; clear a2; clear a4; clear aq; clear au; clear aw; clear a5; clear aa; clear HB; have ac := n0_; have a3 := n1_; have a2 := n2_; have a4 := n3_; have aq := n4_; have au := n5_; have aw := n6_; have a5 := n7_; have aa := n8_; have HB := n9_; clear n0_ n1_ n2_ n3_ n4_ n5_ n6_ n7_ n8_ n9_; (try clear hb); (try clear hb2); (try clear hk); (try clear hi)))
           repeat (go_quiet (first | (go_at_call 21; (with_reducible refine (switchbacklaw17_live.calls  false _ (uZ (hLaid_.out.below (by repeat (first | (with_reducible first | exact HB.out | apply yH | apply yG | apply yI) | refine yP ?_ (Aside0.out (by assumption)) | exact HB.out)))) A100.out).mono ?_); rintro e w108 ⟨rfl, hb⟩; have n0_ := uZ (zR (uN ac.out) hb); have n1_ := uZ (zE (uR a3.out) hb); have n2_ := uZ (zE (uR a2.out) hb); have n3_ := uZ (zE (uR a4.out) hb); have n4_ := uZ (zE (uR aq.out) hb); have n5_ := uZ (zE (uR au.out) hb); have n6_ := uZ (zE (uR aw.out) hb); have n7_ := uZ (yO (g := a6) (o := .cells #[.slice ax a9.length co8, .slice ad a8.length ae, .slice af ab.length ag, .int .i64 aj] 27 (0, 0)) (uK a5.out) hb); have n8_ := uZ (yO (g := a7) (o := .cells #[.slice b0 am.length b1, .slice b2 an.length b3, .slice b6 av.length b7, .int .i64 b9] 27 (0, 0)) (uK aa.out) hb); have n9_ := uZ (yR (uD HB.out ah.out bt.out) hb); clear ac; clear a3; clear a2; clear a4; clear aq; clear au; clear aw; clear a5; clear aa; clear HB; have ac := n0_; have a3 := n1_; have a2 := n2_; have a4 := n3_; have aq := n4_; have au := n5_; have aw := n6_; have a5 := n7_; have aa := n8_; have HB := n9_; clear n0_ n1_ n2_ n3_ n4_ n5_ n6_ n7_ n8_ n9_; (try clear hb); (try clear hb2); (try clear hk); (try clear hi))); try go_wp2_with (first | (go_at_call 21; (with_reducible refine (switchbacklaw17_live.calls  false _ (uZ (hLaid_.out.below (by repeat (first | (with_reducible first | exact HB.out | apply yH | apply yG | apply yI) | refine yP ?_ (Aside0.out (by assumption)) | exact HB.out)))) A100.out).mono ?_); rintro e w108 ⟨rfl, hb⟩; have n0_ := uZ (zR (uN ac.out) hb); have n1_ := uZ (zE (uR a3.out) hb); have n2_ := uZ (zE (uR a2.out) hb); have n3_ := uZ (zE (uR a4.out) hb); have n4_ := uZ (zE (uR aq.out) hb); have n5_ := uZ (zE (uR au.out) hb); have n6_ := uZ (zE (uR aw.out) hb); have n7_ := uZ (yO (g := a6) (o := .cells #[.slice ax a9.length co8, .slice ad a8.length ae, .slice af ab.length ag, .int .i64 aj] 27 (0, 0)) (uK a5.out) hb); have n8_ := uZ (yO (g := a7) (o := .cells #[.slice b0 am.length b1, .slice b2 an.length b3, .slice b6 av.length b7, .int .i64 b9] 27 (0, 0)) (uK aa.out) hb); have n9_ := uZ (yR (uD HB.out ah.out bt.out) hb); clear ac; clear a3; clear a2; clear a4; clear aq; clear au; clear aw; clear a5; clear aa; clear HB; have ac := n0_; have a3 := n1_; have a2 := n2_; have a4 := n3_; have aq := n4_; have au := n5_; have aw := n6_; have a5 := n7_; have aa := n8_; have HB := n9_; clear n0_ n1_ n2_ n3_ n4_ n5_ n6_ n7_ n8_ n9_; (try clear hb); (try clear hb2); (try clear hk); (try clear hi))))
           go_ret
           exact ⟨by first | rfl | (simp [errW_none, errW_some] <;> rfl) | (simp [*, errW_none, errW_some] <;> rfl), by repeat (first | (with_reducible first | exact HB.out | apply yH | apply yG | apply yI | refine yP ?_ ah.out | refine yP ?_ bt.out) | exact HB.out)⟩
  rw [if_neg c5] at H
  exact absurd H (by simp)
 rw [if_neg c4] at H
 have c4b0 : (t241 == 0) = false := beq_eq_false_iff_ne.mpr c4
 have c4b1 : (t241 != 0) = true := bne_iff_ne.mpr c4
 replace H := Option.bind_eq_some_iff.mp H
 obtain ⟨t243, A1090, H⟩ := H
 replace H : (some t243) = some r := H
 have A109 := uZ A1090
 clear A1090
 obtain rfl := Option.some.inj H
 go_enter Tryd.func6, Tryd.ntmps6
 go_wp2_with (first | (go_at_call 19; (with_reducible refine (relax_Assemble.calls _ _ l0 a9 a8 ab aj t240 t241 _ ?side1 ?side2 (uZ (hLaid_.out.below (by repeat (first | (with_reducible first | exact HB.out | apply yH | apply yG | apply yI) | refine yP ?_ (Aside0.out (by assumption)) | exact HB.out)))) A3.out).mono ?_); (case side1 => repeat (first | exact HR0.out | (with_reducible refine zY ?_ _) | (with_reducible refine zZ ?_ _) | (with_reducible refine yA ?_))); (case side2 => exact HC0.out); rintro e w110 ⟨v231, v234, v237, rfl, ho0, ho1, ho2, hb⟩; have n0_ := uZ (zK ho0 (yQ (uB HB.out))); have n1_ := uZ (zK ho1 (yQ (uB HB.out))); have n2_ := uZ (zK ho2 (yQ (uB HB.out))); have n3_ := uZ (yR (uB HB.out) hb); clear HB; have ay := n0_; have az := n1_; have a_ := n2_; have HB := n3_; clear n0_ n1_ n2_ n3_; (try clear hb); (try clear hb2); (try clear hk); (try clear hi); (try clear ho0); (try clear ho1); (try clear ho2)) | ((with_reducible refine gate_dst (N := 5) rfl ?_); (try (refine gate_guard (by rfl) ?_; dsimp only)); refine box_event ?hg (N := 5) ?hd (cs := #[.slice none 0 0, .slice none 0 0, .slice none 0 0, .int .i64 0]) (t := 27) ?hr ?_; (case hd => rfl); (case hg => rfl); (case hr => first | (go_simp; done) | (go_simp; rfl)); intro a6 hg d3 hbox hb; have n0_ := uZ (zE (uR ay.out) hb); have n1_ := uZ (zE (uR az.out) hb); have n2_ := uZ (zE (uR a_.out) hb); have n3_ := uZ (yR (uB HB.out) hb); have n4_ := uZ (hbox); have n5_ := uZ ((by rw [hg]; exact (yQ (uB HB.out)) : w.heap.size ≤ a6)); have n6_ := uZ ((by rw [hg]; exact (yQ (uB HB.out)) : w.heap.size ≤ a6)); clear ay; clear az; clear a_; clear HB; have ay := n0_; have az := n1_; have a_ := n2_; have HB := n3_; have a5 := n4_; have GW242 := n5_; have ah := n6_; clear n0_ n1_ n2_ n3_ n4_ n5_ n6_; clear hb hbox hg; obtain ⟨br, bs, eo112⟩ := zL ay.out; subst eo112; have hcz113_0 : d3.cell? ⟨a6, 0, none⟩ = some (.slice none 0 0) := (yK a5.out 0).trans rfl; have hcz113_1 : d3.cell? ⟨a6, 1, none⟩ = some (.slice none 0 0) := (yK a5.out 1).trans rfl; have hcz113_2 : d3.cell? ⟨a6, 2, none⟩ = some (.slice none 0 0) := (yK a5.out 2).trans rfl; have hcz113_3 : d3.cell? ⟨a6, 3, none⟩ = some (.int .i64 0) := (yK a5.out 3).trans rfl; have hfz113_0 := yJ a5.out 0; have hfz113_1 := yJ a5.out 1; have hfz113_2 := yJ a5.out 2; have hfz113_3 := yJ a5.out 3; obtain ⟨bu, bv, eo114⟩ := zL az.out; subst eo114; obtain ⟨ch, ci, eo115⟩ := zL a_.out; subst eo115) | (go_at_call 21; (with_reducible refine (switchbacklaw17_live.calls  t243 _ (uZ (hLaid_.out.below (by repeat (first | (with_reducible first | exact HB.out | apply yH | apply yG | apply yI) | refine yP ?_ (Aside0.out (by assumption)) | exact HB.out)))) A109.out).mono ?_); rintro e w116 ⟨rfl, hb⟩; have n0_ := uZ (zE (by (with_reducible repeat (first | apply zA | apply zB | apply zC)); exact (zF (zD (p := ⟨a6, 3, none⟩) (zD (p := ⟨a6, 2, none⟩) (zD (p := ⟨a6, 1, none⟩) (zD (p := ⟨a6, 0, none⟩) (zG ay.out a5.out (by decide)) (fun _ hk => hk.2) (.slice br a9.length bs)) (fun _ hk => hk.2) (.slice bu a8.length bv)) (fun _ hk => hk.2) (.slice ch ab.length ci)) (fun _ hk => hk.2) (.int .i64 aj)) (fun _ h_ => h_.1))) hb); have n1_ := uZ (zE (by (with_reducible repeat (first | apply zA | apply zB | apply zC)); exact (zF (zD (p := ⟨a6, 3, none⟩) (zD (p := ⟨a6, 2, none⟩) (zD (p := ⟨a6, 1, none⟩) (zD (p := ⟨a6, 0, none⟩) (zG az.out a5.out (by decide)) (fun _ hk => hk.2) (.slice br a9.length bs)) (fun _ hk => hk.2) (.slice bu a8.length bv)) (fun _ hk => hk.2) (.slice ch ab.length ci)) (fun _ hk => hk.2) (.int .i64 aj)) (fun _ h_ => h_.1))) hb); have n2_ := uZ (zE (by (with_reducible repeat (first | apply zA | apply zB | apply zC)); exact (zF (zD (p := ⟨a6, 3, none⟩) (zD (p := ⟨a6, 2, none⟩) (zD (p := ⟨a6, 1, none⟩) (zD (p := ⟨a6, 0, none⟩) (zG a_.out a5.out (by decide)) (fun _ hk => hk.2) (.slice br a9.length bs)) (fun _ hk => hk.2) (.slice bu a8.length bv)) (fun _ hk => hk.2) (.slice ch ab.length ci)) (fun _ hk => hk.2) (.int .i64 aj)) (fun _ h_ => h_.1))) hb); have n3_ := uZ (yO (g := a6) (o := .cells #[.slice br a9.length bs, .slice bu a8.length bv, .slice ch ab.length ci, .int .i64 aj] 27 (0, 0)) (by (with_reducible repeat (first | apply yD | apply yE | apply yF)); refine yL (cs := #[.slice br a9.length bs, .slice bu a8.length bv, .slice ch ab.length ci, .int .i64 0]) ?_ 3 _ rfl; (with_reducible repeat (first | apply yD | apply yE | apply yF)); refine yL (cs := #[.slice br a9.length bs, .slice bu a8.length bv, .slice none 0 0, .int .i64 0]) ?_ 2 _ rfl; (with_reducible repeat (first | apply yD | apply yE | apply yF)); refine yL (cs := #[.slice br a9.length bs, .slice none 0 0, .slice none 0 0, .int .i64 0]) ?_ 1 _ rfl; (with_reducible repeat (first | apply yD | apply yE | apply yF)); refine yL (cs := #[.slice none 0 0, .slice none 0 0, .slice none 0 0, .int .i64 0]) ?_ 0 _ rfl; (with_reducible repeat (first | apply yD | apply yE | apply yF)); exact a5.out) hb); have n4_ := uZ (yR (uC HB.out ah.out) hb); clear ay; clear az; clear a_; clear a5; clear HB; have ay := n0_; have az := n1_; have a_ := n2_; have a5 := n3_; have HB := n4_; clear n0_ n1_ n2_ n3_ n4_; (try clear hb); (try clear hb2); (try clear hk); (try clear hi)))
 repeat (go_quiet (first | (go_at_call 19; (with_reducible refine (relax_Assemble.calls _ _ l0 a9 a8 ab aj t240 t241 _ ?side1 ?side2 (uZ (hLaid_.out.below (by repeat (first | (with_reducible first | exact HB.out | apply yH | apply yG | apply yI) | refine yP ?_ (Aside0.out (by assumption)) | exact HB.out)))) A3.out).mono ?_); (case side1 => repeat (first | exact HR0.out | (with_reducible refine zY ?_ _) | (with_reducible refine zZ ?_ _) | (with_reducible refine yA ?_))); (case side2 => exact HC0.out); rintro e w110 ⟨v231, v234, v237, rfl, ho0, ho1, ho2, hb⟩; have n0_ := uZ (zK ho0 (yQ (uB HB.out))); have n1_ := uZ (zK ho1 (yQ (uB HB.out))); have n2_ := uZ (zK ho2 (yQ (uB HB.out))); have n3_ := uZ (yR (uB HB.out) hb); clear HB; have ay := n0_; have az := n1_; have a_ := n2_; have HB := n3_; clear n0_ n1_ n2_ n3_; (try clear hb); (try clear hb2); (try clear hk); (try clear hi); (try clear ho0); (try clear ho1); (try clear ho2)) | ((with_reducible refine gate_dst (N := 5) rfl ?_); (try (refine gate_guard (by rfl) ?_; dsimp only)); refine box_event ?hg (N := 5) ?hd (cs := #[.slice none 0 0, .slice none 0 0, .slice none 0 0, .int .i64 0]) (t := 27) ?hr ?_; (case hd => rfl); (case hg => rfl); (case hr => first | (go_simp; done) | (go_simp; rfl)); intro a6 hg d3 hbox hb; have n0_ := uZ (zE (uR ay.out) hb); have n1_ := uZ (zE (uR az.out) hb); have n2_ := uZ (zE (uR a_.out) hb); have n3_ := uZ (yR (uB HB.out) hb); have n4_ := uZ (hbox); have n5_ := uZ ((by rw [hg]; exact (yQ (uB HB.out)) : w.heap.size ≤ a6)); have n6_ := uZ ((by rw [hg]; exact (yQ (uB HB.out)) : w.heap.size ≤ a6)); clear ay; clear az; clear a_; clear HB; have ay := n0_; have az := n1_; have a_ := n2_; have HB := n3_; have a5 := n4_; have GW242 := n5_; have ah := n6_; clear n0_ n1_ n2_ n3_ n4_ n5_ n6_; clear hb hbox hg; obtain ⟨br, bs, eo112⟩ := zL ay.out; subst eo112; have hcz113_0 : d3.cell? ⟨a6, 0, none⟩ = some (.slice none 0 0) := (yK a5.out 0).trans rfl; have hcz113_1 : d3.cell? ⟨a6, 1, none⟩ = some (.slice none 0 0) := (yK a5.out 1).trans rfl; have hcz113_2 : d3.cell? ⟨a6, 2, none⟩ = some (.slice none 0 0) := (yK a5.out 2).trans rfl; have hcz113_3 : d3.cell? ⟨a6, 3, none⟩ = some (.int .i64 0) := (yK a5.out 3).trans rfl; have hfz113_0 := yJ a5.out 0; have hfz113_1 := yJ a5.out 1; have hfz113_2 := yJ a5.out 2; have hfz113_3 := yJ a5.out 3; obtain ⟨bu, bv, eo114⟩ := zL az.out; subst eo114; obtain ⟨ch, ci, eo115⟩ := zL a_.out; subst eo115) | (go_at_call 21; (with_reducible refine (switchbacklaw17_live.calls  t243 _ (uZ (hLaid_.out.below (by repeat (first | (with_reducible first | exact HB.out | apply yH | apply yG | apply yI) | refine yP ?_ (Aside0.out (by assumption)) | exact HB.out)))) A109.out).mono ?_); rintro e w116 ⟨rfl, hb⟩; have n0_ := uZ (zE (by (with_reducible repeat (first | apply zA | apply zB | apply zC)); exact (zF (zD (p := ⟨a6, 3, none⟩) (zD (p := ⟨a6, 2, none⟩) (zD (p := ⟨a6, 1, none⟩) (zD (p := ⟨a6, 0, none⟩) (zG ay.out a5.out (by decide)) (fun _ hk => hk.2) (.slice br a9.length bs)) (fun _ hk => hk.2) (.slice bu a8.length bv)) (fun _ hk => hk.2) (.slice ch ab.length ci)) (fun _ hk => hk.2) (.int .i64 aj)) (fun _ h_ => h_.1))) hb); have n1_ := uZ (zE (by (with_reducible repeat (first | apply zA | apply zB | apply zC)); exact (zF (zD (p := ⟨a6, 3, none⟩) (zD (p := ⟨a6, 2, none⟩) (zD (p := ⟨a6, 1, none⟩) (zD (p := ⟨a6, 0, none⟩) (zG az.out a5.out (by decide)) (fun _ hk => hk.2) (.slice br a9.length bs)) (fun _ hk => hk.2) (.slice bu a8.length bv)) (fun _ hk => hk.2) (.slice ch ab.length ci)) (fun _ hk => hk.2) (.int .i64 aj)) (fun _ h_ => h_.1))) hb); have n2_ := uZ (zE (by (with_reducible repeat (first | apply zA | apply zB | apply zC)); exact (zF (zD (p := ⟨a6, 3, none⟩) (zD (p := ⟨a6, 2, none⟩) (zD (p := ⟨a6, 1, none⟩) (zD (p := ⟨a6, 0, none⟩) (zG a_.out a5.out (by decide)) (fun _ hk => hk.2) (.slice br a9.length bs)) (fun _ hk => hk.2) (.slice bu a8.length bv)) (fun _ hk => hk.2) (.slice ch ab.length ci)) (fun _ hk => hk.2) (.int .i64 aj)) (fun _ h_ => h_.1))) hb); have n3_ := uZ (yO (g := a6) (o := .cells #[.slice br a9.length bs, .slice bu a8.length bv, .slice ch ab.length ci, .int .i64 aj] 27 (0, 0)) (by (with_reducible repeat (first | apply yD | apply yE | apply yF)); refine yL (cs := #[.slice br a9.length bs, .slice bu a8.length bv, .slice ch ab.length ci, .int .i64 0]) ?_ 3 _ rfl; (with_reducible repeat (first | apply yD | apply yE | apply yF)); refine yL (cs := #[.slice br a9.length bs, .slice bu a8.length bv, .slice none 0 0, .int .i64 0]) ?_ 2 _ rfl; (with_reducible repeat (first | apply yD | apply yE | apply yF)); refine yL (cs := #[.slice br a9.length bs, .slice none 0 0, .slice none 0 0, .int .i64 0]) ?_ 1 _ rfl; (with_reducible repeat (first | apply yD | apply yE | apply yF)); refine yL (cs := #[.slice none 0 0, .slice none 0 0, .slice none 0 0, .int .i64 0]) ?_ 0 _ rfl; (with_reducible repeat (first | apply yD | apply yE | apply yF)); exact a5.out) hb); have n4_ := uZ (yR (uC HB.out ah.out) hb); clear ay; clear az; clear a_; clear a5; clear HB; have ay := n0_; have az := n1_; have a_ := n2_; have a5 := n3_; have HB := n4_; clear n0_ n1_ n2_ n3_ n4_; (try clear hb); (try clear hb2); (try clear hk); (try clear hi))); try go_wp2_with (first | (go_at_call 19; (with_reducible refine (relax_Assemble.calls _ _ l0 a9 a8 ab aj t240 t241 _ ?side1 ?side2 (uZ (hLaid_.out.below (by repeat (first | (with_reducible first | exact HB.out | apply yH | apply yG | apply yI) | refine yP ?_ (Aside0.out (by assumption)) | exact HB.out)))) A3.out).mono ?_); (case side1 => repeat (first | exact HR0.out | (with_reducible refine zY ?_ _) | (with_reducible refine zZ ?_ _) | (with_reducible refine yA ?_))); (case side2 => exact HC0.out); rintro e w110 ⟨v231, v234, v237, rfl, ho0, ho1, ho2, hb⟩; have n0_ := uZ (zK ho0 (yQ (uB HB.out))); have n1_ := uZ (zK ho1 (yQ (uB HB.out))); have n2_ := uZ (zK ho2 (yQ (uB HB.out))); have n3_ := uZ (yR (uB HB.out) hb); clear HB; have ay := n0_; have az := n1_; have a_ := n2_; have HB := n3_; clear n0_ n1_ n2_ n3_; (try clear hb); (try clear hb2); (try clear hk); (try clear hi); (try clear ho0); (try clear ho1); (try clear ho2)) | ((with_reducible refine gate_dst (N := 5) rfl ?_); (try (refine gate_guard (by rfl) ?_; dsimp only)); refine box_event ?hg (N := 5) ?hd (cs := #[.slice none 0 0, .slice none 0 0, .slice none 0 0, .int .i64 0]) (t := 27) ?hr ?_; (case hd => rfl); (case hg => rfl); (case hr => first | (go_simp; done) | (go_simp; rfl)); intro a6 hg d3 hbox hb; have n0_ := uZ (zE (uR ay.out) hb); have n1_ := uZ (zE (uR az.out) hb); have n2_ := uZ (zE (uR a_.out) hb); have n3_ := uZ (yR (uB HB.out) hb); have n4_ := uZ (hbox); have n5_ := uZ ((by rw [hg]; exact (yQ (uB HB.out)) : w.heap.size ≤ a6)); have n6_ := uZ ((by rw [hg]; exact (yQ (uB HB.out)) : w.heap.size ≤ a6)); clear ay; clear az; clear a_; clear HB; have ay := n0_; have az := n1_; have a_ := n2_; have HB := n3_; have a5 := n4_; have GW242 := n5_; have ah := n6_; clear n0_ n1_ n2_ n3_ n4_ n5_ n6_; clear hb hbox hg; obtain ⟨br, bs, eo112⟩ := zL ay.out; subst eo112; have hcz113_0 : d3.cell? ⟨a6, 0, none⟩ = some (.slice none 0 0) := (yK a5.out 0).trans rfl; have hcz113_1 : d3.cell? ⟨a6, 1, none⟩ = some (.slice none 0 0) := (yK a5.out 1).trans rfl; have hcz113_2 : d3.cell? ⟨a6, 2, none⟩ = some (.slice none 0 0) := (yK a5.out 2).trans rfl; have hcz113_3 : d3.cell? ⟨a6, 3, none⟩ = some (.int .i64 0) := (yK a5.out 3).trans rfl; have hfz113_0 := yJ a5.out 0; have hfz113_1 := yJ a5.out 1; have hfz113_2 := yJ a5.out 2; have hfz113_3 := yJ a5.out 3; obtain ⟨bu, bv, eo114⟩ := zL az.out; subst eo114; obtain ⟨ch, ci, eo115⟩ := zL a_.out; subst eo115) | (go_at_call 21; (with_reducible refine (switchbacklaw17_live.calls  t243 _ (uZ (hLaid_.out.below (by repeat (first | (with_reducible first | exact HB.out | apply yH | apply yG | apply yI) | refine yP ?_ (Aside0.out (by assumption)) | exact HB.out)))) A109.out).mono ?_); rintro e w116 ⟨rfl, hb⟩; have n0_ := uZ (zE (by (with_reducible repeat (first | apply zA | apply zB | apply zC)); exact (zF (zD (p := ⟨a6, 3, none⟩) (zD (p := ⟨a6, 2, none⟩) (zD (p := ⟨a6, 1, none⟩) (zD (p := ⟨a6, 0, none⟩) (zG ay.out a5.out (by decide)) (fun _ hk => hk.2) (.slice br a9.length bs)) (fun _ hk => hk.2) (.slice bu a8.length bv)) (fun _ hk => hk.2) (.slice ch ab.length ci)) (fun _ hk => hk.2) (.int .i64 aj)) (fun _ h_ => h_.1))) hb); have n1_ := uZ (zE (by (with_reducible repeat (first | apply zA | apply zB | apply zC)); exact (zF (zD (p := ⟨a6, 3, none⟩) (zD (p := ⟨a6, 2, none⟩) (zD (p := ⟨a6, 1, none⟩) (zD (p := ⟨a6, 0, none⟩) (zG az.out a5.out (by decide)) (fun _ hk => hk.2) (.slice br a9.length bs)) (fun _ hk => hk.2) (.slice bu a8.length bv)) (fun _ hk => hk.2) (.slice ch ab.length ci)) (fun _ hk => hk.2) (.int .i64 aj)) (fun _ h_ => h_.1))) hb); have n2_ := uZ (zE (by (with_reducible repeat (first | apply zA | apply zB | apply zC)); exact (zF (zD (p := ⟨a6, 3, none⟩) (zD (p := ⟨a6, 2, none⟩) (zD (p := ⟨a6, 1, none⟩) (zD (p := ⟨a6, 0, none⟩) (zG a_.out a5.out (by decide)) (fun _ hk => hk.2) (.slice br a9.length bs)) (fun _ hk => hk.2) (.slice bu a8.length bv)) (fun _ hk => hk.2) (.slice ch ab.length ci)) (fun _ hk => hk.2) (.int .i64 aj)) (fun _ h_ => h_.1))) hb); have n3_ := uZ (yO (g := a6) (o := .cells #[.slice br a9.length bs, .slice bu a8.length bv, .slice ch ab.length ci, .int .i64 aj] 27 (0, 0)) (by (with_reducible repeat (first | apply yD | apply yE | apply yF)); refine yL (cs := #[.slice br a9.length bs, .slice bu a8.length bv, .slice ch ab.length ci, .int .i64 0]) ?_ 3 _ rfl; (with_reducible repeat (first | apply yD | apply yE | apply yF)); refine yL (cs := #[.slice br a9.length bs, .slice bu a8.length bv, .slice none 0 0, .int .i64 0]) ?_ 2 _ rfl; (with_reducible repeat (first | apply yD | apply yE | apply yF)); refine yL (cs := #[.slice br a9.length bs, .slice none 0 0, .slice none 0 0, .int .i64 0]) ?_ 1 _ rfl; (with_reducible repeat (first | apply yD | apply yE | apply yF)); refine yL (cs := #[.slice none 0 0, .slice none 0 0, .slice none 0 0, .int .i64 0]) ?_ 0 _ rfl; (with_reducible repeat (first | apply yD | apply yE | apply yF)); exact a5.out) hb); have n4_ := uZ (yR (uC HB.out ah.out) hb); clear ay; clear az; clear a_; clear a5; clear HB; have ay := n0_; have az := n1_; have a_ := n2_; have a5 := n3_; have HB := n4_; clear n0_ n1_ n2_ n3_ n4_; (try clear hb); (try clear hb2); (try clear hk); (try clear hi))))
 go_ret
 exact ⟨by first | rfl | (simp [errW_none, errW_some] <;> rfl) | (simp [*, errW_none, errW_some] <;> rfl), by repeat (first | (with_reducible first | exact HB.out | apply yH | apply yG | apply yI | refine yP ?_ ah.out) | exact HB.out)⟩

end Go.Proofs.YtamimnaafiphcaaDoor.PR1C
