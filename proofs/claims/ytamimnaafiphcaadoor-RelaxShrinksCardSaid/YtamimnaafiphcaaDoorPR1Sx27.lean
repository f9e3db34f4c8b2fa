-- Written by gp.py for this claim.
import Derived.Test.YtamimnaafiphcaaDoorPR1Sx0
import Derived.Test.YtamimnaafiphcaaDoorPR1Sx26
namespace Go.Proofs.YtamimnaafiphcaaDoor.PR1S
open Go.RowKit Go.Proofs.YtamimnaafiphcaaDoorW.PrintWords Go.Proofs.YtamimnaafiphcaaDoorW.PrintLast Go.Proofs.YtamimnaafiphcaaDoorW.PrintMore
attribute [local go_sem] max2_int min2_int max_two min_two max_three min_three max_four min_four   -- for this text's walks alone
set_option linter.unusedVariables false
set_option linter.unusedSimpArgs false

namespace q_switchbackref17_Goes
theorem uZ {p : Prop} (h : p) : Aside0 p := ⟨h⟩
theorem uK {p q : Prop} (h : p) (g : p → q := by intro h; (with_reducible repeat (first | apply blk_drewN | apply blk_drew | apply blk_alloc)); exact h) : q := g h
theorem uB {p q : Prop} (h : p) (g : p → q := by intro h; repeat (first | (with_reducible first | exact h | apply below_alloc | apply pw_below_drewN | apply below_drew1) | exact h)) : q := g h
theorem uC {p q s : Prop} (h : p) (j : s) (g : p → s → q := by intro h j; repeat (first | (with_reducible first | exact h | apply below_alloc | apply pw_below_drewN | apply below_drew1 | refine below_set ?_ j) | exact h)) : q := g h j
theorem zA : type_of% @blk_frozen := @blk_frozen
theorem zB : type_of% @blk_cell := @blk_cell
end q_switchbackref17_Goes
open q_switchbackref17_Goes

/-! ### switchbackref17_Goes: function 27 -/
def switchbackref17_Goes.f (a0_0 : Int) (a0_1 : Int) (a0_2 : Int) (a0_3 : Int) (a0_4 : Int) (a0_5 : Int) (l0_6 : List Int) : Option (Bool) := (switchbackref17_Branch.f a0_0 a0_1 a0_2 a0_3 a0_4 a0_5 l0_6).bind fun t155 => (if t155 = true then (some true) else (if a0_0 = 41 then (some true) else (some (a0_0 == 43))))
set_option maxHeartbeats 8000000 in
set_option maxRecDepth 100000 in
theorem switchbackref17_Goes.calls (a0_0 : Int) (a0_1 : Int) (a0_2 : Int) (a0_3 : Int) (a0_4 : Int) (a0_5 : Int) (A0_6 : Option Addr) (c0_6 : Nat) (l0_6 : List Int) (r : Bool) (w : World) (hr0_6 : Kd.C (Kd.int .i64) w A0_6 l0_6.length l0_6) (hc0_6 : l0_6.length ≤ c0_6) (h : switchbackref17_Goes.f a0_0 a0_1 a0_2 a0_3 a0_4 a0_5 l0_6 = some r) :
    Calls Tryd.prog 27 #[.agg #[.int .i64 a0_0, .int .i64 a0_1, .int .i64 a0_2, .int .i64 a0_3, .int .u32 a0_4, .int .i64 a0_5, .slice A0_6 l0_6.length c0_6]] w fun e w' => e = .returned (.bool r) ∧ Below w.heap.size w w' := by
 have hu40 := Tryd.underlying40
 have HR0_6 := uZ hr0_6
 have HC0_6 := uZ hc0_6
 clear hr0_6 hc0_6
 have HB := uZ (Below.refl w.heap.size w)
 have H : ((switchbackref17_Branch.f a0_0 a0_1 a0_2 a0_3 a0_4 a0_5 l0_6).bind fun t155 => (if t155 = true then (some true) else (if a0_0 = 41 then (some true) else (some (a0_0 == 43))))) = some r := h
 clear h
 replace H := Option.bind_eq_some_iff.mp H
 obtain ⟨t155, A20, H⟩ := H
 replace H : (if t155 = true then (some true) else (if a0_0 = 41 then (some true) else (some (a0_0 == 43)))) = some r := H
 have A2 := uZ A20
 clear A20
 by_cases c3 : t155 = true
 ·subst c3
  have H1 : (some true) = some r := by rw [if_pos rfl] at H; exact H
  clear H
  have H := H1
  clear H1
  obtain rfl := Option.some.inj H
  go_enter Tryd.func27, Tryd.ntmps27
  go_wp2_with (first | ((with_reducible refine gate_dst (N := 1) rfl ?_); refine box_event ?hg (N := 1) ?hd (cs := #[.int .i64 a0_0, .int .i64 a0_1, .int .i64 a0_2, .int .i64 a0_3, .int .u32 a0_4, .int .i64 a0_5, .slice A0_6 l0_6.length c0_6]) (t := 40) ?hr ?_; (case hd => rfl); (case hg => rfl); (case hr => first | (go_simp; done) | (go_simp; rfl)); intro a1 hg w4 hbox hb; have n0_ := uZ (below_step (uB HB.out) hb); have n1_ := uZ (hbox); have n2_ := uZ ((by rw [hg]; exact (below_size (uB HB.out)) : w.heap.size ≤ a1)); have n3_ := uZ ((by rw [hg]; exact (below_size (uB HB.out)) : w.heap.size ≤ a1)); clear HB; have HB := n0_; have a0 := n1_; have GW154 := n2_; have GE154 := n3_; clear n0_ n1_ n2_ n3_; clear hb hbox hg; have hcz5_0 : w4.cell? ⟨a1, 0, none⟩ = some (.int .i64 a0_0) := (zB a0.out 0).trans rfl; have hcz5_1 : w4.cell? ⟨a1, 1, none⟩ = some (.int .i64 a0_1) := (zB a0.out 1).trans rfl; have hcz5_2 : w4.cell? ⟨a1, 2, none⟩ = some (.int .i64 a0_2) := (zB a0.out 2).trans rfl; have hcz5_3 : w4.cell? ⟨a1, 3, none⟩ = some (.int .i64 a0_3) := (zB a0.out 3).trans rfl; have hcz5_4 : w4.cell? ⟨a1, 4, none⟩ = some (.int .u32 a0_4) := (zB a0.out 4).trans rfl; have hcz5_5 : w4.cell? ⟨a1, 5, none⟩ = some (.int .i64 a0_5) := (zB a0.out 5).trans rfl; have hcz5_6 : w4.cell? ⟨a1, 6, none⟩ = some (.slice A0_6 l0_6.length c0_6) := (zB a0.out 6).trans rfl; have hfz5_0 := zA a0.out 0; have hfz5_1 := zA a0.out 1; have hfz5_2 := zA a0.out 2; have hfz5_3 := zA a0.out 3; have hfz5_4 := zA a0.out 4; have hfz5_5 := zA a0.out 5; have hfz5_6 := zA a0.out 6) | ((with_reducible refine gate_callee (f := 31) rfl ?_); refine goesL_ (some 4) rfl rfl Tryd.func31 (by kernel_rfl) rfl #[.agg #[.int .i64 a0_0, .int .i64 a0_1, .int .i64 a0_2, .int .i64 a0_3, .int .u32 a0_4, .int .i64 a0_5, .slice A0_6 l0_6.length c0_6]] rfl (by (try simp only [List.map_toArray, List.map_cons, List.map_nil]); first | done | rfl | (simp only [List.length_drop, List.length_take]; rfl)) ?_; (with_reducible refine (switchbackref17_Branch.calls a0_0 a0_1 a0_2 a0_3 a0_4 a0_5 _ _ l0_6 true _ ?side1 ?side2 A2.out).mono ?_); (case side1 => repeat (first | exact (Kd.C_below HR0_6.out HB.out) | (with_reducible refine Kd.C_alloc ?_ _) | (with_reducible refine Kd.C_drewN ?_ _) | (with_reducible refine Kd.C_drew ?_))); (case side2 => exact HC0_6.out); rintro e w6 ⟨rfl, hb⟩; refine ⟨_, rfl, ?_⟩; have n0_ := uZ (blk_below (g := a1) (o := .cells #[.int .i64 a0_0, .int .i64 a0_1, .int .i64 a0_2, .int .i64 a0_3, .int .u32 a0_4, .int .i64 a0_5, .slice A0_6 l0_6.length c0_6] 40 (0, 0)) (uK a0.out) hb); have n1_ := uZ (below_step (uC HB.out GE154.out) hb); clear a0; clear HB; have a0 := n0_; have HB := n1_; clear n0_ n1_; (try clear hb); (try clear hb2); (try clear hk); (try clear hi)))
  go_ret
  exact ⟨by first | rfl | (simp [errW_none, errW_some] <;> rfl) | (simp [*, errW_none, errW_some] <;> rfl), by repeat (first | (with_reducible first | exact HB.out | apply below_alloc | apply pw_below_drewN | apply below_drew1 | refine below_set ?_ GE154.out) | exact HB.out)⟩
 replace c3 := Bool.eq_false_iff.mpr c3
 subst c3
 have H1 : (if a0_0 = 41 then (some true) else (some (a0_0 == 43))) = some r := by rw [if_neg (show ¬ (false = true) by decide)] at H; exact H
 clear H
 have H := H1
 clear H1
 by_cases c7 : a0_0 = 41
 ·rw [if_pos c7] at H
  have c7b0 : (a0_0 == 41) = true := beq_iff_eq.mpr c7
  have c7b1 : (a0_0 != 41) = false := bne_eq_false_iff_eq.mpr c7
  clear c7
  obtain rfl := Option.some.inj H
  go_enter Tryd.func27, Tryd.ntmps27
  go_wp2_with (first | ((with_reducible refine gate_dst (N := 1) rfl ?_); refine box_event ?hg (N := 1) ?hd (cs := #[.int .i64 a0_0, .int .i64 a0_1, .int .i64 a0_2, .int .i64 a0_3, .int .u32 a0_4, .int .i64 a0_5, .slice A0_6 l0_6.length c0_6]) (t := 40) ?hr ?_; (case hd => rfl); (case hg => rfl); (case hr => first | (go_simp; done) | (go_simp; rfl)); intro a1 hg w8 hbox hb; have n0_ := uZ (below_step (uB HB.out) hb); have n1_ := uZ (hbox); have n2_ := uZ ((by rw [hg]; exact (below_size (uB HB.out)) : w.heap.size ≤ a1)); have n3_ := uZ ((by rw [hg]; exact (below_size (uB HB.out)) : w.heap.size ≤ a1)); clear HB; have HB := n0_; have a0 := n1_; have GW154 := n2_; have GE154 := n3_; clear n0_ n1_ n2_ n3_; clear hb hbox hg; have hcz9_0 : w8.cell? ⟨a1, 0, none⟩ = some (.int .i64 a0_0) := (zB a0.out 0).trans rfl; have hcz9_1 : w8.cell? ⟨a1, 1, none⟩ = some (.int .i64 a0_1) := (zB a0.out 1).trans rfl; have hcz9_2 : w8.cell? ⟨a1, 2, none⟩ = some (.int .i64 a0_2) := (zB a0.out 2).trans rfl; have hcz9_3 : w8.cell? ⟨a1, 3, none⟩ = some (.int .i64 a0_3) := (zB a0.out 3).trans rfl; have hcz9_4 : w8.cell? ⟨a1, 4, none⟩ = some (.int .u32 a0_4) := (zB a0.out 4).trans rfl; have hcz9_5 : w8.cell? ⟨a1, 5, none⟩ = some (.int .i64 a0_5) := (zB a0.out 5).trans rfl; have hcz9_6 : w8.cell? ⟨a1, 6, none⟩ = some (.slice A0_6 l0_6.length c0_6) := (zB a0.out 6).trans rfl; have hfz9_0 := zA a0.out 0; have hfz9_1 := zA a0.out 1; have hfz9_2 := zA a0.out 2; have hfz9_3 := zA a0.out 3; have hfz9_4 := zA a0.out 4; have hfz9_5 := zA a0.out 5; have hfz9_6 := zA a0.out 6) | ((with_reducible refine gate_callee (f := 31) rfl ?_); refine goesL_ (some 4) rfl rfl Tryd.func31 (by kernel_rfl) rfl #[.agg #[.int .i64 a0_0, .int .i64 a0_1, .int .i64 a0_2, .int .i64 a0_3, .int .u32 a0_4, .int .i64 a0_5, .slice A0_6 l0_6.length c0_6]] rfl (by (try simp only [List.map_toArray, List.map_cons, List.map_nil]); first | done | rfl | (simp only [List.length_drop, List.length_take]; rfl)) ?_; (with_reducible refine (switchbackref17_Branch.calls a0_0 a0_1 a0_2 a0_3 a0_4 a0_5 _ _ l0_6 false _ ?side1 ?side2 A2.out).mono ?_); (case side1 => repeat (first | exact (Kd.C_below HR0_6.out HB.out) | (with_reducible refine Kd.C_alloc ?_ _) | (with_reducible refine Kd.C_drewN ?_ _) | (with_reducible refine Kd.C_drew ?_))); (case side2 => exact HC0_6.out); rintro e w10 ⟨rfl, hb⟩; refine ⟨_, rfl, ?_⟩; have n0_ := uZ (blk_below (g := a1) (o := .cells #[.int .i64 a0_0, .int .i64 a0_1, .int .i64 a0_2, .int .i64 a0_3, .int .u32 a0_4, .int .i64 a0_5, .slice A0_6 l0_6.length c0_6] 40 (0, 0)) (uK a0.out) hb); have n1_ := uZ (below_step (uC HB.out GE154.out) hb); clear a0; clear HB; have a0 := n0_; have HB := n1_; clear n0_ n1_; (try clear hb); (try clear hb2); (try clear hk); (try clear hi); have hcz11_0 : w10.cell? ⟨a1, 0, none⟩ = some (.int .i64 a0_0) := (zB a0.out 0).trans rfl; have hcz11_1 : w10.cell? ⟨a1, 1, none⟩ = some (.int .i64 a0_1) := (zB a0.out 1).trans rfl; have hcz11_2 : w10.cell? ⟨a1, 2, none⟩ = some (.int .i64 a0_2) := (zB a0.out 2).trans rfl; have hcz11_3 : w10.cell? ⟨a1, 3, none⟩ = some (.int .i64 a0_3) := (zB a0.out 3).trans rfl; have hcz11_4 : w10.cell? ⟨a1, 4, none⟩ = some (.int .u32 a0_4) := (zB a0.out 4).trans rfl; have hcz11_5 : w10.cell? ⟨a1, 5, none⟩ = some (.int .i64 a0_5) := (zB a0.out 5).trans rfl; have hcz11_6 : w10.cell? ⟨a1, 6, none⟩ = some (.slice A0_6 l0_6.length c0_6) := (zB a0.out 6).trans rfl; have hfz11_0 := zA a0.out 0; have hfz11_1 := zA a0.out 1; have hfz11_2 := zA a0.out 2; have hfz11_3 := zA a0.out 3; have hfz11_4 := zA a0.out 4; have hfz11_5 := zA a0.out 5; have hfz11_6 := zA a0.out 6))
  go_ret
  exact ⟨by first | rfl | (simp [errW_none, errW_some] <;> rfl) | (simp [*, errW_none, errW_some] <;> rfl), by repeat (first | (with_reducible first | exact HB.out | apply below_alloc | apply pw_below_drewN | apply below_drew1 | refine below_set ?_ GE154.out) | exact HB.out)⟩
 rw [if_neg c7] at H
 have c7b0 : (a0_0 == 41) = false := beq_eq_false_iff_ne.mpr c7
 have c7b1 : (a0_0 != 41) = true := bne_iff_ne.mpr c7
 obtain rfl := Option.some.inj H
 go_enter Tryd.func27, Tryd.ntmps27
 go_wp2_with (first | ((with_reducible refine gate_dst (N := 1) rfl ?_); refine box_event ?hg (N := 1) ?hd (cs := #[.int .i64 a0_0, .int .i64 a0_1, .int .i64 a0_2, .int .i64 a0_3, .int .u32 a0_4, .int .i64 a0_5, .slice A0_6 l0_6.length c0_6]) (t := 40) ?hr ?_; (case hd => rfl); (case hg => rfl); (case hr => first | (go_simp; done) | (go_simp; rfl)); intro a1 hg w12 hbox hb; have n0_ := uZ (below_step (uB HB.out) hb); have n1_ := uZ (hbox); have n2_ := uZ ((by rw [hg]; exact (below_size (uB HB.out)) : w.heap.size ≤ a1)); have n3_ := uZ ((by rw [hg]; exact (below_size (uB HB.out)) : w.heap.size ≤ a1)); clear HB; have HB := n0_; have a0 := n1_; have GW154 := n2_; have GE154 := n3_; clear n0_ n1_ n2_ n3_; clear hb hbox hg; have hcz13_0 : w12.cell? ⟨a1, 0, none⟩ = some (.int .i64 a0_0) := (zB a0.out 0).trans rfl; have hcz13_1 : w12.cell? ⟨a1, 1, none⟩ = some (.int .i64 a0_1) := (zB a0.out 1).trans rfl; have hcz13_2 : w12.cell? ⟨a1, 2, none⟩ = some (.int .i64 a0_2) := (zB a0.out 2).trans rfl; have hcz13_3 : w12.cell? ⟨a1, 3, none⟩ = some (.int .i64 a0_3) := (zB a0.out 3).trans rfl; have hcz13_4 : w12.cell? ⟨a1, 4, none⟩ = some (.int .u32 a0_4) := (zB a0.out 4).trans rfl; have hcz13_5 : w12.cell? ⟨a1, 5, none⟩ = some (.int .i64 a0_5) := (zB a0.out 5).trans rfl; have hcz13_6 : w12.cell? ⟨a1, 6, none⟩ = some (.slice A0_6 l0_6.length c0_6) := (zB a0.out 6).trans rfl; have hfz13_0 := zA a0.out 0; have hfz13_1 := zA a0.out 1; have hfz13_2 := zA a0.out 2; have hfz13_3 := zA a0.out 3; have hfz13_4 := zA a0.out 4; have hfz13_5 := zA a0.out 5; have hfz13_6 := zA a0.out 6) | ((with_reducible refine gate_callee (f := 31) rfl ?_); refine goesL_ (some 4) rfl rfl Tryd.func31 (by kernel_rfl) rfl #[.agg #[.int .i64 a0_0, .int .i64 a0_1, .int .i64 a0_2, .int .i64 a0_3, .int .u32 a0_4, .int .i64 a0_5, .slice A0_6 l0_6.length c0_6]] rfl (by (try simp only [List.map_toArray, List.map_cons, List.map_nil]); first | done | rfl | (simp only [List.length_drop, List.length_take]; rfl)) ?_; (with_reducible refine (switchbackref17_Branch.calls a0_0 a0_1 a0_2 a0_3 a0_4 a0_5 _ _ l0_6 false _ ?side1 ?side2 A2.out).mono ?_); (case side1 => repeat (first | exact (Kd.C_below HR0_6.out HB.out) | (with_reducible refine Kd.C_alloc ?_ _) | (with_reducible refine Kd.C_drewN ?_ _) | (with_reducible refine Kd.C_drew ?_))); (case side2 => exact HC0_6.out); rintro e w14 ⟨rfl, hb⟩; refine ⟨_, rfl, ?_⟩; have n0_ := uZ (blk_below (g := a1) (o := .cells #[.int .i64 a0_0, .int .i64 a0_1, .int .i64 a0_2, .int .i64 a0_3, .int .u32 a0_4, .int .i64 a0_5, .slice A0_6 l0_6.length c0_6] 40 (0, 0)) (uK a0.out) hb); have n1_ := uZ (below_step (uC HB.out GE154.out) hb); clear a0; clear HB; have a0 := n0_; have HB := n1_; clear n0_ n1_; (try clear hb); (try clear hb2); (try clear hk); (try clear hi); have hcz15_0 : w14.cell? ⟨a1, 0, none⟩ = some (.int .i64 a0_0) := (zB a0.out 0).trans rfl; have hcz15_1 : w14.cell? ⟨a1, 1, none⟩ = some (.int .i64 a0_1) := (zB a0.out 1).trans rfl; have hcz15_2 : w14.cell? ⟨a1, 2, none⟩ = some (.int .i64 a0_2) := (zB a0.out 2).trans rfl; have hcz15_3 : w14.cell? ⟨a1, 3, none⟩ = some (.int .i64 a0_3) := (zB a0.out 3).trans rfl; have hcz15_4 : w14.cell? ⟨a1, 4, none⟩ = some (.int .u32 a0_4) := (zB a0.out 4).trans rfl; have hcz15_5 : w14.cell? ⟨a1, 5, none⟩ = some (.int .i64 a0_5) := (zB a0.out 5).trans rfl; have hcz15_6 : w14.cell? ⟨a1, 6, none⟩ = some (.slice A0_6 l0_6.length c0_6) := (zB a0.out 6).trans rfl; have hfz15_0 := zA a0.out 0; have hfz15_1 := zA a0.out 1; have hfz15_2 := zA a0.out 2; have hfz15_3 := zA a0.out 3; have hfz15_4 := zA a0.out 4; have hfz15_5 := zA a0.out 5; have hfz15_6 := zA a0.out 6))
 go_ret
 exact ⟨by first | rfl | (simp [errW_none, errW_some] <;> rfl) | (simp [*, errW_none, errW_some] <;> rfl), by repeat (first | (with_reducible first | exact HB.out | apply below_alloc | apply pw_below_drewN | apply below_drew1 | refine below_set ?_ GE154.out) | exact HB.out)⟩

end Go.Proofs.YtamimnaafiphcaaDoor.PR1S
