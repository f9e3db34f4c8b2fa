-- Written by gp.py for this claim.
import Derived.Test.YtamimnaafiphcaaDoorPR1CZ
namespace Go.Proofs.YtamimnaafiphcaaDoor.PR1C
open Go.RowKit Go.Proofs.YtamimnaafiphcaaDoorW.PrintWords Go.Proofs.YtamimnaafiphcaaDoorW.PrintLast Go.Proofs.YtamimnaafiphcaaDoorW.PrintMore
attribute [local go_sem] max2_int min2_int max_two min_two max_three min_three max_four min_four   -- for this text's walks alone
set_option linter.unusedVariables false
set_option linter.unusedSimpArgs false

namespace q_switchbacklaw17_data
theorem uZ {p : Prop} (h : p) : Aside0 p := ⟨h⟩
theorem uB {p q : Prop} (h : p) (g : p → q := by intro h; repeat (first | (with_reducible first | exact h | apply below_alloc | apply pw_below_drewN | apply below_drew1) | exact h)) : q := g h
theorem uC {p q s : Prop} (h : p) (j : s) (g : p → s → q := by intro h j; repeat (first | (with_reducible first | exact h | apply below_alloc | apply pw_below_drewN | apply below_drew1 | refine below_set ?_ j) | exact h)) : q := g h j
theorem zA : type_of% @pw_below_drewN := @pw_below_drewN
theorem zB : type_of% @blk_frozen := @blk_frozen
theorem zC : type_of% @blk_cell := @blk_cell
theorem zD : type_of% @below_size := @below_size
theorem zE : type_of% @World.block_lt_of_cell? := @World.block_lt_of_cell?
end q_switchbacklaw17_data
open q_switchbacklaw17_data

/-! ### switchbacklaw17_data: function 53 -/
def switchbacklaw17_data.f (l0_0 : List Int) (l0_1 : List Int) (l0_2 : List Int) (a0_3 : Int) (a1 : Int) (a2 : Int) (a3 : Int) : Option (Bool) := if a1 ≥ 0 then (if a1 < (l0_0.length : Int) then (if 0 ≤ a1 then (if a1 < (l0_1.length : Int) then (if (rd l0_1 a1) = a2 then (if a3 ≥ 0 then (some ((rd l0_0 a1) == ((a3) % 4294967296))) else (some false)) else (some false)) else (none)) else (none)) else (some false)) else (some false)
set_option maxHeartbeats 8000000 in
set_option maxRecDepth 100000 in
theorem switchbacklaw17_data.calls (A0_0 : Option Addr) (c0_0 : Nat) (l0_0 : List Int) (A0_1 : Option Addr) (c0_1 : Nat) (l0_1 : List Int) (A0_2 : Option Addr) (c0_2 : Nat) (l0_2 : List Int) (a0_3 : Int) (a1 : Int) (a2 : Int) (a3 : Int) (r : Bool) (w : World) (hr0_0 : Kd.C (Kd.int .u32) w A0_0 l0_0.length l0_0) (hc0_0 : l0_0.length ≤ c0_0) (hr0_1 : Kd.C (Kd.int .i64) w A0_1 l0_1.length l0_1) (hc0_1 : l0_1.length ≤ c0_1) (hr0_2 : Kd.C (Kd.int .i64) w A0_2 l0_2.length l0_2) (hc0_2 : l0_2.length ≤ c0_2) (h : switchbacklaw17_data.f l0_0 l0_1 l0_2 a0_3 a1 a2 a3 = some r) :
    Calls Tryd.prog 53 #[.agg #[.slice A0_0 l0_0.length c0_0, .slice A0_1 l0_1.length c0_1, .slice A0_2 l0_2.length c0_2, .int .i64 a0_3], .int .i64 a1, .int .i64 a2, .int .i64 a3] w fun e w' => e = .returned (.bool r) ∧ Below w.heap.size w w' := by
 have hu27 := Tryd.underlying27
 have HR0_0 := uZ hr0_0
 have HC0_0 := uZ hc0_0
 clear hr0_0 hc0_0
 have HR0_1 := uZ hr0_1
 have HC0_1 := uZ hc0_1
 clear hr0_1 hc0_1
 have HR0_2 := uZ hr0_2
 have HC0_2 := uZ hc0_2
 clear hr0_2 hc0_2
 have HB := uZ (Below.refl w.heap.size w)
 have H : (if a1 ≥ 0 then (if a1 < (l0_0.length : Int) then (if 0 ≤ a1 then (if a1 < (l0_1.length : Int) then (if (rd l0_1 a1) = a2 then (if a3 ≥ 0 then (some ((rd l0_0 a1) == ((a3) % 4294967296))) else (some false)) else (some false)) else (none)) else (none)) else (some false)) else (some false)) = some r := h
 clear h
 by_cases c5 : a1 ≥ 0
 ·rw [if_pos c5] at H
  have c5b0 : decide (0 ≤ a1) = true := decide_eq_true c5
  clear c5
  by_cases c6 : a1 < (l0_0.length : Int)
  ·rw [if_pos c6] at H
   have c6b0 : decide (a1 < (l0_0.length : Int)) = true := decide_eq_true c6
   clear c6
   by_cases c7 : 0 ≤ a1
   ·rw [if_pos c7] at H
    have c7b0 : decide (0 ≤ a1) = true := decide_eq_true c7
    clear c7
    by_cases c8 : a1 < (l0_1.length : Int)
    ·rw [if_pos c8] at H
     have c8b0 : decide (a1 < (l0_1.length : Int)) = true := decide_eq_true c8
     clear c8
     by_cases c9 : (rd l0_1 a1) = a2
     ·rw [if_pos c9] at H
      have c9b0 : ((rd l0_1 a1) == a2) = true := beq_iff_eq.mpr c9
      have c9b1 : ((rd l0_1 a1) != a2) = false := bne_eq_false_iff_eq.mpr c9
      clear c9
      by_cases c10 : a3 ≥ 0
      ·rw [if_pos c10] at H
       have c10b0 : decide (0 ≤ a3) = true := decide_eq_true c10
       clear c10
       obtain rfl := Option.some.inj H
       go_enter Tryd.func53, Tryd.ntmps53
       go_wp2_with (first | ((with_reducible refine gate_dst (N := 4) rfl ?_); (try (refine gate_guard (by rfl) ?_; dsimp only)); refine box_event ?hg (N := 4) ?hd (cs := #[.slice A0_0 l0_0.length c0_0, .slice A0_1 l0_1.length c0_1, .slice A0_2 l0_2.length c0_2, .int .i64 a0_3]) (t := 27) ?hr ?_; (case hd => rfl); (case hg => rfl); (case hr => first | (go_simp; done) | (go_simp; rfl)); intro a4 hg w11 hbox hb; have n0_ := uZ (below_step (uB HB.out) hb); have n1_ := uZ (hbox); have n2_ := uZ ((by rw [hg]; exact (zD (uB HB.out)) : w.heap.size ≤ a4)); have n3_ := uZ ((by rw [hg]; exact (zD (uB HB.out)) : w.heap.size ≤ a4)); clear HB; have HB := n0_; have a0 := n1_; have GW171 := n2_; have a6 := n3_; clear n0_ n1_ n2_ n3_; clear hb hbox hg; have hcz12_0 : w11.cell? ⟨a4, 0, none⟩ = some (.slice A0_0 l0_0.length c0_0) := (zC a0.out 0).trans rfl; have hcz12_1 : w11.cell? ⟨a4, 1, none⟩ = some (.slice A0_1 l0_1.length c0_1) := (zC a0.out 1).trans rfl; have hcz12_2 : w11.cell? ⟨a4, 2, none⟩ = some (.slice A0_2 l0_2.length c0_2) := (zC a0.out 2).trans rfl; have hcz12_3 : w11.cell? ⟨a4, 3, none⟩ = some (.int .i64 a0_3) := (zC a0.out 3).trans rfl; have hfz12_0 := zB a0.out 0; have hfz12_1 := zB a0.out 1; have hfz12_2 := zB a0.out 2; have hfz12_3 := zB a0.out 3; have p172 : 0 ≤ (a1 : Int) := of_decide_eq_true (by first | (with_reducible assumption) | assumption); have q172 : a1 < (l0_1.length : Int) := of_decide_eq_true (by first | (with_reducible assumption) | assumption); obtain ⟨ad172, e172, a5⟩ := Kd.at_int HR0_1.out a1 p172 q172; cases e172; replace a5 := (HB.out.cell (zE w _ a5)).trans a5; replace p172 := eq_true p172; replace q172 := eq_true q172; have p173 : 0 ≤ (a1 : Int) := of_decide_eq_true (by first | (with_reducible assumption) | assumption); have q173 : a1 < (l0_0.length : Int) := of_decide_eq_true (by first | (with_reducible assumption) | assumption); obtain ⟨ad173, e173, hx173_0⟩ := Kd.at_int HR0_0.out a1 p173 q173; cases e173; replace hx173_0 := (HB.out.cell (zE w _ hx173_0)).trans hx173_0; replace p173 := eq_true p173; replace q173 := eq_true q173))
       go_ret
       exact ⟨by first | rfl | (simp [errW_none, errW_some] <;> rfl) | (simp [*, errW_none, errW_some] <;> rfl), by repeat (first | (with_reducible first | exact HB.out | apply below_alloc | apply zA | apply below_drew1 | refine below_set ?_ a6.out) | exact HB.out)⟩
      rw [if_neg c10] at H
      have c10b0 : decide (0 ≤ a3) = false := decide_eq_false c10
      clear c10
      obtain rfl := Option.some.inj H
      go_enter Tryd.func53, Tryd.ntmps53
      go_wp2_with (first | ((with_reducible refine gate_dst (N := 4) rfl ?_); (try (refine gate_guard (by rfl) ?_; dsimp only)); refine box_event ?hg (N := 4) ?hd (cs := #[.slice A0_0 l0_0.length c0_0, .slice A0_1 l0_1.length c0_1, .slice A0_2 l0_2.length c0_2, .int .i64 a0_3]) (t := 27) ?hr ?_; (case hd => rfl); (case hg => rfl); (case hr => first | (go_simp; done) | (go_simp; rfl)); intro a4 hg w13 hbox hb; have n0_ := uZ (below_step (uB HB.out) hb); have n1_ := uZ (hbox); have n2_ := uZ ((by rw [hg]; exact (zD (uB HB.out)) : w.heap.size ≤ a4)); have n3_ := uZ ((by rw [hg]; exact (zD (uB HB.out)) : w.heap.size ≤ a4)); clear HB; have HB := n0_; have a0 := n1_; have GW171 := n2_; have a6 := n3_; clear n0_ n1_ n2_ n3_; clear hb hbox hg; have hcz14_0 : w13.cell? ⟨a4, 0, none⟩ = some (.slice A0_0 l0_0.length c0_0) := (zC a0.out 0).trans rfl; have hcz14_1 : w13.cell? ⟨a4, 1, none⟩ = some (.slice A0_1 l0_1.length c0_1) := (zC a0.out 1).trans rfl; have hcz14_2 : w13.cell? ⟨a4, 2, none⟩ = some (.slice A0_2 l0_2.length c0_2) := (zC a0.out 2).trans rfl; have hcz14_3 : w13.cell? ⟨a4, 3, none⟩ = some (.int .i64 a0_3) := (zC a0.out 3).trans rfl; have hfz14_0 := zB a0.out 0; have hfz14_1 := zB a0.out 1; have hfz14_2 := zB a0.out 2; have hfz14_3 := zB a0.out 3; have p172 : 0 ≤ (a1 : Int) := of_decide_eq_true (by first | (with_reducible assumption) | assumption); have q172 : a1 < (l0_1.length : Int) := of_decide_eq_true (by first | (with_reducible assumption) | assumption); obtain ⟨ad172, e172, a5⟩ := Kd.at_int HR0_1.out a1 p172 q172; cases e172; replace a5 := (HB.out.cell (zE w _ a5)).trans a5; replace p172 := eq_true p172; replace q172 := eq_true q172))
      go_ret
      exact ⟨by first | rfl | (simp [errW_none, errW_some] <;> rfl) | (simp [*, errW_none, errW_some] <;> rfl), by repeat (first | (with_reducible first | exact HB.out | apply below_alloc | apply zA | apply below_drew1 | refine below_set ?_ a6.out) | exact HB.out)⟩
     rw [if_neg c9] at H
     have c9b0 : ((rd l0_1 a1) == a2) = false := beq_eq_false_iff_ne.mpr c9
     have c9b1 : ((rd l0_1 a1) != a2) = true := bne_iff_ne.mpr c9
     obtain rfl := Option.some.inj H
     go_enter Tryd.func53, Tryd.ntmps53
     go_wp2_with (first | ((with_reducible refine gate_dst (N := 4) rfl ?_); (try (refine gate_guard (by rfl) ?_; dsimp only)); refine box_event ?hg (N := 4) ?hd (cs := #[.slice A0_0 l0_0.length c0_0, .slice A0_1 l0_1.length c0_1, .slice A0_2 l0_2.length c0_2, .int .i64 a0_3]) (t := 27) ?hr ?_; (case hd => rfl); (case hg => rfl); (case hr => first | (go_simp; done) | (go_simp; rfl)); intro a4 hg w15 hbox hb; have n0_ := uZ (below_step (uB HB.out) hb); have n1_ := uZ (hbox); have n2_ := uZ ((by rw [hg]; exact (zD (uB HB.out)) : w.heap.size ≤ a4)); have n3_ := uZ ((by rw [hg]; exact (zD (uB HB.out)) : w.heap.size ≤ a4)); clear HB; have HB := n0_; have a0 := n1_; have GW171 := n2_; have a6 := n3_; clear n0_ n1_ n2_ n3_; clear hb hbox hg; have hcz16_0 : w15.cell? ⟨a4, 0, none⟩ = some (.slice A0_0 l0_0.length c0_0) := (zC a0.out 0).trans rfl; have hcz16_1 : w15.cell? ⟨a4, 1, none⟩ = some (.slice A0_1 l0_1.length c0_1) := (zC a0.out 1).trans rfl; have hcz16_2 : w15.cell? ⟨a4, 2, none⟩ = some (.slice A0_2 l0_2.length c0_2) := (zC a0.out 2).trans rfl; have hcz16_3 : w15.cell? ⟨a4, 3, none⟩ = some (.int .i64 a0_3) := (zC a0.out 3).trans rfl; have hfz16_0 := zB a0.out 0; have hfz16_1 := zB a0.out 1; have hfz16_2 := zB a0.out 2; have hfz16_3 := zB a0.out 3; have p172 : 0 ≤ (a1 : Int) := of_decide_eq_true (by first | (with_reducible assumption) | assumption); have q172 : a1 < (l0_1.length : Int) := of_decide_eq_true (by first | (with_reducible assumption) | assumption); obtain ⟨ad172, e172, a5⟩ := Kd.at_int HR0_1.out a1 p172 q172; cases e172; replace a5 := (HB.out.cell (zE w _ a5)).trans a5; replace p172 := eq_true p172; replace q172 := eq_true q172))
     go_ret
     exact ⟨by first | rfl | (simp [errW_none, errW_some] <;> rfl) | (simp [*, errW_none, errW_some] <;> rfl), by repeat (first | (with_reducible first | exact HB.out | apply below_alloc | apply zA | apply below_drew1 | refine below_set ?_ a6.out) | exact HB.out)⟩
    rw [if_neg c8] at H
    exact absurd H (by simp)
   rw [if_neg c7] at H
   exact absurd H (by simp)
  rw [if_neg c6] at H
  have c6b0 : decide (a1 < (l0_0.length : Int)) = false := decide_eq_false c6
  clear c6
  obtain rfl := Option.some.inj H
  go_enter Tryd.func53, Tryd.ntmps53
  go_wp2_with (first | ((with_reducible refine gate_dst (N := 4) rfl ?_); (try (refine gate_guard (by rfl) ?_; dsimp only)); refine box_event ?hg (N := 4) ?hd (cs := #[.slice A0_0 l0_0.length c0_0, .slice A0_1 l0_1.length c0_1, .slice A0_2 l0_2.length c0_2, .int .i64 a0_3]) (t := 27) ?hr ?_; (case hd => rfl); (case hg => rfl); (case hr => first | (go_simp; done) | (go_simp; rfl)); intro a4 hg w17 hbox hb; have n0_ := uZ (below_step (uB HB.out) hb); have n1_ := uZ (hbox); have n2_ := uZ ((by rw [hg]; exact (zD (uB HB.out)) : w.heap.size ≤ a4)); have n3_ := uZ ((by rw [hg]; exact (zD (uB HB.out)) : w.heap.size ≤ a4)); clear HB; have HB := n0_; have a0 := n1_; have GW171 := n2_; have a6 := n3_; clear n0_ n1_ n2_ n3_; clear hb hbox hg; have hcz18_0 : w17.cell? ⟨a4, 0, none⟩ = some (.slice A0_0 l0_0.length c0_0) := (zC a0.out 0).trans rfl; have hcz18_1 : w17.cell? ⟨a4, 1, none⟩ = some (.slice A0_1 l0_1.length c0_1) := (zC a0.out 1).trans rfl; have hcz18_2 : w17.cell? ⟨a4, 2, none⟩ = some (.slice A0_2 l0_2.length c0_2) := (zC a0.out 2).trans rfl; have hcz18_3 : w17.cell? ⟨a4, 3, none⟩ = some (.int .i64 a0_3) := (zC a0.out 3).trans rfl; have hfz18_0 := zB a0.out 0; have hfz18_1 := zB a0.out 1; have hfz18_2 := zB a0.out 2; have hfz18_3 := zB a0.out 3))
  go_ret
  exact ⟨by first | rfl | (simp [errW_none, errW_some] <;> rfl) | (simp [*, errW_none, errW_some] <;> rfl), by repeat (first | (with_reducible first | exact HB.out | apply below_alloc | apply zA | apply below_drew1 | refine below_set ?_ a6.out) | exact HB.out)⟩
 rw [if_neg c5] at H
 have c5b0 : decide (0 ≤ a1) = false := decide_eq_false c5
 clear c5
 obtain rfl := Option.some.inj H
 go_enter Tryd.func53, Tryd.ntmps53
 go_wp2_with (first | ((with_reducible refine gate_dst (N := 4) rfl ?_); (try (refine gate_guard (by rfl) ?_; dsimp only)); refine box_event ?hg (N := 4) ?hd (cs := #[.slice A0_0 l0_0.length c0_0, .slice A0_1 l0_1.length c0_1, .slice A0_2 l0_2.length c0_2, .int .i64 a0_3]) (t := 27) ?hr ?_; (case hd => rfl); (case hg => rfl); (case hr => first | (go_simp; done) | (go_simp; rfl)); intro a4 hg w19 hbox hb; have n0_ := uZ (below_step (uB HB.out) hb); have n1_ := uZ (hbox); have n2_ := uZ ((by rw [hg]; exact (zD (uB HB.out)) : w.heap.size ≤ a4)); have n3_ := uZ ((by rw [hg]; exact (zD (uB HB.out)) : w.heap.size ≤ a4)); clear HB; have HB := n0_; have a0 := n1_; have GW171 := n2_; have a6 := n3_; clear n0_ n1_ n2_ n3_; clear hb hbox hg))
 go_ret
 exact ⟨by first | rfl | (simp [errW_none, errW_some] <;> rfl) | (simp [*, errW_none, errW_some] <;> rfl), by repeat (first | (with_reducible first | exact HB.out | apply below_alloc | apply zA | apply below_drew1 | refine below_set ?_ a6.out) | exact HB.out)⟩

end Go.Proofs.YtamimnaafiphcaaDoor.PR1C
