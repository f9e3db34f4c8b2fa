/- Texts joined: PZ1x49 PZ1x50 PZ1x58 PZ1x42 PZ1x1 PZ1x59 PZ1x95 PZ1x96. -/
import Derived.Test.YtlhgfhmdhmgmpaaGreatDoorPZ1A
import Derived.Test.YtlhgfhmdhmgmpaaGreatDoorRyA
import Derived.Test.YtlhgfhmdhmgmpaaGreatDoorLiH
import Derived.Test.YtlhgfhmdhmgmpaaGreatDoorLiYZ
set_option linter.unusedVariables false
namespace Go.Proofs.YtlhgfhmdhmgmpaaGreatDoor.PZ1
open Go.RowKit Go.Proofs.YtlhgfhmdhmgmpaaGreatDoorW.PrintWords Go.Proofs.YtlhgfhmdhmgmpaaGreatDoorW.PrintLast Go.Proofs.YtlhgfhmdhmgmpaaGreatDoorW.PrintMore

/-! ### switchbackref17_May: function 53 -/
def switchbackref17_May.f (a0_0 : Int) (a0_1 : Int) (a0_2 : Int) (a0_3 : Int) (a0_4 : Int) (a0_5 : Int) (l0_6 : List Int) : Option Bool := some (mayL ⟨a0_0, a0_1, a0_2, a0_3, a0_4, a0_5, l0_6⟩)

theorem switchbackref17_May.calls (a0_0 : Int) (a0_1 : Int) (a0_2 : Int) (a0_3 : Int) (a0_4 : Int) (a0_5 : Int) (A0_6 : Option Addr) (c0_6 : Nat) (l0_6 : List Int) (r : Bool) (w : World) (hr0_6 : Kd.C (Kd.int .i64) w A0_6 l0_6.length l0_6) (hc0_6 : l0_6.length ≤ c0_6) (h : switchbackref17_May.f a0_0 a0_1 a0_2 a0_3 a0_4 a0_5 l0_6 = some r) :
    Calls Tryz.prog 53 #[.agg #[.int .i64 a0_0, .int .i64 a0_1, .int .i64 a0_2, .int .i64 a0_3, .int .u32 a0_4, .int .i64 a0_5, .slice A0_6 l0_6.length c0_6]] w fun e w' => e = .returned (.bool r) ∧ Below w.heap.size w w' := by
  simp only [switchbackref17_May.f, Option.some.injEq] at h
  subst h
  exact mayL_any ⟨a0_0, a0_1, a0_2, a0_3, a0_4, a0_5, l0_6⟩ _ w ⟨A0_6, c0_6, rfl, hr0_6⟩

end Go.Proofs.YtlhgfhmdhmgmpaaGreatDoor.PZ1

-- Written by gp.py for this claim.
namespace Go.Proofs.YtlhgfhmdhmgmpaaGreatDoor.PZ1
open Go.RowKit Go.Proofs.YtlhgfhmdhmgmpaaGreatDoorW.PrintWords Go.Proofs.YtlhgfhmdhmgmpaaGreatDoorW.PrintLast Go.Proofs.YtlhgfhmdhmgmpaaGreatDoorW.PrintMore
attribute [local go_sem] max2_int min2_int max_two min_two max_three min_three max_four min_four   -- for this text's walks alone
set_option linter.unusedVariables false
set_option linter.unusedSimpArgs false

/-! ### switchbackref22_May: function 25 -/
def switchbackref22_May.f (a0_0 : Int) (a0_1 : Int) (a0_2 : Int) (a0_3 : Int) (a0_4 : Int) (a0_5 : Int) (l0_6 : List Int) : Option (Bool) := if a0_0 ≥ 0 then (if a0_0 ≤ 48 then ((switchbackref17_May.f a0_0 a0_1 a0_2 a0_3 a0_4 a0_5 l0_6).bind fun t154 => (some t154)) else (some false)) else (some false)
set_option maxHeartbeats 8000000 in
set_option maxRecDepth 100000 in
theorem switchbackref22_May.calls (a0_0 : Int) (a0_1 : Int) (a0_2 : Int) (a0_3 : Int) (a0_4 : Int) (a0_5 : Int) (A0_6 : Option Addr) (c0_6 : Nat) (l0_6 : List Int) (r : Bool) (w : World) (hr0_6 : Kd.C (Kd.int .i64) w A0_6 l0_6.length l0_6) (hc0_6 : l0_6.length ≤ c0_6) (h : switchbackref22_May.f a0_0 a0_1 a0_2 a0_3 a0_4 a0_5 l0_6 = some r) :
    Calls Tryz.prog 25 #[.agg #[.int .i64 a0_0, .int .i64 a0_1, .int .i64 a0_2, .int .i64 a0_3, .int .u32 a0_4, .int .i64 a0_5, .slice A0_6 l0_6.length c0_6]] w fun e w' => e = .returned (.bool r) ∧ Below w.heap.size w w' := by
  have hu49 := Tryz.underlying49
  have HR0_6 := Aside0.mk hr0_6
  have HC0_6 := Aside0.mk hc0_6
  clear hr0_6 hc0_6
  have HB := Aside0.mk (Below.refl w.heap.size w)
  have H : (if a0_0 ≥ 0 then (if a0_0 ≤ 48 then ((switchbackref17_May.f a0_0 a0_1 a0_2 a0_3 a0_4 a0_5 l0_6).bind fun t154 => (some t154)) else (some false)) else (some false)) = some r := h
  clear h
  by_cases c2 : a0_0 ≥ 0
  · rw [if_pos c2] at H
    have c2b0 : decide (0 ≤ a0_0) = true := decide_eq_true c2
    clear c2
    by_cases c3 : a0_0 ≤ 48
    · rw [if_pos c3] at H
      have c3b0 : decide (a0_0 ≤ 48) = true := decide_eq_true c3
      clear c3
      replace H := Option.bind_eq_some_iff.mp H
      obtain ⟨t154, A40, H⟩ := H
      replace H : (some t154) = some r := H
      have A4 := Aside0.mk A40
      clear A40
      obtain rfl := Option.some.inj H
      go_enter Tryz.func25, Tryz.ntmps25
      go_wp2_with (first | ((with_reducible refine gate_dst (N := 1) rfl ?_); refine box_event ?hg (N := 1) ?hd (cs := #[.int .i64 a0_0, .int .i64 a0_1, .int .i64 a0_2, .int .i64 a0_3, .int .u32 a0_4, .int .i64 a0_5, .slice A0_6 l0_6.length c0_6]) (t := 49) ?hr ?_; (case hd => rfl); (case hg => rfl); (case hr => first | (go_simp; done) | (go_simp; rfl)); intro gb153 hg w5 hbox hb; have n0_ := Aside0.mk (below_step (by repeat (first | (with_reducible first | exact HB.out | apply below_alloc | apply pw_below_drewN | apply below_drew1) | exact HB.out)) hb); have n1_ := Aside0.mk (hbox); have n2_ := Aside0.mk ((by rw [hg]; exact (below_size (by repeat (first | (with_reducible first | exact HB.out | apply below_alloc | apply pw_below_drewN | apply below_drew1) | exact HB.out))) : w.heap.size ≤ gb153)); have n3_ := Aside0.mk ((by rw [hg]; exact (below_size (by repeat (first | (with_reducible first | exact HB.out | apply below_alloc | apply pw_below_drewN | apply below_drew1) | exact HB.out))) : w.heap.size ≤ gb153)); clear HB; have HB := n0_; have BK153 := n1_; have GW153 := n2_; have GE153 := n3_; clear n0_ n1_ n2_ n3_; clear hb hbox hg; have hcz6_0 : w5.cell? ⟨gb153, 0, none⟩ = some (.int .i64 a0_0) := (blk_cell BK153.out 0).trans rfl; have hcz6_1 : w5.cell? ⟨gb153, 1, none⟩ = some (.int .i64 a0_1) := (blk_cell BK153.out 1).trans rfl; have hcz6_2 : w5.cell? ⟨gb153, 2, none⟩ = some (.int .i64 a0_2) := (blk_cell BK153.out 2).trans rfl; have hcz6_3 : w5.cell? ⟨gb153, 3, none⟩ = some (.int .i64 a0_3) := (blk_cell BK153.out 3).trans rfl; have hcz6_4 : w5.cell? ⟨gb153, 4, none⟩ = some (.int .u32 a0_4) := (blk_cell BK153.out 4).trans rfl; have hcz6_5 : w5.cell? ⟨gb153, 5, none⟩ = some (.int .i64 a0_5) := (blk_cell BK153.out 5).trans rfl; have hcz6_6 : w5.cell? ⟨gb153, 6, none⟩ = some (.slice A0_6 l0_6.length c0_6) := (blk_cell BK153.out 6).trans rfl; have hfz6_0 := blk_frozen BK153.out 0; have hfz6_1 := blk_frozen BK153.out 1; have hfz6_2 := blk_frozen BK153.out 2; have hfz6_3 := blk_frozen BK153.out 3; have hfz6_4 := blk_frozen BK153.out 4; have hfz6_5 := blk_frozen BK153.out 5; have hfz6_6 := blk_frozen BK153.out 6) | (go_at_call 53; (with_reducible refine (switchbackref17_May.calls a0_0 a0_1 a0_2 a0_3 a0_4 a0_5 _ _ l0_6 t154 _ ?side1 ?side2 A4.out).mono ?_); (case side1 => repeat (first | exact (Kd.C_below HR0_6.out HB.out) | (with_reducible refine Kd.C_alloc ?_ _) | (with_reducible refine Kd.C_drewN ?_ _) | (with_reducible refine Kd.C_drew ?_))); (case side2 => exact HC0_6.out); rintro e w7 ⟨rfl, hb⟩; have n0_ := Aside0.mk (blk_below (g := gb153) (o := .cells #[.int .i64 a0_0, .int .i64 a0_1, .int .i64 a0_2, .int .i64 a0_3, .int .u32 a0_4, .int .i64 a0_5, .slice A0_6 l0_6.length c0_6] 49 (0, 0)) (by (with_reducible repeat (first | refine blk_drewN ?_ _ | refine blk_drew ?_ | refine blk_alloc ?_ _)); exact BK153.out) hb); have n1_ := Aside0.mk (below_step (by repeat (first | (with_reducible first | exact HB.out | apply below_alloc | apply pw_below_drewN | apply below_drew1 | refine below_set ?_ GE153.out) | exact HB.out)) hb); clear BK153; clear HB; have BK153 := n0_; have HB := n1_; clear n0_ n1_; (try clear hb); (try clear hb2); (try clear hk); (try clear hi)))
      go_ret
      exact ⟨by first | rfl | (simp [errW_none, errW_some] <;> rfl) | (simp [*, errW_none, errW_some] <;> rfl), by repeat (first | (with_reducible first | exact HB.out | apply below_alloc | apply pw_below_drewN | apply below_drew1 | refine below_set ?_ GE153.out) | exact HB.out)⟩
    · rw [if_neg c3] at H
      have c3b0 : decide (a0_0 ≤ 48) = false := decide_eq_false c3
      clear c3
      obtain rfl := Option.some.inj H
      go_enter Tryz.func25, Tryz.ntmps25
      go_wp2_with (first | ((with_reducible refine gate_dst (N := 1) rfl ?_); refine box_event ?hg (N := 1) ?hd (cs := #[.int .i64 a0_0, .int .i64 a0_1, .int .i64 a0_2, .int .i64 a0_3, .int .u32 a0_4, .int .i64 a0_5, .slice A0_6 l0_6.length c0_6]) (t := 49) ?hr ?_; (case hd => rfl); (case hg => rfl); (case hr => first | (go_simp; done) | (go_simp; rfl)); intro gb153 hg w8 hbox hb; have n0_ := Aside0.mk (below_step (by repeat (first | (with_reducible first | exact HB.out | apply below_alloc | apply pw_below_drewN | apply below_drew1) | exact HB.out)) hb); have n1_ := Aside0.mk (hbox); have n2_ := Aside0.mk ((by rw [hg]; exact (below_size (by repeat (first | (with_reducible first | exact HB.out | apply below_alloc | apply pw_below_drewN | apply below_drew1) | exact HB.out))) : w.heap.size ≤ gb153)); have n3_ := Aside0.mk ((by rw [hg]; exact (below_size (by repeat (first | (with_reducible first | exact HB.out | apply below_alloc | apply pw_below_drewN | apply below_drew1) | exact HB.out))) : w.heap.size ≤ gb153)); clear HB; have HB := n0_; have BK153 := n1_; have GW153 := n2_; have GE153 := n3_; clear n0_ n1_ n2_ n3_; clear hb hbox hg; have hcz9_0 : w8.cell? ⟨gb153, 0, none⟩ = some (.int .i64 a0_0) := (blk_cell BK153.out 0).trans rfl; have hcz9_1 : w8.cell? ⟨gb153, 1, none⟩ = some (.int .i64 a0_1) := (blk_cell BK153.out 1).trans rfl; have hcz9_2 : w8.cell? ⟨gb153, 2, none⟩ = some (.int .i64 a0_2) := (blk_cell BK153.out 2).trans rfl; have hcz9_3 : w8.cell? ⟨gb153, 3, none⟩ = some (.int .i64 a0_3) := (blk_cell BK153.out 3).trans rfl; have hcz9_4 : w8.cell? ⟨gb153, 4, none⟩ = some (.int .u32 a0_4) := (blk_cell BK153.out 4).trans rfl; have hcz9_5 : w8.cell? ⟨gb153, 5, none⟩ = some (.int .i64 a0_5) := (blk_cell BK153.out 5).trans rfl; have hcz9_6 : w8.cell? ⟨gb153, 6, none⟩ = some (.slice A0_6 l0_6.length c0_6) := (blk_cell BK153.out 6).trans rfl; have hfz9_0 := blk_frozen BK153.out 0; have hfz9_1 := blk_frozen BK153.out 1; have hfz9_2 := blk_frozen BK153.out 2; have hfz9_3 := blk_frozen BK153.out 3; have hfz9_4 := blk_frozen BK153.out 4; have hfz9_5 := blk_frozen BK153.out 5; have hfz9_6 := blk_frozen BK153.out 6))
      go_ret
      exact ⟨by first | rfl | (simp [errW_none, errW_some] <;> rfl) | (simp [*, errW_none, errW_some] <;> rfl), by repeat (first | (with_reducible first | exact HB.out | apply below_alloc | apply pw_below_drewN | apply below_drew1 | refine below_set ?_ GE153.out) | exact HB.out)⟩
  · rw [if_neg c2] at H
    have c2b0 : decide (0 ≤ a0_0) = false := decide_eq_false c2
    clear c2
    obtain rfl := Option.some.inj H
    go_enter Tryz.func25, Tryz.ntmps25
    go_wp2_with (first | ((with_reducible refine gate_dst (N := 1) rfl ?_); refine box_event ?hg (N := 1) ?hd (cs := #[.int .i64 a0_0, .int .i64 a0_1, .int .i64 a0_2, .int .i64 a0_3, .int .u32 a0_4, .int .i64 a0_5, .slice A0_6 l0_6.length c0_6]) (t := 49) ?hr ?_; (case hd => rfl); (case hg => rfl); (case hr => first | (go_simp; done) | (go_simp; rfl)); intro gb153 hg w10 hbox hb; have n0_ := Aside0.mk (below_step (by repeat (first | (with_reducible first | exact HB.out | apply below_alloc | apply pw_below_drewN | apply below_drew1) | exact HB.out)) hb); have n1_ := Aside0.mk (hbox); have n2_ := Aside0.mk ((by rw [hg]; exact (below_size (by repeat (first | (with_reducible first | exact HB.out | apply below_alloc | apply pw_below_drewN | apply below_drew1) | exact HB.out))) : w.heap.size ≤ gb153)); have n3_ := Aside0.mk ((by rw [hg]; exact (below_size (by repeat (first | (with_reducible first | exact HB.out | apply below_alloc | apply pw_below_drewN | apply below_drew1) | exact HB.out))) : w.heap.size ≤ gb153)); clear HB; have HB := n0_; have BK153 := n1_; have GW153 := n2_; have GE153 := n3_; clear n0_ n1_ n2_ n3_; clear hb hbox hg; have hcz11_0 : w10.cell? ⟨gb153, 0, none⟩ = some (.int .i64 a0_0) := (blk_cell BK153.out 0).trans rfl; have hcz11_1 : w10.cell? ⟨gb153, 1, none⟩ = some (.int .i64 a0_1) := (blk_cell BK153.out 1).trans rfl; have hcz11_2 : w10.cell? ⟨gb153, 2, none⟩ = some (.int .i64 a0_2) := (blk_cell BK153.out 2).trans rfl; have hcz11_3 : w10.cell? ⟨gb153, 3, none⟩ = some (.int .i64 a0_3) := (blk_cell BK153.out 3).trans rfl; have hcz11_4 : w10.cell? ⟨gb153, 4, none⟩ = some (.int .u32 a0_4) := (blk_cell BK153.out 4).trans rfl; have hcz11_5 : w10.cell? ⟨gb153, 5, none⟩ = some (.int .i64 a0_5) := (blk_cell BK153.out 5).trans rfl; have hcz11_6 : w10.cell? ⟨gb153, 6, none⟩ = some (.slice A0_6 l0_6.length c0_6) := (blk_cell BK153.out 6).trans rfl; have hfz11_0 := blk_frozen BK153.out 0; have hfz11_1 := blk_frozen BK153.out 1; have hfz11_2 := blk_frozen BK153.out 2; have hfz11_3 := blk_frozen BK153.out 3; have hfz11_4 := blk_frozen BK153.out 4; have hfz11_5 := blk_frozen BK153.out 5; have hfz11_6 := blk_frozen BK153.out 6))
    go_ret
    exact ⟨by first | rfl | (simp [errW_none, errW_some] <;> rfl) | (simp [*, errW_none, errW_some] <;> rfl), by repeat (first | (with_reducible first | exact HB.out | apply below_alloc | apply pw_below_drewN | apply below_drew1 | refine below_set ?_ GE153.out) | exact HB.out)⟩

end Go.Proofs.YtlhgfhmdhmgmpaaGreatDoor.PZ1

-- Written by gp.py for this claim.
namespace Go.Proofs.YtlhgfhmdhmgmpaaGreatDoor.PZ1
open Go.RowKit Go.Proofs.YtlhgfhmdhmgmpaaGreatDoorW.PrintWords Go.Proofs.YtlhgfhmdhmgmpaaGreatDoorW.PrintLast Go.Proofs.YtlhgfhmdhmgmpaaGreatDoorW.PrintMore
attribute [local go_sem] max2_int min2_int max_two min_two max_three min_three max_four min_four   -- for this text's walks alone
set_option linter.unusedVariables false
set_option linter.unusedSimpArgs false

namespace q_switchbackref22_Print
theorem uZ {p : Prop} (h : p) : Aside0 p := ⟨h⟩
theorem uB {p q : Prop} (h : p) (g : p → q := by intro h; repeat (first | (with_reducible first | exact h | apply below_alloc | apply pw_below_drewN | apply below_drew1) | exact h)) : q := g h
theorem zA : type_of% @World.block_lt_of_cell? := @World.block_lt_of_cell?
end q_switchbackref22_Print
open q_switchbackref22_Print

/-! ### switchbackref22_Print: function 9 -/
mutual
def switchbackref22_Print.l0 : Nat → List (S49) → Int → Option (ByteArray × Int)
  | 0, _, _ => none
  | k + 1, x0, x4 => if x4 < (x0.length : Int) then (if 0 ≤ x4 then ((switchbackref22_May.f ((rd_T49 x0 x4).f0) ((rd_T49 x0 x4).f1) ((rd_T49 x0 x4).f2) ((rd_T49 x0 x4).f3) ((rd_T49 x0 x4).f4) ((rd_T49 x0 x4).f5) ((rd_T49 x0 x4).f6)).bind fun t182 => (if t182 = true then (switchbackref22_Print.l0 k x0 (wrap64 (x4 + 1))) else (some ((⟨#[]⟩ : ByteArray), 1)))) else (none)) else (switchbackref22_Print.l1 k x0 ([] : List Int) 0)
def switchbackref22_Print.l1 : Nat → List (S49) → List Int → Int → Option (ByteArray × Int)
  | 0, _, _, _ => none
  | k + 1, x0, x6, x7 => if x7 < (x0.length : Int) then (if 0 ≤ x7 then ((switchbackref22_Line.f k ((rd_T49 x0 x7).f0) ((rd_T49 x0 x7).f1) ((rd_T49 x0 x7).f2) ((rd_T49 x0 x7).f3) ((rd_T49 x0 x7).f4) ((rd_T49 x0 x7).f5) ((rd_T49 x0 x7).f6)).bind fun t184 => (if x6.length + t184.size < 140737488355328 then ((some (x6 ++ bytesOf t184 : List Int)).bind fun y185 => (if y185.length < 140737488355328 then (switchbackref22_Print.l1 k x0 (y185 ++ [10]) (wrap64 (x7 + 1))) else (none))) else (none))) else (none)) else (some (strOfNums x6, 0))
end
def switchbackref22_Print.f (k : Nat) (l0 : List (S49)) : Option (ByteArray × Int) := if (l0.length : Int) > 60000 then (some ((⟨#[]⟩ : ByteArray), 2)) else (switchbackref22_Print.l0 k l0 0)
theorem switchbackref22_Print.mono_l : ∀ k, (∀ y0 y1, LeO (switchbackref22_Print.l0 k y0 y1) (switchbackref22_Print.l0 (k + 1) y0 y1)) ∧ (∀ y0 y1 y2, LeO (switchbackref22_Print.l1 k y0 y1 y2) (switchbackref22_Print.l1 (k + 1) y0 y1 y2))
  | 0 => ⟨fun _ _ r h => by simp [switchbackref22_Print.l0] at h, fun _ _ _ r h => by simp [switchbackref22_Print.l1] at h⟩
  | k + 1 => by
    obtain ⟨ih0, ih1⟩ := switchbackref22_Print.mono_l k
    refine ⟨?_, ?_⟩
    · intro y0 y1
      unfold switchbackref22_Print.l0
      repeat' first
      | (with_reducible exact ih0 _ _)
      | (with_reducible exact ih1 _ _ _)
      | (with_reducible exact switchbackref22_Line.mono _ _ _ _ _ _ _ _)
      | (with_reducible exact LeO.refl _)
      | (with_reducible exact LeO.none _)
      | (with_reducible refine LeO.ite ?_ ?_)
      | (with_reducible refine LeO.bind ?_ (fun _ => ?_))
      | exact ih0 _ _
      | exact ih1 _ _ _
      | exact switchbackref22_Line.mono _ _ _ _ _ _ _ _
      | exact LeO.none _
      | refine LeO.ite ?_ ?_
      | refine LeO.bind ?_ (fun _ => ?_)
    · intro y0 y1 y2
      unfold switchbackref22_Print.l1
      repeat' first
      | (with_reducible exact ih0 _ _)
      | (with_reducible exact ih1 _ _ _)
      | (with_reducible exact switchbackref22_Line.mono _ _ _ _ _ _ _ _)
      | (with_reducible exact LeO.refl _)
      | (with_reducible exact LeO.none _)
      | (with_reducible refine LeO.ite ?_ ?_)
      | (with_reducible refine LeO.bind ?_ (fun _ => ?_))
      | exact ih0 _ _
      | exact ih1 _ _ _
      | exact switchbackref22_Line.mono _ _ _ _ _ _ _ _
      | exact LeO.none _
      | refine LeO.ite ?_ ?_
      | refine LeO.bind ?_ (fun _ => ?_)
theorem switchbackref22_Print.mono : ∀ a0 k, LeO (switchbackref22_Print.f k a0) (switchbackref22_Print.f (k + 1) a0) := by
  intro a0 k
  obtain ⟨ih0, ih1⟩ := switchbackref22_Print.mono_l k
  unfold switchbackref22_Print.f
  repeat' first
      | (with_reducible exact ih0 _ _)
      | (with_reducible exact ih1 _ _ _)
      | (with_reducible exact switchbackref22_Line.mono _ _ _ _ _ _ _ _)
      | (with_reducible exact LeO.refl _)
      | (with_reducible exact LeO.none _)
      | (with_reducible refine LeO.ite ?_ ?_)
      | (with_reducible refine LeO.bind ?_ (fun _ => ?_))
      | exact ih0 _ _
      | exact ih1 _ _ _
      | exact switchbackref22_Line.mono _ _ _ _ _ _ _ _
      | exact LeO.none _
      | refine LeO.ite ?_ ?_
      | refine LeO.bind ?_ (fun _ => ?_)
set_option maxHeartbeats 8000000 in
set_option maxRecDepth 100000 in
theorem switchbackref22_Print.calls (k : Nat) (A0 : Option Addr) (c0 : Nat) (l0 : List (S49)) (r1 : ByteArray) (r2 : Int) (w : World) (hr0 : Kd.C k49 w A0 l0.length l0) (hc0 : l0.length ≤ c0) (h : switchbackref22_Print.f k l0 = some (r1, r2)) :
    Calls Tryz.prog 9 #[.slice A0 l0.length c0] w fun e w' => e = .returned (.tuple #[.string r1, .int .i64 r2]) ∧ Below w.heap.size w w' := by
 have hu49 := Tryz.underlying49
 have HR0 := uZ hr0
 have HC0 := uZ hc0
 clear hr0 hc0
 have HB := uZ (Below.refl w.heap.size w)
 have H : (if (l0.length : Int) > 60000 then (some ((⟨#[]⟩ : ByteArray), 2)) else (switchbackref22_Print.l0 k l0 0)) = some (r1, r2) := h
 clear h
 by_cases c2 : (l0.length : Int) > 60000
 ·rw [if_pos c2] at H
  have c2b0 : decide (60000 < (l0.length : Int)) = true := decide_eq_true c2
  have c2b1 : decide (60000 < l0.length) = true := decide_eq_true (by omega)
  clear c2
  simp only [Option.some.injEq, Prod.mk.injEq] at H
  obtain ⟨rfl, rfl⟩ := H
  go_enter Tryz.func9, Tryz.ntmps9
  go_wp2
  go_ret2
  exact ⟨by first | rfl | (simp [errW_none, errW_some] <;> rfl) | (simp [*, errW_none, errW_some] <;> rfl), by repeat (first | (with_reducible first | exact HB.out | apply below_alloc | apply pw_below_drewN | apply below_drew1) | exact HB.out)⟩
 rw [if_neg c2] at H
 have c2b0 : decide (60000 < (l0.length : Int)) = false := decide_eq_false c2
 have c2b1 : decide (60000 < l0.length) = false := decide_eq_false (by omega)
 clear c2
 have H' := uZ H
 clear H
 go_enter Tryz.func9, Tryz.ntmps9
 go_wp2
 go_loopg [4] k (fun kq v4 w' => ∃ (a1 : Int), v4 = .int .i64 a1 ∧ Aside0 (switchbackref22_Print.l0 kq l0 a1 = some (r1, r2)) ∧ Aside0 (kq ≤ k) ∧ Aside0 (Below w.heap.size w w'))
 case atStart => exact ⟨(0), (by first | rfl | (simp; done) | (simp [*]; done)), H', ⟨Nat.le_refl _⟩, ⟨uB HB.out⟩⟩
 case round =>
  clear H'
  try clear c2
  try clear c2b0
  try clear c2b1
  try clear p2
  obtain ⟨a1, rfl, HA, HK1, HB⟩ := hrel
  cases gk with
  | zero => exact absurd HA.out (by simp [switchbackref22_Print.l0])
  | succ k1 =>
   have H := HA.out
   clear HA
   simp only [switchbackref22_Print.l0] at H
   by_cases c3 : a1 < (l0.length : Int)
   ·rw [if_pos c3] at H
    have c3b0 : decide (a1 < (l0.length : Int)) = true := decide_eq_true c3
    clear c3
    by_cases c4 : 0 ≤ a1
    ·rw [if_pos c4] at H
     have c4b0 : decide (0 ≤ a1) = true := decide_eq_true c4
     clear c4
     replace H := Option.bind_eq_some_iff.mp H
     obtain ⟨t182, A50, H⟩ := H
     replace H : (if t182 = true then (switchbackref22_Print.l0 k1 l0 (wrap64 (a1 + 1))) else (some ((⟨#[]⟩ : ByteArray), 1))) = some (r1, r2) := H
     have A5 := uZ A50
     clear A50
     by_cases c6 : t182 = true
     ·subst c6
      have H1 : (switchbackref22_Print.l0 k1 l0 (wrap64 (a1 + 1))) = some (r1, r2) := by rw [if_pos rfl] at H; exact H
      clear H
      have H := H1
      clear H1
      have H' := uZ H
      clear H
      have p181 : 0 ≤ (a1 : Int) := of_decide_eq_true (by first | (with_reducible assumption) | assumption)
      have q181 : a1 < (l0.length : Int) := of_decide_eq_true (by first | (with_reducible assumption) | assumption)
      obtain ⟨ad181, A181_6, c181_6, e181, a3, a4, a5, a6, a7, a8, a9, hl181_6, hi181_6⟩ := at_T49 HR0.out a1 p181 q181
      cases e181
      replace a3 := (HB.out.cell (zA w _ a3)).trans a3
      replace a4 := (HB.out.cell (zA w _ a4)).trans a4
      replace a5 := (HB.out.cell (zA w _ a5)).trans a5
      replace a6 := (HB.out.cell (zA w _ a6)).trans a6
      replace a7 := (HB.out.cell (zA w _ a7)).trans a7
      replace a8 := (HB.out.cell (zA w _ a8)).trans a8
      replace a9 := (HB.out.cell (zA w _ a9)).trans a9
      have HR181_6 := uZ hi181_6
      have HC181_6 := uZ hl181_6
      clear hi181_6 hl181_6
      replace p181 := eq_true p181
      replace q181 := eq_true q181
      go_wp2_with (first | ((with_reducible refine gate_callee (f := 25) rfl ?_); refine goesL_ (some 21) rfl rfl Tryz.func25 (by kernel_rfl) rfl #[.agg #[.int .i64 ((rd_T49 l0 a1).f0), .int .i64 ((rd_T49 l0 a1).f1), .int .i64 ((rd_T49 l0 a1).f2), .int .i64 ((rd_T49 l0 a1).f3), .int .u32 ((rd_T49 l0 a1).f4), .int .i64 ((rd_T49 l0 a1).f5), .slice A181_6 ((rd_T49 l0 a1).f6).length c181_6]] rfl (by (try simp only [List.map_toArray, List.map_cons, List.map_nil]); first | done | rfl | (simp only [List.length_drop, List.length_take]; rfl)) ?_; (with_reducible refine (switchbackref22_May.calls ((rd_T49 l0 a1).f0) ((rd_T49 l0 a1).f1) ((rd_T49 l0 a1).f2) ((rd_T49 l0 a1).f3) ((rd_T49 l0 a1).f4) ((rd_T49 l0 a1).f5) _ _ ((rd_T49 l0 a1).f6) true _ ?side1 ?side2 A5.out).mono ?_); (case side1 => repeat (first | exact (Kd.C_below HR181_6.out HB.out) | (with_reducible refine Kd.C_alloc ?_ _) | (with_reducible refine Kd.C_drewN ?_ _) | (with_reducible refine Kd.C_drew ?_))); (case side2 => exact HC181_6.out); rintro e w7 ⟨rfl, hb⟩; refine ⟨_, rfl, ?_⟩; have n0_ := uZ (below_step (uB HB.out) hb); clear HB; have HB := n0_; clear n0_; (try clear hb); (try clear hb2); (try clear hk); (try clear hi)))
      go_roundg k1
      case measure => have := HK1.out; omega
      case rel => exact ⟨(wrap64 (a1 + 1)), (by first | rfl | (simp; done) | (simp [*]; done)), H', ⟨by have := HK1.out; omega⟩, ⟨uB HB.out⟩⟩
     replace c6 := Bool.eq_false_iff.mpr c6
     subst c6
     have H1 : (some ((⟨#[]⟩ : ByteArray), 1)) = some (r1, r2) := by rw [if_neg (show ¬ (false = true) by decide)] at H; exact H
     clear H
     have H := H1
     clear H1
     simp only [Option.some.injEq, Prod.mk.injEq] at H
     obtain ⟨rfl, rfl⟩ := H
     have p181 : 0 ≤ (a1 : Int) := of_decide_eq_true (by first | (with_reducible assumption) | assumption)
     have q181 : a1 < (l0.length : Int) := of_decide_eq_true (by first | (with_reducible assumption) | assumption)
     obtain ⟨ad181, A181_6, c181_6, e181, a3, a4, a5, a6, a7, a8, a9, hl181_6, hi181_6⟩ := at_T49 HR0.out a1 p181 q181
     cases e181
     replace a3 := (HB.out.cell (zA w _ a3)).trans a3
     replace a4 := (HB.out.cell (zA w _ a4)).trans a4
     replace a5 := (HB.out.cell (zA w _ a5)).trans a5
     replace a6 := (HB.out.cell (zA w _ a6)).trans a6
     replace a7 := (HB.out.cell (zA w _ a7)).trans a7
     replace a8 := (HB.out.cell (zA w _ a8)).trans a8
     replace a9 := (HB.out.cell (zA w _ a9)).trans a9
     have HR181_6 := uZ hi181_6
     have HC181_6 := uZ hl181_6
     clear hi181_6 hl181_6
     replace p181 := eq_true p181
     replace q181 := eq_true q181
     go_wp2_with (first | ((with_reducible refine gate_callee (f := 25) rfl ?_); refine goesL_ (some 21) rfl rfl Tryz.func25 (by kernel_rfl) rfl #[.agg #[.int .i64 ((rd_T49 l0 a1).f0), .int .i64 ((rd_T49 l0 a1).f1), .int .i64 ((rd_T49 l0 a1).f2), .int .i64 ((rd_T49 l0 a1).f3), .int .u32 ((rd_T49 l0 a1).f4), .int .i64 ((rd_T49 l0 a1).f5), .slice A181_6 ((rd_T49 l0 a1).f6).length c181_6]] rfl (by (try simp only [List.map_toArray, List.map_cons, List.map_nil]); first | done | rfl | (simp only [List.length_drop, List.length_take]; rfl)) ?_; (with_reducible refine (switchbackref22_May.calls ((rd_T49 l0 a1).f0) ((rd_T49 l0 a1).f1) ((rd_T49 l0 a1).f2) ((rd_T49 l0 a1).f3) ((rd_T49 l0 a1).f4) ((rd_T49 l0 a1).f5) _ _ ((rd_T49 l0 a1).f6) false _ ?side1 ?side2 A5.out).mono ?_); (case side1 => repeat (first | exact (Kd.C_below HR181_6.out HB.out) | (with_reducible refine Kd.C_alloc ?_ _) | (with_reducible refine Kd.C_drewN ?_ _) | (with_reducible refine Kd.C_drew ?_))); (case side2 => exact HC181_6.out); rintro e w8 ⟨rfl, hb⟩; refine ⟨_, rfl, ?_⟩; have n0_ := uZ (below_step (uB HB.out) hb); clear HB; have HB := n0_; clear n0_; (try clear hb); (try clear hb2); (try clear hk); (try clear hi)))
     go_ret2
     exact ⟨by first | rfl | (simp [errW_none, errW_some] <;> rfl) | (simp [*, errW_none, errW_some] <;> rfl), by repeat (first | (with_reducible first | exact HB.out | apply below_alloc | apply pw_below_drewN | apply below_drew1) | exact HB.out)⟩
    rw [if_neg c4] at H
    exact absurd H (by simp)
   rw [if_neg c3] at H
   have c3b0 : decide (a1 < (l0.length : Int)) = false := decide_eq_false c3
   clear c3
   have H' := uZ H
   clear H
   go_wp2
   go_loopg [6, 7] k1 (fun kq v6 v7 w' => ∃ (x6_2 : List Int) (a2 : Int), v7 = .int .i64 a2 ∧ Aside0 (switchbackref22_Print.l1 kq l0 x6_2 a2 = some (r1, r2)) ∧ Aside0 (kq ≤ k1) ∧ Aside0 (Kd.R (Kd.int .u8) 5 w' w.heap.size (fun _ => True) v6 x6_2) ∧ Aside0 (Below w.heap.size w w'))
   case atStart => exact ⟨(([] : List Int)), (0), (by first | rfl | (simp; done) | (simp [*]; done)), H', ⟨Nat.le_refl _⟩, ⟨by first | exact Kd.R_nil _ _ _ _ _ | exact Kd.N_nil _ _ _ _ _ | exact Kd.V_nil _ _ _ _ _ | exact Kd.Q_nil _ _ _ _ _ | exact Kd.S_nil _ _ _ _ _⟩, ⟨uB HB.out⟩⟩
   case round =>
    clear H'
    try clear c1
    try clear p1
    try clear q1
    try clear hx1
    try clear c2
    try clear c2b0
    try clear c2b1
    try clear p2
    try clear c3
    try clear c3b0
    try clear c4
    try clear c4b0
    try clear c6
    try clear p6
    try clear a3
    try clear a4
    try clear a5
    try clear a6
    try clear a7
    try clear a8
    try clear a9
    try clear p181
    try clear p2
    try clear q181
    obtain ⟨x6_2, a2, rfl, HA, HK2, HO_6, HB⟩ := hrel
    cases gk with
    | zero => exact absurd HA.out (by simp [switchbackref22_Print.l1])
    | succ k2 =>
     have H := HA.out
     clear HA
     simp only [switchbackref22_Print.l1] at H
     by_cases c9 : a2 < (l0.length : Int)
     ·rw [if_pos c9] at H
      have c9b0 : decide (a2 < (l0.length : Int)) = true := decide_eq_true c9
      clear c9
      by_cases c10 : 0 ≤ a2
      ·rw [if_pos c10] at H
       have c10b0 : decide (0 ≤ a2) = true := decide_eq_true c10
       clear c10
       replace H := Option.bind_eq_some_iff.mp H
       obtain ⟨t184, A110, H⟩ := H
       replace H : (if x6_2.length + t184.size < 140737488355328 then ((some (x6_2 ++ bytesOf t184 : List Int)).bind fun y185 => (if y185.length < 140737488355328 then (switchbackref22_Print.l1 k2 l0 (y185 ++ [10]) (wrap64 (a2 + 1))) else (none))) else (none)) = some (r1, r2) := H
       have A11 := uZ A110
       clear A110
       by_cases c12 : x6_2.length + t184.size < 140737488355328
       ·rw [if_pos c12] at H
        have LMc12 := uZ c12
        clear c12
        obtain ⟨y185, hy185⟩ : ∃ y_ : List Int, y_ = (x6_2 ++ bytesOf t184) := ⟨_, rfl⟩
        replace H : (if y185.length < 140737488355328 then (switchbackref22_Print.l1 k2 l0 (y185 ++ [10]) (wrap64 (a2 + 1))) else (none)) = some (r1, r2) := by first | (rw [hy185]; with_reducible exact H) | (have H2_ := (Option.bind_some _ _).symm.trans H; rw [hy185]; with_reducible exact H2_) | (have H2_ := (Option.bind_some _ _).symm.trans H; with_reducible exact H2_) | with_reducible exact H | (rw [hy185]; exact H) | exact H
        have Ny185 := uZ hy185
        clear hy185
        by_cases c13 : y185.length < 140737488355328
        ·rw [if_pos c13] at H
         have LMc13 := uZ c13
         clear c13
         obtain ⟨y188, hy188⟩ : ∃ y_ : List Int, y_ = (y185 ++ [10]) := ⟨_, rfl⟩
         replace H : (switchbackref22_Print.l1 k2 l0 y188 (wrap64 (a2 + 1))) = some (r1, r2) := by first | (rw [hy188]; with_reducible exact H) | (have H2_ := (Option.bind_some _ _).symm.trans H; rw [hy188]; with_reducible exact H2_) | (have H2_ := (Option.bind_some _ _).symm.trans H; with_reducible exact H2_) | with_reducible exact H | (rw [hy188]; exact H) | exact H
         have Ny188 := uZ hy188
         clear hy188
         have H' := uZ H
         clear H
         have p183 : 0 ≤ (a2 : Int) := of_decide_eq_true (by first | (with_reducible assumption) | assumption)
         have q183 : a2 < (l0.length : Int) := of_decide_eq_true (by first | (with_reducible assumption) | assumption)
         obtain ⟨ad183, A183_6, c183_6, e183, hx183_0, hx183_1, hx183_2, hx183_3, hx183_4, hx183_5, hx183_6, hl183_6, hi183_6⟩ := at_T49 HR0.out a2 p183 q183
         cases e183
         replace hx183_0 := (HB.out.cell (zA w _ hx183_0)).trans hx183_0
         replace hx183_1 := (HB.out.cell (zA w _ hx183_1)).trans hx183_1
         replace hx183_2 := (HB.out.cell (zA w _ hx183_2)).trans hx183_2
         replace hx183_3 := (HB.out.cell (zA w _ hx183_3)).trans hx183_3
         replace hx183_4 := (HB.out.cell (zA w _ hx183_4)).trans hx183_4
         replace hx183_5 := (HB.out.cell (zA w _ hx183_5)).trans hx183_5
         replace hx183_6 := (HB.out.cell (zA w _ hx183_6)).trans hx183_6
         have HR183_6 := uZ hi183_6
         have HC183_6 := uZ hl183_6
         clear hi183_6 hl183_6
         replace p183 := eq_true p183
         replace q183 := eq_true q183
         go_wp2_with (first | ((with_reducible refine gate_callee (f := 26) rfl ?_); refine goesL_ (some 35) rfl rfl Tryz.func26 (by kernel_rfl) rfl #[.agg #[.int .i64 ((rd_T49 l0 a2).f0), .int .i64 ((rd_T49 l0 a2).f1), .int .i64 ((rd_T49 l0 a2).f2), .int .i64 ((rd_T49 l0 a2).f3), .int .u32 ((rd_T49 l0 a2).f4), .int .i64 ((rd_T49 l0 a2).f5), .slice A183_6 ((rd_T49 l0 a2).f6).length c183_6]] rfl (by (try simp only [List.map_toArray, List.map_cons, List.map_nil]); first | done | rfl | (simp only [List.length_drop, List.length_take]; rfl)) ?_; (with_reducible refine (switchbackref22_Line.calls k2 ((rd_T49 l0 a2).f0) ((rd_T49 l0 a2).f1) ((rd_T49 l0 a2).f2) ((rd_T49 l0 a2).f3) ((rd_T49 l0 a2).f4) ((rd_T49 l0 a2).f5) _ _ ((rd_T49 l0 a2).f6) t184 _ ?side1 ?side2 A11.out).mono ?_); (case side1 => repeat (first | exact (Kd.C_below HR183_6.out HB.out) | (with_reducible refine Kd.C_alloc ?_ _) | (with_reducible refine Kd.C_drewN ?_ _) | (with_reducible refine Kd.C_drew ?_))); (case side2 => exact HC183_6.out); rintro e w14 ⟨rfl, hb⟩; refine ⟨_, rfl, ?_⟩; have n0_ := uZ (Kd.R_below (by (with_reducible repeat (first | apply Kd.R_alloc | apply Kd.R_drewN | apply Kd.R_drew)); exact HO_6.out) hb); have n1_ := uZ (below_step (uB HB.out) hb); clear HO_6; clear HB; have HO_6 := n0_; have HB := n1_; clear n0_ n1_; (try clear hb); (try clear hb2); (try clear hk); (try clear hi)) | (at_builtin; refine print_append_str (w0 := w) w.heap.size rfl (.tmp 30) _ 52 9 5 rfl Tryz.underlying52 Tryz.underlying9 info5 u6 x6_2 t184 rfl rfl ?aO ?aB ?aS ?aL ?_; (case aB => exact (uB HB.out)); (case aO => exact (Kd.own_of_R (by (with_reducible repeat (first | apply Kd.R_alloc | apply Kd.R_drewN | apply Kd.R_drew)); exact HO_6.out))); (case aS => exact (below_size (uB HB.out))); (case aL => have := LMc12.out; omega); intro v186 w15 ho0 hb hg; have ho := Kd.R_of_own (h1 := fun _ => rfl) (ok := fun _ => True) ho0 (fun _ _ => trivial); clear ho0; have hat := True.intro; rw [← Ny185.out] at ho; change Kd.R (Kd.int .u8) 5 w15 w.heap.size (fun _ => True) v186 y185 at ho; have n0_ := uZ (hb); have n1_ := uZ (ho); clear HB; clear HO_6; have HB := n0_; have HO187 := n1_; clear n0_ n1_; clear ho hb hg hat) | ((with_reducible refine gate_builtin (b := .append) (xs := #[.tmp 37, .tmp 38]) rfl ?_); at_builtin; refine Kd.R_append (Kd.int .u8) (w0 := w) w.heap.size rfl (.tmp 37) (.tmp 38) 52 5 (.int .u8 0) 1 rfl Tryz.underlying52 info5 rfl (by decide) (by omega) v186 y185 10 [.int .u8 10] (fun _ => True) (fun _ => False) rfl rfl ?aP (fun _ hk => hk.elim) ?aF ?aO ?aB ?aS ?aL ?_; (case aP => exact rfl); (case aB => exact (uB HB.out)); (case aF => exact (fun _ _ => trivial)); (case aO => exact (by (with_reducible repeat (first | apply Kd.R_alloc | apply Kd.R_drewN | apply Kd.R_drew)); exact HO187.out)); (case aS => exact (below_size (uB HB.out))); (case aL => have := LMc13.out; omega); intro v189 w16 ho hb hg hat; rw [← Ny188.out] at ho; have n0_ := uZ (hb); have n1_ := uZ (ho); clear HB; clear HO187; have HB := n0_; have HO190 := n1_; clear n0_ n1_; clear ho hb hg hat))
         go_roundg k2
         case measure => have := HK1.out; have := HK2.out; omega
         case rel => exact ⟨(y188), (wrap64 (a2 + 1)), (by first | rfl | (simp; done) | (simp [*]; done)), H', ⟨by have := HK1.out; have := HK2.out; omega⟩, ⟨by (with_reducible repeat (first | apply Kd.R_alloc | apply Kd.R_drewN | apply Kd.R_drew)); exact HO190.out⟩, ⟨uB HB.out⟩⟩
        rw [if_neg c13] at H
        exact absurd H (by simp)
       rw [if_neg c12] at H
       exact absurd H (by simp)
      rw [if_neg c10] at H
      exact absurd H (by simp)
     rw [if_neg c9] at H
     have c9b0 : decide (a2 < (l0.length : Int)) = false := decide_eq_false c9
     clear c9
     simp only [Option.some.injEq, Prod.mk.injEq] at H
     obtain ⟨rfl, rfl⟩ := H
     have hcv17 := own_string (P := Tryz.prog) Tryz.underlying52 Tryz.underlying5 Tryz.underlying9 (Kd.own_of_R HO_6.out)
     go_wp2
     go_ret2
     exact ⟨by first | rfl | (simp [errW_none, errW_some] <;> rfl) | (simp [*, errW_none, errW_some] <;> rfl), by repeat (first | (with_reducible first | exact HB.out | apply below_alloc | apply pw_below_drewN | apply below_drew1) | exact HB.out)⟩

end Go.Proofs.YtlhgfhmdhmgmpaaGreatDoor.PZ1

set_option linter.unusedVariables false
namespace Go.Proofs.YtlhgfhmdhmgmpaaGreatDoor.PZ1
open Go.RowKit Go.Proofs.YtlhgfhmdhmgmpaaGreatDoorW.PrintWords Go.Proofs.YtlhgfhmdhmgmpaaGreatDoorW.PrintLast Go.Proofs.YtlhgfhmdhmgmpaaGreatDoorW.PrintMore

/-! ### list_Print: function 8 -/
def toLine (x : S49) : Line := ⟨x.f0, x.f1, x.f2, x.f3, x.f4, x.f5, x.f6⟩

theorem lines_of {w : World} {A : Option Addr} {c : Nat} {l : List S49} (h : Kd.C k49 w A l.length l) : Lines w (.slice A l.length c) (l.map toLine) := by
  refine ⟨A, c, by rw [List.length_map], ?_⟩
  obtain ⟨h1, h2, h3⟩ := h
  refine ⟨by simp, by simpa using h2, fun hp => ?_⟩
  obtain ⟨ad, e, hc⟩ := h3 (by simpa using hp)
  refine ⟨ad, e, fun i p hi => ?_⟩
  rw [List.getElem?_map, Option.map_eq_some_iff] at hi
  obtain ⟨x, hx, rfl⟩ := hi
  obtain ⟨cs, e1, e2, e3⟩ := hc i x hx
  exact ⟨cs, e1, e2, e3⟩

def ofLine (x : Line) : S49 := ⟨x.op, x.a, x.b, x.imm, x.n, x.label, x.list⟩

theorem of_lines {w : World} {A : Option Addr} {c : Nat} {ls : List Line} (h : Lines w (.slice A ls.length c) ls) : Kd.C k49 w A (ls.map ofLine).length (ls.map ofLine) := by
  obtain ⟨A', c', e, h1, h2, h3⟩ := h
  injection e with e1 e2 e3
  subst e1
  refine ⟨rfl, by simpa using h2, fun hp => ?_⟩
  obtain ⟨ad, e, hc⟩ := h3 (by simpa using hp)
  refine ⟨ad, e, fun i p hi => ?_⟩
  rw [List.getElem?_map, Option.map_eq_some_iff] at hi
  obtain ⟨x, hx, rfl⟩ := hi
  obtain ⟨cs, e1, e2, e3⟩ := hc i x hx
  exact ⟨cs, e1, e2, e3⟩

def inI (n : Int) : Bool := decide (-9223372036854775808 ≤ n) && decide (n ≤ 9223372036854775807)
def wfB (l : Line) : Bool := inI l.a && (inI l.b && (inI l.imm && (decide (0 ≤ l.n) && (decide (l.n ≤ 4294967295) && (inI l.label && l.list.all inI)))))

theorem wfB_iff (l : Line) : wfB l = true ↔ WfL l := by
  unfold wfB inI
  simp only [Bool.and_eq_true, decide_eq_true_eq, List.all_eq_true]
  constructor
  · rintro ⟨⟨a, b⟩, ⟨c, d⟩, ⟨e, f⟩, g, h, ⟨i, j⟩, k⟩
    exact ⟨a, b, c, d, e, f, g, h, i, j, k⟩
  · intro h
    exact ⟨⟨h.a0, h.a1⟩, ⟨h.b0, h.b1⟩, ⟨h.i0, h.i1⟩, h.n0, h.n1, ⟨h.l0, h.l1⟩, h.ls⟩

def list_Print.f (l0 : List S49) : Option (ByteArray × Int) := if (l0.all fun x => wfB (toLine x)) = true then some ((⟨(printP (l0.map toLine)).1.toArray⟩ : ByteArray), (printP (l0.map toLine)).2) else none

theorem list_Print.calls (A0 : Option Addr) (c0 : Nat) (l0 : List S49) (r1 : ByteArray) (r2 : Int) (w : World) (hr0 : Kd.C k49 w A0 l0.length l0) (hc0 : l0.length ≤ c0) (hLaid_ : Aside0 (LLaid w)) (h : list_Print.f l0 = some (r1, r2)) :
    Calls Tryz.prog 8 #[.slice A0 l0.length c0] w fun e w' => e = .returned (.tuple #[.string r1, .int .i64 r2]) ∧ Below w.heap.size w w' := by
  unfold list_Print.f at h
  by_cases hw : (l0.all fun x => wfB (toLine x)) = true
  · rw [if_pos hw] at h
    simp only [Option.some.injEq, Prod.mk.injEq] at h
    obtain ⟨rfl, rfl⟩ := h
    have := print_any (l0.map toLine) A0 c0 w hLaid_.out (by have := lines_of (c := c0) hr0; rwa [List.length_map]) (fun l hl => by
      obtain ⟨x, hx, rfl⟩ := List.mem_map.1 hl
      exact (wfB_iff _).1 (List.all_eq_true.1 hw x hx))
    rwa [List.length_map] at this
  · rw [if_neg hw] at h; cases h

end Go.Proofs.YtlhgfhmdhmgmpaaGreatDoor.PZ1

-- Written by gp.py for this claim.
namespace Go.Proofs.YtlhgfhmdhmgmpaaGreatDoor.PZ1
open Go.RowKit Go.Proofs.YtlhgfhmdhmgmpaaGreatDoorW.PrintWords Go.Proofs.YtlhgfhmdhmgmpaaGreatDoorW.PrintLast Go.Proofs.YtlhgfhmdhmgmpaaGreatDoorW.PrintMore
attribute [local go_sem] max2_int min2_int max_two min_two max_three min_three max_four min_four   -- for this text's walks alone
set_option linter.unusedVariables false
set_option linter.unusedSimpArgs false

namespace q_switchbacklaw17_Copy
theorem uZ {p : Prop} (h : p) : Aside0 p := ⟨h⟩
theorem uB {p q : Prop} (h : p) (g : p → q := by intro h; repeat (first | (with_reducible first | exact h | apply below_alloc | apply pw_below_drewN | apply below_drew1) | exact h)) : q := g h
theorem uA {p : Prop} [Decidable p] (h : decide p = true := by first | (with_reducible assumption) | assumption) : p := of_decide_eq_true h
theorem zA : type_of% @Kd.V_alloc := @Kd.V_alloc
theorem zB : type_of% @Kd.V_drewN := @Kd.V_drewN
end q_switchbacklaw17_Copy
open q_switchbacklaw17_Copy

/-! ### switchbacklaw17_Copy: function 7 -/
def switchbacklaw17_Copy.l0 : Nat → List (S49) → List (S49) → Int → Option ((List (S49)))
  | 0, _, _, _ => none
  | k + 1, x0, x3, x4 => if x4 < (x3.length : Int) then (if 0 ≤ x4 then (if x4 < (x0.length : Int) then (if ([] : List Int).length + ((rd_T49 x0 x4).f6).length < 17592186044416 then (switchbacklaw17_Copy.l0 k x0 (x3.set (x4 : Int).toNat (⟨(rd_T49 x3 x4).f0, (rd_T49 x3 x4).f1, (rd_T49 x3 x4).f2, (rd_T49 x3 x4).f3, (rd_T49 x3 x4).f4, (rd_T49 x3 x4).f5, (([] : List Int) ++ ((rd_T49 x0 x4).f6))⟩ : S49)) (wrap64 (x4 + 1))) else (none)) else (none)) else (none)) else (some x3)
def switchbacklaw17_Copy.f (k : Nat) (l0 : List (S49)) : Option ((List (S49))) := if ([] : List (S49)).length + l0.length < 1954687338268 then (switchbacklaw17_Copy.l0 k l0 (([] : List (S49)) ++ l0) 0) else (none)
theorem switchbacklaw17_Copy.mono_l : ∀ k, (∀ y0 y1 y2, LeO (switchbacklaw17_Copy.l0 k y0 y1 y2) (switchbacklaw17_Copy.l0 (k + 1) y0 y1 y2))
  | 0 => fun _ _ _ r h => by simp [switchbacklaw17_Copy.l0] at h
  | k + 1 => by
    have ih0 := switchbacklaw17_Copy.mono_l k
    · intro y0 y1 y2
      unfold switchbacklaw17_Copy.l0
      repeat' first
      | (with_reducible exact ih0 _ _ _)
      | (with_reducible exact LeO.refl _)
      | (with_reducible exact LeO.none _)
      | (with_reducible refine LeO.ite ?_ ?_)
      | (with_reducible refine LeO.bind ?_ (fun _ => ?_))
      | exact ih0 _ _ _
      | exact LeO.none _
      | refine LeO.ite ?_ ?_
      | refine LeO.bind ?_ (fun _ => ?_)
theorem switchbacklaw17_Copy.mono : ∀ a0 k, LeO (switchbacklaw17_Copy.f k a0) (switchbacklaw17_Copy.f (k + 1) a0) := by
  intro a0 k
  have ih0 := switchbacklaw17_Copy.mono_l k
  unfold switchbacklaw17_Copy.f
  repeat' first
      | (with_reducible exact ih0 _ _ _)
      | (with_reducible exact LeO.refl _)
      | (with_reducible exact LeO.none _)
      | (with_reducible refine LeO.ite ?_ ?_)
      | (with_reducible refine LeO.bind ?_ (fun _ => ?_))
      | exact ih0 _ _ _
      | exact LeO.none _
      | refine LeO.ite ?_ ?_
      | refine LeO.bind ?_ (fun _ => ?_)
set_option maxHeartbeats 8000000 in
set_option maxRecDepth 100000 in
theorem switchbacklaw17_Copy.calls (k : Nat) (P0_ : Nat → Prop) (A0 : Option Addr) (c0 : Nat) (l0 : List (S49)) (r : List (S49)) (w : World) (hs0 : Kd.V k49 49 w w.heap.size (fun k_ => P0_ k_) (.slice A0 l0.length c0) l0) (h : switchbacklaw17_Copy.f k l0 = some r) :
    Calls Tryz.prog 7 #[.slice A0 l0.length c0] w fun e w' => ∃ v0_ : Value, e = .returned (v0_) ∧ Kd.N k49 49 w' w.heap.size (fun k_ => (P0_ k_ ∨ w.heap.size ≤ k_)) v0_ r ∧ Below w.heap.size w w' := by
 have HO0 := uZ (show Kd.V k49 49 w w.heap.size (fun k_ => (P0_ k_ ∨ w.heap.size ≤ k_)) (.slice A0 l0.length c0) l0 from Kd.V_mono hs0 (fun k_ hk => .inl hk))
 have HB := uZ (Below.refl w.heap.size w)
 have H : (if ([] : List (S49)).length + l0.length < 1954687338268 then (switchbacklaw17_Copy.l0 k l0 (([] : List (S49)) ++ l0) 0) else (none)) = some r := h
 clear h
 by_cases c2 : ([] : List (S49)).length + l0.length < 1954687338268
 ·rw [if_pos c2] at H
  have LMc2 := uZ c2
  clear c2
  obtain ⟨y101, hy101⟩ : ∃ y_ : List (S49), y_ = (([] : List (S49)) ++ l0) := ⟨_, rfl⟩
  replace H : (switchbacklaw17_Copy.l0 k l0 y101 0) = some r := by first | (rw [hy101]; with_reducible exact H) | (have H2_ := (Option.bind_some _ _).symm.trans H; rw [hy101]; with_reducible exact H2_) | (have H2_ := (Option.bind_some _ _).symm.trans H; with_reducible exact H2_) | with_reducible exact H | (rw [hy101]; exact H) | exact H
  have Ny101 := uZ hy101
  clear hy101
  have H' := uZ H
  clear H
  go_enter Tryz.func7, Tryz.ntmps7
  go_wp2_with (first | ((with_reducible refine gate_builtin (b := .append) (xs := #[.tmp 6, .tmp 7]) rfl ?_); at_builtin; refine Kd.N_append_rows k49 (w0 := w) w.heap.size rfl (.tmp 6) (.tmp 7) 22 49 (.agg #[(.int .i64 0), (.int .i64 0), (.int .i64 0), (.int .i64 0), (.int .u32 0), (.int .i64 0), (.slice none 0 0)]) 72 rfl Tryz.underlying22 info49 rfl (by decide) (by omega) (.slice none 0 0) ([] : List (S49)) l0 _ _ _ (fun k_ => (P0_ k_ ∨ w.heap.size ≤ k_)) (fun k_ => ((fun k_ => (P0_ k_ ∨ w.heap.size ≤ k_))) k_ ∧ some k_ ≠ (.slice none 0 0 : Value).ownBlock) rfl rfl ?aO ?aR (fun _ hk => hk) ?aF ?aB ?aS ?aL ?_; (case aR => exact (by skip; exact Kd.V_F (Kd.V_mono (ok' := (fun k_ => ((fun k_ => (P0_ k_ ∨ w.heap.size ≤ k_))) k_ ∧ some k_ ≠ (.slice none 0 0 : Value).ownBlock)) (HO0.out) (fun k_ hk => ⟨hk, (by simp [Value.ownBlock])⟩)))); (case aB => exact (uB HB.out)); (case aF => exact (fun k_ hk => (.inr (Nat.le_trans (below_size (uB HB.out)) hk)))); (case aO => exact ((Kd.N_nil _ _ _ _ (fun k_ => (P0_ k_ ∨ w.heap.size ≤ k_))))); (case aS => exact (below_size (uB HB.out))); (case aL => have := LMc2.out; omega); intro v102 w3 ho hb hg hat; rw [← Ny101.out] at ho; have n0_ := uZ (Kd.V_afterv (Kd.V_apart_nil (by (with_reducible repeat (first | apply zA | apply zB | apply Kd.V_drew)); exact HO0.out)) hg hat); have n1_ := uZ (hb); have n2_ := uZ (ho); clear HO0; clear HB; have HO0 := n0_; have HB := n1_; have HO103 := n2_; clear n0_ n1_ n2_; clear ho hb hg hat))
  go_loopg [4] k (fun kq v4 w' => ∃ (a2 : List (S49)) (a1 : Int), v4 = .int .i64 a1 ∧ Aside0 (switchbacklaw17_Copy.l0 kq l0 a2 a1 = some r) ∧ Aside0 (kq ≤ k) ∧ Aside0 (Kd.V k49 49 w' w.heap.size (fun k_ => (P0_ k_ ∨ w.heap.size ≤ k_) ∧ some k_ ≠ (v102 : Value).ownBlock) (.slice A0 l0.length c0) l0) ∧ Aside0 (Kd.N k49 49 w' w.heap.size (fun k_ => (P0_ k_ ∨ w.heap.size ≤ k_)) v102 a2) ∧ Aside0 (Below w.heap.size w w'))
  case atStart => exact ⟨(y101), (0), (by first | rfl | (simp; done) | (simp [*]; done)), H', ⟨Nat.le_refl _⟩, ⟨by (with_reducible repeat (first | apply zA | apply zB | apply Kd.V_drew)); exact HO0.out⟩, ⟨by (with_reducible repeat (first | apply Kd.N_alloc | apply Kd.N_drewN | apply Kd.N_drew)); exact HO103.out⟩, ⟨uB HB.out⟩⟩
  case round =>
   clear H'
   try clear c2
   try clear p2
   obtain ⟨a2, a1, rfl, HA, HK1, HO_0, a3, HB⟩ := hrel
   cases gk with
   | zero => exact absurd HA.out (by simp [switchbacklaw17_Copy.l0])
   | succ k1 =>
    have H := HA.out
    clear HA
    simp only [switchbacklaw17_Copy.l0] at H
    by_cases c4 : a1 < (a2.length : Int)
    ·rw [if_pos c4] at H
     have c4b0 : decide (a1 < (a2.length : Int)) = true := decide_eq_true c4
     clear c4
     by_cases c5 : 0 ≤ a1
     ·rw [if_pos c5] at H
      have c5b0 : decide (0 ≤ a1) = true := decide_eq_true c5
      clear c5
      by_cases c6 : a1 < (l0.length : Int)
      ·rw [if_pos c6] at H
       have c6b0 : decide (a1 < (l0.length : Int)) = true := decide_eq_true c6
       clear c6
       by_cases c7 : ([] : List Int).length + ((rd_T49 l0 a1).f6).length < 17592186044416
       ·rw [if_pos c7] at H
        have LMc7 := uZ c7
        clear c7
        obtain ⟨y105, hy105⟩ : ∃ y_ : List Int, y_ = (([] : List Int) ++ ((rd_T49 l0 a1).f6)) := ⟨_, rfl⟩
        replace H : (switchbacklaw17_Copy.l0 k1 l0 (a2.set (a1 : Int).toNat (⟨(rd_T49 a2 a1).f0, (rd_T49 a2 a1).f1, (rd_T49 a2 a1).f2, (rd_T49 a2 a1).f3, (rd_T49 a2 a1).f4, (rd_T49 a2 a1).f5, y105⟩ : S49)) (wrap64 (a1 + 1))) = some r := by first | (rw [hy105]; with_reducible exact H) | (have H2_ := (Option.bind_some _ _).symm.trans H; rw [hy105]; with_reducible exact H2_) | (have H2_ := (Option.bind_some _ _).symm.trans H; with_reducible exact H2_) | with_reducible exact H | (rw [hy105]; exact H) | exact H
        have Ny105 := uZ hy105
        clear hy105
        obtain ⟨y108, hy108⟩ : ∃ y_ : List (S49), y_ = (a2.set (a1 : Int).toNat (⟨(rd_T49 a2 a1).f0, (rd_T49 a2 a1).f1, (rd_T49 a2 a1).f2, (rd_T49 a2 a1).f3, (rd_T49 a2 a1).f4, (rd_T49 a2 a1).f5, y105⟩ : S49)) := ⟨_, rfl⟩
        replace H : (switchbacklaw17_Copy.l0 k1 l0 y108 (wrap64 (a1 + 1))) = some r := by first | (rw [hy108]; with_reducible exact H) | (have H2_ := (Option.bind_some _ _).symm.trans H; rw [hy108]; with_reducible exact H2_) | (have H2_ := (Option.bind_some _ _).symm.trans H; with_reducible exact H2_) | with_reducible exact H | (rw [hy108]; exact H) | exact H
        have Ny108 := uZ hy108
        clear hy108
        have H' := uZ H
        clear H
        obtain ⟨Ao9, co9, eo9⟩ := Kd.N_slice a3.out
        subst eo9
        have p104 : 0 ≤ (a1 : Int) := uA
        have q104 : a1 < (l0.length : Int) := uA
        obtain ⟨ad104, A104_6, c104_6, e104, hx104_0, hx104_1, hx104_2, hx104_3, hx104_4, hx104_5, hx104_6, hl104_6, hi104_6⟩ := at_T49 (Kd.V_reads' HO_0.out).2.2 a1 p104 q104
        cases e104
        obtain ⟨ce104, hce104, hMe104, hcc104⟩ := Kd.V_get HO_0.out z49 a1 p104 (by first | exact q104 | exact uA | (have e_ := (Kd.V_reads' HO_0.out).1; omega))
        obtain ⟨ua104_6, uc104_6, rfl, ul104_6, ge104_6⟩ := k49_openF hMe104
        have hv104_6 := hcc104 6 _ rfl
        rw [add_field _ _ 6 (by omega)] at hv104_6
        replace hv104_6 := Option.some.inj (hv104_6.symm.trans hx104_6)
        injection hv104_6 with hva_ hvn_ hvc_
        rw [hva_] at ge104_6
        rw [hvc_] at ul104_6
        have HL104_6 := uZ (show Kd.V (Kd.int .i64) 3 _ w.heap.size _ _ ((rd_T49 l0 a1).f6) from Kd.V_mk ul104_6 ge104_6)
        clear hva_ hvn_ hvc_ ge104_6 ul104_6
        clear hcc104 hce104
        have HR104_6 := uZ hi104_6
        have HC104_6 := uZ hl104_6
        clear hi104_6 hl104_6
        replace p104 := eq_true p104
        replace q104 := eq_true q104
        go_wp2_with (first | ((with_reducible refine gate_builtin (b := .append) (xs := #[.tmp 17, .tmp 22]) rfl ?_); at_builtin; refine Kd.R_append_rows (Kd.int .i64) (w0 := w) w.heap.size rfl (.tmp 17) (.tmp 22) 35 3 (.int .i64 0) 8 rfl Tryz.underlying35 info3 rfl (by decide) (by omega) (.slice none 0 0) ([] : List Int) ((rd_T49 l0 a1).f6) _ _ _ (fun k_ => (w.heap.size ≤ k_)) (fun _ => False) rfl rfl ?aO ?aR (fun _ _ h => h) (fun _ h => h.elim) ?aF ?aB ?aS ?aL ?_; (case aR => repeat (first | exact (by repeat (first | (with_reducible exact HR104_6.out) | (with_reducible refine Kd.C_alloc ?_ _) | (with_reducible refine Kd.C_drewN ?_ _) | (with_reducible refine Kd.C_drew ?_) | exact HR104_6.out)) | (with_reducible refine Kd.C_alloc ?_ _) | (with_reducible refine Kd.C_drewN ?_ _) | (with_reducible refine Kd.C_drew ?_))); (case aB => exact (uB HB.out)); (case aF => exact (fun k_ hk => (Nat.le_trans (below_size (uB HB.out)) hk))); (case aO => exact ((Kd.R_nil _ _ _ _ (fun k_ => (w.heap.size ≤ k_))))); (case aS => exact (below_size (uB HB.out))); (case aL => have := LMc7.out; omega); intro v106 w10 ho hb hg hat; rw [← Ny105.out] at ho; obtain ⟨Aq_, cq_, rfl⟩ := Kd.R_slice ho; have n0_ := uZ (Kd.V_afterv (Kd.V_apart_nil (by (with_reducible repeat (first | apply zA | apply zB | apply Kd.V_drew)); exact HO_0.out)) hg hat); have n1_ := uZ (Kd.N_afterv (Kd.N_apart_nil (by (with_reducible repeat (first | apply Kd.N_alloc | apply Kd.N_drewN | apply Kd.N_drew)); exact a3.out)) hg hat); have n2_ := uZ (Kd.V_afterv (Kd.V_apart_nil (by (with_reducible repeat (first | apply zA | apply zB | apply Kd.V_drew)); exact HL104_6.out)) hg hat); have n3_ := uZ (hb); have n4_ := uZ (ho); clear HO_0; clear a3; clear HL104_6; clear HB; have HO_0 := n0_; have a3 := n1_; have HL104_6 := n2_; have HB := n3_; have HO107 := n4_; clear n0_ n1_ n2_ n3_ n4_; clear ho hb hg hat; have p8 : 0 ≤ (a1 : Int) := uA; have q8 : (a1 : Int) < ((a2.length : Int) : Int) := uA; obtain ⟨go8, co8, eo8, gb8, gl8, cl8, HG8⟩ := Kd.N_form a3.out (by omega); (first | cases eo8 | (injection eo8 with ea_ en_ ec_; (first | subst ea_ | (injection ea_ with ea_; subst ea_)); subst ec_; clear en_)); have GB8 := uZ gb8; have GG8 := uZ HG8; clear gb8 gl8 HG8; obtain ⟨ce8, hcl8, hM8, hcc8, hfr8⟩ := Kd.N_elem a3.out z49 (a1 : Int) p8 q8; obtain ⟨ua8_6, uc8_6, rfl, ul8_6, ge8_6⟩ := k49_openF hM8; have hx8_0 : w10.cell? ⟨go8, (a1 : Int).toNat * 7, none⟩ = some (.int .i64 ((rd_T49 a2 a1).f0)) := hcc8 0 _ rfl; have hx8_1 : w10.cell? ⟨go8, (a1 : Int).toNat * 7 + 1, none⟩ = some (.int .i64 ((rd_T49 a2 a1).f1)) := hcc8 1 _ rfl; have hx8_2 : w10.cell? ⟨go8, (a1 : Int).toNat * 7 + 2, none⟩ = some (.int .i64 ((rd_T49 a2 a1).f2)) := hcc8 2 _ rfl; have hx8_3 : w10.cell? ⟨go8, (a1 : Int).toNat * 7 + 3, none⟩ = some (.int .i64 ((rd_T49 a2 a1).f3)) := hcc8 3 _ rfl; have hx8_4 : w10.cell? ⟨go8, (a1 : Int).toNat * 7 + 4, none⟩ = some (.int .u32 ((rd_T49 a2 a1).f4)) := hcc8 4 _ rfl; have hx8_5 : w10.cell? ⟨go8, (a1 : Int).toNat * 7 + 5, none⟩ = some (.int .i64 ((rd_T49 a2 a1).f5)) := hcc8 5 _ rfl; have hx8_6 : w10.cell? ⟨go8, (a1 : Int).toNat * 7 + 6, none⟩ = some (.slice ua8_6 ((rd_T49 a2 a1).f6).length uc8_6) := hcc8 6 _ rfl; have hf8_0 : w10.frozen? ⟨go8, (a1 : Int).toNat * 7, none⟩ = false := hfr8 0; have hf8_1 : w10.frozen? ⟨go8, (a1 : Int).toNat * 7 + 1, none⟩ = false := hfr8 1; have hf8_2 : w10.frozen? ⟨go8, (a1 : Int).toNat * 7 + 2, none⟩ = false := hfr8 2; have hf8_3 : w10.frozen? ⟨go8, (a1 : Int).toNat * 7 + 3, none⟩ = false := hfr8 3; have hf8_4 : w10.frozen? ⟨go8, (a1 : Int).toNat * 7 + 4, none⟩ = false := hfr8 4; have hf8_5 : w10.frozen? ⟨go8, (a1 : Int).toNat * 7 + 5, none⟩ = false := hfr8 5; have hf8_6 : w10.frozen? ⟨go8, (a1 : Int).toNat * 7 + 6, none⟩ = false := hfr8 6; clear hcl8 hcc8 hfr8 hM8; replace p8 := eq_true p8; replace q8 := eq_true q8; have HX11 := uZ (show Kd.N k49 49 w10 w.heap.size (fun k_ => (P0_ k_ ∨ w.heap.size ≤ k_)) (.slice (some ⟨go8, 0, none⟩) a2.length co9) a2 from (by (with_reducible repeat (first | apply Kd.N_alloc | apply Kd.N_drewN | apply Kd.N_drew)); exact Kd.N_mono a3.out (fun _ hk => hk.1))); obtain ⟨ce11, hcl11, hM11, hcc11, hfr11⟩ := Kd.N_elem HX11.out z49 (a1 : Int) (uA) (by have h_ : (a1 : Int) < ((a2.length : Int) : Int) := uA; first | exact h_ | (have e_ := (Kd.N_reads' a3.out).1; omega) | simpa using h_); obtain ⟨ua11_6, uc11_6, rfl, ul11_6, ge11_6⟩ := k49_openF hM11; have HP11 := Kd.N_seg HX11.out (a1 : Int) (uA) (by have h_ : (a1 : Int) < ((a2.length : Int) : Int) := uA; first | exact h_ | (have e_ := (Kd.N_reads' a3.out).1; omega) | simpa using h_) (seg := [(.slice Aq_ y105.length cq_)]) (j := 6) hcl11 hcc11 (show 7 ≤ 7 from by decide) (x' := (⟨(rd_T49 a2 a1).f0, (rd_T49 a2 a1).f1, (rd_T49 a2 a1).f2, (rd_T49 a2 a1).f3, (rd_T49 a2 a1).f4, (rd_T49 a2 a1).f5, y105⟩ : S49)) (k49_mkF _ _ (⟨(rd_T49 a2 a1).f0, (rd_T49 a2 a1).f1, (rd_T49 a2 a1).f2, (rd_T49 a2 a1).f3, (rd_T49 a2 a1).f4, (rd_T49 a2 a1).f5, y105⟩ : S49) (Kd.R_reads' (Kd.R_mono (ok' := (fun k_ => ((fun k_ => (P0_ k_ ∨ w.heap.size ≤ k_))) k_ ∧ k_ ≠ go8)) (Kd.R_apart' (HO107.out) (Kd.N_typed a3.out) (by decide)) (fun k_ hk => ⟨(.inr (hk.1)), fun e_ => (hk.2) (by rw [e_]; rfl)⟩))).2.1 (Kd.R_F (Kd.R_mono (ok' := (fun k_ => ((fun k_ => (P0_ k_ ∨ w.heap.size ≤ k_))) k_ ∧ k_ ≠ go8)) (Kd.R_apart' (HO107.out) (Kd.N_typed a3.out) (by decide)) (fun k_ hk => ⟨(.inr (hk.1)), fun e_ => (hk.2) (by rw [e_]; rfl)⟩)))) (fun _ hk => hk); have hx11_6 := hcc11 6 _ rfl; (try simp only [show (k49).sz = 7 from rfl, Nat.mul_one, Nat.add_zero] at hx11_6); have hf11_6 := hfr11 6; (try simp only [show (k49).sz = 7 from rfl, Nat.mul_one, Nat.add_zero] at hf11_6); clear hcl11 hcc11 hfr11 hM11) | ((with_reducible refine gate_store (t := 35) (p := 25) rfl ?_); refine store_event (t := 35) (p := 25) (v := ?vo_w12) (w1 := (w10.setCell ⟨go8, (a1 : Int).toNat * 7 + 6, none⟩ (.slice Aq_ y105.length cq_))) ?hg ?ho ?hn ?hr ?_; (case ho => rfl); (case hg => rfl); (case hn => rfl); (case hr => first | (go_simp; done) | (go_simp; rfl)); intro w12 hw; have hg : w10.grownBy w12 (some go8) := (by rw [hw]; exact HP11.2); have hp_ : Kd.N k49 49 w12 w.heap.size (fun k_ => (P0_ k_ ∨ w.heap.size ≤ k_)) (.slice (some ⟨go8, 0, none⟩) a2.length co9) y108 := (by rw [hw, Ny108.out]; exact HP11.1); clear HP11; have n0_ := uZ (Kd.V_afterv (v := (.slice (some ⟨go8, 0, none⟩) a2.length co9)) (v1 := (.slice (some ⟨go8, 0, none⟩) a2.length co9)) (ok := (fun k_ => (P0_ k_ ∨ w.heap.size ≤ k_) ∧ some k_ ≠ ((.slice Aq_ y105.length cq_) : Value).ownBlock)) (by (with_reducible repeat (first | apply zA | apply zB | apply Kd.V_drew)); exact Kd.V_mono HO_0.out (fun _ hk => ⟨⟨hk.1.1, hk.2⟩, hk.1.2⟩)) hg (.inl rfl)); have n1_ := uZ (hp_); have n2_ := uZ (Kd.V_afterv (v := (.slice (some ⟨go8, 0, none⟩) a2.length co9)) (v1 := (.slice (some ⟨go8, 0, none⟩) a2.length co9)) (ok := (fun k_ => (P0_ k_ ∨ w.heap.size ≤ k_) ∧ some k_ ≠ ((.slice Aq_ y105.length cq_) : Value).ownBlock)) (by (with_reducible repeat (first | apply zA | apply zB | apply Kd.V_drew)); exact Kd.V_mono HL104_6.out (fun _ hk => ⟨⟨hk.1.1, hk.2⟩, hk.1.2⟩)) hg (.inl rfl)); have n3_ := uZ ((by rw [hw]; exact below_set (HB.out) GB8.out : Below w.heap.size w w12)); clear HO_0; clear a3; clear HL104_6; clear HB; clear HO107; have HO_0 := n0_; have a3 := n1_; have HL104_6 := n2_; have HB := n3_; clear n0_ n1_ n2_ n3_; clear hg hw hp_))
        go_roundg k1
        case measure => have := HK1.out; omega
        case rel => exact ⟨(y108), (wrap64 (a1 + 1)), (by first | rfl | (simp; done) | (simp [*]; done)), H', ⟨by have := HK1.out; omega⟩, ⟨by (with_reducible repeat (first | apply zA | apply zB | apply Kd.V_drew)); exact Kd.V_mono HO_0.out (fun _ hk => ⟨hk.1.1, hk.2⟩)⟩, ⟨by (with_reducible repeat (first | apply Kd.N_alloc | apply Kd.N_drewN | apply Kd.N_drew)); exact a3.out⟩, ⟨uB HB.out⟩⟩
       rw [if_neg c7] at H
       exact absurd H (by simp)
      rw [if_neg c6] at H
      exact absurd H (by simp)
     rw [if_neg c5] at H
     exact absurd H (by simp)
    rw [if_neg c4] at H
    have c4b0 : decide (a1 < (a2.length : Int)) = false := decide_eq_false c4
    clear c4
    obtain rfl := Option.some.inj H
    obtain ⟨Ao13, co13, eo13⟩ := Kd.N_slice a3.out
    subst eo13
    go_wp2
    go_ret
    exact ⟨_, by first | rfl | (simp [errW_none, errW_some] <;> rfl) | (simp [*, errW_none, errW_some] <;> rfl), by (with_reducible repeat (first | apply Kd.N_alloc | apply Kd.N_drewN | apply Kd.N_drew)); exact a3.out, by repeat (first | (with_reducible first | exact HB.out | apply below_alloc | apply pw_below_drewN | apply below_drew1) | exact HB.out)⟩
 rw [if_neg c2] at H
 exact absurd H (by simp)

end Go.Proofs.YtlhgfhmdhmgmpaaGreatDoor.PZ1

set_option linter.unusedVariables false
namespace Go.Proofs.YtlhgfhmdhmgmpaaGreatDoor.PZ1
open Go.RowKit Go.Proofs.YtlhgfhmdhmgmpaaGreatDoorW.PrintWords Go.Proofs.YtlhgfhmdhmgmpaaGreatDoorW.PrintLast Go.Proofs.YtlhgfhmdhmgmpaaGreatDoorW.PrintMore

/-! ### switchbacklaw17_SameLines: function 11 -/
def eqS (x y : S49) : Bool := x.f0 == y.f0 && (x.f1 == y.f1 && (x.f2 == y.f2 && (x.f3 == y.f3 && (x.f4 == y.f4 && (x.f5 == y.f5 && (x.f6 == y.f6 && decide (x.f6.length ≤ 140737488351232)))))))
def eqL : List S49 → List S49 → Bool
  | [], [] => true
  | x :: a, y :: b => eqS x y && eqL a b
  | _, _ => false

theorem eqS_eq {x y : S49} (h : eqS x y = true) : x = y ∧ x.f6.length ≤ 140737488351232 := by
  unfold eqS at h
  simp only [Bool.and_eq_true, beq_iff_eq, decide_eq_true_eq] at h
  obtain ⟨a, b, c, d, e, f, g, i⟩ := h
  refine ⟨?_, i⟩
  cases x; cases y
  simp_all

theorem eqL_eq : ∀ {a b : List S49}, eqL a b = true → a = b ∧ ∀ x ∈ a, x.f6.length ≤ 140737488351232
  | [], [], _ => ⟨rfl, fun x hx => by cases hx⟩
  | x :: a, y :: b, h => by
    rw [eqL, Bool.and_eq_true] at h
    obtain ⟨rfl, h1⟩ := eqS_eq h.1
    obtain ⟨rfl, h2⟩ := eqL_eq h.2
    refine ⟨rfl, fun z hz => ?_⟩
    rcases List.mem_cons.1 hz with rfl | hz
    · exact h1
    · exact h2 z hz
  | [], y :: b, h => by simp [eqL] at h
  | x :: a, [], h => by simp [eqL] at h

theorem eqL_self : ∀ {a : List S49}, (∀ x ∈ a, x.f6.length ≤ 140737488351232) → eqL a a = true
  | [], _ => rfl
  | x :: a, h => by
    rw [eqL, Bool.and_eq_true]
    refine ⟨?_, eqL_self fun y hy => h y (List.mem_cons_of_mem _ hy)⟩
    unfold eqS
    simp [h x (List.mem_cons_self ..)]

def switchbacklaw17_SameLines.f (l0 : List S49) (l1 : List S49) : Option Bool := if l0.length ≤ 140737488351232 then (if eqL l0 l1 = true then some true else none) else none

theorem switchbacklaw17_SameLines.calls (A0 : Option Addr) (c0 : Nat) (l0 : List (S49)) (A1 : Option Addr) (c1 : Nat) (l1 : List (S49)) (r : Bool) (w : World) (hr0 : Kd.C k49 w A0 l0.length l0) (hc0 : l0.length ≤ c0) (hr1 : Kd.C k49 w A1 l1.length l1) (hc1 : l1.length ≤ c1) (h : switchbacklaw17_SameLines.f l0 l1 = some r) :
    Calls Tryz.prog 11 #[.slice A0 l0.length c0, .slice A1 l1.length c1] w fun e w' => e = .returned (.bool r) ∧ Below w.heap.size w w' := by
  unfold switchbacklaw17_SameLines.f at h
  by_cases hn : l0.length ≤ 140737488351232
  · rw [if_pos hn] at h
    by_cases he : eqL l0 l1 = true
    · rw [if_pos he, Option.some.injEq] at h
      subst h
      obtain ⟨rfl, h2⟩ := eqL_eq he
      have := same_lines (l0.map toLine) A0 A1 c0 c1 w (by have := lines_of (c := c0) hr0; rwa [List.length_map]) (by have := lines_of (c := c1) hr1; rwa [List.length_map]) (by rw [List.length_map]; exact hn) (fun m hm => by
        obtain ⟨x, hx, rfl⟩ := List.mem_map.1 hm
        exact h2 x hx)
      rwa [List.length_map] at this
    · rw [if_neg he] at h; cases h
  · rw [if_neg hn] at h; cases h

end Go.Proofs.YtlhgfhmdhmgmpaaGreatDoor.PZ1

set_option linter.unusedVariables false
namespace Go.Proofs.YtlhgfhmdhmgmpaaGreatDoor.PZ1
open Go.RowKit Go.Proofs.YtlhgfhmdhmgmpaaGreatDoorW.PrintWords Go.Proofs.YtlhgfhmdhmgmpaaGreatDoorW.PrintLast Go.Proofs.YtlhgfhmdhmgmpaaGreatDoorW.PrintMore

/-! ### switchbacklaw22_live: function 10 -/
def switchbacklaw22_live.f : Option Bool := some true

theorem switchbacklaw22_live.calls (r : Bool) (w : World) (hLaid_ : Aside0 (LLaid w)) (h : switchbacklaw22_live.f = some r) :
    Calls Tryz.prog 10 #[] w fun e w' => e = .returned (.bool r) ∧ Below w.heap.size w w' := by
  simp only [switchbacklaw22_live.f, Option.some.injEq] at h
  subst h
  exact live_any w hLaid_.out

end Go.Proofs.YtlhgfhmdhmgmpaaGreatDoor.PZ1

-- Written by gp.py for this claim.
namespace Go.Proofs.YtlhgfhmdhmgmpaaGreatDoor.PZ1
open Go.RowKit Go.Proofs.YtlhgfhmdhmgmpaaGreatDoorW.PrintWords Go.Proofs.YtlhgfhmdhmgmpaaGreatDoorW.PrintLast Go.Proofs.YtlhgfhmdhmgmpaaGreatDoorW.PrintMore
attribute [local go_sem] max2_int min2_int max_two min_two max_three min_three max_four min_four   -- for this text's walks alone
set_option linter.unusedVariables false
set_option linter.unusedSimpArgs false

namespace q_switchbacklaw22_ListPrints
theorem uZ {p : Prop} (h : p) : Aside0 p := ⟨h⟩
theorem uN {p q : Prop} (h : p) (g : p → q := by intro h; (with_reducible repeat (first | apply Kd.N_alloc | apply Kd.N_drewN | apply Kd.N_drew)); exact h) : q := g h
theorem uB {p q : Prop} (h : p) (g : p → q := by intro h; repeat (first | (with_reducible first | exact h | apply below_alloc | apply pw_below_drewN | apply below_drew1) | exact h)) : q := g h
theorem zA : type_of% @Kd.N_below := @Kd.N_below
theorem zB : type_of% @Kd.N_reads' := @Kd.N_reads'
theorem zC : type_of% @Kd.C_alloc := @Kd.C_alloc
theorem zD : type_of% @Kd.C_drewN := @Kd.C_drewN
theorem zE : type_of% @Kd.C_drew := @Kd.C_drew
theorem zF : type_of% @pw_below_drewN := @pw_below_drewN
theorem zG : type_of% @below_alloc := @below_alloc
theorem zH : type_of% @below_drew1 := @below_drew1
theorem zI : type_of% @below_set := @below_set
theorem zJ : type_of% @below_step := @below_step
theorem zK : type_of% @List.map_toArray := @List.map_toArray
theorem zL : type_of% @List.length_drop := @List.length_drop
theorem zM : type_of% @List.length_take := @List.length_take
end q_switchbacklaw22_ListPrints
open q_switchbacklaw22_ListPrints

/-! ### switchbacklaw22_ListPrints: function 3 -/
def switchbacklaw22_ListPrints.f (k : Nat) (l0 : List (S49)) : Option (Bool) := (switchbacklaw17_Copy.f k l0).bind fun t223 => ((list_Print.f t223).bind fun bt226 => ((switchbackref22_Print.f k l0).bind fun bt228 => ((switchbacklaw22_live.f).bind fun t230 => (if t230 = true then (if bt226.1.toList = bt228.1.toList then (if bt226.2 = bt228.2 then ((switchbacklaw17_SameLines.f t223 l0).bind fun t231 => (some t231)) else (some false)) else (some false)) else (some false)))))
theorem switchbacklaw22_ListPrints.mono : ∀ a0 k, LeO (switchbacklaw22_ListPrints.f k a0) (switchbacklaw22_ListPrints.f (k + 1) a0) := by
  intro a0 k
  unfold switchbacklaw22_ListPrints.f
  repeat' first
      | (with_reducible exact switchbacklaw17_Copy.mono _ _)
      | (with_reducible exact switchbackref22_Print.mono _ _)
      | (with_reducible exact LeO.refl _)
      | (with_reducible exact LeO.none _)
      | (with_reducible refine LeO.ite ?_ ?_)
      | (with_reducible refine LeO.bind ?_ (fun _ => ?_))
      | exact switchbacklaw17_Copy.mono _ _
      | exact switchbackref22_Print.mono _ _
      | exact LeO.none _
      | refine LeO.ite ?_ ?_
      | refine LeO.bind ?_ (fun _ => ?_)
set_option maxHeartbeats 8000000 in
set_option maxRecDepth 100000 in
theorem switchbacklaw22_ListPrints.calls (k : Nat) (A0 : Option Addr) (c0 : Nat) (l0 : List (S49)) (r : Bool) (w : World) (hr0 : Kd.C k49 w A0 l0.length l0) (hc0 : l0.length ≤ c0) (hLaid_ : Aside0 (LLaid w)) (h : switchbacklaw22_ListPrints.f k l0 = some r) :
    Calls Tryz.prog 3 #[.slice A0 l0.length c0] w fun e w' => e = .returned (.bool r) ∧ Below w.heap.size w w' := by
 have HR0 := uZ hr0
 have HC0 := uZ hc0
 clear hr0 hc0
 have HB := uZ (Below.refl w.heap.size w)
 have H : ((switchbacklaw17_Copy.f k l0).bind fun a2 => ((list_Print.f a2).bind fun bt226 => ((switchbackref22_Print.f k l0).bind fun bt228 => ((switchbacklaw22_live.f).bind fun t230 => (if t230 = true then (if bt226.1.toList = bt228.1.toList then (if bt226.2 = bt228.2 then ((switchbacklaw17_SameLines.f a2 l0).bind fun a3 => (some a3)) else (some false)) else (some false)) else (some false)))))) = some r := h
 clear h
 replace H := Option.bind_eq_some_iff.mp H
 obtain ⟨a2, A20, H⟩ := H
 replace H : ((list_Print.f a2).bind fun bt226 => ((switchbackref22_Print.f k l0).bind fun bt228 => ((switchbacklaw22_live.f).bind fun t230 => (if t230 = true then (if bt226.1.toList = bt228.1.toList then (if bt226.2 = bt228.2 then ((switchbacklaw17_SameLines.f a2 l0).bind fun a3 => (some a3)) else (some false)) else (some false)) else (some false))))) = some r := H
 have A2 := uZ A20
 clear A20
 replace H := Option.bind_eq_some_iff.mp H
 obtain ⟨⟨t226, t227⟩, A30, H⟩ := H
 replace H : ((switchbackref22_Print.f k l0).bind fun bt228 => ((switchbacklaw22_live.f).bind fun t230 => (if t230 = true then (if t226.toList = bt228.1.toList then (if t227 = bt228.2 then ((switchbacklaw17_SameLines.f a2 l0).bind fun a3 => (some a3)) else (some false)) else (some false)) else (some false)))) = some r := H
 have A3 := uZ A30
 clear A30
 replace H := Option.bind_eq_some_iff.mp H
 obtain ⟨⟨t228, t229⟩, A40, H⟩ := H
 replace H : ((switchbacklaw22_live.f).bind fun t230 => (if t230 = true then (if t226.toList = t228.toList then (if t227 = t229 then ((switchbacklaw17_SameLines.f a2 l0).bind fun a3 => (some a3)) else (some false)) else (some false)) else (some false))) = some r := H
 have A4 := uZ A40
 clear A40
 replace H := Option.bind_eq_some_iff.mp H
 obtain ⟨t230, A50, H⟩ := H
 replace H : (if t230 = true then (if t226.toList = t228.toList then (if t227 = t229 then ((switchbacklaw17_SameLines.f a2 l0).bind fun a3 => (some a3)) else (some false)) else (some false)) else (some false)) = some r := H
 have A5 := uZ A50
 clear A50
 by_cases c6 : t230 = true
 ·subst c6
  have H1 : (if t226.toList = t228.toList then (if t227 = t229 then ((switchbacklaw17_SameLines.f a2 l0).bind fun a3 => (some a3)) else (some false)) else (some false)) = some r := by rw [if_pos rfl] at H; exact H
  clear H
  have H := H1
  clear H1
  by_cases c7 : t226.toList = t228.toList
  ·rw [if_pos c7] at H
   have c7b0 : (t226.toList == t228.toList) = true := beq_iff_eq.mpr c7
   have c7b1 : (t226.toList != t228.toList) = false := bne_eq_false_iff_eq.mpr c7
   clear c7
   by_cases c8 : t227 = t229
   ·rw [if_pos c8] at H
    have c8b0 : (t227 == t229) = true := beq_iff_eq.mpr c8
    have c8b1 : (t227 != t229) = false := bne_eq_false_iff_eq.mpr c8
    clear c8
    replace H := Option.bind_eq_some_iff.mp H
    obtain ⟨a3, A90, H⟩ := H
    replace H : (some a3) = some r := H
    have A9 := uZ A90
    clear A90
    obtain rfl := Option.some.inj H
    go_enter Tryz.func3, Tryz.ntmps3
    go_wp2_with (first | ((with_reducible refine gate_callee (f := 7) rfl ?_); refine goesL_ (some 9) rfl rfl Tryz.func7 (by kernel_rfl) rfl #[.slice A0 l0.length c0] rfl (by (try simp only [zK, List.map_cons, List.map_nil]); first | done | rfl | (simp only [zL, zM]; rfl)) ?_; (with_reducible refine (switchbacklaw17_Copy.calls k (fun k_ => k_ < w.heap.size) _ _ l0 a2 _ ?side1 A2.out).mono ?_); (case side1 => exact Kd.V_mk HC0.out (Kd.F_below (Kd.C_F k49_heap HR0.out) (uB HB.out))); rintro e w10 ⟨v224, rfl, ho0, hb⟩; refine ⟨_, rfl, ?_⟩; have n0_ := uZ (Kd.N_lower (Kd.N_mono (ok' := fun k_ => True) ho0 (fun k_ hk_ => trivial)) (below_size (uB HB.out))); have n1_ := uZ (zJ (uB HB.out) hb); clear HB; have a1 := n0_; have HB := n1_; clear n0_ n1_; (try clear hb); (try clear hb2); (try clear hk); (try clear hi); (try clear ho0); obtain ⟨Ao11, co11, eo11⟩ := Kd.N_slice a1.out; subst eo11) | ((with_reducible refine gate_callee (f := 8) rfl ?_); refine goesL_ (some 12) rfl rfl Tryz.func8 (by kernel_rfl) rfl #[.slice Ao11 a2.length co11] rfl (by (try simp only [zK, List.map_cons, List.map_nil]); first | done | rfl | (simp only [zL, zM]; rfl)) ?_; (with_reducible refine (list_Print.calls _ _ a2 t226 t227 _ ?side1 ?side2 (uZ (hLaid_.out.below (by repeat (first | (with_reducible first | exact HB.out | apply zG | apply zF | apply zH) | refine zI ?_ (Aside0.out (by assumption)) | exact HB.out)))) A3.out).mono ?_); (case side1 => repeat (first | exact (zB a1.out).2.2 | (with_reducible refine zC ?_ _) | (with_reducible refine zD ?_ _) | (with_reducible refine zE ?_))); (case side2 => exact (zB a1.out).2.1); rintro e w12 ⟨rfl, hb⟩; refine ⟨_, rfl, ?_⟩; have n0_ := uZ (zA (uN a1.out) hb); have n1_ := uZ (zJ (uB HB.out) hb); clear a1; clear HB; have a1 := n0_; have HB := n1_; clear n0_ n1_; (try clear hb); (try clear hb2); (try clear hk); (try clear hi)) | ((with_reducible refine gate_callee (f := 9) rfl ?_); refine goesL_ (some 17) rfl rfl Tryz.func9 (by kernel_rfl) rfl #[.slice A0 l0.length c0] rfl (by (try simp only [zK, List.map_cons, List.map_nil]); first | done | rfl | (simp only [zL, zM]; rfl)) ?_; (with_reducible refine (switchbackref22_Print.calls k _ _ l0 t228 t229 _ ?side1 ?side2 A4.out).mono ?_); (case side1 => repeat (first | exact (Kd.C_below HR0.out HB.out) | (with_reducible refine zC ?_ _) | (with_reducible refine zD ?_ _) | (with_reducible refine zE ?_))); (case side2 => exact HC0.out); rintro e w13 ⟨rfl, hb⟩; refine ⟨_, rfl, ?_⟩; have n0_ := uZ (zA (uN a1.out) hb); have n1_ := uZ (zJ (uB HB.out) hb); clear a1; clear HB; have a1 := n0_; have HB := n1_; clear n0_ n1_; (try clear hb); (try clear hb2); (try clear hk); (try clear hi)) | ((with_reducible refine gate_callee (f := 10) rfl ?_); refine goesL_ (some 20) rfl rfl Tryz.func10 (by kernel_rfl) rfl #[] rfl (by (try simp only [zK, List.map_cons, List.map_nil]); first | done | rfl | (simp only [zL, zM]; rfl)) ?_; (with_reducible refine (switchbacklaw22_live.calls  true _ (uZ (hLaid_.out.below (by repeat (first | (with_reducible first | exact HB.out | apply zG | apply zF | apply zH) | refine zI ?_ (Aside0.out (by assumption)) | exact HB.out)))) A5.out).mono ?_); rintro e w14 ⟨rfl, hb⟩; refine ⟨_, rfl, ?_⟩; have n0_ := uZ (zA (uN a1.out) hb); have n1_ := uZ (zJ (uB HB.out) hb); clear a1; clear HB; have a1 := n0_; have HB := n1_; clear n0_ n1_; (try clear hb); (try clear hb2); (try clear hk); (try clear hi)) | (go_at_call 11; (with_reducible refine (switchbacklaw17_SameLines.calls _ _ a2 _ _ l0 a3 _ ?side1 ?side2 ?side3 ?side4 A9.out).mono ?_); (case side1 => repeat (first | exact (zB a1.out).2.2 | (with_reducible refine zC ?_ _) | (with_reducible refine zD ?_ _) | (with_reducible refine zE ?_))); (case side2 => exact (zB a1.out).2.1); (case side3 => repeat (first | exact (Kd.C_below HR0.out HB.out) | (with_reducible refine zC ?_ _) | (with_reducible refine zD ?_ _) | (with_reducible refine zE ?_))); (case side4 => exact HC0.out); rintro e w15 ⟨rfl, hb⟩; have n0_ := uZ (zA (uN a1.out) hb); have n1_ := uZ (zJ (uB HB.out) hb); clear a1; clear HB; have a1 := n0_; have HB := n1_; clear n0_ n1_; (try clear hb); (try clear hb2); (try clear hk); (try clear hi)))
    go_ret
    exact ⟨by first | rfl | (simp [errW_none, errW_some] <;> rfl) | (simp [*, errW_none, errW_some] <;> rfl), by repeat (first | (with_reducible first | exact HB.out | apply zG | apply zF | apply zH) | exact HB.out)⟩
   rw [if_neg c8] at H
   have c8b0 : (t227 == t229) = false := beq_eq_false_iff_ne.mpr c8
   have c8b1 : (t227 != t229) = true := bne_iff_ne.mpr c8
   obtain rfl := Option.some.inj H
   go_enter Tryz.func3, Tryz.ntmps3
   go_wp2_with (first | ((with_reducible refine gate_callee (f := 7) rfl ?_); refine goesL_ (some 9) rfl rfl Tryz.func7 (by kernel_rfl) rfl #[.slice A0 l0.length c0] rfl (by (try simp only [zK, List.map_cons, List.map_nil]); first | done | rfl | (simp only [zL, zM]; rfl)) ?_; (with_reducible refine (switchbacklaw17_Copy.calls k (fun k_ => k_ < w.heap.size) _ _ l0 a2 _ ?side1 A2.out).mono ?_); (case side1 => exact Kd.V_mk HC0.out (Kd.F_below (Kd.C_F k49_heap HR0.out) (uB HB.out))); rintro e w16 ⟨v224, rfl, ho0, hb⟩; refine ⟨_, rfl, ?_⟩; have n0_ := uZ (Kd.N_lower (Kd.N_mono (ok' := fun k_ => True) ho0 (fun k_ hk_ => trivial)) (below_size (uB HB.out))); have n1_ := uZ (zJ (uB HB.out) hb); clear HB; have a1 := n0_; have HB := n1_; clear n0_ n1_; (try clear hb); (try clear hb2); (try clear hk); (try clear hi); (try clear ho0); obtain ⟨Ao17, co17, eo17⟩ := Kd.N_slice a1.out; subst eo17) | ((with_reducible refine gate_callee (f := 8) rfl ?_); refine goesL_ (some 12) rfl rfl Tryz.func8 (by kernel_rfl) rfl #[.slice Ao17 a2.length co17] rfl (by (try simp only [zK, List.map_cons, List.map_nil]); first | done | rfl | (simp only [zL, zM]; rfl)) ?_; (with_reducible refine (list_Print.calls _ _ a2 t226 t227 _ ?side1 ?side2 (uZ (hLaid_.out.below (by repeat (first | (with_reducible first | exact HB.out | apply zG | apply zF | apply zH) | refine zI ?_ (Aside0.out (by assumption)) | exact HB.out)))) A3.out).mono ?_); (case side1 => repeat (first | exact (zB a1.out).2.2 | (with_reducible refine zC ?_ _) | (with_reducible refine zD ?_ _) | (with_reducible refine zE ?_))); (case side2 => exact (zB a1.out).2.1); rintro e w18 ⟨rfl, hb⟩; refine ⟨_, rfl, ?_⟩; have n0_ := uZ (zA (uN a1.out) hb); have n1_ := uZ (zJ (uB HB.out) hb); clear a1; clear HB; have a1 := n0_; have HB := n1_; clear n0_ n1_; (try clear hb); (try clear hb2); (try clear hk); (try clear hi)) | ((with_reducible refine gate_callee (f := 9) rfl ?_); refine goesL_ (some 17) rfl rfl Tryz.func9 (by kernel_rfl) rfl #[.slice A0 l0.length c0] rfl (by (try simp only [zK, List.map_cons, List.map_nil]); first | done | rfl | (simp only [zL, zM]; rfl)) ?_; (with_reducible refine (switchbackref22_Print.calls k _ _ l0 t228 t229 _ ?side1 ?side2 A4.out).mono ?_); (case side1 => repeat (first | exact (Kd.C_below HR0.out HB.out) | (with_reducible refine zC ?_ _) | (with_reducible refine zD ?_ _) | (with_reducible refine zE ?_))); (case side2 => exact HC0.out); rintro e w19 ⟨rfl, hb⟩; refine ⟨_, rfl, ?_⟩; have n0_ := uZ (zA (uN a1.out) hb); have n1_ := uZ (zJ (uB HB.out) hb); clear a1; clear HB; have a1 := n0_; have HB := n1_; clear n0_ n1_; (try clear hb); (try clear hb2); (try clear hk); (try clear hi)) | ((with_reducible refine gate_callee (f := 10) rfl ?_); refine goesL_ (some 20) rfl rfl Tryz.func10 (by kernel_rfl) rfl #[] rfl (by (try simp only [zK, List.map_cons, List.map_nil]); first | done | rfl | (simp only [zL, zM]; rfl)) ?_; (with_reducible refine (switchbacklaw22_live.calls  true _ (uZ (hLaid_.out.below (by repeat (first | (with_reducible first | exact HB.out | apply zG | apply zF | apply zH) | refine zI ?_ (Aside0.out (by assumption)) | exact HB.out)))) A5.out).mono ?_); rintro e w20 ⟨rfl, hb⟩; refine ⟨_, rfl, ?_⟩; have n0_ := uZ (zA (uN a1.out) hb); have n1_ := uZ (zJ (uB HB.out) hb); clear a1; clear HB; have a1 := n0_; have HB := n1_; clear n0_ n1_; (try clear hb); (try clear hb2); (try clear hk); (try clear hi)))
   go_ret
   exact ⟨by first | rfl | (simp [errW_none, errW_some] <;> rfl) | (simp [*, errW_none, errW_some] <;> rfl), by repeat (first | (with_reducible first | exact HB.out | apply zG | apply zF | apply zH) | exact HB.out)⟩
  rw [if_neg c7] at H
  have c7b0 : (t226.toList == t228.toList) = false := beq_eq_false_iff_ne.mpr c7
  have c7b1 : (t226.toList != t228.toList) = true := bne_iff_ne.mpr c7
  obtain rfl := Option.some.inj H
  go_enter Tryz.func3, Tryz.ntmps3
  go_wp2_with (first | ((with_reducible refine gate_callee (f := 7) rfl ?_); refine goesL_ (some 9) rfl rfl Tryz.func7 (by kernel_rfl) rfl #[.slice A0 l0.length c0] rfl (by (try simp only [zK, List.map_cons, List.map_nil]); first | done | rfl | (simp only [zL, zM]; rfl)) ?_; (with_reducible refine (switchbacklaw17_Copy.calls k (fun k_ => k_ < w.heap.size) _ _ l0 a2 _ ?side1 A2.out).mono ?_); (case side1 => exact Kd.V_mk HC0.out (Kd.F_below (Kd.C_F k49_heap HR0.out) (uB HB.out))); rintro e w21 ⟨v224, rfl, ho0, hb⟩; refine ⟨_, rfl, ?_⟩; have n0_ := uZ (Kd.N_lower (Kd.N_mono (ok' := fun k_ => True) ho0 (fun k_ hk_ => trivial)) (below_size (uB HB.out))); have n1_ := uZ (zJ (uB HB.out) hb); clear HB; have a1 := n0_; have HB := n1_; clear n0_ n1_; (try clear hb); (try clear hb2); (try clear hk); (try clear hi); (try clear ho0); obtain ⟨Ao22, co22, eo22⟩ := Kd.N_slice a1.out; subst eo22) | ((with_reducible refine gate_callee (f := 8) rfl ?_); refine goesL_ (some 12) rfl rfl Tryz.func8 (by kernel_rfl) rfl #[.slice Ao22 a2.length co22] rfl (by (try simp only [zK, List.map_cons, List.map_nil]); first | done | rfl | (simp only [zL, zM]; rfl)) ?_; (with_reducible refine (list_Print.calls _ _ a2 t226 t227 _ ?side1 ?side2 (uZ (hLaid_.out.below (by repeat (first | (with_reducible first | exact HB.out | apply zG | apply zF | apply zH) | refine zI ?_ (Aside0.out (by assumption)) | exact HB.out)))) A3.out).mono ?_); (case side1 => repeat (first | exact (zB a1.out).2.2 | (with_reducible refine zC ?_ _) | (with_reducible refine zD ?_ _) | (with_reducible refine zE ?_))); (case side2 => exact (zB a1.out).2.1); rintro e w23 ⟨rfl, hb⟩; refine ⟨_, rfl, ?_⟩; have n0_ := uZ (zA (uN a1.out) hb); have n1_ := uZ (zJ (uB HB.out) hb); clear a1; clear HB; have a1 := n0_; have HB := n1_; clear n0_ n1_; (try clear hb); (try clear hb2); (try clear hk); (try clear hi)) | ((with_reducible refine gate_callee (f := 9) rfl ?_); refine goesL_ (some 17) rfl rfl Tryz.func9 (by kernel_rfl) rfl #[.slice A0 l0.length c0] rfl (by (try simp only [zK, List.map_cons, List.map_nil]); first | done | rfl | (simp only [zL, zM]; rfl)) ?_; (with_reducible refine (switchbackref22_Print.calls k _ _ l0 t228 t229 _ ?side1 ?side2 A4.out).mono ?_); (case side1 => repeat (first | exact (Kd.C_below HR0.out HB.out) | (with_reducible refine zC ?_ _) | (with_reducible refine zD ?_ _) | (with_reducible refine zE ?_))); (case side2 => exact HC0.out); rintro e w24 ⟨rfl, hb⟩; refine ⟨_, rfl, ?_⟩; have n0_ := uZ (zA (uN a1.out) hb); have n1_ := uZ (zJ (uB HB.out) hb); clear a1; clear HB; have a1 := n0_; have HB := n1_; clear n0_ n1_; (try clear hb); (try clear hb2); (try clear hk); (try clear hi)) | ((with_reducible refine gate_callee (f := 10) rfl ?_); refine goesL_ (some 20) rfl rfl Tryz.func10 (by kernel_rfl) rfl #[] rfl (by (try simp only [zK, List.map_cons, List.map_nil]); first | done | rfl | (simp only [zL, zM]; rfl)) ?_; (with_reducible refine (switchbacklaw22_live.calls  true _ (uZ (hLaid_.out.below (by repeat (first | (with_reducible first | exact HB.out | apply zG | apply zF | apply zH) | refine zI ?_ (Aside0.out (by assumption)) | exact HB.out)))) A5.out).mono ?_); rintro e w25 ⟨rfl, hb⟩; refine ⟨_, rfl, ?_⟩; have n0_ := uZ (zA (uN a1.out) hb); have n1_ := uZ (zJ (uB HB.out) hb); clear a1; clear HB; have a1 := n0_; have HB := n1_; clear n0_ n1_; (try clear hb); (try clear hb2); (try clear hk); (try clear hi)))
  go_ret
  exact ⟨by first | rfl | (simp [errW_none, errW_some] <;> rfl) | (simp [*, errW_none, errW_some] <;> rfl), by repeat (first | (with_reducible first | exact HB.out | apply zG | apply zF | apply zH) | exact HB.out)⟩
 replace c6 := Bool.eq_false_iff.mpr c6
 subst c6
 have H1 : (some false) = some r := by rw [if_neg (show ¬ (false = true) by decide)] at H; exact H
 clear H
 have H := H1
 clear H1
 obtain rfl := Option.some.inj H
 go_enter Tryz.func3, Tryz.ntmps3
 go_wp2_with (first | ((with_reducible refine gate_callee (f := 7) rfl ?_); refine goesL_ (some 9) rfl rfl Tryz.func7 (by kernel_rfl) rfl #[.slice A0 l0.length c0] rfl (by (try simp only [zK, List.map_cons, List.map_nil]); first | done | rfl | (simp only [zL, zM]; rfl)) ?_; (with_reducible refine (switchbacklaw17_Copy.calls k (fun k_ => k_ < w.heap.size) _ _ l0 a2 _ ?side1 A2.out).mono ?_); (case side1 => exact Kd.V_mk HC0.out (Kd.F_below (Kd.C_F k49_heap HR0.out) (uB HB.out))); rintro e w26 ⟨v224, rfl, ho0, hb⟩; refine ⟨_, rfl, ?_⟩; have n0_ := uZ (Kd.N_lower (Kd.N_mono (ok' := fun k_ => True) ho0 (fun k_ hk_ => trivial)) (below_size (uB HB.out))); have n1_ := uZ (zJ (uB HB.out) hb); clear HB; have a1 := n0_; have HB := n1_; clear n0_ n1_; (try clear hb); (try clear hb2); (try clear hk); (try clear hi); (try clear ho0); obtain ⟨Ao27, co27, eo27⟩ := Kd.N_slice a1.out; subst eo27) | ((with_reducible refine gate_callee (f := 8) rfl ?_); refine goesL_ (some 12) rfl rfl Tryz.func8 (by kernel_rfl) rfl #[.slice Ao27 a2.length co27] rfl (by (try simp only [zK, List.map_cons, List.map_nil]); first | done | rfl | (simp only [zL, zM]; rfl)) ?_; (with_reducible refine (list_Print.calls _ _ a2 t226 t227 _ ?side1 ?side2 (uZ (hLaid_.out.below (by repeat (first | (with_reducible first | exact HB.out | apply zG | apply zF | apply zH) | refine zI ?_ (Aside0.out (by assumption)) | exact HB.out)))) A3.out).mono ?_); (case side1 => repeat (first | exact (zB a1.out).2.2 | (with_reducible refine zC ?_ _) | (with_reducible refine zD ?_ _) | (with_reducible refine zE ?_))); (case side2 => exact (zB a1.out).2.1); rintro e w28 ⟨rfl, hb⟩; refine ⟨_, rfl, ?_⟩; have n0_ := uZ (zA (uN a1.out) hb); have n1_ := uZ (zJ (uB HB.out) hb); clear a1; clear HB; have a1 := n0_; have HB := n1_; clear n0_ n1_; (try clear hb); (try clear hb2); (try clear hk); (try clear hi)) | ((with_reducible refine gate_callee (f := 9) rfl ?_); refine goesL_ (some 17) rfl rfl Tryz.func9 (by kernel_rfl) rfl #[.slice A0 l0.length c0] rfl (by (try simp only [zK, List.map_cons, List.map_nil]); first | done | rfl | (simp only [zL, zM]; rfl)) ?_; (with_reducible refine (switchbackref22_Print.calls k _ _ l0 t228 t229 _ ?side1 ?side2 A4.out).mono ?_); (case side1 => repeat (first | exact (Kd.C_below HR0.out HB.out) | (with_reducible refine zC ?_ _) | (with_reducible refine zD ?_ _) | (with_reducible refine zE ?_))); (case side2 => exact HC0.out); rintro e w29 ⟨rfl, hb⟩; refine ⟨_, rfl, ?_⟩; have n0_ := uZ (zA (uN a1.out) hb); have n1_ := uZ (zJ (uB HB.out) hb); clear a1; clear HB; have a1 := n0_; have HB := n1_; clear n0_ n1_; (try clear hb); (try clear hb2); (try clear hk); (try clear hi)) | ((with_reducible refine gate_callee (f := 10) rfl ?_); refine goesL_ (some 20) rfl rfl Tryz.func10 (by kernel_rfl) rfl #[] rfl (by (try simp only [zK, List.map_cons, List.map_nil]); first | done | rfl | (simp only [zL, zM]; rfl)) ?_; (with_reducible refine (switchbacklaw22_live.calls  false _ (uZ (hLaid_.out.below (by repeat (first | (with_reducible first | exact HB.out | apply zG | apply zF | apply zH) | refine zI ?_ (Aside0.out (by assumption)) | exact HB.out)))) A5.out).mono ?_); rintro e w30 ⟨rfl, hb⟩; refine ⟨_, rfl, ?_⟩; have n0_ := uZ (zA (uN a1.out) hb); have n1_ := uZ (zJ (uB HB.out) hb); clear a1; clear HB; have a1 := n0_; have HB := n1_; clear n0_ n1_; (try clear hb); (try clear hb2); (try clear hk); (try clear hi)))
 go_ret
 exact ⟨by first | rfl | (simp [errW_none, errW_some] <;> rfl) | (simp [*, errW_none, errW_some] <;> rfl), by repeat (first | (with_reducible first | exact HB.out | apply zG | apply zF | apply zH) | exact HB.out)⟩

end Go.Proofs.YtlhgfhmdhmgmpaaGreatDoor.PZ1
