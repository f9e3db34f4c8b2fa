-- Written by gp.py for this claim.
import Derived.Test.YtamimnaafiphcaaDoorPR1CZ
namespace Go.Proofs.YtamimnaafiphcaaDoor.PR1C
open Go.RowKit Go.Proofs.YtamimnaafiphcaaDoorW.PrintWords Go.Proofs.YtamimnaafiphcaaDoorW.PrintLast Go.Proofs.YtamimnaafiphcaaDoorW.PrintMore
attribute [local go_sem] max2_int min2_int max_two min_two max_three min_three max_four min_four   -- for this text's walks alone
set_option linter.unusedVariables false
set_option linter.unusedSimpArgs false

namespace q_switchbackref17_Size
theorem uZ {p : Prop} (h : p) : Aside0 p := ⟨h⟩
theorem uK {p q : Prop} (h : p) (g : p → q := by intro h; (with_reducible repeat (first | apply blk_drewN | apply blk_drew | apply blk_alloc)); exact h) : q := g h
theorem uB {p q : Prop} (h : p) (g : p → q := by intro h; repeat (first | (with_reducible first | exact h | apply below_alloc | apply pw_below_drewN | apply below_drew1) | exact h)) : q := g h
theorem uC {p q s : Prop} (h : p) (j : s) (g : p → s → q := by intro h j; repeat (first | (with_reducible first | exact h | apply below_alloc | apply pw_below_drewN | apply below_drew1 | refine below_set ?_ j) | exact h)) : q := g h j
theorem zA : type_of% @pw_below_drewN := @pw_below_drewN
theorem zB : type_of% @blk_frozen := @blk_frozen
theorem zC : type_of% @blk_cell := @blk_cell
end q_switchbackref17_Size
open q_switchbackref17_Size

/-! ### switchbackref17_Size: function 55 -/
mutual
def switchbackref17_Size.j0 : Nat → Bool → Bool → Int → Int → Int → Int → Int → Int → List Int → Option (Int)
  | 0, _, _, _, _, _, _, _, _, _ => none
  | k + 1, x1, x13, x295000, x295001, x295002, x295003, x295004, x295005, x295006 => if x13 = true then (some 3) else (if x295000 = 40 then (if x1 = true then (switchbackref17_Size.j1 k true x295000 x295001 x295002 x295003 x295004 x295005 x295006) else (if x295000 = 41 then (switchbackref17_Size.j1 k true x295000 x295001 x295002 x295003 x295004 x295005 x295006) else (if x295000 = 43 then (switchbackref17_Size.j1 k true x295000 x295001 x295002 x295003 x295004 x295005 x295006) else (switchbackref17_Size.j1 k (x295000 == 2) x295000 x295001 x295002 x295003 x295004 x295005 x295006)))) else (if x295000 = 41 then (switchbackref17_Size.j1 k true x295000 x295001 x295002 x295003 x295004 x295005 x295006) else (if x295000 = 43 then (switchbackref17_Size.j1 k true x295000 x295001 x295002 x295003 x295004 x295005 x295006) else (switchbackref17_Size.j1 k (x295000 == 2) x295000 x295001 x295002 x295003 x295004 x295005 x295006))))
def switchbackref17_Size.j1 : Nat → Bool → Int → Int → Int → Int → Int → Int → List Int → Option (Int)
  | 0, _, _, _, _, _, _, _, _ => none
  | k + 1, x18, x295000, x295001, x295002, x295003, x295004, x295005, x295006 => if x18 = true then (some 2) else (if x295000 = 42 then (some (wrap64 (2 + (x295006.length : Int)))) else (some 1))
end
def switchbackref17_Size.f (k : Nat) (a0_0 : Int) (a0_1 : Int) (a0_2 : Int) (a0_3 : Int) (a0_4 : Int) (a0_5 : Int) (l0_6 : List Int) (a1 : Bool) : Option (Int) := (switchbackref16_Branch.f a0_0).bind fun t295 => (if a0_0 = 0 then (some 0) else (if t295 = true then (switchbackref17_Size.j0 k a1 a1 a0_0 a0_1 a0_2 a0_3 a0_4 a0_5 l0_6) else (switchbackref17_Size.j0 k a1 false a0_0 a0_1 a0_2 a0_3 a0_4 a0_5 l0_6)))
theorem switchbackref17_Size.mono_l : ∀ k, (∀ y0 y1 y2 y3 y4 y5 y6 y7 y8, LeO (switchbackref17_Size.j0 k y0 y1 y2 y3 y4 y5 y6 y7 y8) (switchbackref17_Size.j0 (k + 1) y0 y1 y2 y3 y4 y5 y6 y7 y8)) ∧ (∀ y0 y1 y2 y3 y4 y5 y6 y7, LeO (switchbackref17_Size.j1 k y0 y1 y2 y3 y4 y5 y6 y7) (switchbackref17_Size.j1 (k + 1) y0 y1 y2 y3 y4 y5 y6 y7))
  | 0 => ⟨fun _ _ _ _ _ _ _ _ _ r h => by simp [switchbackref17_Size.j0] at h, fun _ _ _ _ _ _ _ _ r h => by simp [switchbackref17_Size.j1] at h⟩
  | k + 1 => by
    obtain ⟨ih0, ih1⟩ := switchbackref17_Size.mono_l k
    refine ⟨?_, ?_⟩
    · intro y0 y1 y2 y3 y4 y5 y6 y7 y8
      unfold switchbackref17_Size.j0
      repeat' first
      | (with_reducible exact ih0 _ _ _ _ _ _ _ _ _)
      | (with_reducible exact ih1 _ _ _ _ _ _ _ _)
      | (with_reducible exact LeO.refl _)
      | (with_reducible exact LeO.none _)
      | (with_reducible refine LeO.ite ?_ ?_)
      | (with_reducible refine LeO.bind ?_ (fun _ => ?_))
      | exact ih0 _ _ _ _ _ _ _ _ _
      | exact ih1 _ _ _ _ _ _ _ _
      | exact LeO.none _
      | refine LeO.ite ?_ ?_
      | refine LeO.bind ?_ (fun _ => ?_)
    · intro y0 y1 y2 y3 y4 y5 y6 y7
      unfold switchbackref17_Size.j1
      repeat' first
      | (with_reducible exact ih0 _ _ _ _ _ _ _ _ _)
      | (with_reducible exact ih1 _ _ _ _ _ _ _ _)
      | (with_reducible exact LeO.refl _)
      | (with_reducible exact LeO.none _)
      | (with_reducible refine LeO.ite ?_ ?_)
      | (with_reducible refine LeO.bind ?_ (fun _ => ?_))
      | exact ih0 _ _ _ _ _ _ _ _ _
      | exact ih1 _ _ _ _ _ _ _ _
      | exact LeO.none _
      | refine LeO.ite ?_ ?_
      | refine LeO.bind ?_ (fun _ => ?_)
theorem switchbackref17_Size.mono : ∀ a0 a1 a2 a3 a4 a5 a6 a7 k, LeO (switchbackref17_Size.f k a0 a1 a2 a3 a4 a5 a6 a7) (switchbackref17_Size.f (k + 1) a0 a1 a2 a3 a4 a5 a6 a7) := by
  intro a0 a1 a2 a3 a4 a5 a6 a7 k
  obtain ⟨ih0, ih1⟩ := switchbackref17_Size.mono_l k
  unfold switchbackref17_Size.f
  repeat' first
      | (with_reducible exact ih0 _ _ _ _ _ _ _ _ _)
      | (with_reducible exact ih1 _ _ _ _ _ _ _ _)
      | (with_reducible exact LeO.refl _)
      | (with_reducible exact LeO.none _)
      | (with_reducible refine LeO.ite ?_ ?_)
      | (with_reducible refine LeO.bind ?_ (fun _ => ?_))
      | exact ih0 _ _ _ _ _ _ _ _ _
      | exact ih1 _ _ _ _ _ _ _ _
      | exact LeO.none _
      | refine LeO.ite ?_ ?_
      | refine LeO.bind ?_ (fun _ => ?_)
set_option maxHeartbeats 8000000 in
set_option maxRecDepth 100000 in
theorem switchbackref17_Size.calls (k : Nat) (a0_0 : Int) (a0_1 : Int) (a0_2 : Int) (a0_3 : Int) (a0_4 : Int) (a0_5 : Int) (A0_6 : Option Addr) (c0_6 : Nat) (l0_6 : List Int) (a1 : Bool) (r : Int) (w : World) (hr0_6 : Kd.C (Kd.int .i64) w A0_6 l0_6.length l0_6) (hc0_6 : l0_6.length ≤ c0_6) (h : switchbackref17_Size.f k a0_0 a0_1 a0_2 a0_3 a0_4 a0_5 l0_6 a1 = some r) :
    Calls Tryd.prog 55 #[.agg #[.int .i64 a0_0, .int .i64 a0_1, .int .i64 a0_2, .int .i64 a0_3, .int .u32 a0_4, .int .i64 a0_5, .slice A0_6 l0_6.length c0_6], .bool a1] w fun e w' => e = .returned (.int .i64 r) ∧ Below w.heap.size w w' := by
 have hu40 := Tryd.underlying40
 have HR0_6 := uZ hr0_6
 have HC0_6 := uZ hc0_6
 clear hr0_6 hc0_6
 have HB := uZ (Below.refl w.heap.size w)
 have H : ((switchbackref16_Branch.f a0_0).bind fun t295 => (if a0_0 = 0 then (some 0) else (if t295 = true then (switchbackref17_Size.j0 k a1 a1 a0_0 a0_1 a0_2 a0_3 a0_4 a0_5 l0_6) else (switchbackref17_Size.j0 k a1 false a0_0 a0_1 a0_2 a0_3 a0_4 a0_5 l0_6)))) = some r := h
 clear h
 replace H := Option.bind_eq_some_iff.mp H
 obtain ⟨t295, A30, H⟩ := H
 replace H : (if a0_0 = 0 then (some 0) else (if t295 = true then (switchbackref17_Size.j0 k a1 a1 a0_0 a0_1 a0_2 a0_3 a0_4 a0_5 l0_6) else (switchbackref17_Size.j0 k a1 false a0_0 a0_1 a0_2 a0_3 a0_4 a0_5 l0_6))) = some r := H
 have A3 := uZ A30
 clear A30
 by_cases c4 : a0_0 = 0
 ·rw [if_pos c4] at H
  have c4b0 : (a0_0 == 0) = true := beq_iff_eq.mpr c4
  have c4b1 : (a0_0 != 0) = false := bne_eq_false_iff_eq.mpr c4
  clear c4
  obtain rfl := Option.some.inj H
  go_enter Tryd.func55, Tryd.ntmps55
  go_wp2_with (first | ((with_reducible refine gate_dst (N := 2) rfl ?_); refine box_event ?hg (N := 2) ?hd (cs := #[.int .i64 a0_0, .int .i64 a0_1, .int .i64 a0_2, .int .i64 a0_3, .int .u32 a0_4, .int .i64 a0_5, .slice A0_6 l0_6.length c0_6]) (t := 40) ?hr ?_; (case hd => rfl); (case hg => rfl); (case hr => first | (go_simp; done) | (go_simp; rfl)); intro a9 hg w5 hbox hb; have n0_ := uZ (below_step (uB HB.out) hb); have n1_ := uZ (hbox); have n2_ := uZ ((by rw [hg]; exact (below_size (uB HB.out)) : w.heap.size ≤ a9)); have n3_ := uZ ((by rw [hg]; exact (below_size (uB HB.out)) : w.heap.size ≤ a9)); clear HB; have HB := n0_; have a8 := n1_; have GW294 := n2_; have aa := n3_; clear n0_ n1_ n2_ n3_; clear hb hbox hg; have hcz6_0 : w5.cell? ⟨a9, 0, none⟩ = some (.int .i64 a0_0) := (zC a8.out 0).trans rfl; have hcz6_1 : w5.cell? ⟨a9, 1, none⟩ = some (.int .i64 a0_1) := (zC a8.out 1).trans rfl; have hcz6_2 : w5.cell? ⟨a9, 2, none⟩ = some (.int .i64 a0_2) := (zC a8.out 2).trans rfl; have hcz6_3 : w5.cell? ⟨a9, 3, none⟩ = some (.int .i64 a0_3) := (zC a8.out 3).trans rfl; have hcz6_4 : w5.cell? ⟨a9, 4, none⟩ = some (.int .u32 a0_4) := (zC a8.out 4).trans rfl; have hcz6_5 : w5.cell? ⟨a9, 5, none⟩ = some (.int .i64 a0_5) := (zC a8.out 5).trans rfl; have hcz6_6 : w5.cell? ⟨a9, 6, none⟩ = some (.slice A0_6 l0_6.length c0_6) := (zC a8.out 6).trans rfl; have hfz6_0 := zB a8.out 0; have hfz6_1 := zB a8.out 1; have hfz6_2 := zB a8.out 2; have hfz6_3 := zB a8.out 3; have hfz6_4 := zB a8.out 4; have hfz6_5 := zB a8.out 5; have hfz6_6 := zB a8.out 6) | ((with_reducible refine gate_callee (f := 51) rfl ?_); refine goesL_ (some 8) rfl rfl Tryd.func51 (by kernel_rfl) rfl #[.int .i64 a0_0] rfl (by (try simp only [List.map_toArray, List.map_cons, List.map_nil]); first | done | rfl | (simp only [List.length_drop, List.length_take]; rfl)) ?_; (with_reducible refine (switchbackref16_Branch.calls a0_0 t295 _ A3.out).mono ?_); rintro e w' ⟨rfl, ⟨nd, rfl⟩⟩; refine ⟨_, rfl, ?_⟩))
  go_ret
  exact ⟨by first | rfl | (simp [errW_none, errW_some] <;> rfl) | (simp [*, errW_none, errW_some] <;> rfl), by repeat (first | (with_reducible first | exact HB.out | apply below_alloc | apply zA | apply below_drew1 | refine below_set ?_ aa.out) | exact HB.out)⟩
 rw [if_neg c4] at H
 have c4b0 : (a0_0 == 0) = false := beq_eq_false_iff_ne.mpr c4
 have c4b1 : (a0_0 != 0) = true := bne_iff_ne.mpr c4
 have HC7 := uZ H
 clear H
 go_enter Tryd.func55, Tryd.ntmps55
 go_upto_region 4 with (first | ((with_reducible refine gate_dst (N := 2) rfl ?_); refine box_event ?hg (N := 2) ?hd (cs := #[.int .i64 a0_0, .int .i64 a0_1, .int .i64 a0_2, .int .i64 a0_3, .int .u32 a0_4, .int .i64 a0_5, .slice A0_6 l0_6.length c0_6]) (t := 40) ?hr ?_; (case hd => rfl); (case hg => rfl); (case hr => first | (go_simp; done) | (go_simp; rfl)); intro a9 hg w8 hbox hb; have n0_ := uZ (below_step (uB HB.out) hb); have n1_ := uZ (hbox); have n2_ := uZ ((by rw [hg]; exact (below_size (uB HB.out)) : w.heap.size ≤ a9)); have n3_ := uZ ((by rw [hg]; exact (below_size (uB HB.out)) : w.heap.size ≤ a9)); clear HB; have HB := n0_; have a8 := n1_; have GW294 := n2_; have aa := n3_; clear n0_ n1_ n2_ n3_; clear hb hbox hg; have hcz9_0 : w8.cell? ⟨a9, 0, none⟩ = some (.int .i64 a0_0) := (zC a8.out 0).trans rfl; have hcz9_1 : w8.cell? ⟨a9, 1, none⟩ = some (.int .i64 a0_1) := (zC a8.out 1).trans rfl; have hcz9_2 : w8.cell? ⟨a9, 2, none⟩ = some (.int .i64 a0_2) := (zC a8.out 2).trans rfl; have hcz9_3 : w8.cell? ⟨a9, 3, none⟩ = some (.int .i64 a0_3) := (zC a8.out 3).trans rfl; have hcz9_4 : w8.cell? ⟨a9, 4, none⟩ = some (.int .u32 a0_4) := (zC a8.out 4).trans rfl; have hcz9_5 : w8.cell? ⟨a9, 5, none⟩ = some (.int .i64 a0_5) := (zC a8.out 5).trans rfl; have hcz9_6 : w8.cell? ⟨a9, 6, none⟩ = some (.slice A0_6 l0_6.length c0_6) := (zC a8.out 6).trans rfl; have hfz9_0 := zB a8.out 0; have hfz9_1 := zB a8.out 1; have hfz9_2 := zB a8.out 2; have hfz9_3 := zB a8.out 3; have hfz9_4 := zB a8.out 4; have hfz9_5 := zB a8.out 5; have hfz9_6 := zB a8.out 6) | ((with_reducible refine gate_callee (f := 51) rfl ?_); refine goesL_ (some 8) rfl rfl Tryd.func51 (by kernel_rfl) rfl #[.int .i64 a0_0] rfl (by (try simp only [List.map_toArray, List.map_cons, List.map_nil]); first | done | rfl | (simp only [List.length_drop, List.length_take]; rfl)) ?_; (with_reducible refine (switchbackref16_Branch.calls a0_0 t295 _ A3.out).mono ?_); rintro e w' ⟨rfl, ⟨nd, rfl⟩⟩; refine ⟨_, rfl, ?_⟩))
 (try simp only [Act.put, List.setIfInBounds_toArray, List.set_cons_zero, List.set_cons_succ])
 go_cut [13] (fun v13 wc => ∃ (kq : Nat) (x13_6 : Bool), v13 = .bool x13_6 ∧ Aside0 (switchbackref17_Size.j0 kq a1 x13_6 a0_0 a0_1 a0_2 a0_3 a0_4 a0_5 l0_6 = some r) ∧ Aside0 (kq ≤ k) ∧ Aside0 (wc.heap[a9]? = some (.cells #[.int .i64 a0_0, .int .i64 a0_1, .int .i64 a0_2, .int .i64 a0_3, .int .u32 a0_4, .int .i64 a0_5, (.slice A0_6 l0_6.length c0_6)] 40 (0, 0))) ∧ Aside0 (Below w.heap.size w wc))
 case first =>
  have H := HC7.out
  clear HC7
  by_cases c10 : t295 = true
  ·subst c10
   have H1 : (switchbackref17_Size.j0 k a1 a1 a0_0 a0_1 a0_2 a0_3 a0_4 a0_5 l0_6) = some r := by rw [if_pos rfl] at H; exact H
   clear H
   have H := H1
   clear H1
   have H' := uZ H
   clear H
   go_wp2
   go_meet
   case rel => exact ⟨_, (a1), (by first | rfl | (simp; done) | (simp [*]; done)), H', ⟨by first | omega | exact Nat.le_refl _⟩, ⟨uK a8.out⟩, ⟨uC HB.out aa.out⟩⟩
  replace c10 := Bool.eq_false_iff.mpr c10
  subst c10
  have H1 : (switchbackref17_Size.j0 k a1 false a0_0 a0_1 a0_2 a0_3 a0_4 a0_5 l0_6) = some r := by rw [if_neg (show ¬ (false = true) by decide)] at H; exact H
  clear H
  have H := H1
  clear H1
  have H' := uZ H
  clear H
  go_wp2
  go_meet
  case rel => exact ⟨_, (false), (by first | rfl | (simp; done) | (simp [*]; done)), H', ⟨by first | omega | exact Nat.le_refl _⟩, ⟨uK a8.out⟩, ⟨uC HB.out aa.out⟩⟩
 case rest =>
  clear HC7
  try clear c1
  try clear p2
  try clear c4
  try clear c4b0
  try clear c4b1
  try clear c5
  try clear c10
  try clear hcz6_0
  try clear hcz6_1
  try clear hcz6_2
  try clear hcz6_3
  try clear hcz6_4
  try clear hcz6_5
  try clear hcz6_6
  try clear hcz9_0
  try clear hcz9_1
  try clear hcz9_2
  try clear hcz9_3
  try clear hcz9_4
  try clear hcz9_5
  try clear hcz9_6
  try clear hfz6_0
  try clear hfz6_1
  try clear hfz6_2
  try clear hfz6_3
  try clear hfz6_4
  try clear hfz6_5
  try clear hfz6_6
  try clear hfz9_0
  try clear hfz9_1
  try clear hfz9_2
  try clear hfz9_3
  try clear hfz9_4
  try clear hfz9_5
  try clear hfz9_6
  obtain ⟨kq, x13_6, rfl, HA, HJ6, a8, HB⟩ := hcut
  cases kq with
  | zero => exact absurd HA.out (by simp [switchbackref17_Size.j0])
  | succ kj6 =>
   have H := HA.out
   clear HA
   simp only [switchbackref17_Size.j0] at H
   by_cases c11 : x13_6 = true
   ·subst c11
    have H1 : (some 3) = some r := by rw [if_pos rfl] at H; exact H
    clear H
    have H := H1
    clear H1
    obtain rfl := Option.some.inj H
    go_wp2
    go_ret
    exact ⟨by first | rfl | (simp [errW_none, errW_some] <;> rfl) | (simp [*, errW_none, errW_some] <;> rfl), by repeat (first | (with_reducible first | exact HB.out | apply below_alloc | apply zA | apply below_drew1 | refine below_set ?_ aa.out) | exact HB.out)⟩
   replace c11 := Bool.eq_false_iff.mpr c11
   subst c11
   have H1 : (if a0_0 = 40 then (if a1 = true then (switchbackref17_Size.j1 kj6 true a0_0 a0_1 a0_2 a0_3 a0_4 a0_5 l0_6) else (if a0_0 = 41 then (switchbackref17_Size.j1 kj6 true a0_0 a0_1 a0_2 a0_3 a0_4 a0_5 l0_6) else (if a0_0 = 43 then (switchbackref17_Size.j1 kj6 true a0_0 a0_1 a0_2 a0_3 a0_4 a0_5 l0_6) else (switchbackref17_Size.j1 kj6 (a0_0 == 2) a0_0 a0_1 a0_2 a0_3 a0_4 a0_5 l0_6)))) else (if a0_0 = 41 then (switchbackref17_Size.j1 kj6 true a0_0 a0_1 a0_2 a0_3 a0_4 a0_5 l0_6) else (if a0_0 = 43 then (switchbackref17_Size.j1 kj6 true a0_0 a0_1 a0_2 a0_3 a0_4 a0_5 l0_6) else (switchbackref17_Size.j1 kj6 (a0_0 == 2) a0_0 a0_1 a0_2 a0_3 a0_4 a0_5 l0_6)))) = some r := by rw [if_neg (show ¬ (false = true) by decide)] at H; exact H
   clear H
   have H := H1
   clear H1
   have HC12 := uZ H
   clear H
   go_upto_region 6 with (fail)
   go_cut [18] (fun v18 wc => ∃ (kq : Nat) (x18_11 : Bool), v18 = .bool x18_11 ∧ Aside0 (switchbackref17_Size.j1 kq x18_11 a0_0 a0_1 a0_2 a0_3 a0_4 a0_5 l0_6 = some r) ∧ Aside0 (kq ≤ kj6) ∧ Aside0 (wc.heap[a9]? = some (.cells #[.int .i64 a0_0, .int .i64 a0_1, .int .i64 a0_2, .int .i64 a0_3, .int .u32 a0_4, .int .i64 a0_5, (.slice A0_6 l0_6.length c0_6)] 40 (0, 0))) ∧ Aside0 (Below w.heap.size w wc))
   case first =>
    have H := HC12.out
    clear HC12
    by_cases c13 : a0_0 = 40
    ·rw [if_pos c13] at H
     have c13b0 : (a0_0 == 40) = true := beq_iff_eq.mpr c13
     have c13b1 : (a0_0 != 40) = false := bne_eq_false_iff_eq.mpr c13
     clear c13
     (first | rw [c13b0] | (simp only [i64_w, i32_w]; rw [c13b0]) | skip)
     by_cases c14 : a1 = true
     ·subst c14
      have H1 : (switchbackref17_Size.j1 kj6 true a0_0 a0_1 a0_2 a0_3 a0_4 a0_5 l0_6) = some r := by rw [if_pos rfl] at H; exact H
      clear H
      have H := H1
      clear H1
      have H' := uZ H
      clear H
      have hcz15_0 : wc.cell? ⟨a9, 0, none⟩ = some (.int .i64 a0_0) := (zC a8.out 0).trans rfl
      have hcz15_1 : wc.cell? ⟨a9, 1, none⟩ = some (.int .i64 a0_1) := (zC a8.out 1).trans rfl
      have hcz15_2 : wc.cell? ⟨a9, 2, none⟩ = some (.int .i64 a0_2) := (zC a8.out 2).trans rfl
      have hcz15_3 : wc.cell? ⟨a9, 3, none⟩ = some (.int .i64 a0_3) := (zC a8.out 3).trans rfl
      have hcz15_4 : wc.cell? ⟨a9, 4, none⟩ = some (.int .u32 a0_4) := (zC a8.out 4).trans rfl
      have hcz15_5 : wc.cell? ⟨a9, 5, none⟩ = some (.int .i64 a0_5) := (zC a8.out 5).trans rfl
      have hcz15_6 : wc.cell? ⟨a9, 6, none⟩ = some (.slice A0_6 l0_6.length c0_6) := (zC a8.out 6).trans rfl
      have hfz15_0 := zB a8.out 0
      have hfz15_1 := zB a8.out 1
      have hfz15_2 := zB a8.out 2
      have hfz15_3 := zB a8.out 3
      have hfz15_4 := zB a8.out 4
      have hfz15_5 := zB a8.out 5
      have hfz15_6 := zB a8.out 6
      go_wp2
      go_meet
      case rel => exact ⟨_, (true), (by first | rfl | (simp; done) | (simp [*]; done)), H', ⟨by have := HJ6.out; first | omega | exact Nat.le_refl _⟩, ⟨uK a8.out⟩, ⟨uC HB.out aa.out⟩⟩
     replace c14 := Bool.eq_false_iff.mpr c14
     subst c14
     have H1 : (if a0_0 = 41 then (switchbackref17_Size.j1 kj6 true a0_0 a0_1 a0_2 a0_3 a0_4 a0_5 l0_6) else (if a0_0 = 43 then (switchbackref17_Size.j1 kj6 true a0_0 a0_1 a0_2 a0_3 a0_4 a0_5 l0_6) else (switchbackref17_Size.j1 kj6 (a0_0 == 2) a0_0 a0_1 a0_2 a0_3 a0_4 a0_5 l0_6))) = some r := by rw [if_neg (show ¬ (false = true) by decide)] at H; exact H
     clear H
     have H := H1
     clear H1
     by_cases c16 : a0_0 = 41
     ·rw [if_pos c16] at H
      have c16b0 : (a0_0 == 41) = true := beq_iff_eq.mpr c16
      have c16b1 : (a0_0 != 41) = false := bne_eq_false_iff_eq.mpr c16
      clear c16
      have H' := uZ H
      clear H
      have hcz17_0 : wc.cell? ⟨a9, 0, none⟩ = some (.int .i64 a0_0) := (zC a8.out 0).trans rfl
      have hcz17_1 : wc.cell? ⟨a9, 1, none⟩ = some (.int .i64 a0_1) := (zC a8.out 1).trans rfl
      have hcz17_2 : wc.cell? ⟨a9, 2, none⟩ = some (.int .i64 a0_2) := (zC a8.out 2).trans rfl
      have hcz17_3 : wc.cell? ⟨a9, 3, none⟩ = some (.int .i64 a0_3) := (zC a8.out 3).trans rfl
      have hcz17_4 : wc.cell? ⟨a9, 4, none⟩ = some (.int .u32 a0_4) := (zC a8.out 4).trans rfl
      have hcz17_5 : wc.cell? ⟨a9, 5, none⟩ = some (.int .i64 a0_5) := (zC a8.out 5).trans rfl
      have hcz17_6 : wc.cell? ⟨a9, 6, none⟩ = some (.slice A0_6 l0_6.length c0_6) := (zC a8.out 6).trans rfl
      have hfz17_0 := zB a8.out 0
      have hfz17_1 := zB a8.out 1
      have hfz17_2 := zB a8.out 2
      have hfz17_3 := zB a8.out 3
      have hfz17_4 := zB a8.out 4
      have hfz17_5 := zB a8.out 5
      have hfz17_6 := zB a8.out 6
      go_wp2
      go_meet
      case rel => exact ⟨_, (true), (by first | rfl | (simp; done) | (simp [*]; done)), H', ⟨by have := HJ6.out; first | omega | exact Nat.le_refl _⟩, ⟨uK a8.out⟩, ⟨uC HB.out aa.out⟩⟩
     rw [if_neg c16] at H
     have c16b0 : (a0_0 == 41) = false := beq_eq_false_iff_ne.mpr c16
     have c16b1 : (a0_0 != 41) = true := bne_iff_ne.mpr c16
     by_cases c18 : a0_0 = 43
     ·rw [if_pos c18] at H
      have c18b0 : (a0_0 == 43) = true := beq_iff_eq.mpr c18
      have c18b1 : (a0_0 != 43) = false := bne_eq_false_iff_eq.mpr c18
      clear c18
      have H' := uZ H
      clear H
      have hcz19_0 : wc.cell? ⟨a9, 0, none⟩ = some (.int .i64 a0_0) := (zC a8.out 0).trans rfl
      have hcz19_1 : wc.cell? ⟨a9, 1, none⟩ = some (.int .i64 a0_1) := (zC a8.out 1).trans rfl
      have hcz19_2 : wc.cell? ⟨a9, 2, none⟩ = some (.int .i64 a0_2) := (zC a8.out 2).trans rfl
      have hcz19_3 : wc.cell? ⟨a9, 3, none⟩ = some (.int .i64 a0_3) := (zC a8.out 3).trans rfl
      have hcz19_4 : wc.cell? ⟨a9, 4, none⟩ = some (.int .u32 a0_4) := (zC a8.out 4).trans rfl
      have hcz19_5 : wc.cell? ⟨a9, 5, none⟩ = some (.int .i64 a0_5) := (zC a8.out 5).trans rfl
      have hcz19_6 : wc.cell? ⟨a9, 6, none⟩ = some (.slice A0_6 l0_6.length c0_6) := (zC a8.out 6).trans rfl
      have hfz19_0 := zB a8.out 0
      have hfz19_1 := zB a8.out 1
      have hfz19_2 := zB a8.out 2
      have hfz19_3 := zB a8.out 3
      have hfz19_4 := zB a8.out 4
      have hfz19_5 := zB a8.out 5
      have hfz19_6 := zB a8.out 6
      go_wp2
      go_meet
      case rel => exact ⟨_, (true), (by first | rfl | (simp; done) | (simp [*]; done)), H', ⟨by have := HJ6.out; first | omega | exact Nat.le_refl _⟩, ⟨uK a8.out⟩, ⟨uC HB.out aa.out⟩⟩
     rw [if_neg c18] at H
     have c18b0 : (a0_0 == 43) = false := beq_eq_false_iff_ne.mpr c18
     have c18b1 : (a0_0 != 43) = true := bne_iff_ne.mpr c18
     have H' := uZ H
     clear H
     have hcz20_0 : wc.cell? ⟨a9, 0, none⟩ = some (.int .i64 a0_0) := (zC a8.out 0).trans rfl
     have hcz20_1 : wc.cell? ⟨a9, 1, none⟩ = some (.int .i64 a0_1) := (zC a8.out 1).trans rfl
     have hcz20_2 : wc.cell? ⟨a9, 2, none⟩ = some (.int .i64 a0_2) := (zC a8.out 2).trans rfl
     have hcz20_3 : wc.cell? ⟨a9, 3, none⟩ = some (.int .i64 a0_3) := (zC a8.out 3).trans rfl
     have hcz20_4 : wc.cell? ⟨a9, 4, none⟩ = some (.int .u32 a0_4) := (zC a8.out 4).trans rfl
     have hcz20_5 : wc.cell? ⟨a9, 5, none⟩ = some (.int .i64 a0_5) := (zC a8.out 5).trans rfl
     have hcz20_6 : wc.cell? ⟨a9, 6, none⟩ = some (.slice A0_6 l0_6.length c0_6) := (zC a8.out 6).trans rfl
     have hfz20_0 := zB a8.out 0
     have hfz20_1 := zB a8.out 1
     have hfz20_2 := zB a8.out 2
     have hfz20_3 := zB a8.out 3
     have hfz20_4 := zB a8.out 4
     have hfz20_5 := zB a8.out 5
     have hfz20_6 := zB a8.out 6
     go_wp2
     go_meet
     case rel => exact ⟨_, ((a0_0 == 2)), (by first | rfl | (simp; done) | (simp [*]; done)), H', ⟨by have := HJ6.out; first | omega | exact Nat.le_refl _⟩, ⟨uK a8.out⟩, ⟨uC HB.out aa.out⟩⟩
    rw [if_neg c13] at H
    have c13b0 : (a0_0 == 40) = false := beq_eq_false_iff_ne.mpr c13
    have c13b1 : (a0_0 != 40) = true := bne_iff_ne.mpr c13
    (first | rw [c13b0] | (simp only [i64_w, i32_w]; rw [c13b0]) | skip)
    by_cases c21 : a0_0 = 41
    ·rw [if_pos c21] at H
     have c21b0 : (a0_0 == 41) = true := beq_iff_eq.mpr c21
     have c21b1 : (a0_0 != 41) = false := bne_eq_false_iff_eq.mpr c21
     clear c21
     have H' := uZ H
     clear H
     have hcz22_0 : wc.cell? ⟨a9, 0, none⟩ = some (.int .i64 a0_0) := (zC a8.out 0).trans rfl
     have hcz22_1 : wc.cell? ⟨a9, 1, none⟩ = some (.int .i64 a0_1) := (zC a8.out 1).trans rfl
     have hcz22_2 : wc.cell? ⟨a9, 2, none⟩ = some (.int .i64 a0_2) := (zC a8.out 2).trans rfl
     have hcz22_3 : wc.cell? ⟨a9, 3, none⟩ = some (.int .i64 a0_3) := (zC a8.out 3).trans rfl
     have hcz22_4 : wc.cell? ⟨a9, 4, none⟩ = some (.int .u32 a0_4) := (zC a8.out 4).trans rfl
     have hcz22_5 : wc.cell? ⟨a9, 5, none⟩ = some (.int .i64 a0_5) := (zC a8.out 5).trans rfl
     have hcz22_6 : wc.cell? ⟨a9, 6, none⟩ = some (.slice A0_6 l0_6.length c0_6) := (zC a8.out 6).trans rfl
     have hfz22_0 := zB a8.out 0
     have hfz22_1 := zB a8.out 1
     have hfz22_2 := zB a8.out 2
     have hfz22_3 := zB a8.out 3
     have hfz22_4 := zB a8.out 4
     have hfz22_5 := zB a8.out 5
     have hfz22_6 := zB a8.out 6
     go_wp2
     go_meet
     case rel => exact ⟨_, (true), (by first | rfl | (simp; done) | (simp [*]; done)), H', ⟨by have := HJ6.out; first | omega | exact Nat.le_refl _⟩, ⟨uK a8.out⟩, ⟨uC HB.out aa.out⟩⟩
    rw [if_neg c21] at H
    have c21b0 : (a0_0 == 41) = false := beq_eq_false_iff_ne.mpr c21
    have c21b1 : (a0_0 != 41) = true := bne_iff_ne.mpr c21
    by_cases c23 : a0_0 = 43
    ·rw [if_pos c23] at H
     have c23b0 : (a0_0 == 43) = true := beq_iff_eq.mpr c23
     have c23b1 : (a0_0 != 43) = false := bne_eq_false_iff_eq.mpr c23
     clear c23
     have H' := uZ H
     clear H
     have hcz24_0 : wc.cell? ⟨a9, 0, none⟩ = some (.int .i64 a0_0) := (zC a8.out 0).trans rfl
     have hcz24_1 : wc.cell? ⟨a9, 1, none⟩ = some (.int .i64 a0_1) := (zC a8.out 1).trans rfl
     have hcz24_2 : wc.cell? ⟨a9, 2, none⟩ = some (.int .i64 a0_2) := (zC a8.out 2).trans rfl
     have hcz24_3 : wc.cell? ⟨a9, 3, none⟩ = some (.int .i64 a0_3) := (zC a8.out 3).trans rfl
     have hcz24_4 : wc.cell? ⟨a9, 4, none⟩ = some (.int .u32 a0_4) := (zC a8.out 4).trans rfl
     have hcz24_5 : wc.cell? ⟨a9, 5, none⟩ = some (.int .i64 a0_5) := (zC a8.out 5).trans rfl
     have hcz24_6 : wc.cell? ⟨a9, 6, none⟩ = some (.slice A0_6 l0_6.length c0_6) := (zC a8.out 6).trans rfl
     have hfz24_0 := zB a8.out 0
     have hfz24_1 := zB a8.out 1
     have hfz24_2 := zB a8.out 2
     have hfz24_3 := zB a8.out 3
     have hfz24_4 := zB a8.out 4
     have hfz24_5 := zB a8.out 5
     have hfz24_6 := zB a8.out 6
     go_wp2
     go_meet
     case rel => exact ⟨_, (true), (by first | rfl | (simp; done) | (simp [*]; done)), H', ⟨by have := HJ6.out; first | omega | exact Nat.le_refl _⟩, ⟨uK a8.out⟩, ⟨uC HB.out aa.out⟩⟩
    rw [if_neg c23] at H
    have c23b0 : (a0_0 == 43) = false := beq_eq_false_iff_ne.mpr c23
    have c23b1 : (a0_0 != 43) = true := bne_iff_ne.mpr c23
    have H' := uZ H
    clear H
    have hcz25_0 : wc.cell? ⟨a9, 0, none⟩ = some (.int .i64 a0_0) := (zC a8.out 0).trans rfl
    have hcz25_1 : wc.cell? ⟨a9, 1, none⟩ = some (.int .i64 a0_1) := (zC a8.out 1).trans rfl
    have hcz25_2 : wc.cell? ⟨a9, 2, none⟩ = some (.int .i64 a0_2) := (zC a8.out 2).trans rfl
    have hcz25_3 : wc.cell? ⟨a9, 3, none⟩ = some (.int .i64 a0_3) := (zC a8.out 3).trans rfl
    have hcz25_4 : wc.cell? ⟨a9, 4, none⟩ = some (.int .u32 a0_4) := (zC a8.out 4).trans rfl
    have hcz25_5 : wc.cell? ⟨a9, 5, none⟩ = some (.int .i64 a0_5) := (zC a8.out 5).trans rfl
    have hcz25_6 : wc.cell? ⟨a9, 6, none⟩ = some (.slice A0_6 l0_6.length c0_6) := (zC a8.out 6).trans rfl
    have hfz25_0 := zB a8.out 0
    have hfz25_1 := zB a8.out 1
    have hfz25_2 := zB a8.out 2
    have hfz25_3 := zB a8.out 3
    have hfz25_4 := zB a8.out 4
    have hfz25_5 := zB a8.out 5
    have hfz25_6 := zB a8.out 6
    go_wp2
    go_meet
    case rel => exact ⟨_, ((a0_0 == 2)), (by first | rfl | (simp; done) | (simp [*]; done)), H', ⟨by have := HJ6.out; first | omega | exact Nat.le_refl _⟩, ⟨uK a8.out⟩, ⟨uC HB.out aa.out⟩⟩
   case rest =>
    clear HC12
    try clear c1
    try clear c2
    try clear p2
    try clear c4
    try clear c4b0
    try clear c4b1
    try clear c5
    try clear c10
    try clear c11
    try clear c13
    try clear c13b0
    try clear c13b1
    try clear c14
    try clear c16
    try clear c16b0
    try clear c16b1
    try clear c18
    try clear c18b0
    try clear c18b1
    try clear c21
    try clear c21b0
    try clear c21b1
    try clear c23
    try clear c23b0
    try clear c23b1
    try clear hcz15_0
    try clear hcz15_1
    try clear hcz15_2
    try clear hcz15_3
    try clear hcz15_4
    try clear hcz15_5
    try clear hcz15_6
    try clear hcz17_0
    try clear hcz17_1
    try clear hcz17_2
    try clear hcz17_3
    try clear hcz17_4
    try clear hcz17_5
    try clear hcz17_6
    try clear hcz19_0
    try clear hcz19_1
    try clear hcz19_2
    try clear hcz19_3
    try clear hcz19_4
    try clear hcz19_5
    try clear hcz19_6
    try clear hcz20_0
    try clear hcz20_1
    try clear hcz20_2
    try clear hcz20_3
    try clear hcz20_4
    try clear hcz20_5
    try clear hcz20_6
    try clear hcz22_0
    try clear hcz22_1
    try clear hcz22_2
    try clear hcz22_3
    try clear hcz22_4
    try clear hcz22_5
    try clear hcz22_6
    try clear hcz24_0
    try clear hcz24_1
    try clear hcz24_2
    try clear hcz24_3
    try clear hcz24_4
    try clear hcz24_5
    try clear hcz24_6
    try clear hcz25_0
    try clear hcz25_1
    try clear hcz25_2
    try clear hcz25_3
    try clear hcz25_4
    try clear hcz25_5
    try clear hcz25_6
    try clear hcz6_0
    try clear hcz6_1
    try clear hcz6_2
    try clear hcz6_3
    try clear hcz6_4
    try clear hcz6_5
    try clear hcz6_6
    try clear hcz9_0
    try clear hcz9_1
    try clear hcz9_2
    try clear hcz9_3
    try clear hcz9_4
    try clear hcz9_5
    try clear hcz9_6
    try clear hfz15_0
    try clear hfz15_1
    try clear hfz15_2
    try clear hfz15_3
    try clear hfz15_4
    try clear hfz15_5
    try clear hfz15_6
    try clear hfz17_0
    try clear hfz17_1
    try clear hfz17_2
    try clear hfz17_3
    try clear hfz17_4
    try clear hfz17_5
    try clear hfz17_6
    try clear hfz19_0
    try clear hfz19_1
    try clear hfz19_2
    try clear hfz19_3
    try clear hfz19_4
    try clear hfz19_5
    try clear hfz19_6
    try clear hfz20_0
    try clear hfz20_1
    try clear hfz20_2
    try clear hfz20_3
    try clear hfz20_4
    try clear hfz20_5
    try clear hfz20_6
    try clear hfz22_0
    try clear hfz22_1
    try clear hfz22_2
    try clear hfz22_3
    try clear hfz22_4
    try clear hfz22_5
    try clear hfz22_6
    try clear hfz24_0
    try clear hfz24_1
    try clear hfz24_2
    try clear hfz24_3
    try clear hfz24_4
    try clear hfz24_5
    try clear hfz24_6
    try clear hfz25_0
    try clear hfz25_1
    try clear hfz25_2
    try clear hfz25_3
    try clear hfz25_4
    try clear hfz25_5
    try clear hfz25_6
    try clear hfz6_0
    try clear hfz6_1
    try clear hfz6_2
    try clear hfz6_3
    try clear hfz6_4
    try clear hfz6_5
    try clear hfz6_6
    try clear hfz9_0
    try clear hfz9_1
    try clear hfz9_2
    try clear hfz9_3
    try clear hfz9_4
    try clear hfz9_5
    try clear hfz9_6
    try clear p2
    obtain ⟨kq, x18_11, rfl, HA, HJ11, a8, HB⟩ := hcut
    cases kq with
    | zero => exact absurd HA.out (by simp [switchbackref17_Size.j1])
    | succ kj11 =>
     have H := HA.out
     clear HA
     simp only [switchbackref17_Size.j1] at H
     by_cases c26 : x18_11 = true
     ·subst c26
      have H1 : (some 2) = some r := by rw [if_pos rfl] at H; exact H
      clear H
      have H := H1
      clear H1
      obtain rfl := Option.some.inj H
      go_wp2
      go_ret
      exact ⟨by first | rfl | (simp [errW_none, errW_some] <;> rfl) | (simp [*, errW_none, errW_some] <;> rfl), by repeat (first | (with_reducible first | exact HB.out | apply below_alloc | apply zA | apply below_drew1 | refine below_set ?_ aa.out) | exact HB.out)⟩
     replace c26 := Bool.eq_false_iff.mpr c26
     subst c26
     have H1 : (if a0_0 = 42 then (some (wrap64 (2 + (l0_6.length : Int)))) else (some 1)) = some r := by rw [if_neg (show ¬ (false = true) by decide)] at H; exact H
     clear H
     have H := H1
     clear H1
     by_cases c27 : a0_0 = 42
     ·rw [if_pos c27] at H
      have c27b0 : (a0_0 == 42) = true := beq_iff_eq.mpr c27
      have c27b1 : (a0_0 != 42) = false := bne_eq_false_iff_eq.mpr c27
      clear c27
      obtain rfl := Option.some.inj H
      have hcz28_0 : wc.cell? ⟨a9, 0, none⟩ = some (.int .i64 a0_0) := (zC a8.out 0).trans rfl
      have hcz28_1 : wc.cell? ⟨a9, 1, none⟩ = some (.int .i64 a0_1) := (zC a8.out 1).trans rfl
      have hcz28_2 : wc.cell? ⟨a9, 2, none⟩ = some (.int .i64 a0_2) := (zC a8.out 2).trans rfl
      have hcz28_3 : wc.cell? ⟨a9, 3, none⟩ = some (.int .i64 a0_3) := (zC a8.out 3).trans rfl
      have hcz28_4 : wc.cell? ⟨a9, 4, none⟩ = some (.int .u32 a0_4) := (zC a8.out 4).trans rfl
      have hcz28_5 : wc.cell? ⟨a9, 5, none⟩ = some (.int .i64 a0_5) := (zC a8.out 5).trans rfl
      have hcz28_6 : wc.cell? ⟨a9, 6, none⟩ = some (.slice A0_6 l0_6.length c0_6) := (zC a8.out 6).trans rfl
      have hfz28_0 := zB a8.out 0
      have hfz28_1 := zB a8.out 1
      have hfz28_2 := zB a8.out 2
      have hfz28_3 := zB a8.out 3
      have hfz28_4 := zB a8.out 4
      have hfz28_5 := zB a8.out 5
      have hfz28_6 := zB a8.out 6
      go_wp2
      go_ret
      exact ⟨by first | rfl | (simp [errW_none, errW_some] <;> rfl) | (simp [*, errW_none, errW_some] <;> rfl), by repeat (first | (with_reducible first | exact HB.out | apply below_alloc | apply zA | apply below_drew1 | refine below_set ?_ aa.out) | exact HB.out)⟩
     rw [if_neg c27] at H
     have c27b0 : (a0_0 == 42) = false := beq_eq_false_iff_ne.mpr c27
     have c27b1 : (a0_0 != 42) = true := bne_iff_ne.mpr c27
     obtain rfl := Option.some.inj H
     have hcz29_0 : wc.cell? ⟨a9, 0, none⟩ = some (.int .i64 a0_0) := (zC a8.out 0).trans rfl
     have hcz29_1 : wc.cell? ⟨a9, 1, none⟩ = some (.int .i64 a0_1) := (zC a8.out 1).trans rfl
     have hcz29_2 : wc.cell? ⟨a9, 2, none⟩ = some (.int .i64 a0_2) := (zC a8.out 2).trans rfl
     have hcz29_3 : wc.cell? ⟨a9, 3, none⟩ = some (.int .i64 a0_3) := (zC a8.out 3).trans rfl
     have hcz29_4 : wc.cell? ⟨a9, 4, none⟩ = some (.int .u32 a0_4) := (zC a8.out 4).trans rfl
     have hcz29_5 : wc.cell? ⟨a9, 5, none⟩ = some (.int .i64 a0_5) := (zC a8.out 5).trans rfl
     have hcz29_6 : wc.cell? ⟨a9, 6, none⟩ = some (.slice A0_6 l0_6.length c0_6) := (zC a8.out 6).trans rfl
     have hfz29_0 := zB a8.out 0
     have hfz29_1 := zB a8.out 1
     have hfz29_2 := zB a8.out 2
     have hfz29_3 := zB a8.out 3
     have hfz29_4 := zB a8.out 4
     have hfz29_5 := zB a8.out 5
     have hfz29_6 := zB a8.out 6
     go_wp2
     go_ret
     exact ⟨by first | rfl | (simp [errW_none, errW_some] <;> rfl) | (simp [*, errW_none, errW_some] <;> rfl), by repeat (first | (with_reducible first | exact HB.out | apply below_alloc | apply zA | apply below_drew1 | refine below_set ?_ aa.out) | exact HB.out)⟩

end Go.Proofs.YtamimnaafiphcaaDoor.PR1C
