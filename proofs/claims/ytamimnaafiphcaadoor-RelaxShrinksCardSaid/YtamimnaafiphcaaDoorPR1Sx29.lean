-- Written by gp.py for this claim.
import Derived.Test.YtamimnaafiphcaaDoorPR1Sx0
import Derived.Test.YtamimnaafiphcaaDoorPR1Sx28
namespace Go.Proofs.YtamimnaafiphcaaDoor.PR1S
open Go.RowKit Go.Proofs.YtamimnaafiphcaaDoorW.PrintWords Go.Proofs.YtamimnaafiphcaaDoorW.PrintLast Go.Proofs.YtamimnaafiphcaaDoorW.PrintMore
attribute [local go_sem] max2_int min2_int max_two min_two max_three min_three max_four min_four   -- for this text's walks alone
set_option linter.unusedVariables false
set_option linter.unusedSimpArgs false

namespace q_switchbacklaw17_code
theorem uZ {p : Prop} (h : p) : Aside0 p := ⟨h⟩
theorem uK {p q : Prop} (h : p) (g : p → q := by intro h; (with_reducible repeat (first | apply blk_drewN | apply blk_drew | apply blk_alloc)); exact h) : q := g h
theorem uD {p q s r : Prop} (h : p) (j : s) (k : r) (g : p → s → r → q := by intro h j k; repeat (first | (with_reducible first | exact h | apply below_alloc | apply pw_below_drewN | apply below_drew1 | refine below_set ?_ j | refine below_set ?_ k) | exact h)) : q := g h j k
theorem zA : type_of% @blk_drewN := @blk_drewN
theorem zB : type_of% @blk_drew := @blk_drew
theorem zC : type_of% @blk_alloc := @blk_alloc
theorem zD : type_of% @pw_below_drewN := @pw_below_drewN
theorem zE : type_of% @below_alloc := @below_alloc
theorem zF : type_of% @below_drew1 := @below_drew1
theorem zG : type_of% @blk_frozen := @blk_frozen
theorem zH : type_of% @blk_cell := @blk_cell
theorem zI : type_of% @below_set := @below_set
end q_switchbacklaw17_code
open q_switchbacklaw17_code

/-! ### switchbacklaw17_code: function 33 -/
def switchbacklaw17_code.j0 : Nat → Int → Bool → List Int → List Int → List Int → Int → Option (Int × Int × Int × Int × Bool)
  | 0, _, _, _, _, _, _ => none
  | k + 1, x1, x24, x158000, x158001, x158002, x158003 => if x24 = true then (some (0, 0, 0, 0, false)) else (if 0 ≤ x1 then (if x1 < (x158000.length : Int) then ((enc_Decode.f (rd x158000 x1)).bind fun bt161 => (some (bt161.1, bt161.2.1, bt161.2.2.1, bt161.2.2.2.1, (bt161.2.2.2.2 == 0)))) else (none)) else (none))
def switchbacklaw17_code.f (k : Nat) (l0_0 : List Int) (l0_1 : List Int) (l0_2 : List Int) (a0_3 : Int) (a1 : Int) : Option (Int × Int × Int × Int × Bool) := if a1 < 0 then (switchbacklaw17_code.j0 k a1 true l0_0 l0_1 l0_2 a0_3) else (if a1 ≥ (l0_0.length : Int) then (switchbacklaw17_code.j0 k a1 true l0_0 l0_1 l0_2 a0_3) else (if 0 ≤ a1 then (if a1 < (l0_1.length : Int) then (switchbacklaw17_code.j0 k a1 ((rd l0_1 a1) != 1) l0_0 l0_1 l0_2 a0_3) else (none)) else (none)))
theorem switchbacklaw17_code.mono_l : ∀ k, (∀ y0 y1 y2 y3 y4 y5, LeO (switchbacklaw17_code.j0 k y0 y1 y2 y3 y4 y5) (switchbacklaw17_code.j0 (k + 1) y0 y1 y2 y3 y4 y5))
  | 0 => fun _ _ _ _ _ _ r h => by simp [switchbacklaw17_code.j0] at h
  | k + 1 => by
    have ih0 := switchbacklaw17_code.mono_l k
    · intro y0 y1 y2 y3 y4 y5
      unfold switchbacklaw17_code.j0
      repeat' first
      | (with_reducible exact ih0 _ _ _ _ _ _)
      | (with_reducible exact LeO.refl _)
      | (with_reducible exact LeO.none _)
      | (with_reducible refine LeO.ite ?_ ?_)
      | (with_reducible refine LeO.bind ?_ (fun _ => ?_))
      | exact ih0 _ _ _ _ _ _
      | exact LeO.none _
      | refine LeO.ite ?_ ?_
      | refine LeO.bind ?_ (fun _ => ?_)
theorem switchbacklaw17_code.mono : ∀ a0 a1 a2 a3 a4 k, LeO (switchbacklaw17_code.f k a0 a1 a2 a3 a4) (switchbacklaw17_code.f (k + 1) a0 a1 a2 a3 a4) := by
  intro a0 a1 a2 a3 a4 k
  have ih0 := switchbacklaw17_code.mono_l k
  unfold switchbacklaw17_code.f
  repeat' first
      | (with_reducible exact ih0 _ _ _ _ _ _)
      | (with_reducible exact LeO.refl _)
      | (with_reducible exact LeO.none _)
      | (with_reducible refine LeO.ite ?_ ?_)
      | (with_reducible refine LeO.bind ?_ (fun _ => ?_))
      | exact ih0 _ _ _ _ _ _
      | exact LeO.none _
      | refine LeO.ite ?_ ?_
      | refine LeO.bind ?_ (fun _ => ?_)
set_option maxHeartbeats 8000000 in
set_option maxRecDepth 100000 in
theorem switchbacklaw17_code.calls (k : Nat) (A0_0 : Option Addr) (c0_0 : Nat) (l0_0 : List Int) (A0_1 : Option Addr) (c0_1 : Nat) (l0_1 : List Int) (A0_2 : Option Addr) (c0_2 : Nat) (l0_2 : List Int) (a0_3 : Int) (a1 : Int) (r1 : Int) (r2 : Int) (r3 : Int) (r4 : Int) (r5 : Bool) (w : World) (hr0_0 : Kd.C (Kd.int .u32) w A0_0 l0_0.length l0_0) (hc0_0 : l0_0.length ≤ c0_0) (hr0_1 : Kd.C (Kd.int .i64) w A0_1 l0_1.length l0_1) (hc0_1 : l0_1.length ≤ c0_1) (hr0_2 : Kd.C (Kd.int .i64) w A0_2 l0_2.length l0_2) (hc0_2 : l0_2.length ≤ c0_2) (hLaid_ : Aside0 (Laid w)) (h : switchbacklaw17_code.f k l0_0 l0_1 l0_2 a0_3 a1 = some (r1, r2, r3, r4, r5)) :
    Calls Tryd.prog 33 #[.agg #[.slice A0_0 l0_0.length c0_0, .slice A0_1 l0_1.length c0_1, .slice A0_2 l0_2.length c0_2, .int .i64 a0_3], .int .i64 a1] w fun e w' => e = .returned (.tuple #[.agg #[.int .i64 r1, .int .i64 r2, .int .i64 r3, .int .i64 r4], .bool r5]) ∧ Below w.heap.size w w' := by
 have hu27 := Tryd.underlying27
 have hu44 := Tryd.underlying44
 have HR0_0 := uZ hr0_0
 have HC0_0 := uZ hc0_0
 clear hr0_0 hc0_0
 have HR0_1 := uZ hr0_1
 have HC0_1 := uZ hc0_1
 clear hr0_1 hc0_1
 have HR0_2 := uZ hr0_2
 have HC0_2 := uZ hc0_2
 clear hr0_2 hc0_2
 have HB := uZ (Below.refl w.heap.size w)
 have H : (if a1 < 0 then (switchbacklaw17_code.j0 k a1 true l0_0 l0_1 l0_2 a0_3) else (if a1 ≥ (l0_0.length : Int) then (switchbacklaw17_code.j0 k a1 true l0_0 l0_1 l0_2 a0_3) else (if 0 ≤ a1 then (if a1 < (l0_1.length : Int) then (switchbacklaw17_code.j0 k a1 ((rd l0_1 a1) != 1) l0_0 l0_1 l0_2 a0_3) else (none)) else (none)))) = some (r1, r2, r3, r4, r5) := h
 clear h
 have HC3 := uZ H
 clear H
 go_enter Tryd.func33, Tryd.ntmps33
 go_upto_region 1 with (first | ((with_reducible refine gate_dst (N := 2) rfl ?_); (try (refine gate_guard (by rfl) ?_; dsimp only)); refine box_event ?hg (N := 2) ?hd (cs := #[.slice A0_0 l0_0.length c0_0, .slice A0_1 l0_1.length c0_1, .slice A0_2 l0_2.length c0_2, .int .i64 a0_3]) (t := 27) ?hr ?_; (case hd => rfl); (case hg => rfl); (case hr => first | (go_simp; done) | (go_simp; rfl)); intro a7 hg w4 hbox hb; have n0_ := uZ (below_step (by repeat (first | (with_reducible first | exact HB.out | apply zE | apply zD | apply zF) | exact HB.out)) hb); have n1_ := uZ (hbox); have n2_ := uZ ((by rw [hg]; exact (below_size (by repeat (first | (with_reducible first | exact HB.out | apply zE | apply zD | apply zF) | exact HB.out))) : w.heap.size ≤ a7)); have n3_ := uZ ((by rw [hg]; exact (below_size (by repeat (first | (with_reducible first | exact HB.out | apply zE | apply zD | apply zF) | exact HB.out))) : w.heap.size ≤ a7)); clear HB; have HB := n0_; have a5 := n1_; have GW157 := n2_; have aa := n3_; clear n0_ n1_ n2_ n3_; clear hb hbox hg) | ((with_reducible refine gate_dst (N := 4) rfl ?_); (try (refine gate_guard (by rfl) ?_; dsimp only)); refine box_event ?hg (N := 4) ?hd (cs := #[.int .i64 0, .int .i64 0, .int .i64 0, .int .i64 0]) (t := 44) ?hr ?_; (case hd => rfl); (case hg => rfl); (case hr => first | (go_simp; done) | (go_simp; rfl)); intro a8 hg w5 hbox hb; have n0_ := uZ (blk_below (g := a7) (o := .cells #[.slice A0_0 l0_0.length c0_0, .slice A0_1 l0_1.length c0_1, .slice A0_2 l0_2.length c0_2, .int .i64 a0_3] 27 (0, 0)) (uK a5.out) hb); have n1_ := uZ (below_step (by repeat (first | (with_reducible first | exact HB.out | apply zE | apply zD | apply zF | refine zI ?_ aa.out) | exact HB.out)) hb); have n2_ := uZ (hbox); have n3_ := uZ ((by rw [hg]; exact (below_size (by repeat (first | (with_reducible first | exact HB.out | apply zE | apply zD | apply zF | refine zI ?_ aa.out) | exact HB.out))) : w.heap.size ≤ a8)); have n4_ := uZ ((by rw [hg]; exact (below_size (by repeat (first | (with_reducible first | exact HB.out | apply zE | apply zD | apply zF | refine zI ?_ aa.out) | exact HB.out))) : w.heap.size ≤ a8)); have n5_ := uZ ((by rw [hg]; exact Nat.ne_of_lt (blk_lt (g := a7) (o := .cells #[.slice A0_0 l0_0.length c0_0, .slice A0_1 l0_1.length c0_1, .slice A0_2 l0_2.length c0_2, .int .i64 a0_3] 27 (0, 0)) (uK a5.out)) : a7 ≠ a8)); have n6_ := uZ ((by rw [hg]; exact Nat.ne_of_gt (blk_lt (g := a7) (o := .cells #[.slice A0_0 l0_0.length c0_0, .slice A0_1 l0_1.length c0_1, .slice A0_2 l0_2.length c0_2, .int .i64 a0_3] 27 (0, 0)) (uK a5.out)) : a8 ≠ a7)); clear a5; clear HB; have a5 := n0_; have HB := n1_; have a6 := n2_; have GW158 := n3_; have ae := n4_; have ab := n5_; have ac := n6_; clear n0_ n1_ n2_ n3_ n4_ n5_ n6_; clear hb hbox hg))
 (try simp only [Act.put, List.setIfInBounds_toArray, List.set_cons_zero, List.set_cons_succ])
 go_cut [24] (fun v24 wc => ∃ (kq : Nat) (x24_2 : Bool), v24 = .bool x24_2 ∧ Aside0 (switchbacklaw17_code.j0 kq a1 x24_2 l0_0 l0_1 l0_2 a0_3 = some (r1, r2, r3, r4, r5)) ∧ Aside0 (kq ≤ k) ∧ Aside0 (wc.heap[a7]? = some (.cells #[(.slice A0_0 l0_0.length c0_0), (.slice A0_1 l0_1.length c0_1), (.slice A0_2 l0_2.length c0_2), .int .i64 a0_3] 27 (0, 0))) ∧ Aside0 (wc.heap[a8]? = some (.cells #[.int .i64 0, .int .i64 0, .int .i64 0, .int .i64 0] 44 (0, 0))) ∧ Aside0 (Below w.heap.size w wc))
 case first =>
  have H := HC3.out
  clear HC3
  by_cases c6 : a1 < 0
  ·rw [if_pos c6] at H
   have c6b0 : decide (a1 < 0) = true := decide_eq_true c6
   clear c6
   (first | rw [c6b0] | (simp only [i64_w, i32_w]; rw [c6b0]) | skip)
   have H' := uZ H
   clear H
   go_wp2
   go_meet
   case rel => exact ⟨_, (true), (by first | rfl | (simp; done) | (simp [*]; done)), H', ⟨by first | omega | exact Nat.le_refl _⟩, ⟨uK a5.out⟩, ⟨uK a6.out⟩, ⟨uD HB.out aa.out ae.out⟩⟩
  rw [if_neg c6] at H
  have c6b0 : decide (a1 < 0) = false := decide_eq_false c6
  clear c6
  (first | rw [c6b0] | (simp only [i64_w, i32_w]; rw [c6b0]) | skip)
  by_cases c7 : a1 ≥ (l0_0.length : Int)
  ·rw [if_pos c7] at H
   have c7b0 : decide ((l0_0.length : Int) ≤ a1) = true := decide_eq_true c7
   clear c7
   have H' := uZ H
   clear H
   have hnb8 := ab.out
   have hnc8 := ac.out
   have hcz9_0 : w5.cell? ⟨a7, 0, none⟩ = some (.slice A0_0 l0_0.length c0_0) := (zH a5.out 0).trans rfl
   have hcz9_1 : w5.cell? ⟨a7, 1, none⟩ = some (.slice A0_1 l0_1.length c0_1) := (zH a5.out 1).trans rfl
   have hcz9_2 : w5.cell? ⟨a7, 2, none⟩ = some (.slice A0_2 l0_2.length c0_2) := (zH a5.out 2).trans rfl
   have hcz9_3 : w5.cell? ⟨a7, 3, none⟩ = some (.int .i64 a0_3) := (zH a5.out 3).trans rfl
   have hfz9_0 := zG a5.out 0
   have hfz9_1 := zG a5.out 1
   have hfz9_2 := zG a5.out 2
   have hfz9_3 := zG a5.out 3
   go_wp2
   go_meet
   case rel => exact ⟨_, (true), (by first | rfl | (simp; done) | (simp [*]; done)), H', ⟨by first | omega | exact Nat.le_refl _⟩, ⟨uK a5.out⟩, ⟨uK a6.out⟩, ⟨uD HB.out aa.out ae.out⟩⟩
  rw [if_neg c7] at H
  have c7b0 : decide ((l0_0.length : Int) ≤ a1) = false := decide_eq_false c7
  clear c7
  by_cases c10 : 0 ≤ a1
  ·rw [if_pos c10] at H
   have c10b0 : decide (0 ≤ a1) = true := decide_eq_true c10
   clear c10
   by_cases c11 : a1 < (l0_1.length : Int)
   ·rw [if_pos c11] at H
    have c11b0 : decide (a1 < (l0_1.length : Int)) = true := decide_eq_true c11
    clear c11
    have H' := uZ H
    clear H
    have hnb12 := ab.out
    have hnc12 := ac.out
    have hcz13_0 : w5.cell? ⟨a7, 0, none⟩ = some (.slice A0_0 l0_0.length c0_0) := (zH a5.out 0).trans rfl
    have hcz13_1 : w5.cell? ⟨a7, 1, none⟩ = some (.slice A0_1 l0_1.length c0_1) := (zH a5.out 1).trans rfl
    have hcz13_2 : w5.cell? ⟨a7, 2, none⟩ = some (.slice A0_2 l0_2.length c0_2) := (zH a5.out 2).trans rfl
    have hcz13_3 : w5.cell? ⟨a7, 3, none⟩ = some (.int .i64 a0_3) := (zH a5.out 3).trans rfl
    have hfz13_0 := zG a5.out 0
    have hfz13_1 := zG a5.out 1
    have hfz13_2 := zG a5.out 2
    have hfz13_3 := zG a5.out 3
    have p159 : 0 ≤ (a1 : Int) := of_decide_eq_true (by first | (with_reducible assumption) | assumption)
    have q159 : a1 < (l0_1.length : Int) := of_decide_eq_true (by first | (with_reducible assumption) | assumption)
    obtain ⟨ad159, e159, hx159_0⟩ := Kd.at_int HR0_1.out a1 p159 q159
    cases e159
    replace hx159_0 := (HB.out.cell (World.block_lt_of_cell? w _ hx159_0)).trans hx159_0
    replace p159 := eq_true p159
    replace q159 := eq_true q159
    go_wp2
    go_meet
    case rel => exact ⟨_, (((rd l0_1 a1) != 1)), (by first | rfl | (simp; done) | (simp [*]; done)), H', ⟨by first | omega | exact Nat.le_refl _⟩, ⟨uK a5.out⟩, ⟨uK a6.out⟩, ⟨uD HB.out aa.out ae.out⟩⟩
   rw [if_neg c11] at H
   exact absurd H (by simp)
  rw [if_neg c10] at H
  exact absurd H (by simp)
 case rest =>
  clear HC3
  try clear c1
  try clear p1
  try clear q1
  try clear hx1
  try clear p2
  try clear c3
  try clear c6
  try clear c6b0
  try clear c7
  try clear c7b0
  try clear c8
  try clear c10
  try clear c10b0
  try clear c11
  try clear c11b0
  try clear c12
  try clear hcz13_0
  try clear hcz13_1
  try clear hcz13_2
  try clear hcz13_3
  try clear hcz9_0
  try clear hcz9_1
  try clear hcz9_2
  try clear hcz9_3
  try clear hfz13_0
  try clear hfz13_1
  try clear hfz13_2
  try clear hfz13_3
  try clear hfz9_0
  try clear hfz9_1
  try clear hfz9_2
  try clear hfz9_3
  try clear hx159_0
  try clear p159
  try clear q159
  obtain ⟨kq, x24_2, rfl, HA, HJ2, a5, a6, HB⟩ := hcut
  cases kq with
  | zero => exact absurd HA.out (by simp [switchbacklaw17_code.j0])
  | succ kj2 =>
   have H := HA.out
   clear HA
   simp only [switchbacklaw17_code.j0] at H
   by_cases c14 : x24_2 = true
   ·subst c14
    have H1 : (some (0, 0, 0, 0, false)) = some (r1, r2, r3, r4, r5) := by rw [if_pos rfl] at H; exact H
    clear H
    have H := H1
    clear H1
    simp only [Option.some.injEq, Prod.mk.injEq] at H
    obtain ⟨rfl, rfl, rfl, rfl, rfl⟩ := H
    have hnb15 := ac.out
    have hnc15 := ab.out
    have hcz16_0 : wc.cell? ⟨a8, 0, none⟩ = some (.int .i64 0) := (zH a6.out 0).trans rfl
    have hcz16_1 : wc.cell? ⟨a8, 1, none⟩ = some (.int .i64 0) := (zH a6.out 1).trans rfl
    have hcz16_2 : wc.cell? ⟨a8, 2, none⟩ = some (.int .i64 0) := (zH a6.out 2).trans rfl
    have hcz16_3 : wc.cell? ⟨a8, 3, none⟩ = some (.int .i64 0) := (zH a6.out 3).trans rfl
    have hfz16_0 := zG a6.out 0
    have hfz16_1 := zG a6.out 1
    have hfz16_2 := zG a6.out 2
    have hfz16_3 := zG a6.out 3
    go_wp2
    refine bodyPost_ret (results_ct rfl _ _ a8 44 #[.int .i64 0, .int .i64 0, .int .i64 0, .int .i64 0] (0, 0) _ rfl (by (with_reducible repeat (first | apply zA | apply zB | apply zC)); refine blk_put (cs := #[.int .i64 0, .int .i64 0, .int .i64 0, .int .i64 0]) ?_ 3 _ rfl; (with_reducible repeat (first | apply zA | apply zB | apply zC)); refine blk_put (cs := #[.int .i64 0, .int .i64 0, .int .i64 0, .int .i64 0]) ?_ 2 _ rfl; (with_reducible repeat (first | apply zA | apply zB | apply zC)); refine blk_put (cs := #[.int .i64 0, .int .i64 0, .int .i64 0, .int .i64 0]) ?_ 1 _ rfl; (with_reducible repeat (first | apply zA | apply zB | apply zC)); refine blk_put (cs := #[.int .i64 0, .int .i64 0, .int .i64 0, .int .i64 0]) ?_ 0 _ rfl; (with_reducible repeat (first | apply zA | apply zB | apply zC)); exact a6.out) Tryd.underlying44 rfl (by kernel_rfl)) rfl ?_
    exact ⟨by first | rfl | (simp [errW_none, errW_some] <;> rfl) | (simp [*, errW_none, errW_some] <;> rfl), by repeat (first | (with_reducible first | exact HB.out | apply zE | apply zD | apply zF | refine zI ?_ aa.out | refine zI ?_ ae.out) | exact HB.out)⟩
   replace c14 := Bool.eq_false_iff.mpr c14
   subst c14
   have H1 : (if 0 ≤ a1 then (if a1 < (l0_0.length : Int) then ((enc_Decode.f (rd l0_0 a1)).bind fun bt161 => (some (bt161.1, bt161.2.1, bt161.2.2.1, bt161.2.2.2.1, (bt161.2.2.2.2 == 0)))) else (none)) else (none)) = some (r1, r2, r3, r4, r5) := by rw [if_neg (show ¬ (false = true) by decide)] at H; exact H
   clear H
   have H := H1
   clear H1
   by_cases c17 : 0 ≤ a1
   ·rw [if_pos c17] at H
    have c17b0 : decide (0 ≤ a1) = true := decide_eq_true c17
    clear c17
    by_cases c18 : a1 < (l0_0.length : Int)
    ·rw [if_pos c18] at H
     have c18b0 : decide (a1 < (l0_0.length : Int)) = true := decide_eq_true c18
     clear c18
     replace H := Option.bind_eq_some_iff.mp H
     obtain ⟨⟨t161, t162, t163, t164, t165⟩, A190, H⟩ := H
     replace H : (some (t161, t162, t163, t164, (t165 == 0))) = some (r1, r2, r3, r4, r5) := H
     have A19 := uZ A190
     clear A190
     simp only [Option.some.injEq, Prod.mk.injEq] at H
     obtain ⟨rfl, rfl, rfl, rfl, rfl⟩ := H
     have hnb20 := ab.out
     have hnc20 := ac.out
     have hcz21_0 : wc.cell? ⟨a7, 0, none⟩ = some (.slice A0_0 l0_0.length c0_0) := (zH a5.out 0).trans rfl
     have hcz21_1 : wc.cell? ⟨a7, 1, none⟩ = some (.slice A0_1 l0_1.length c0_1) := (zH a5.out 1).trans rfl
     have hcz21_2 : wc.cell? ⟨a7, 2, none⟩ = some (.slice A0_2 l0_2.length c0_2) := (zH a5.out 2).trans rfl
     have hcz21_3 : wc.cell? ⟨a7, 3, none⟩ = some (.int .i64 a0_3) := (zH a5.out 3).trans rfl
     have hfz21_0 := zG a5.out 0
     have hfz21_1 := zG a5.out 1
     have hfz21_2 := zG a5.out 2
     have hfz21_3 := zG a5.out 3
     have p160 : 0 ≤ (a1 : Int) := of_decide_eq_true (by first | (with_reducible assumption) | assumption)
     have q160 : a1 < (l0_0.length : Int) := of_decide_eq_true (by first | (with_reducible assumption) | assumption)
     obtain ⟨ad160, e160, hx160_0⟩ := Kd.at_int HR0_0.out a1 p160 q160
     cases e160
     replace hx160_0 := (HB.out.cell (World.block_lt_of_cell? w _ hx160_0)).trans hx160_0
     replace p160 := eq_true p160
     replace q160 := eq_true q160
     go_wp2_with (first | ((with_reducible refine gate_callee (f := 56) rfl ?_); refine goesL_ (some 32) rfl rfl Tryd.func56 (by kernel_rfl) rfl #[.int .u32 (rd l0_0 a1)] rfl (by (try simp only [List.map_toArray, List.map_cons, List.map_nil]); first | done | rfl | (simp only [List.length_drop, List.length_take]; rfl)) ?_; (with_reducible refine (enc_Decode.calls (rd l0_0 a1) t161 t162 t163 t164 t165 _ (uZ (hLaid_.out.below (by repeat (first | (with_reducible first | exact HB.out | apply zE | apply zD | apply zF) | refine zI ?_ (Aside0.out (by assumption)) | exact HB.out)))) A19.out).mono ?_); rintro e w22 ⟨rfl, hb⟩; refine ⟨_, rfl, ?_⟩; have n0_ := uZ (blk_below (g := a7) (o := .cells #[.slice (some ad160) l0_0.length c0_0, .slice A0_1 l0_1.length c0_1, .slice A0_2 l0_2.length c0_2, .int .i64 a0_3] 27 (0, 0)) (uK a5.out) hb); have n1_ := uZ (blk_below (g := a8) (o := .cells #[.int .i64 0, .int .i64 0, .int .i64 0, .int .i64 0] 44 (0, 0)) (uK a6.out) hb); have n2_ := uZ (below_step (uD HB.out aa.out ae.out) hb); clear a5; clear a6; clear HB; have a5 := n0_; have a6 := n1_; have HB := n2_; clear n0_ n1_ n2_; (try clear hb); (try clear hb2); (try clear hk); (try clear hi)) | ((with_reducible refine gate_dst (N := 6) rfl ?_); (try (refine gate_guard (by rfl) ?_; dsimp only)); refine box_event ?hg (N := 6) ?hd (cs := #[.int .i64 0, .int .i64 0, .int .i64 0, .int .i64 0]) (t := 44) ?hr ?_; (case hd => rfl); (case hg => rfl); (case hr => first | (go_simp; done) | (go_simp; rfl)); intro ad hg w23 hbox hb; have n0_ := uZ (blk_below (g := a7) (o := .cells #[.slice (some ad160) l0_0.length c0_0, .slice A0_1 l0_1.length c0_1, .slice A0_2 l0_2.length c0_2, .int .i64 a0_3] 27 (0, 0)) (uK a5.out) hb); have n1_ := uZ (blk_below (g := a8) (o := .cells #[.int .i64 0, .int .i64 0, .int .i64 0, .int .i64 0] 44 (0, 0)) (uK a6.out) hb); have n2_ := uZ (below_step (uD HB.out aa.out ae.out) hb); have n3_ := uZ (hbox); have n4_ := uZ ((by rw [hg]; exact (below_size (uD HB.out aa.out ae.out)) : w.heap.size ≤ ad)); have n5_ := uZ ((by rw [hg]; exact (below_size (uD HB.out aa.out ae.out)) : w.heap.size ≤ ad)); have n6_ := uZ ((by rw [hg]; exact Nat.ne_of_lt (blk_lt (g := a7) (o := .cells #[.slice (some ad160) l0_0.length c0_0, .slice A0_1 l0_1.length c0_1, .slice A0_2 l0_2.length c0_2, .int .i64 a0_3] 27 (0, 0)) (uK a5.out)) : a7 ≠ ad)); have n7_ := uZ ((by rw [hg]; exact Nat.ne_of_gt (blk_lt (g := a7) (o := .cells #[.slice (some ad160) l0_0.length c0_0, .slice A0_1 l0_1.length c0_1, .slice A0_2 l0_2.length c0_2, .int .i64 a0_3] 27 (0, 0)) (uK a5.out)) : ad ≠ a7)); have n8_ := uZ ((by rw [hg]; exact Nat.ne_of_lt (blk_lt (g := a8) (o := .cells #[.int .i64 0, .int .i64 0, .int .i64 0, .int .i64 0] 44 (0, 0)) (uK a6.out)) : a8 ≠ ad)); have n9_ := uZ ((by rw [hg]; exact Nat.ne_of_gt (blk_lt (g := a8) (o := .cells #[.int .i64 0, .int .i64 0, .int .i64 0, .int .i64 0] 44 (0, 0)) (uK a6.out)) : ad ≠ a8)); clear a5; clear a6; clear HB; have a5 := n0_; have a6 := n1_; have HB := n2_; have BK166 := n3_; have GW166 := n4_; have GE166 := n5_; have NB157_166 := n6_; have NB166_157 := n7_; have a9 := n8_; have NB166_158 := n9_; clear n0_ n1_ n2_ n3_ n4_ n5_ n6_ n7_ n8_ n9_; clear hb hbox hg; have hnb24 := NB166_157.out; have hnc24 := NB157_166.out; have hnb25 := NB166_158.out; have hnc25 := a9.out; have hcz26_0 : w23.cell? ⟨ad, 0, none⟩ = some (.int .i64 0) := (zH BK166.out 0).trans rfl; have hcz26_1 : w23.cell? ⟨ad, 1, none⟩ = some (.int .i64 0) := (zH BK166.out 1).trans rfl; have hcz26_2 : w23.cell? ⟨ad, 2, none⟩ = some (.int .i64 0) := (zH BK166.out 2).trans rfl; have hcz26_3 : w23.cell? ⟨ad, 3, none⟩ = some (.int .i64 0) := (zH BK166.out 3).trans rfl; have hfz26_0 := zG BK166.out 0; have hfz26_1 := zG BK166.out 1; have hfz26_2 := zG BK166.out 2; have hfz26_3 := zG BK166.out 3; have hcz27_0 : w23.cell? ⟨a8, 0, none⟩ = some (.int .i64 0) := (zH a6.out 0).trans rfl; have hcz27_1 : w23.cell? ⟨a8, 1, none⟩ = some (.int .i64 0) := (zH a6.out 1).trans rfl; have hcz27_2 : w23.cell? ⟨a8, 2, none⟩ = some (.int .i64 0) := (zH a6.out 2).trans rfl; have hcz27_3 : w23.cell? ⟨a8, 3, none⟩ = some (.int .i64 0) := (zH a6.out 3).trans rfl; have hfz27_0 := zG a6.out 0; have hfz27_1 := zG a6.out 1; have hfz27_2 := zG a6.out 2; have hfz27_3 := zG a6.out 3))
     refine bodyPost_ret (results_ct rfl _ _ a8 44 #[.int .i64 t161, .int .i64 t162, .int .i64 t163, .int .i64 t164] (0, 0) _ rfl (by (with_reducible repeat (first | apply zA | apply zB | apply zC)); refine blk_put (cs := #[.int .i64 t161, .int .i64 t162, .int .i64 t163, .int .i64 0]) ?_ 3 _ rfl; (with_reducible repeat (first | apply zA | apply zB | apply zC)); refine blk_put (cs := #[.int .i64 t161, .int .i64 t162, .int .i64 0, .int .i64 0]) ?_ 2 _ rfl; (with_reducible repeat (first | apply zA | apply zB | apply zC)); refine blk_put (cs := #[.int .i64 t161, .int .i64 0, .int .i64 0, .int .i64 0]) ?_ 1 _ rfl; (with_reducible repeat (first | apply zA | apply zB | apply zC)); refine blk_put (cs := #[.int .i64 0, .int .i64 0, .int .i64 0, .int .i64 0]) ?_ 0 _ rfl; (with_reducible repeat (first | apply zA | apply zB | apply zC)); refine blk_far ?_ a9.out _; (with_reducible repeat (first | apply zA | apply zB | apply zC)); refine blk_far ?_ a9.out _; (with_reducible repeat (first | apply zA | apply zB | apply zC)); refine blk_far ?_ a9.out _; (with_reducible repeat (first | apply zA | apply zB | apply zC)); refine blk_far ?_ a9.out _; (with_reducible repeat (first | apply zA | apply zB | apply zC)); exact a6.out) Tryd.underlying44 rfl (by kernel_rfl)) rfl ?_
     exact ⟨by first | rfl | (simp [errW_none, errW_some] <;> rfl) | (simp [*, errW_none, errW_some] <;> rfl), by repeat (first | (with_reducible first | exact HB.out | apply zE | apply zD | apply zF | refine zI ?_ aa.out | refine zI ?_ ae.out | refine zI ?_ GE166.out) | exact HB.out)⟩
    rw [if_neg c18] at H
    exact absurd H (by simp)
   rw [if_neg c17] at H
   exact absurd H (by simp)

end Go.Proofs.YtamimnaafiphcaaDoor.PR1S
