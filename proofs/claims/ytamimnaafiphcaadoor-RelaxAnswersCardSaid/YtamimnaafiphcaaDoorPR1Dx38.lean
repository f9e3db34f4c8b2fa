-- Written by gp.py for this claim.
import Derived.Test.YtamimnaafiphcaaDoorPR1DZ
import Derived.Test.YtamimnaafiphcaaDoorPR1DY
import Derived.Test.YtamimnaafiphcaaDoorPR1Dd38
namespace Go.Proofs.YtamimnaafiphcaaDoor.PR1D
open Go.RowKit Go.Proofs.YtamimnaafiphcaaDoorW.PrintWords Go.Proofs.YtamimnaafiphcaaDoorW.PrintLast Go.Proofs.YtamimnaafiphcaaDoorW.PrintMore
attribute [local go_sem] max2_int min2_int max_two min_two max_three min_three max_four min_four   -- for this text's walks alone
set_option linter.unusedVariables false
set_option linter.unusedSimpArgs false

namespace q_switchbackref17_made
theorem uZ {p : Prop} (h : p) : Aside0 p := ⟨h⟩
theorem uR {p q : Prop} (h : p) (g : p → q := by intro h; (with_reducible repeat (first | apply Kd.R_alloc | apply Kd.R_drewN | apply Kd.R_drew)); exact h) : q := g h
theorem uK {p q : Prop} (h : p) (g : p → q := by intro h; (with_reducible repeat (first | apply blk_drewN | apply blk_drew | apply blk_alloc)); exact h) : q := g h
theorem uC {p q s : Prop} (h : p) (j : s) (g : p → s → q := by intro h j; repeat (first | (with_reducible first | exact h | apply below_alloc | apply pw_below_drewN | apply below_drew1 | refine below_set ?_ j) | exact h)) : q := g h j
theorem zA : type_of% @Kd.R_alloc := @Kd.R_alloc
theorem zB : type_of% @Kd.R_drewN := @Kd.R_drewN
theorem zC : type_of% @Kd.R_drew := @Kd.R_drew
theorem zD : type_of% @Kd.R_below := @Kd.R_below
theorem zE : type_of% @Kd.R_lower := @Kd.R_lower
theorem zF : type_of% @pw_below_drewN := @pw_below_drewN
theorem zG : type_of% @below_alloc := @below_alloc
theorem zH : type_of% @below_drew1 := @below_drew1
theorem zI : type_of% @blk_frozen := @blk_frozen
theorem zJ : type_of% @blk_cell := @blk_cell
theorem zK : type_of% @blk_below := @blk_below
theorem zL : type_of% @below_set := @below_set
theorem zM : type_of% @below_size := @below_size
theorem zN : type_of% @below_step := @below_step
theorem zO : type_of% @List.setIfInBounds_toArray := @List.setIfInBounds_toArray
theorem zP : type_of% @List.set_cons_zero := @List.set_cons_zero
theorem zQ : type_of% @List.set_cons_succ := @List.set_cons_succ
theorem zR : type_of% @any_of := @any_of
theorem zS : type_of% @List.map_toArray := @List.map_toArray
theorem zT : type_of% @List.length_drop := @List.length_drop
theorem zU : type_of% @List.length_take := @List.length_take
end q_switchbackref17_made
open q_switchbackref17_made

def switchbackref17_made.T9 : Bool × List (List Nat × List Nat) := (true, [([], []), ([0], [0]), ([1], [1]), ([], []), ([3], [3]), ([], []), ([5], [5]), ([2, 4, 6, 2], [2, 4, 6]), ([7], []), ([], []), ([9], [9]), ([7, 8, 10], [7, 8, 10]), ([], []), ([11, 8, 0, 1, 2, 3, 4, 5, 6, 7, 8, 9, 10, 11], [11]), ([12, 13, 0, 1, 2, 3, 4, 5, 6, 7, 8, 9, 10, 11, 12, 13], [12])])
def switchbackref17_made.B9 : List Nat := [0, 1, 3, 0, 8, 0, 32, 127, 255, 0, 512, 2047, 0, 4095, 16383]
theorem switchbackref17_made.tab9 : rtab .any (opsOf Tryd.f49 9) = switchbackref17_made.T9 := by kernel_rfl
theorem switchbackref17_made.bits9 : waitsOk switchbackref17_made.T9.2 switchbackref17_made.B9 = true := by kernel_rfl
def switchbackref17_made.T17 : Bool × List (List Nat × List Nat) := (true, [([], []), ([0], [0]), ([1], [1]), ([], []), ([3], [3]), ([2, 4], [2, 4]), ([], []), ([5, 2, 0, 1, 2, 3, 4, 5], [5]), ([6, 7, 0, 1, 2, 3, 4, 5, 6, 7], [6])])
def switchbackref17_made.B17 : List Nat := [0, 1, 3, 0, 8, 31, 0, 63, 255]
theorem switchbackref17_made.tab17 : rtab .any (opsOf Tryd.f49 17) = switchbackref17_made.T17 := by kernel_rfl
theorem switchbackref17_made.bits17 : waitsOk switchbackref17_made.T17.2 switchbackref17_made.B17 = true := by kernel_rfl
def switchbackref17_made.T19 : Bool × List (List Nat × List Nat) := (true, [([], []), ([0], [0]), ([1], [1]), ([], []), ([3], [3]), ([4], [4]), ([5], [5]), ([2, 6], [2, 6]), ([7, 2, 0, 1, 2, 3, 4, 5, 6, 7], [7])])
def switchbackref17_made.B19 : List Nat := [0, 1, 3, 0, 8, 24, 56, 127, 255]
theorem switchbackref17_made.tab19 : rtab .any (opsOf Tryd.f49 19) = switchbackref17_made.T19 := by kernel_rfl
theorem switchbackref17_made.bits19 : waitsOk switchbackref17_made.T19.2 switchbackref17_made.B19 = true := by kernel_rfl
set_option maxHeartbeats 8000000 in
set_option maxRecDepth 100000 in
theorem switchbackref17_made.calls (k : Nat) (a0_0 : Int) (a0_1 : Int) (a0_2 : Int) (a0_3 : Int) (a0_4 : Int) (a0_5 : Int) (A0_6 : Option Addr) (c0_6 : Nat) (l0_6 : List Int) (a1 : Bool) (a2 : Int) (A3 : Option Addr) (c3 : Nat) (l3 : List Int) (r1 : List Int) (r2 : List Int) (w : World) (hr0_6 : Kd.C (Kd.int .i64) w A0_6 l0_6.length l0_6) (hc0_6 : l0_6.length ≤ c0_6) (hr3 : Kd.C (Kd.int .i64) w A3 l3.length l3) (hc3 : l3.length ≤ c3) (h : switchbackref17_made.f k a0_0 a0_1 a0_2 a0_3 a0_4 a0_5 l0_6 a1 a2 l3 = some (r1, r2)) :
    Calls Tryd.prog 49 #[.agg #[.int .i64 a0_0, .int .i64 a0_1, .int .i64 a0_2, .int .i64 a0_3, .int .u32 a0_4, .int .i64 a0_5, .slice A0_6 l0_6.length c0_6], .bool a1, .int .i64 a2, .slice A3 l3.length c3] w fun e w' => ∃ v0_ v1_ : Value, e = .returned (.tuple #[v0_, v1_]) ∧ Kd.R (Kd.int .u32) 38 w' w.heap.size (fun _ => True) v0_ r1 ∧ Kd.R (Kd.int .i64) 3 w' w.heap.size (fun _ => True) v1_ r2 ∧ Below w.heap.size w w' := by
 have hu40 := Tryd.underlying40
 have HR0_6 := uZ hr0_6
 have HC0_6 := uZ hc0_6
 clear hr0_6 hc0_6
 have HR3 := uZ hr3
 have HC3 := uZ hc3
 clear hr3 hc3
 have HB := uZ (Below.refl w.heap.size w)
 have H : ((switchbackref16_Branch.f a0_0).bind fun al => ((switchbackref17_Goes.f a0_0 a0_1 a0_2 a0_3 a0_4 a0_5 l0_6).bind fun t197 => (if t197 = true then (if 0 ≤ a0_5 then (if a0_5 < (l3.length : Int) then (switchbackref17_made.j0 k a1 a2 l3 al (rd l3 a0_5) a0_0 a0_1 a0_2 a0_3 a0_4 a0_5 l0_6) else (none)) else (none)) else (switchbackref17_made.j0 k a1 a2 l3 al 0 a0_0 a0_1 a0_2 a0_3 a0_4 a0_5 l0_6)))) = some (r1, r2) := h
 clear h
 replace H := Option.bind_eq_some_iff.mp H
 obtain ⟨al, A50, H⟩ := H
 replace H : ((switchbackref17_Goes.f a0_0 a0_1 a0_2 a0_3 a0_4 a0_5 l0_6).bind fun t197 => (if t197 = true then (if 0 ≤ a0_5 then (if a0_5 < (l3.length : Int) then (switchbackref17_made.j0 k a1 a2 l3 al (rd l3 a0_5) a0_0 a0_1 a0_2 a0_3 a0_4 a0_5 l0_6) else (none)) else (none)) else (switchbackref17_made.j0 k a1 a2 l3 al 0 a0_0 a0_1 a0_2 a0_3 a0_4 a0_5 l0_6))) = some (r1, r2) := H
 have A5 := uZ A50
 clear A50
 replace H := Option.bind_eq_some_iff.mp H
 obtain ⟨t197, A60, H⟩ := H
 replace H : (if t197 = true then (if 0 ≤ a0_5 then (if a0_5 < (l3.length : Int) then (switchbackref17_made.j0 k a1 a2 l3 al (rd l3 a0_5) a0_0 a0_1 a0_2 a0_3 a0_4 a0_5 l0_6) else (none)) else (none)) else (switchbackref17_made.j0 k a1 a2 l3 al 0 a0_0 a0_1 a0_2 a0_3 a0_4 a0_5 l0_6)) = some (r1, r2) := H
 have A6 := uZ A60
 clear A60
 have HC7 := uZ H
 clear H
 go_enter Tryd.func49, Tryd.ntmps49
 go_upto_if 21 with (first | ((with_reducible refine gate_dst (N := 4) rfl ?_); refine box_event ?hg (N := 4) ?hd (cs := #[.int .i64 a0_0, .int .i64 a0_1, .int .i64 a0_2, .int .i64 a0_3, .int .u32 a0_4, .int .i64 a0_5, .slice A0_6 l0_6.length c0_6]) (t := 40) ?hr ?_; (case hd => rfl); (case hg => rfl); (case hr => first | (go_simp; done) | (go_simp; rfl)); intro ab hg w8 hbox hb; have n0_ := uZ (zN (by repeat (first | (with_reducible first | exact HB.out | apply zG | apply zF | apply zH) | exact HB.out)) hb); have n1_ := uZ (hbox); have n2_ := uZ ((by rw [hg]; exact (zM (by repeat (first | (with_reducible first | exact HB.out | apply zG | apply zF | apply zH) | exact HB.out))) : w.heap.size ≤ ab)); have n3_ := uZ ((by rw [hg]; exact (zM (by repeat (first | (with_reducible first | exact HB.out | apply zG | apply zF | apply zH) | exact HB.out))) : w.heap.size ≤ ab)); clear HB; have HB := n0_; have aa := n1_; have GW195 := n2_; have ac := n3_; clear n0_ n1_ n2_ n3_; clear hb hbox hg; have hcz9_0 : w8.cell? ⟨ab, 0, none⟩ = some (.int .i64 a0_0) := (zJ aa.out 0).trans rfl; have hcz9_1 : w8.cell? ⟨ab, 1, none⟩ = some (.int .i64 a0_1) := (zJ aa.out 1).trans rfl; have hcz9_2 : w8.cell? ⟨ab, 2, none⟩ = some (.int .i64 a0_2) := (zJ aa.out 2).trans rfl; have hcz9_3 : w8.cell? ⟨ab, 3, none⟩ = some (.int .i64 a0_3) := (zJ aa.out 3).trans rfl; have hcz9_4 : w8.cell? ⟨ab, 4, none⟩ = some (.int .u32 a0_4) := (zJ aa.out 4).trans rfl; have hcz9_5 : w8.cell? ⟨ab, 5, none⟩ = some (.int .i64 a0_5) := (zJ aa.out 5).trans rfl; have hcz9_6 : w8.cell? ⟨ab, 6, none⟩ = some (.slice A0_6 l0_6.length c0_6) := (zJ aa.out 6).trans rfl; have hfz9_0 := zI aa.out 0; have hfz9_1 := zI aa.out 1; have hfz9_2 := zI aa.out 2; have hfz9_3 := zI aa.out 3; have hfz9_4 := zI aa.out 4; have hfz9_5 := zI aa.out 5; have hfz9_6 := zI aa.out 6) | ((with_reducible refine gate_callee (f := 51) rfl ?_); refine goesL_ (some 18) rfl rfl Tryd.func51 (by kernel_rfl) rfl #[.int .i64 a0_0] rfl (by (try simp only [zS, List.map_cons, List.map_nil]); first | done | rfl | (simp only [zT, zU]; rfl)) ?_; (with_reducible refine (switchbackref16_Branch.calls a0_0 al _ A5.out).mono ?_); rintro e w' ⟨rfl, ⟨nd, rfl⟩⟩; refine ⟨_, rfl, ?_⟩) | ((with_reducible refine gate_callee (f := 27) rfl ?_); refine goesL_ (some 20) rfl rfl Tryd.func27 (by kernel_rfl) rfl #[.agg #[.int .i64 a0_0, .int .i64 a0_1, .int .i64 a0_2, .int .i64 a0_3, .int .u32 a0_4, .int .i64 a0_5, .slice A0_6 l0_6.length c0_6]] rfl (by (try simp only [zS, List.map_cons, List.map_nil]); first | done | rfl | (simp only [zT, zU]; rfl)) ?_; (with_reducible refine (switchbackref17_Goes.calls a0_0 a0_1 a0_2 a0_3 a0_4 a0_5 _ _ l0_6 t197 _ ?side1 ?side2 A6.out).mono ?_); (case side1 => repeat (first | exact (Kd.C_below HR0_6.out (uC HB.out ac.out)) | (with_reducible refine Kd.C_alloc ?_ _) | (with_reducible refine Kd.C_drewN ?_ _) | (with_reducible refine Kd.C_drew ?_))); (case side2 => exact HC0_6.out); rintro e w10 ⟨rfl, hb⟩; refine ⟨_, rfl, ?_⟩; have n0_ := uZ (zK (g := ab) (o := .cells #[.int .i64 a0_0, .int .i64 a0_1, .int .i64 a0_2, .int .i64 a0_3, .int .u32 a0_4, .int .i64 a0_5, .slice A0_6 l0_6.length c0_6] 40 (0, 0)) (uK aa.out) hb); have n1_ := uZ (zN (uC HB.out ac.out) hb); clear aa; clear HB; have aa := n0_; have HB := n1_; clear n0_ n1_; (try clear hb); (try clear hb2); (try clear hk); (try clear hi)))
 (try simp only [Act.put, zO, zP, zQ])
 go_cut [11] (fun v11 wc => ∃ (kq : Nat) (ad : Int), v11 = .int .i64 ad ∧ Aside0 (switchbackref17_made.j0 kq a1 a2 l3 al ad a0_0 a0_1 a0_2 a0_3 a0_4 a0_5 l0_6 = some (r1, r2)) ∧ Aside0 (kq ≤ k) ∧ Aside0 (wc.heap[ab]? = some (.cells #[.int .i64 a0_0, .int .i64 a0_1, .int .i64 a0_2, .int .i64 a0_3, .int .u32 a0_4, .int .i64 a0_5, (.slice A0_6 l0_6.length c0_6)] 40 (0, 0))) ∧ Aside0 (Below w.heap.size w wc))
 case first =>
  have H := HC7.out
  clear HC7
  by_cases c11 : t197 = true
  ·subst c11
   have H1 : (if 0 ≤ a0_5 then (if a0_5 < (l3.length : Int) then (switchbackref17_made.j0 k a1 a2 l3 al (rd l3 a0_5) a0_0 a0_1 a0_2 a0_3 a0_4 a0_5 l0_6) else (none)) else (none)) = some (r1, r2) := by rw [if_pos rfl] at H; exact H
   clear H
   have H := H1
   clear H1
   by_cases c12 : 0 ≤ a0_5
   ·rw [if_pos c12] at H
    have c12b0 : decide (0 ≤ a0_5) = true := decide_eq_true c12
    clear c12
    (first | rw [c12b0] | (simp only [i64_w, i32_w]; rw [c12b0]) | skip)
    by_cases c13 : a0_5 < (l3.length : Int)
    ·rw [if_pos c13] at H
     have c13b0 : decide (a0_5 < (l3.length : Int)) = true := decide_eq_true c13
     clear c13
     have H' := uZ H
     clear H
     have hcz14_0 : w10.cell? ⟨ab, 0, none⟩ = some (.int .i64 a0_0) := (zJ aa.out 0).trans rfl
     have hcz14_1 : w10.cell? ⟨ab, 1, none⟩ = some (.int .i64 a0_1) := (zJ aa.out 1).trans rfl
     have hcz14_2 : w10.cell? ⟨ab, 2, none⟩ = some (.int .i64 a0_2) := (zJ aa.out 2).trans rfl
     have hcz14_3 : w10.cell? ⟨ab, 3, none⟩ = some (.int .i64 a0_3) := (zJ aa.out 3).trans rfl
     have hcz14_4 : w10.cell? ⟨ab, 4, none⟩ = some (.int .u32 a0_4) := (zJ aa.out 4).trans rfl
     have hcz14_5 : w10.cell? ⟨ab, 5, none⟩ = some (.int .i64 a0_5) := (zJ aa.out 5).trans rfl
     have hcz14_6 : w10.cell? ⟨ab, 6, none⟩ = some (.slice A0_6 l0_6.length c0_6) := (zJ aa.out 6).trans rfl
     have hfz14_0 := zI aa.out 0
     have hfz14_1 := zI aa.out 1
     have hfz14_2 := zI aa.out 2
     have hfz14_3 := zI aa.out 3
     have hfz14_4 := zI aa.out 4
     have hfz14_5 := zI aa.out 5
     have hfz14_6 := zI aa.out 6
     have p198 : 0 ≤ (a0_5 : Int) := of_decide_eq_true (by first | (with_reducible assumption) | assumption)
     have q198 : a0_5 < (l3.length : Int) := of_decide_eq_true (by first | (with_reducible assumption) | assumption)
     obtain ⟨ad198, e198, ap⟩ := Kd.at_int HR3.out a0_5 p198 q198
     cases e198
     replace ap := (HB.out.cell (World.block_lt_of_cell? w _ ap)).trans ap
     replace p198 := eq_true p198
     replace q198 := eq_true q198
     go_wp2
     go_meet
     case rel => exact ⟨_, (rd l3 a0_5), (by first | rfl | (simp; done) | (simp [*]; done)), H', ⟨by first | omega | exact Nat.le_refl _⟩, ⟨uK aa.out⟩, ⟨uC HB.out ac.out⟩⟩
    rw [if_neg c13] at H
    exact absurd H (by simp)
   rw [if_neg c12] at H
   exact absurd H (by simp)
  replace c11 := Bool.eq_false_iff.mpr c11
  subst c11
  have H1 : (switchbackref17_made.j0 k a1 a2 l3 al 0 a0_0 a0_1 a0_2 a0_3 a0_4 a0_5 l0_6) = some (r1, r2) := by rw [if_neg (show ¬ (false = true) by decide)] at H; exact H
  clear H
  have H := H1
  clear H1
  have H' := uZ H
  clear H
  go_wp2
  go_meet
  case rel => exact ⟨_, (0), (by first | rfl | (simp; done) | (simp [*]; done)), H', ⟨by first | omega | exact Nat.le_refl _⟩, ⟨uK aa.out⟩, ⟨uC HB.out ac.out⟩⟩
 case rest =>
  clear HC7
  try clear c1
  try clear p1
  try clear q1
  try clear hx1
  try clear c2
  try clear p2
  try clear c3
  try clear c4
  try clear c5
  try clear c11
  try clear c12
  try clear c12b0
  try clear c13
  try clear c13b0
  try clear hcz14_0
  try clear hcz14_1
  try clear hcz14_2
  try clear hcz14_3
  try clear hcz14_4
  try clear hcz14_5
  try clear hcz14_6
  try clear hcz9_0
  try clear hcz9_1
  try clear hcz9_2
  try clear hcz9_3
  try clear hcz9_4
  try clear hcz9_5
  try clear hcz9_6
  try clear hfz14_0
  try clear hfz14_1
  try clear hfz14_2
  try clear hfz14_3
  try clear hfz14_4
  try clear hfz14_5
  try clear hfz14_6
  try clear hfz9_0
  try clear hfz9_1
  try clear hfz9_2
  try clear hfz9_3
  try clear hfz9_4
  try clear hfz9_5
  try clear hfz9_6
  try clear ap
  try clear p198
  try clear q198
  obtain ⟨kq, ad, rfl, HA, HJ6, aa, HB⟩ := hcut
  cases kq with
  | zero => exact absurd HA.out (by simp [switchbackref17_made.j0])
  | succ kj6 =>
   have H := HA.out
   clear HA
   simp only [switchbackref17_made.j0] at H
   by_cases c15 : a0_0 = 0
   ·rw [if_pos c15] at H
    have c15b0 : (a0_0 == 0) = true := beq_iff_eq.mpr c15
    have c15b1 : (a0_0 != 0) = false := bne_eq_false_iff_eq.mpr c15
    clear c15
    simp only [Option.some.injEq, Prod.mk.injEq] at H
    obtain ⟨rfl, rfl⟩ := H
    have hcz16_0 : wc.cell? ⟨ab, 0, none⟩ = some (.int .i64 a0_0) := (zJ aa.out 0).trans rfl
    have hcz16_1 : wc.cell? ⟨ab, 1, none⟩ = some (.int .i64 a0_1) := (zJ aa.out 1).trans rfl
    have hcz16_2 : wc.cell? ⟨ab, 2, none⟩ = some (.int .i64 a0_2) := (zJ aa.out 2).trans rfl
    have hcz16_3 : wc.cell? ⟨ab, 3, none⟩ = some (.int .i64 a0_3) := (zJ aa.out 3).trans rfl
    have hcz16_4 : wc.cell? ⟨ab, 4, none⟩ = some (.int .u32 a0_4) := (zJ aa.out 4).trans rfl
    have hcz16_5 : wc.cell? ⟨ab, 5, none⟩ = some (.int .i64 a0_5) := (zJ aa.out 5).trans rfl
    have hcz16_6 : wc.cell? ⟨ab, 6, none⟩ = some (.slice A0_6 l0_6.length c0_6) := (zJ aa.out 6).trans rfl
    have hfz16_0 := zI aa.out 0
    have hfz16_1 := zI aa.out 1
    have hfz16_2 := zI aa.out 2
    have hfz16_3 := zI aa.out 3
    have hfz16_4 := zI aa.out 4
    have hfz16_5 := zI aa.out 5
    have hfz16_6 := zI aa.out 6
    go_wp2
    go_ret2
    exact ⟨_, _, by first | rfl | (simp [errW_none, errW_some] <;> rfl) | (simp [*, errW_none, errW_some] <;> rfl), by first | exact Kd.R_nil _ _ _ _ _ | exact Kd.N_nil _ _ _ _ _ | exact Kd.V_nil _ _ _ _ _ | exact Kd.Q_nil _ _ _ _ _ | exact Kd.S_nil _ _ _ _ _, by first | exact Kd.R_nil _ _ _ _ _ | exact Kd.N_nil _ _ _ _ _ | exact Kd.V_nil _ _ _ _ _ | exact Kd.Q_nil _ _ _ _ _ | exact Kd.S_nil _ _ _ _ _, by repeat (first | (with_reducible first | exact HB.out | apply zG | apply zF | apply zH | refine zL ?_ ac.out) | exact HB.out)⟩
   rw [if_neg c15] at H
   have c15b0 : (a0_0 == 0) = false := beq_eq_false_iff_ne.mpr c15
   have c15b1 : (a0_0 != 0) = true := bne_iff_ne.mpr c15
   have HC17 := uZ H
   clear H
   have hcz18_0 : wc.cell? ⟨ab, 0, none⟩ = some (.int .i64 a0_0) := (zJ aa.out 0).trans rfl
   have hcz18_1 : wc.cell? ⟨ab, 1, none⟩ = some (.int .i64 a0_1) := (zJ aa.out 1).trans rfl
   have hcz18_2 : wc.cell? ⟨ab, 2, none⟩ = some (.int .i64 a0_2) := (zJ aa.out 2).trans rfl
   have hcz18_3 : wc.cell? ⟨ab, 3, none⟩ = some (.int .i64 a0_3) := (zJ aa.out 3).trans rfl
   have hcz18_4 : wc.cell? ⟨ab, 4, none⟩ = some (.int .u32 a0_4) := (zJ aa.out 4).trans rfl
   have hcz18_5 : wc.cell? ⟨ab, 5, none⟩ = some (.int .i64 a0_5) := (zJ aa.out 5).trans rfl
   have hcz18_6 : wc.cell? ⟨ab, 6, none⟩ = some (.slice A0_6 l0_6.length c0_6) := (zJ aa.out 6).trans rfl
   have hfz18_0 := zI aa.out 0
   have hfz18_1 := zI aa.out 1
   have hfz18_2 := zI aa.out 2
   have hfz18_3 := zI aa.out 3
   have hfz18_4 := zI aa.out 4
   have hfz18_5 := zI aa.out 5
   have hfz18_6 := zI aa.out 6
   go_upto_region 8 with (fail)
   go_cut [31] (fun v31 wc => ∃ (kq : Nat) (x31_16 : Bool), v31 = .bool x31_16 ∧ Aside0 (switchbackref17_made.j1 kq a1 a2 l3 al ad x31_16 a0_0 a0_1 a0_2 a0_3 a0_4 a0_5 l0_6 = some (r1, r2)) ∧ Aside0 (kq ≤ kj6) ∧ Aside0 (wc.heap[ab]? = some (.cells #[.int .i64 a0_0, .int .i64 a0_1, .int .i64 a0_2, .int .i64 a0_3, .int .u32 a0_4, .int .i64 a0_5, (.slice A0_6 l0_6.length c0_6)] 40 (0, 0))) ∧ Aside0 (Below w.heap.size w wc))
   case first =>
    have H := HC17.out
    clear HC17
    by_cases c19 : al = true
    ·subst c19
     have H1 : (switchbackref17_made.j1 kj6 a1 a2 l3 true ad a1 a0_0 a0_1 a0_2 a0_3 a0_4 a0_5 l0_6) = some (r1, r2) := by rw [if_pos rfl] at H; exact H
     clear H
     have H := H1
     clear H1
     have H' := uZ H
     clear H
     go_wp2
     go_meet
     case rel => exact ⟨_, (a1), (by first | rfl | (simp; done) | (simp [*]; done)), H', ⟨by have := HJ6.out; first | omega | exact Nat.le_refl _⟩, ⟨uK aa.out⟩, ⟨uC HB.out ac.out⟩⟩
    replace c19 := Bool.eq_false_iff.mpr c19
    subst c19
    have H1 : (switchbackref17_made.j1 kj6 a1 a2 l3 false ad false a0_0 a0_1 a0_2 a0_3 a0_4 a0_5 l0_6) = some (r1, r2) := by rw [if_neg (show ¬ (false = true) by decide)] at H; exact H
    clear H
    have H := H1
    clear H1
    have H' := uZ H
    clear H
    go_wp2
    go_meet
    case rel => exact ⟨_, (false), (by first | rfl | (simp; done) | (simp [*]; done)), H', ⟨by have := HJ6.out; first | omega | exact Nat.le_refl _⟩, ⟨uK aa.out⟩, ⟨uC HB.out ac.out⟩⟩
   case rest =>
    clear HC17
    try clear c1
    try clear p1
    try clear q1
    try clear hx1
    try clear c2
    try clear p2
    try clear c3
    try clear c4
    try clear c5
    try clear c11
    try clear c12
    try clear c12b0
    try clear c13
    try clear c13b0
    try clear c15
    try clear c15b0
    try clear c15b1
    try clear c19
    try clear p19
    try clear q19
    try clear hx19
    try clear hcz14_0
    try clear hcz14_1
    try clear hcz14_2
    try clear hcz14_3
    try clear hcz14_4
    try clear hcz14_5
    try clear hcz14_6
    try clear hcz16_0
    try clear hcz16_1
    try clear hcz16_2
    try clear hcz16_3
    try clear hcz16_4
    try clear hcz16_5
    try clear hcz16_6
    try clear hcz18_0
    try clear hcz18_1
    try clear hcz18_2
    try clear hcz18_3
    try clear hcz18_4
    try clear hcz18_5
    try clear hcz18_6
    try clear hcz9_0
    try clear hcz9_1
    try clear hcz9_2
    try clear hcz9_3
    try clear hcz9_4
    try clear hcz9_5
    try clear hcz9_6
    try clear hfz14_0
    try clear hfz14_1
    try clear hfz14_2
    try clear hfz14_3
    try clear hfz14_4
    try clear hfz14_5
    try clear hfz14_6
    try clear hfz16_0
    try clear hfz16_1
    try clear hfz16_2
    try clear hfz16_3
    try clear hfz16_4
    try clear hfz16_5
    try clear hfz16_6
    try clear hfz18_0
    try clear hfz18_1
    try clear hfz18_2
    try clear hfz18_3
    try clear hfz18_4
    try clear hfz18_5
    try clear hfz18_6
    try clear hfz9_0
    try clear hfz9_1
    try clear hfz9_2
    try clear hfz9_3
    try clear hfz9_4
    try clear hfz9_5
    try clear hfz9_6
    try clear ap
    try clear p1
    try clear p198
    try clear p2
    try clear q1
    try clear q198
    obtain ⟨kq, x31_16, rfl, HA, HJ16, aa, HB⟩ := hcut
    cases kq with
    | zero => exact absurd HA.out (by simp [switchbackref17_made.j1])
    | succ kj16 =>
     have H := HA.out
     clear HA
     simp only [switchbackref17_made.j1] at H
     by_cases c20 : x31_16 = true
     ·subst c20
      have H1 : ((switchbackref17_Other.f a0_0).bind fun am => ((switchbackref17_word.f am a0_1 a0_2 2).bind fun ai => ((switchbackref17_word.f 41 0 0 0).bind fun ak => (some ((([ai, ak, (ad) % 4294967296] : List Int)), (([1, 1, 2] : List Int))))))) = some (r1, r2) := by rw [if_pos rfl] at H; exact H
      clear H
      have H := H1
      clear H1
      replace H := Option.bind_eq_some_iff.mp H
      obtain ⟨am, A210, H⟩ := H
      replace H : ((switchbackref17_word.f am a0_1 a0_2 2).bind fun ai => ((switchbackref17_word.f 41 0 0 0).bind fun ak => (some ((([ai, ak, (ad) % 4294967296] : List Int)), (([1, 1, 2] : List Int)))))) = some (r1, r2) := H
      have A21 := uZ A210
      clear A210
      replace H := Option.bind_eq_some_iff.mp H
      obtain ⟨ai, A220, H⟩ := H
      replace H : ((switchbackref17_word.f 41 0 0 0).bind fun ak => (some ((([ai, ak, (ad) % 4294967296] : List Int)), (([1, 1, 2] : List Int))))) = some (r1, r2) := H
      have A22 := uZ A220
      clear A220
      replace H := Option.bind_eq_some_iff.mp H
      obtain ⟨ak, A230, H⟩ := H
      replace H : (some ((([ai, ak, (ad) % 4294967296] : List Int)), (([1, 1, 2] : List Int)))) = some (r1, r2) := H
      have A23 := uZ A230
      clear A230
      obtain ⟨y202, hy202⟩ : ∃ y_ : List Int, y_ = (([ai, ak, (ad) % 4294967296] : List Int)) := ⟨_, rfl⟩
      replace H : (some (y202, (([1, 1, 2] : List Int)))) = some (r1, r2) := by first | (rw [hy202]; with_reducible exact H) | (have H2_ := (Option.bind_some _ _).symm.trans H; rw [hy202]; with_reducible exact H2_) | (have H2_ := (Option.bind_some _ _).symm.trans H; with_reducible exact H2_) | with_reducible exact H | (rw [hy202]; exact H) | exact H
      have Ny202 := uZ hy202
      clear hy202
      obtain ⟨y205, hy205⟩ : ∃ y_ : List Int, y_ = (([1, 1, 2] : List Int)) := ⟨_, rfl⟩
      replace H : (some (y202, y205)) = some (r1, r2) := by first | (rw [hy205]; with_reducible exact H) | (have H2_ := (Option.bind_some _ _).symm.trans H; rw [hy205]; with_reducible exact H2_) | (have H2_ := (Option.bind_some _ _).symm.trans H; with_reducible exact H2_) | with_reducible exact H | (rw [hy205]; exact H) | exact H
      have Ny205 := uZ hy205
      clear hy205
      simp only [Option.some.injEq, Prod.mk.injEq] at H
      obtain ⟨rfl, rfl⟩ := H
      try go_wp2
      have n0_ := uZ (blk_drew aa.out)
      have n1_ := uZ (zH HB.out)
      clear aa
      clear HB
      have aa := n0_
      have HB := n1_
      clear n0_ n1_
      refine start_ (n := 15) (S := fun w' => w'.cell? ⟨ab, 0, none⟩ = some (.int .i64 a0_0) ∧ w'.cell? ⟨ab, 1, none⟩ = some (.int .i64 a0_1) ∧ w'.cell? ⟨ab, 2, none⟩ = some (.int .i64 a0_2) ∧ w'.cell? ⟨ab, 3, none⟩ = some (.int .i64 a0_3) ∧ w'.cell? ⟨ab, 4, none⟩ = some (.int .u32 a0_4) ∧ w'.cell? ⟨ab, 5, none⟩ = some (.int .i64 a0_5) ∧ w'.cell? ⟨ab, 6, none⟩ = some (.slice A0_6 l0_6.length c0_6)) (ds := []) #[false, false, false, false, false, false, false, false, false, false, false, false, false, false, false] (by kernel_rfl) rfl rfl ⟨(zJ aa.out 0).trans rfl, (zJ aa.out 1).trans rfl, (zJ aa.out 2).trans rfl, (zJ aa.out 3).trans rfl, (zJ aa.out 4).trans rfl, (zJ aa.out 5).trans rfl, (zJ aa.out 6).trans rfl⟩ (fun hHeld => ?_); refine with_tabW switchbackref17_made.tab9 switchbackref17_made.bits9 (fun HT_ HW_ => ?_)
      generalize wc.drew = w24 at aa HB hHeld ⊢
      refine pure_ (i := 0) (N := some 36) (v := ?_) (a' := ?_) #[true, false, false, false, false, false, false, false, false, false, false, false, false, false, false] rfl rfl (zR HT_.out (by kernel_rfl)) (fun _ _ _ h => h) (Or.inl ⟨by rfl, ?_⟩) ?_ ?_
      rotate_left
      ·intro w'
       go_simp
       with_reducible rfl
      rotate_left
      ·simp only [Act.put, zO, zP, zQ, i64_w, i32_w]
       rfl
      refine pure_ (i := 3) (N := some 39) (v := ?_) (a' := ?_) #[true, false, false, true, false, false, false, false, false, false, false, false, false, false, false] rfl rfl (zR HT_.out (by kernel_rfl)) (fun _ _ _ h => h) (Or.inl ⟨by rfl, ?_⟩) ?_ ?_
      rotate_left
      ·intro w'
       go_simp
       with_reducible rfl
      rotate_left
      ·simp only [Act.put, zO, zP, zQ, i64_w, i32_w]
       rfl
      refine pure_ (i := 5) (N := some 41) (v := ?_) (a' := ?_) #[true, false, false, true, false, true, false, false, false, false, false, false, false, false, false] rfl rfl (zR HT_.out (by kernel_rfl)) (fun _ _ _ h => h) (Or.inl ⟨by rfl, ?_⟩) ?_ ?_
      rotate_left
      ·intro w'
       go_simp
       with_reducible rfl
      rotate_left
      ·simp only [Act.put, zO, zP, zQ, i64_w, i32_w]
       rfl
      refine pure_ (i := 9) (N := some 45) (v := ?_) (a' := ?_) #[true, false, false, true, false, true, false, false, false, true, false, false, false, false, false] rfl rfl (zR HT_.out (by kernel_rfl)) (fun _ _ _ h => h) (Or.inl ⟨by rfl, ?_⟩) ?_ ?_
      rotate_left
      ·intro w'
       go_simp
       with_reducible rfl
      rotate_left
      ·simp only [Act.put, zO, zP, zQ, i64_w, i32_w]
       rfl
      refine pure_ (i := 10) (N := some 46) (v := ?_) (a' := ?_) #[true, false, false, true, false, true, false, false, false, true, true, false, false, false, false] rfl rfl (zR HT_.out (by kernel_rfl)) (fun _ _ _ h => h) (Or.inl ⟨by rfl, ?_⟩) ?_ ?_
      rotate_left
      ·intro w'
       go_simp
       with_reducible rfl
      rotate_left
      ·simp only [Act.put, zO, zP, zQ, i64_w, i32_w]
       rfl
      refine take_ (i := 1) (N := some 37) (v := ?_) (a' := ?_) #[true, true, false, true, false, true, false, false, false, true, true, false, false, false, false] rfl rfl (take_ofW HT_.out HW_.out (by kernel_rfl)) (fun _ _ _ h => h) (Or.inl ⟨by rfl, ?_⟩) hHeld ?_ ?_
      rotate_left
      ·rintro w' ⟨s0, s1, s2, s3, s4, s5, s6⟩
       go_simp
       with_reducible rfl
      rotate_left
      ·simp only [Act.put, zO, zP, zQ, i64_w, i32_w]
       rfl
      refine take_ (i := 4) (N := some 40) (v := ?_) (a' := ?_) #[true, true, false, true, true, true, false, false, false, true, true, false, false, false, false] rfl rfl (take_ofW HT_.out HW_.out (by kernel_rfl)) (fun _ _ _ h => h) (Or.inl ⟨by rfl, ?_⟩) hHeld ?_ ?_
      rotate_left
      ·rintro w' ⟨s0, s1, s2, s3, s4, s5, s6⟩
       go_simp
       with_reducible rfl
      rotate_left
      ·simp only [Act.put, zO, zP, zQ, i64_w, i32_w]
       rfl
      refine take_ (i := 6) (N := some 42) (v := ?_) (a' := ?_) #[true, true, false, true, true, true, true, false, false, true, true, false, false, false, false] rfl rfl (take_ofW HT_.out HW_.out (by kernel_rfl)) (fun _ _ _ h => h) (Or.inl ⟨by rfl, ?_⟩) hHeld ?_ ?_
      rotate_left
      ·rintro w' ⟨s0, s1, s2, s3, s4, s5, s6⟩
       go_simp
       with_reducible rfl
      rotate_left
      ·simp only [Act.put, zO, zP, zQ, i64_w, i32_w]
       rfl
      refine join_ (σ := Value × Value) 1 #[true, true, true, true, true, true, true, true, true, true, true, true, true, true, false] (fun s_ => [(38, .int .i64 am), (43, .int .u32 ai), (44, .int .u32 ak), (47, s_.1), (48, s_.2), (8, s_.1)]) (fun s_ w' => (w'.cell? ⟨ab, 0, none⟩ = some (.int .i64 a0_0) ∧ w'.cell? ⟨ab, 1, none⟩ = some (.int .i64 a0_1) ∧ w'.cell? ⟨ab, 2, none⟩ = some (.int .i64 a0_2) ∧ w'.cell? ⟨ab, 3, none⟩ = some (.int .i64 a0_3) ∧ w'.cell? ⟨ab, 4, none⟩ = some (.int .u32 a0_4) ∧ w'.cell? ⟨ab, 5, none⟩ = some (.int .i64 a0_5) ∧ w'.cell? ⟨ab, 6, none⟩ = some (.slice A0_6 l0_6.length c0_6)) ∧ (Kd.R (Kd.int .u32) 38 w' w.heap.size (fun _ => True) s_.1 y202) ∧ (Kd.R (Kd.int .i64) 3 w' w.heap.size (fun _ => True) s_.2 y205) ∧ (w'.heap[ab]? = some (.cells #[.int .i64 a0_0, .int .i64 a0_1, .int .i64 a0_2, .int .i64 a0_3, .int .u32 a0_4, .int .i64 a0_5, .slice A0_6 l0_6.length c0_6] 40 (0, 0))) ∧ (Below w.heap.size w w')) ?_ ?_
      rotate_left
      ·intro hJ2_7_8_11_12
       refine join_ (σ := Value) 2 #[true, true, true, true, true, true, true, true, true, true, true, true, false, true, false] (fun s_ => [(38, .int .i64 am), (43, .int .u32 ai), (44, .int .u32 ak), (47, s_), (8, s_)]) (fun s_ w' => (w'.cell? ⟨ab, 0, none⟩ = some (.int .i64 a0_0) ∧ w'.cell? ⟨ab, 1, none⟩ = some (.int .i64 a0_1) ∧ w'.cell? ⟨ab, 2, none⟩ = some (.int .i64 a0_2) ∧ w'.cell? ⟨ab, 3, none⟩ = some (.int .i64 a0_3) ∧ w'.cell? ⟨ab, 4, none⟩ = some (.int .u32 a0_4) ∧ w'.cell? ⟨ab, 5, none⟩ = some (.int .i64 a0_5) ∧ w'.cell? ⟨ab, 6, none⟩ = some (.slice A0_6 l0_6.length c0_6)) ∧ (Kd.R (Kd.int .u32) 38 w' w.heap.size (fun _ => True) s_ y202) ∧ (w'.heap[ab]? = some (.cells #[.int .i64 a0_0, .int .i64 a0_1, .int .i64 a0_2, .int .i64 a0_3, .int .u32 a0_4, .int .i64 a0_5, .slice A0_6 l0_6.length c0_6] 40 (0, 0))) ∧ (Below w.heap.size w w')) ?_ ?_
       rotate_left
       ·intro hJ2_7_8_11
        refine join_ (σ := Value) 3 #[true, true, true, true, true, true, true, true, true, true, true, false, true, false, false] (fun s_ => [(38, .int .i64 am), (43, .int .u32 ai), (44, .int .u32 ak), (48, s_)]) (fun s_ w' => (w'.cell? ⟨ab, 0, none⟩ = some (.int .i64 a0_0) ∧ w'.cell? ⟨ab, 1, none⟩ = some (.int .i64 a0_1) ∧ w'.cell? ⟨ab, 2, none⟩ = some (.int .i64 a0_2) ∧ w'.cell? ⟨ab, 3, none⟩ = some (.int .i64 a0_3) ∧ w'.cell? ⟨ab, 4, none⟩ = some (.int .u32 a0_4) ∧ w'.cell? ⟨ab, 5, none⟩ = some (.int .i64 a0_5) ∧ w'.cell? ⟨ab, 6, none⟩ = some (.slice A0_6 l0_6.length c0_6)) ∧ (Kd.R (Kd.int .i64) 3 w' w.heap.size (fun _ => True) s_ y205) ∧ (w'.heap[ab]? = some (.cells #[.int .i64 a0_0, .int .i64 a0_1, .int .i64 a0_2, .int .i64 a0_3, .int .u32 a0_4, .int .i64 a0_5, .slice A0_6 l0_6.length c0_6] 40 (0, 0))) ∧ (Below w.heap.size w w')) ?_ ?_
        rotate_left
        ·intro hJ2_7_8_12
         refine join_ (σ := Unit) 4 #[true, true, true, true, true, true, true, true, true, true, true, false, false, false, false] (fun s_ => [(38, .int .i64 am), (43, .int .u32 ai), (44, .int .u32 ak)]) (fun s_ w' => (w'.cell? ⟨ab, 0, none⟩ = some (.int .i64 a0_0) ∧ w'.cell? ⟨ab, 1, none⟩ = some (.int .i64 a0_1) ∧ w'.cell? ⟨ab, 2, none⟩ = some (.int .i64 a0_2) ∧ w'.cell? ⟨ab, 3, none⟩ = some (.int .i64 a0_3) ∧ w'.cell? ⟨ab, 4, none⟩ = some (.int .u32 a0_4) ∧ w'.cell? ⟨ab, 5, none⟩ = some (.int .i64 a0_5) ∧ w'.cell? ⟨ab, 6, none⟩ = some (.slice A0_6 l0_6.length c0_6)) ∧ (w'.heap[ab]? = some (.cells #[.int .i64 a0_0, .int .i64 a0_1, .int .i64 a0_2, .int .i64 a0_3, .int .u32 a0_4, .int .i64 a0_5, .slice A0_6 l0_6.length c0_6] 40 (0, 0))) ∧ (Below w.heap.size w w')) ?_ ?_
         rotate_left
         ·intro hJ2_7_8
          refine join_ (σ := Value) 4 #[true, true, true, true, true, true, true, true, false, true, true, false, true, false, false] (fun s_ => [(38, .int .i64 am), (43, .int .u32 ai), (48, s_)]) (fun s_ w' => (w'.cell? ⟨ab, 0, none⟩ = some (.int .i64 a0_0) ∧ w'.cell? ⟨ab, 1, none⟩ = some (.int .i64 a0_1) ∧ w'.cell? ⟨ab, 2, none⟩ = some (.int .i64 a0_2) ∧ w'.cell? ⟨ab, 3, none⟩ = some (.int .i64 a0_3) ∧ w'.cell? ⟨ab, 4, none⟩ = some (.int .u32 a0_4) ∧ w'.cell? ⟨ab, 5, none⟩ = some (.int .i64 a0_5) ∧ w'.cell? ⟨ab, 6, none⟩ = some (.slice A0_6 l0_6.length c0_6)) ∧ (Kd.R (Kd.int .i64) 3 w' w.heap.size (fun _ => True) s_ y205) ∧ (w'.heap[ab]? = some (.cells #[.int .i64 a0_0, .int .i64 a0_1, .int .i64 a0_2, .int .i64 a0_3, .int .u32 a0_4, .int .i64 a0_5, .slice A0_6 l0_6.length c0_6] 40 (0, 0))) ∧ (Below w.heap.size w w')) ?_ ?_
          rotate_left
          ·intro hJ2_7_12
           refine join_ (σ := Unit) 5 #[true, true, true, true, true, true, true, true, false, true, true, false, false, false, false] (fun s_ => [(38, .int .i64 am), (43, .int .u32 ai)]) (fun s_ w' => (w'.cell? ⟨ab, 0, none⟩ = some (.int .i64 a0_0) ∧ w'.cell? ⟨ab, 1, none⟩ = some (.int .i64 a0_1) ∧ w'.cell? ⟨ab, 2, none⟩ = some (.int .i64 a0_2) ∧ w'.cell? ⟨ab, 3, none⟩ = some (.int .i64 a0_3) ∧ w'.cell? ⟨ab, 4, none⟩ = some (.int .u32 a0_4) ∧ w'.cell? ⟨ab, 5, none⟩ = some (.int .i64 a0_5) ∧ w'.cell? ⟨ab, 6, none⟩ = some (.slice A0_6 l0_6.length c0_6)) ∧ (w'.heap[ab]? = some (.cells #[.int .i64 a0_0, .int .i64 a0_1, .int .i64 a0_2, .int .i64 a0_3, .int .u32 a0_4, .int .i64 a0_5, .slice A0_6 l0_6.length c0_6] 40 (0, 0))) ∧ (Below w.heap.size w w')) ?_ ?_
           rotate_left
           ·intro hJ2_7
            refine join_ (σ := Value) 5 #[true, true, true, true, true, true, true, false, false, true, true, false, true, false, false] (fun s_ => [(38, .int .i64 am), (48, s_)]) (fun s_ w' => (w'.cell? ⟨ab, 0, none⟩ = some (.int .i64 a0_0) ∧ w'.cell? ⟨ab, 1, none⟩ = some (.int .i64 a0_1) ∧ w'.cell? ⟨ab, 2, none⟩ = some (.int .i64 a0_2) ∧ w'.cell? ⟨ab, 3, none⟩ = some (.int .i64 a0_3) ∧ w'.cell? ⟨ab, 4, none⟩ = some (.int .u32 a0_4) ∧ w'.cell? ⟨ab, 5, none⟩ = some (.int .i64 a0_5) ∧ w'.cell? ⟨ab, 6, none⟩ = some (.slice A0_6 l0_6.length c0_6)) ∧ (Kd.R (Kd.int .i64) 3 w' w.heap.size (fun _ => True) s_ y205) ∧ (w'.heap[ab]? = some (.cells #[.int .i64 a0_0, .int .i64 a0_1, .int .i64 a0_2, .int .i64 a0_3, .int .u32 a0_4, .int .i64 a0_5, .slice A0_6 l0_6.length c0_6] 40 (0, 0))) ∧ (Below w.heap.size w w')) ?_ ?_
            rotate_left
            ·intro hJ2_12
             refine join_ (σ := Unit) 6 #[true, true, true, true, true, true, true, false, false, true, true, false, false, false, false] (fun s_ => [(38, .int .i64 am)]) (fun s_ w' => (w'.cell? ⟨ab, 0, none⟩ = some (.int .i64 a0_0) ∧ w'.cell? ⟨ab, 1, none⟩ = some (.int .i64 a0_1) ∧ w'.cell? ⟨ab, 2, none⟩ = some (.int .i64 a0_2) ∧ w'.cell? ⟨ab, 3, none⟩ = some (.int .i64 a0_3) ∧ w'.cell? ⟨ab, 4, none⟩ = some (.int .u32 a0_4) ∧ w'.cell? ⟨ab, 5, none⟩ = some (.int .i64 a0_5) ∧ w'.cell? ⟨ab, 6, none⟩ = some (.slice A0_6 l0_6.length c0_6)) ∧ (w'.heap[ab]? = some (.cells #[.int .i64 a0_0, .int .i64 a0_1, .int .i64 a0_2, .int .i64 a0_3, .int .u32 a0_4, .int .i64 a0_5, .slice A0_6 l0_6.length c0_6] 40 (0, 0))) ∧ (Below w.heap.size w w')) ?_ ?_
             rotate_left
             ·intro hJ2
              refine join_ (σ := Value) 6 #[true, true, false, true, true, true, true, false, false, true, true, false, true, false, false] (fun s_ => [(48, s_)]) (fun s_ w' => (w'.cell? ⟨ab, 0, none⟩ = some (.int .i64 a0_0) ∧ w'.cell? ⟨ab, 1, none⟩ = some (.int .i64 a0_1) ∧ w'.cell? ⟨ab, 2, none⟩ = some (.int .i64 a0_2) ∧ w'.cell? ⟨ab, 3, none⟩ = some (.int .i64 a0_3) ∧ w'.cell? ⟨ab, 4, none⟩ = some (.int .u32 a0_4) ∧ w'.cell? ⟨ab, 5, none⟩ = some (.int .i64 a0_5) ∧ w'.cell? ⟨ab, 6, none⟩ = some (.slice A0_6 l0_6.length c0_6)) ∧ (Kd.R (Kd.int .i64) 3 w' w.heap.size (fun _ => True) s_ y205) ∧ (w'.heap[ab]? = some (.cells #[.int .i64 a0_0, .int .i64 a0_1, .int .i64 a0_2, .int .i64 a0_3, .int .u32 a0_4, .int .i64 a0_5, .slice A0_6 l0_6.length c0_6] 40 (0, 0))) ∧ (Below w.heap.size w w')) ?_ ?_
              rotate_left
              ·intro hJ12
               refine two_ (i := 2) (j := 12) (Ni := some 38) (Nj := some 48) #[true, true, true, true, true, true, true, false, false, true, true, false, false, false, false] #[true, true, false, true, true, true, true, false, false, true, true, false, true, false, false] rfl rfl rfl rfl (two_of HT_.out (by kernel_rfl)) (by decide) (by decide) (fun K hK => ?_) (fun K hK => ?_)
               ·skip
                refine goes_ Tryd.func54 (by kernel_rfl) rfl #[.int .i64 a0_0] (by rfl) rfl rfl (by (try simp only [zS, List.map_cons, List.map_nil]); first | done | rfl | (simp only [zT, zU]; rfl)) ?_
                with_reducible refine (switchbackref17_Other.calls a0_0 am _ A21.out).mono ?_
                rintro e w' ⟨rfl, ⟨nd, rfl⟩⟩
                refine ⟨_, rfl, ?_⟩
                refine hK.out _ _ ⟨(zJ aa.out 0).trans rfl, (zJ aa.out 1).trans rfl, (zJ aa.out 2).trans rfl, (zJ aa.out 3).trans rfl, (zJ aa.out 4).trans rfl, (zJ aa.out 5).trans rfl, (zJ aa.out 6).trans rfl⟩ (fun hHeld => ?_)
                clear hK K
                refine norm_ (a' := ?_) ?_ ?_
                rotate_left
                ·show Act.put _ (some 38) _ = _
                 simp only [Act.put, zO, zP, zQ, i64_w, i32_w]
                 rfl
                exact norm_ (by first | (simp only [putAll, Act.put, zO, zP, zQ]; done) | (simp only [putAll, Act.put, zO, zP, zQ]; rfl)) (hJ2 () _ ⟨hHeld, (uK aa.out), (uC HB.out ac.out)⟩)
               skip
               refine Kd.R_lit_step (Kd.int .i64) _ 3 ?hg (N := 48) ?hd (xs := ([1, 1, 2] : List Int)) (inner := [.int .i64 1, .int .i64 1, .int .i64 2]) (ok := fun _ => True) (okp := fun _ => True) ?hr ?hp (fun _ hk => hk) trivial (Below.refl _ _) (Nat.le_refl _) (by simp) ?_; (case hd => rfl); (case hg => rfl); (case hr => first | (go_simp; done) | (go_simp; rfl)); (case hp => exact (Reps.one (show Kd.M (Kd.int .i64) _ _ _ 1 [.int .i64 1] from rfl) (Reps.one (show Kd.M (Kd.int .i64) _ _ _ 1 [.int .i64 1] from rfl) (Reps.one (show Kd.M (Kd.int .i64) _ _ _ 2 [.int .i64 2] from rfl) (Reps.none _ _)))))
               intro aj w25 ho26 hb hg_ hnew_
               clear hg_ hnew_
               (first | rw [← Ny205.out] at ho26 | (simp only [Int.reduceToNat] at ho26; rw [← Ny205.out] at ho26))
               have n0_ := uZ (zE ho26 (zM (uC HB.out ac.out)))
               have n1_ := uZ (zK (g := ab) (o := .cells #[.int .i64 a0_0, .int .i64 a0_1, .int .i64 a0_2, .int .i64 a0_3, .int .u32 a0_4, .int .i64 a0_5, .slice A0_6 l0_6.length c0_6] 40 (0, 0)) (uK aa.out) hb)
               have n2_ := uZ (zN (uC HB.out ac.out) hb)
               clear aa
               clear HB
               have ae := n0_
               have aa := n1_
               have HB := n2_
               clear n0_ n1_ n2_
               clear hb ho26
               refine hK.out _ _ ⟨(zJ aa.out 0).trans rfl, (zJ aa.out 1).trans rfl, (zJ aa.out 2).trans rfl, (zJ aa.out 3).trans rfl, (zJ aa.out 4).trans rfl, (zJ aa.out 5).trans rfl, (zJ aa.out 6).trans rfl⟩ (fun hHeld => ?_)
               clear hK K
               refine norm_ (a' := ?_) ?_ ?_
               rotate_left
               ·show Act.put _ (some 48) _ = _
                simp only [Act.put, zO, zP, zQ, i64_w, i32_w]
                rfl
               exact norm_ (by first | (simp only [putAll, Act.put, zO, zP, zQ]; done) | (simp only [putAll, Act.put, zO, zP, zQ]; rfl)) (hJ12 (aj) _ ⟨hHeld, (uR ae.out), (uK aa.out), (uC HB.out ac.out)⟩)
              skip
              rintro aj an ⟨hS_, h0_, h1_, h2_⟩
              have n0_ : Aside0 (Kd.R (Kd.int .i64) 3 an w.heap.size (fun _ => True) aj y205) := ⟨h0_⟩
              have n1_ : Aside0 (an.heap[ab]? = some (.cells #[.int .i64 a0_0, .int .i64 a0_1, .int .i64 a0_2, .int .i64 a0_3, .int .u32 a0_4, .int .i64 a0_5, .slice A0_6 l0_6.length c0_6] 40 (0, 0))) := ⟨h1_⟩
              have n2_ : Aside0 (Below w.heap.size w an) := ⟨h2_⟩
              clear aa
              clear HB
              clear h0_ h1_ h2_
              have ae := n0_
              have aa := n1_
              have HB := n2_
              clear n0_ n1_ n2_
              have hHeld : an.cell? ⟨ab, 0, none⟩ = some (.int .i64 a0_0) ∧ an.cell? ⟨ab, 1, none⟩ = some (.int .i64 a0_1) ∧ an.cell? ⟨ab, 2, none⟩ = some (.int .i64 a0_2) ∧ an.cell? ⟨ab, 3, none⟩ = some (.int .i64 a0_3) ∧ an.cell? ⟨ab, 4, none⟩ = some (.int .u32 a0_4) ∧ an.cell? ⟨ab, 5, none⟩ = some (.int .i64 a0_5) ∧ an.cell? ⟨ab, 6, none⟩ = some (.slice A0_6 l0_6.length c0_6) := hS_
              refine norm_ (a' := ?_) ?_ ?_
              rotate_left
              ·simp only [putAll, Act.put, zO, zP, zQ]
               rfl
              refine one_ (i := 2) (N := some 38) #[true, true, true, true, true, true, true, false, false, true, true, false, true, false, false] rfl rfl (one_of HT_.out (by kernel_rfl)) (by decide) (fun K hK => ?_)
              refine goes_ Tryd.func54 (by kernel_rfl) rfl #[.int .i64 a0_0] (by rfl) rfl rfl (by (try simp only [zS, List.map_cons, List.map_nil]); first | done | rfl | (simp only [zT, zU]; rfl)) ?_
              with_reducible refine (switchbackref17_Other.calls a0_0 am _ A21.out).mono ?_
              rintro e w' ⟨rfl, ⟨nd, rfl⟩⟩
              refine ⟨_, rfl, ?_⟩
              refine hK.out _ _ ⟨(zJ aa.out 0).trans rfl, (zJ aa.out 1).trans rfl, (zJ aa.out 2).trans rfl, (zJ aa.out 3).trans rfl, (zJ aa.out 4).trans rfl, (zJ aa.out 5).trans rfl, (zJ aa.out 6).trans rfl⟩ (fun hHeld => ?_)
              clear hK K
              refine norm_ (a' := ?_) ?_ ?_
              rotate_left
              ·show Act.put _ (some 38) _ = _
               simp only [Act.put, zO, zP, zQ, i64_w, i32_w]
               rfl
              exact norm_ (by first | (simp only [putAll, Act.put, zO, zP, zQ]; done) | (simp only [putAll, Act.put, zO, zP, zQ]; rfl)) (hJ2_12 (aj) _ ⟨hHeld, (uR ae.out), (uK aa.out), (uC HB.out ac.out)⟩)
             skip
             rintro _ w25 ⟨hS_, h0_, h1_⟩
             have n0_ : Aside0 (w25.heap[ab]? = some (.cells #[.int .i64 a0_0, .int .i64 a0_1, .int .i64 a0_2, .int .i64 a0_3, .int .u32 a0_4, .int .i64 a0_5, .slice A0_6 l0_6.length c0_6] 40 (0, 0))) := ⟨h0_⟩
             have n1_ : Aside0 (Below w.heap.size w w25) := ⟨h1_⟩
             clear aa
             clear HB
             clear h0_ h1_
             have aa := n0_
             have HB := n1_
             clear n0_ n1_
             have hHeld : w25.cell? ⟨ab, 0, none⟩ = some (.int .i64 a0_0) ∧ w25.cell? ⟨ab, 1, none⟩ = some (.int .i64 a0_1) ∧ w25.cell? ⟨ab, 2, none⟩ = some (.int .i64 a0_2) ∧ w25.cell? ⟨ab, 3, none⟩ = some (.int .i64 a0_3) ∧ w25.cell? ⟨ab, 4, none⟩ = some (.int .u32 a0_4) ∧ w25.cell? ⟨ab, 5, none⟩ = some (.int .i64 a0_5) ∧ w25.cell? ⟨ab, 6, none⟩ = some (.slice A0_6 l0_6.length c0_6) := hS_
             refine norm_ (a' := ?_) ?_ ?_
             rotate_left
             ·simp only [putAll, Act.put, zO, zP, zQ]
              rfl
             refine two_ (i := 7) (j := 12) (Ni := some 43) (Nj := some 48) #[true, true, true, true, true, true, true, true, false, true, true, false, false, false, false] #[true, true, true, true, true, true, true, false, false, true, true, false, true, false, false] rfl rfl rfl rfl (two_of HT_.out (by kernel_rfl)) (by decide) (by decide) (fun K hK => ?_) (fun K hK => ?_)
             ·skip
              refine goes_ Tryd.func70 (by kernel_rfl) rfl #[.int .i64 am, .int .i64 a0_1, .int .i64 a0_2, .int .i64 2] (by rfl) rfl rfl (by (try simp only [zS, List.map_cons, List.map_nil]); first | done | rfl | (simp only [zT, zU]; rfl)) ?_
              with_reducible refine (switchbackref17_word.calls am a0_1 a0_2 2 ai _ A22.out).mono ?_
              rintro e w26 ⟨rfl, hb⟩
              refine ⟨_, rfl, ?_⟩
              have n0_ := uZ (zK (g := ab) (o := .cells #[.int .i64 a0_0, .int .i64 a0_1, .int .i64 a0_2, .int .i64 a0_3, .int .u32 a0_4, .int .i64 a0_5, .slice A0_6 l0_6.length c0_6] 40 (0, 0)) (uK aa.out) hb)
              have n1_ := uZ (zN (uC HB.out ac.out) hb)
              clear aa
              clear HB
              have aa := n0_
              have HB := n1_
              clear n0_ n1_
              (try clear hb)
              (try clear hb2)
              (try clear hk)
              (try clear hi)
              refine hK.out _ _ ⟨(zJ aa.out 0).trans rfl, (zJ aa.out 1).trans rfl, (zJ aa.out 2).trans rfl, (zJ aa.out 3).trans rfl, (zJ aa.out 4).trans rfl, (zJ aa.out 5).trans rfl, (zJ aa.out 6).trans rfl⟩ (fun hHeld => ?_)
              clear hK K
              refine norm_ (a' := ?_) ?_ ?_
              rotate_left
              ·show Act.put _ (some 43) _ = _
               simp only [Act.put, zO, zP, zQ, i64_w, i32_w]
               rfl
              exact norm_ (by first | (simp only [putAll, Act.put, zO, zP, zQ]; done) | (simp only [putAll, Act.put, zO, zP, zQ]; rfl)) (hJ2_7 () _ ⟨hHeld, (uK aa.out), (uC HB.out ac.out)⟩)
             skip
             refine Kd.R_lit_step (Kd.int .i64) _ 3 ?hg (N := 48) ?hd (xs := ([1, 1, 2] : List Int)) (inner := [.int .i64 1, .int .i64 1, .int .i64 2]) (ok := fun _ => True) (okp := fun _ => True) ?hr ?hp (fun _ hk => hk) trivial (Below.refl _ _) (Nat.le_refl _) (by simp) ?_; (case hd => rfl); (case hg => rfl); (case hr => first | (go_simp; done) | (go_simp; rfl)); (case hp => exact (Reps.one (show Kd.M (Kd.int .i64) _ _ _ 1 [.int .i64 1] from rfl) (Reps.one (show Kd.M (Kd.int .i64) _ _ _ 1 [.int .i64 1] from rfl) (Reps.one (show Kd.M (Kd.int .i64) _ _ _ 2 [.int .i64 2] from rfl) (Reps.none _ _)))))
             intro aj w26 ho27 hb hg_ hnew_
             clear hg_ hnew_
             (first | rw [← Ny205.out] at ho27 | (simp only [Int.reduceToNat] at ho27; rw [← Ny205.out] at ho27))
             have n0_ := uZ (zE ho27 (zM (uC HB.out ac.out)))
             have n1_ := uZ (zK (g := ab) (o := .cells #[.int .i64 a0_0, .int .i64 a0_1, .int .i64 a0_2, .int .i64 a0_3, .int .u32 a0_4, .int .i64 a0_5, .slice A0_6 l0_6.length c0_6] 40 (0, 0)) (uK aa.out) hb)
             have n2_ := uZ (zN (uC HB.out ac.out) hb)
             clear aa
             clear HB
             have ae := n0_
             have aa := n1_
             have HB := n2_
             clear n0_ n1_ n2_
             clear hb ho27
             refine hK.out _ _ ⟨(zJ aa.out 0).trans rfl, (zJ aa.out 1).trans rfl, (zJ aa.out 2).trans rfl, (zJ aa.out 3).trans rfl, (zJ aa.out 4).trans rfl, (zJ aa.out 5).trans rfl, (zJ aa.out 6).trans rfl⟩ (fun hHeld => ?_)
             clear hK K
             refine norm_ (a' := ?_) ?_ ?_
             rotate_left
             ·show Act.put _ (some 48) _ = _
              simp only [Act.put, zO, zP, zQ, i64_w, i32_w]
              rfl
             exact norm_ (by first | (simp only [putAll, Act.put, zO, zP, zQ]; done) | (simp only [putAll, Act.put, zO, zP, zQ]; rfl)) (hJ2_12 (aj) _ ⟨hHeld, (uR ae.out), (uK aa.out), (uC HB.out ac.out)⟩)
            skip
            rintro aj an ⟨hS_, h0_, h1_, h2_⟩
            have n0_ : Aside0 (Kd.R (Kd.int .i64) 3 an w.heap.size (fun _ => True) aj y205) := ⟨h0_⟩
            have n1_ : Aside0 (an.heap[ab]? = some (.cells #[.int .i64 a0_0, .int .i64 a0_1, .int .i64 a0_2, .int .i64 a0_3, .int .u32 a0_4, .int .i64 a0_5, .slice A0_6 l0_6.length c0_6] 40 (0, 0))) := ⟨h1_⟩
            have n2_ : Aside0 (Below w.heap.size w an) := ⟨h2_⟩
            clear aa
            clear HB
            clear h0_ h1_ h2_
            have ae := n0_
            have aa := n1_
            have HB := n2_
            clear n0_ n1_ n2_
            have hHeld : an.cell? ⟨ab, 0, none⟩ = some (.int .i64 a0_0) ∧ an.cell? ⟨ab, 1, none⟩ = some (.int .i64 a0_1) ∧ an.cell? ⟨ab, 2, none⟩ = some (.int .i64 a0_2) ∧ an.cell? ⟨ab, 3, none⟩ = some (.int .i64 a0_3) ∧ an.cell? ⟨ab, 4, none⟩ = some (.int .u32 a0_4) ∧ an.cell? ⟨ab, 5, none⟩ = some (.int .i64 a0_5) ∧ an.cell? ⟨ab, 6, none⟩ = some (.slice A0_6 l0_6.length c0_6) := hS_
            refine norm_ (a' := ?_) ?_ ?_
            rotate_left
            ·simp only [putAll, Act.put, zO, zP, zQ]
             rfl
            refine one_ (i := 7) (N := some 43) #[true, true, true, true, true, true, true, true, false, true, true, false, true, false, false] rfl rfl (one_of HT_.out (by kernel_rfl)) (by decide) (fun K hK => ?_)
            refine goes_ Tryd.func70 (by kernel_rfl) rfl #[.int .i64 am, .int .i64 a0_1, .int .i64 a0_2, .int .i64 2] (by rfl) rfl rfl (by (try simp only [zS, List.map_cons, List.map_nil]); first | done | rfl | (simp only [zT, zU]; rfl)) ?_
            with_reducible refine (switchbackref17_word.calls am a0_1 a0_2 2 ai _ A22.out).mono ?_
            rintro e w28 ⟨rfl, hb⟩
            refine ⟨_, rfl, ?_⟩
            have n0_ := uZ (zD (uR ae.out) hb)
            have n1_ := uZ (zK (g := ab) (o := .cells #[.int .i64 a0_0, .int .i64 a0_1, .int .i64 a0_2, .int .i64 a0_3, .int .u32 a0_4, .int .i64 a0_5, .slice A0_6 l0_6.length c0_6] 40 (0, 0)) (uK aa.out) hb)
            have n2_ := uZ (zN (uC HB.out ac.out) hb)
            clear ae
            clear aa
            clear HB
            have ae := n0_
            have aa := n1_
            have HB := n2_
            clear n0_ n1_ n2_
            (try clear hb)
            (try clear hb2)
            (try clear hk)
            (try clear hi)
            refine hK.out _ _ ⟨(zJ aa.out 0).trans rfl, (zJ aa.out 1).trans rfl, (zJ aa.out 2).trans rfl, (zJ aa.out 3).trans rfl, (zJ aa.out 4).trans rfl, (zJ aa.out 5).trans rfl, (zJ aa.out 6).trans rfl⟩ (fun hHeld => ?_)
            clear hK K
            refine norm_ (a' := ?_) ?_ ?_
            rotate_left
            ·show Act.put _ (some 43) _ = _
             simp only [Act.put, zO, zP, zQ, i64_w, i32_w]
             rfl
            exact norm_ (by first | (simp only [putAll, Act.put, zO, zP, zQ]; done) | (simp only [putAll, Act.put, zO, zP, zQ]; rfl)) (hJ2_7_12 (aj) _ ⟨hHeld, (uR ae.out), (uK aa.out), (uC HB.out ac.out)⟩)
           skip
           rintro _ w26 ⟨hS_, h0_, h1_⟩
           have n0_ : Aside0 (w26.heap[ab]? = some (.cells #[.int .i64 a0_0, .int .i64 a0_1, .int .i64 a0_2, .int .i64 a0_3, .int .u32 a0_4, .int .i64 a0_5, .slice A0_6 l0_6.length c0_6] 40 (0, 0))) := ⟨h0_⟩
           have n1_ : Aside0 (Below w.heap.size w w26) := ⟨h1_⟩
           clear aa
           clear HB
           clear h0_ h1_
           have aa := n0_
           have HB := n1_
           clear n0_ n1_
           have hHeld : w26.cell? ⟨ab, 0, none⟩ = some (.int .i64 a0_0) ∧ w26.cell? ⟨ab, 1, none⟩ = some (.int .i64 a0_1) ∧ w26.cell? ⟨ab, 2, none⟩ = some (.int .i64 a0_2) ∧ w26.cell? ⟨ab, 3, none⟩ = some (.int .i64 a0_3) ∧ w26.cell? ⟨ab, 4, none⟩ = some (.int .u32 a0_4) ∧ w26.cell? ⟨ab, 5, none⟩ = some (.int .i64 a0_5) ∧ w26.cell? ⟨ab, 6, none⟩ = some (.slice A0_6 l0_6.length c0_6) := hS_
           refine norm_ (a' := ?_) ?_ ?_
           rotate_left
           ·simp only [putAll, Act.put, zO, zP, zQ]
            rfl
           refine two_ (i := 8) (j := 12) (Ni := some 44) (Nj := some 48) #[true, true, true, true, true, true, true, true, true, true, true, false, false, false, false] #[true, true, true, true, true, true, true, true, false, true, true, false, true, false, false] rfl rfl rfl rfl (two_of HT_.out (by kernel_rfl)) (by decide) (by decide) (fun K hK => ?_) (fun K hK => ?_)
           ·skip
            refine goes_ Tryd.func70 (by kernel_rfl) rfl #[.int .i64 41, .int .i64 0, .int .i64 0, .int .i64 0] (by rfl) rfl rfl (by (try simp only [zS, List.map_cons, List.map_nil]); first | done | rfl | (simp only [zT, zU]; rfl)) ?_
            with_reducible refine (switchbackref17_word.calls 41 0 0 0 ak _ A23.out).mono ?_
            rintro e an ⟨rfl, hb⟩
            refine ⟨_, rfl, ?_⟩
            have n0_ := uZ (zK (g := ab) (o := .cells #[.int .i64 a0_0, .int .i64 a0_1, .int .i64 a0_2, .int .i64 a0_3, .int .u32 a0_4, .int .i64 a0_5, .slice A0_6 l0_6.length c0_6] 40 (0, 0)) (uK aa.out) hb)
            have n1_ := uZ (zN (uC HB.out ac.out) hb)
            clear aa
            clear HB
            have aa := n0_
            have HB := n1_
            clear n0_ n1_
            (try clear hb)
            (try clear hb2)
            (try clear hk)
            (try clear hi)
            refine hK.out _ _ ⟨(zJ aa.out 0).trans rfl, (zJ aa.out 1).trans rfl, (zJ aa.out 2).trans rfl, (zJ aa.out 3).trans rfl, (zJ aa.out 4).trans rfl, (zJ aa.out 5).trans rfl, (zJ aa.out 6).trans rfl⟩ (fun hHeld => ?_)
            clear hK K
            refine norm_ (a' := ?_) ?_ ?_
            rotate_left
            ·show Act.put _ (some 44) _ = _
             simp only [Act.put, zO, zP, zQ, i64_w, i32_w]
             rfl
            exact norm_ (by first | (simp only [putAll, Act.put, zO, zP, zQ]; done) | (simp only [putAll, Act.put, zO, zP, zQ]; rfl)) (hJ2_7_8 () _ ⟨hHeld, (uK aa.out), (uC HB.out ac.out)⟩)
           skip
           refine Kd.R_lit_step (Kd.int .i64) _ 3 ?hg (N := 48) ?hd (xs := ([1, 1, 2] : List Int)) (inner := [.int .i64 1, .int .i64 1, .int .i64 2]) (ok := fun _ => True) (okp := fun _ => True) ?hr ?hp (fun _ hk => hk) trivial (Below.refl _ _) (Nat.le_refl _) (by simp) ?_; (case hd => rfl); (case hg => rfl); (case hr => first | (go_simp; done) | (go_simp; rfl)); (case hp => exact (Reps.one (show Kd.M (Kd.int .i64) _ _ _ 1 [.int .i64 1] from rfl) (Reps.one (show Kd.M (Kd.int .i64) _ _ _ 1 [.int .i64 1] from rfl) (Reps.one (show Kd.M (Kd.int .i64) _ _ _ 2 [.int .i64 2] from rfl) (Reps.none _ _)))))
           intro aj an ho28 hb hg_ hnew_
           clear hg_ hnew_
           (first | rw [← Ny205.out] at ho28 | (simp only [Int.reduceToNat] at ho28; rw [← Ny205.out] at ho28))
           have n0_ := uZ (zE ho28 (zM (uC HB.out ac.out)))
           have n1_ := uZ (zK (g := ab) (o := .cells #[.int .i64 a0_0, .int .i64 a0_1, .int .i64 a0_2, .int .i64 a0_3, .int .u32 a0_4, .int .i64 a0_5, .slice A0_6 l0_6.length c0_6] 40 (0, 0)) (uK aa.out) hb)
           have n2_ := uZ (zN (uC HB.out ac.out) hb)
           clear aa
           clear HB
           have ae := n0_
           have aa := n1_
           have HB := n2_
           clear n0_ n1_ n2_
           clear hb ho28
           refine hK.out _ _ ⟨(zJ aa.out 0).trans rfl, (zJ aa.out 1).trans rfl, (zJ aa.out 2).trans rfl, (zJ aa.out 3).trans rfl, (zJ aa.out 4).trans rfl, (zJ aa.out 5).trans rfl, (zJ aa.out 6).trans rfl⟩ (fun hHeld => ?_)
           clear hK K
           refine norm_ (a' := ?_) ?_ ?_
           rotate_left
           ·show Act.put _ (some 48) _ = _
            simp only [Act.put, zO, zP, zQ, i64_w, i32_w]
            rfl
           exact norm_ (by first | (simp only [putAll, Act.put, zO, zP, zQ]; done) | (simp only [putAll, Act.put, zO, zP, zQ]; rfl)) (hJ2_7_12 (aj) _ ⟨hHeld, (uR ae.out), (uK aa.out), (uC HB.out ac.out)⟩)
          skip
          rintro aj w28 ⟨hS_, h0_, h1_, h2_⟩
          have n0_ : Aside0 (Kd.R (Kd.int .i64) 3 w28 w.heap.size (fun _ => True) aj y205) := ⟨h0_⟩
          have n1_ : Aside0 (w28.heap[ab]? = some (.cells #[.int .i64 a0_0, .int .i64 a0_1, .int .i64 a0_2, .int .i64 a0_3, .int .u32 a0_4, .int .i64 a0_5, .slice A0_6 l0_6.length c0_6] 40 (0, 0))) := ⟨h1_⟩
          have n2_ : Aside0 (Below w.heap.size w w28) := ⟨h2_⟩
          clear aa
          clear HB
          clear h0_ h1_ h2_
          have ae := n0_
          have aa := n1_
          have HB := n2_
          clear n0_ n1_ n2_
          have hHeld : w28.cell? ⟨ab, 0, none⟩ = some (.int .i64 a0_0) ∧ w28.cell? ⟨ab, 1, none⟩ = some (.int .i64 a0_1) ∧ w28.cell? ⟨ab, 2, none⟩ = some (.int .i64 a0_2) ∧ w28.cell? ⟨ab, 3, none⟩ = some (.int .i64 a0_3) ∧ w28.cell? ⟨ab, 4, none⟩ = some (.int .u32 a0_4) ∧ w28.cell? ⟨ab, 5, none⟩ = some (.int .i64 a0_5) ∧ w28.cell? ⟨ab, 6, none⟩ = some (.slice A0_6 l0_6.length c0_6) := hS_
          refine norm_ (a' := ?_) ?_ ?_
          rotate_left
          ·simp only [putAll, Act.put, zO, zP, zQ]
           rfl
          refine one_ (i := 8) (N := some 44) #[true, true, true, true, true, true, true, true, true, true, true, false, true, false, false] rfl rfl (one_of HT_.out (by kernel_rfl)) (by decide) (fun K hK => ?_)
          refine goes_ Tryd.func70 (by kernel_rfl) rfl #[.int .i64 41, .int .i64 0, .int .i64 0, .int .i64 0] (by rfl) rfl rfl (by (try simp only [zS, List.map_cons, List.map_nil]); first | done | rfl | (simp only [zT, zU]; rfl)) ?_
          with_reducible refine (switchbackref17_word.calls 41 0 0 0 ak _ A23.out).mono ?_
          rintro e w29 ⟨rfl, hb⟩
          refine ⟨_, rfl, ?_⟩
          have n0_ := uZ (zD (uR ae.out) hb)
          have n1_ := uZ (zK (g := ab) (o := .cells #[.int .i64 a0_0, .int .i64 a0_1, .int .i64 a0_2, .int .i64 a0_3, .int .u32 a0_4, .int .i64 a0_5, .slice A0_6 l0_6.length c0_6] 40 (0, 0)) (uK aa.out) hb)
          have n2_ := uZ (zN (uC HB.out ac.out) hb)
          clear ae
          clear aa
          clear HB
          have ae := n0_
          have aa := n1_
          have HB := n2_
          clear n0_ n1_ n2_
          (try clear hb)
          (try clear hb2)
          (try clear hk)
          (try clear hi)
          refine hK.out _ _ ⟨(zJ aa.out 0).trans rfl, (zJ aa.out 1).trans rfl, (zJ aa.out 2).trans rfl, (zJ aa.out 3).trans rfl, (zJ aa.out 4).trans rfl, (zJ aa.out 5).trans rfl, (zJ aa.out 6).trans rfl⟩ (fun hHeld => ?_)
          clear hK K
          refine norm_ (a' := ?_) ?_ ?_
          rotate_left
          ·show Act.put _ (some 44) _ = _
           simp only [Act.put, zO, zP, zQ, i64_w, i32_w]
           rfl
          exact norm_ (by first | (simp only [putAll, Act.put, zO, zP, zQ]; done) | (simp only [putAll, Act.put, zO, zP, zQ]; rfl)) (hJ2_7_8_12 (aj) _ ⟨hHeld, (uR ae.out), (uK aa.out), (uC HB.out ac.out)⟩)
         skip
         rintro _ an ⟨hS_, h0_, h1_⟩
         have n0_ : Aside0 (an.heap[ab]? = some (.cells #[.int .i64 a0_0, .int .i64 a0_1, .int .i64 a0_2, .int .i64 a0_3, .int .u32 a0_4, .int .i64 a0_5, .slice A0_6 l0_6.length c0_6] 40 (0, 0))) := ⟨h0_⟩
         have n1_ : Aside0 (Below w.heap.size w an) := ⟨h1_⟩
         clear aa
         clear HB
         clear h0_ h1_
         have aa := n0_
         have HB := n1_
         clear n0_ n1_
         have hHeld : an.cell? ⟨ab, 0, none⟩ = some (.int .i64 a0_0) ∧ an.cell? ⟨ab, 1, none⟩ = some (.int .i64 a0_1) ∧ an.cell? ⟨ab, 2, none⟩ = some (.int .i64 a0_2) ∧ an.cell? ⟨ab, 3, none⟩ = some (.int .i64 a0_3) ∧ an.cell? ⟨ab, 4, none⟩ = some (.int .u32 a0_4) ∧ an.cell? ⟨ab, 5, none⟩ = some (.int .i64 a0_5) ∧ an.cell? ⟨ab, 6, none⟩ = some (.slice A0_6 l0_6.length c0_6) := hS_
         refine norm_ (a' := ?_) ?_ ?_
         rotate_left
         ·simp only [putAll, Act.put, zO, zP, zQ]
          rfl
         refine two_ (i := 11) (j := 12) (Ni := some 47) (Nj := some 48) #[true, true, true, true, true, true, true, true, true, true, true, true, false, false, false] #[true, true, true, true, true, true, true, true, true, true, true, false, true, false, false] rfl rfl rfl rfl (two_of HT_.out (by kernel_rfl)) (by decide) (by decide) (fun K hK => ?_) (fun K hK => ?_)
         ·skip
          refine Kd.R_lit_step (Kd.int .u32) _ 38 ?hg (N := 47) ?hd (xs := ([ai, ak, (ad) % 4294967296] : List Int)) (inner := [.int .u32 ai, .int .u32 ak, .int .u32 ((ad) % 4294967296)]) (ok := fun _ => True) (okp := fun _ => True) ?hr ?hp (fun _ hk => hk) trivial (Below.refl _ _) (Nat.le_refl _) (by simp) ?_; (case hd => rfl); (case hg => rfl); (case hr => first | (go_simp; done) | (go_simp; rfl)); (case hp => exact (Reps.one (show Kd.M (Kd.int .u32) _ _ _ ai [.int .u32 ai] from rfl) (Reps.one (show Kd.M (Kd.int .u32) _ _ _ ak [.int .u32 ak] from rfl) (Reps.one (show Kd.M (Kd.int .u32) _ _ _ ((ad) % 4294967296) [.int .u32 ((ad) % 4294967296)] from rfl) (Reps.none _ _)))))
          intro v203 w28 ho29 hb hg_ hnew_
          clear hg_ hnew_
          (first | rw [← Ny202.out] at ho29 | (simp only [Int.reduceToNat] at ho29; rw [← Ny202.out] at ho29))
          have n0_ := uZ (zE ho29 (zM (uC HB.out ac.out)))
          have n1_ := uZ (zK (g := ab) (o := .cells #[.int .i64 a0_0, .int .i64 a0_1, .int .i64 a0_2, .int .i64 a0_3, .int .u32 a0_4, .int .i64 a0_5, .slice A0_6 l0_6.length c0_6] 40 (0, 0)) (uK aa.out) hb)
          have n2_ := uZ (zN (uC HB.out ac.out) hb)
          clear aa
          clear HB
          have ao := n0_
          have aa := n1_
          have HB := n2_
          clear n0_ n1_ n2_
          clear hb ho29
          refine hK.out _ _ ⟨(zJ aa.out 0).trans rfl, (zJ aa.out 1).trans rfl, (zJ aa.out 2).trans rfl, (zJ aa.out 3).trans rfl, (zJ aa.out 4).trans rfl, (zJ aa.out 5).trans rfl, (zJ aa.out 6).trans rfl⟩ (fun hHeld => ?_)
          clear hK K
          refine norm_ (a' := ?_) ?_ ?_
          rotate_left
          ·show Act.put _ (some 47) _ = _
           simp only [Act.put, zO, zP, zQ, i64_w, i32_w]
           rfl
          refine pure_ (i := 13) (N := some 8) (v := ?_) (a' := ?_) #[true, true, true, true, true, true, true, true, true, true, true, true, false, true, false] rfl rfl (zR HT_.out (by kernel_rfl)) (fun _ _ _ h => h) (Or.inl ⟨by rfl, ?_⟩) ?_ ?_
          rotate_left
          ·intro w'
           go_simp
           with_reducible rfl
          rotate_left
          ·simp only [Act.put, zO, zP, zQ, i64_w, i32_w]
           rfl
          exact norm_ (by first | (simp only [putAll, Act.put, zO, zP, zQ]; done) | (simp only [putAll, Act.put, zO, zP, zQ]; rfl)) (hJ2_7_8_11 (v203) _ ⟨hHeld, (uR ao.out), (uK aa.out), (uC HB.out ac.out)⟩)
         skip
         refine Kd.R_lit_step (Kd.int .i64) _ 3 ?hg (N := 48) ?hd (xs := ([1, 1, 2] : List Int)) (inner := [.int .i64 1, .int .i64 1, .int .i64 2]) (ok := fun _ => True) (okp := fun _ => True) ?hr ?hp (fun _ hk => hk) trivial (Below.refl _ _) (Nat.le_refl _) (by simp) ?_; (case hd => rfl); (case hg => rfl); (case hr => first | (go_simp; done) | (go_simp; rfl)); (case hp => exact (Reps.one (show Kd.M (Kd.int .i64) _ _ _ 1 [.int .i64 1] from rfl) (Reps.one (show Kd.M (Kd.int .i64) _ _ _ 1 [.int .i64 1] from rfl) (Reps.one (show Kd.M (Kd.int .i64) _ _ _ 2 [.int .i64 2] from rfl) (Reps.none _ _)))))
         intro aj w28 ho29 hb hg_ hnew_
         clear hg_ hnew_
         (first | rw [← Ny205.out] at ho29 | (simp only [Int.reduceToNat] at ho29; rw [← Ny205.out] at ho29))
         have n0_ := uZ (zE ho29 (zM (uC HB.out ac.out)))
         have n1_ := uZ (zK (g := ab) (o := .cells #[.int .i64 a0_0, .int .i64 a0_1, .int .i64 a0_2, .int .i64 a0_3, .int .u32 a0_4, .int .i64 a0_5, .slice A0_6 l0_6.length c0_6] 40 (0, 0)) (uK aa.out) hb)
         have n2_ := uZ (zN (uC HB.out ac.out) hb)
         clear aa
         clear HB
         have ae := n0_
         have aa := n1_
         have HB := n2_
         clear n0_ n1_ n2_
         clear hb ho29
         refine hK.out _ _ ⟨(zJ aa.out 0).trans rfl, (zJ aa.out 1).trans rfl, (zJ aa.out 2).trans rfl, (zJ aa.out 3).trans rfl, (zJ aa.out 4).trans rfl, (zJ aa.out 5).trans rfl, (zJ aa.out 6).trans rfl⟩ (fun hHeld => ?_)
         clear hK K
         refine norm_ (a' := ?_) ?_ ?_
         rotate_left
         ·show Act.put _ (some 48) _ = _
          simp only [Act.put, zO, zP, zQ, i64_w, i32_w]
          rfl
         exact norm_ (by first | (simp only [putAll, Act.put, zO, zP, zQ]; done) | (simp only [putAll, Act.put, zO, zP, zQ]; rfl)) (hJ2_7_8_12 (aj) _ ⟨hHeld, (uR ae.out), (uK aa.out), (uC HB.out ac.out)⟩)
        skip
        rintro aj w29 ⟨hS_, h0_, h1_, h2_⟩
        have n0_ : Aside0 (Kd.R (Kd.int .i64) 3 w29 w.heap.size (fun _ => True) aj y205) := ⟨h0_⟩
        have n1_ : Aside0 (w29.heap[ab]? = some (.cells #[.int .i64 a0_0, .int .i64 a0_1, .int .i64 a0_2, .int .i64 a0_3, .int .u32 a0_4, .int .i64 a0_5, .slice A0_6 l0_6.length c0_6] 40 (0, 0))) := ⟨h1_⟩
        have n2_ : Aside0 (Below w.heap.size w w29) := ⟨h2_⟩
        clear aa
        clear HB
        clear h0_ h1_ h2_
        have ae := n0_
        have aa := n1_
        have HB := n2_
        clear n0_ n1_ n2_
        have hHeld : w29.cell? ⟨ab, 0, none⟩ = some (.int .i64 a0_0) ∧ w29.cell? ⟨ab, 1, none⟩ = some (.int .i64 a0_1) ∧ w29.cell? ⟨ab, 2, none⟩ = some (.int .i64 a0_2) ∧ w29.cell? ⟨ab, 3, none⟩ = some (.int .i64 a0_3) ∧ w29.cell? ⟨ab, 4, none⟩ = some (.int .u32 a0_4) ∧ w29.cell? ⟨ab, 5, none⟩ = some (.int .i64 a0_5) ∧ w29.cell? ⟨ab, 6, none⟩ = some (.slice A0_6 l0_6.length c0_6) := hS_
        refine norm_ (a' := ?_) ?_ ?_
        rotate_left
        ·simp only [putAll, Act.put, zO, zP, zQ]
         rfl
        refine one_ (i := 11) (N := some 47) #[true, true, true, true, true, true, true, true, true, true, true, true, true, false, false] rfl rfl (one_of HT_.out (by kernel_rfl)) (by decide) (fun K hK => ?_)
        refine Kd.R_lit_step (Kd.int .u32) _ 38 ?hg (N := 47) ?hd (xs := ([ai, ak, (ad) % 4294967296] : List Int)) (inner := [.int .u32 ai, .int .u32 ak, .int .u32 ((ad) % 4294967296)]) (ok := fun _ => True) (okp := fun _ => True) ?hr ?hp (fun _ hk => hk) trivial (Below.refl _ _) (Nat.le_refl _) (by simp) ?_; (case hd => rfl); (case hg => rfl); (case hr => first | (go_simp; done) | (go_simp; rfl)); (case hp => exact (Reps.one (show Kd.M (Kd.int .u32) _ _ _ ai [.int .u32 ai] from rfl) (Reps.one (show Kd.M (Kd.int .u32) _ _ _ ak [.int .u32 ak] from rfl) (Reps.one (show Kd.M (Kd.int .u32) _ _ _ ((ad) % 4294967296) [.int .u32 ((ad) % 4294967296)] from rfl) (Reps.none _ _)))))
        intro v203 w30 ho31 hb hg_ hnew_
        clear hg_ hnew_
        (first | rw [← Ny202.out] at ho31 | (simp only [Int.reduceToNat] at ho31; rw [← Ny202.out] at ho31))
        have n0_ := uZ (zD (uR ae.out) hb)
        have n1_ := uZ (zE ho31 (zM (uC HB.out ac.out)))
        have n2_ := uZ (zK (g := ab) (o := .cells #[.int .i64 a0_0, .int .i64 a0_1, .int .i64 a0_2, .int .i64 a0_3, .int .u32 a0_4, .int .i64 a0_5, .slice A0_6 l0_6.length c0_6] 40 (0, 0)) (uK aa.out) hb)
        have n3_ := uZ (zN (uC HB.out ac.out) hb)
        clear ae
        clear aa
        clear HB
        have ae := n0_
        have ao := n1_
        have aa := n2_
        have HB := n3_
        clear n0_ n1_ n2_ n3_
        clear hb ho31
        refine hK.out _ _ ⟨(zJ aa.out 0).trans rfl, (zJ aa.out 1).trans rfl, (zJ aa.out 2).trans rfl, (zJ aa.out 3).trans rfl, (zJ aa.out 4).trans rfl, (zJ aa.out 5).trans rfl, (zJ aa.out 6).trans rfl⟩ (fun hHeld => ?_)
        clear hK K
        refine norm_ (a' := ?_) ?_ ?_
        rotate_left
        ·show Act.put _ (some 47) _ = _
         simp only [Act.put, zO, zP, zQ, i64_w, i32_w]
         rfl
        refine pure_ (i := 13) (N := some 8) (v := ?_) (a' := ?_) #[true, true, true, true, true, true, true, true, true, true, true, true, true, true, false] rfl rfl (zR HT_.out (by kernel_rfl)) (fun _ _ _ h => h) (Or.inl ⟨by rfl, ?_⟩) ?_ ?_
        rotate_left
        ·intro w'
         go_simp
         with_reducible rfl
        rotate_left
        ·simp only [Act.put, zO, zP, zQ, i64_w, i32_w]
         rfl
        exact norm_ (by first | (simp only [putAll, Act.put, zO, zP, zQ]; done) | (simp only [putAll, Act.put, zO, zP, zQ]; rfl)) (hJ2_7_8_11_12 (v203, aj) _ ⟨hHeld, (uR ao.out), (uR ae.out), (uK aa.out), (uC HB.out ac.out)⟩)
       skip
       rintro v203 w29 ⟨hS_, h0_, h1_, h2_⟩
       have n0_ : Aside0 (Kd.R (Kd.int .u32) 38 w29 w.heap.size (fun _ => True) v203 y202) := ⟨h0_⟩
       have n1_ : Aside0 (w29.heap[ab]? = some (.cells #[.int .i64 a0_0, .int .i64 a0_1, .int .i64 a0_2, .int .i64 a0_3, .int .u32 a0_4, .int .i64 a0_5, .slice A0_6 l0_6.length c0_6] 40 (0, 0))) := ⟨h1_⟩
       have n2_ : Aside0 (Below w.heap.size w w29) := ⟨h2_⟩
       clear aa
       clear HB
       clear h0_ h1_ h2_
       have ao := n0_
       have aa := n1_
       have HB := n2_
       clear n0_ n1_ n2_
       have hHeld : w29.cell? ⟨ab, 0, none⟩ = some (.int .i64 a0_0) ∧ w29.cell? ⟨ab, 1, none⟩ = some (.int .i64 a0_1) ∧ w29.cell? ⟨ab, 2, none⟩ = some (.int .i64 a0_2) ∧ w29.cell? ⟨ab, 3, none⟩ = some (.int .i64 a0_3) ∧ w29.cell? ⟨ab, 4, none⟩ = some (.int .u32 a0_4) ∧ w29.cell? ⟨ab, 5, none⟩ = some (.int .i64 a0_5) ∧ w29.cell? ⟨ab, 6, none⟩ = some (.slice A0_6 l0_6.length c0_6) := hS_
       refine norm_ (a' := ?_) ?_ ?_
       rotate_left
       ·simp only [putAll, Act.put, zO, zP, zQ]
        rfl
       refine one_ (i := 12) (N := some 48) #[true, true, true, true, true, true, true, true, true, true, true, true, true, true, false] rfl rfl (one_of HT_.out (by kernel_rfl)) (by decide) (fun K hK => ?_)
       refine Kd.R_lit_step (Kd.int .i64) _ 3 ?hg (N := 48) ?hd (xs := ([1, 1, 2] : List Int)) (inner := [.int .i64 1, .int .i64 1, .int .i64 2]) (ok := fun _ => True) (okp := fun _ => True) ?hr ?hp (fun _ hk => hk) trivial (Below.refl _ _) (Nat.le_refl _) (by simp) ?_; (case hd => rfl); (case hg => rfl); (case hr => first | (go_simp; done) | (go_simp; rfl)); (case hp => exact (Reps.one (show Kd.M (Kd.int .i64) _ _ _ 1 [.int .i64 1] from rfl) (Reps.one (show Kd.M (Kd.int .i64) _ _ _ 1 [.int .i64 1] from rfl) (Reps.one (show Kd.M (Kd.int .i64) _ _ _ 2 [.int .i64 2] from rfl) (Reps.none _ _)))))
       intro aj w30 ho31 hb hg_ hnew_
       clear hg_ hnew_
       (first | rw [← Ny205.out] at ho31 | (simp only [Int.reduceToNat] at ho31; rw [← Ny205.out] at ho31))
       have n0_ := uZ (zD (uR ao.out) hb)
       have n1_ := uZ (zE ho31 (zM (uC HB.out ac.out)))
       have n2_ := uZ (zK (g := ab) (o := .cells #[.int .i64 a0_0, .int .i64 a0_1, .int .i64 a0_2, .int .i64 a0_3, .int .u32 a0_4, .int .i64 a0_5, .slice A0_6 l0_6.length c0_6] 40 (0, 0)) (uK aa.out) hb)
       have n3_ := uZ (zN (uC HB.out ac.out) hb)
       clear ao
       clear aa
       clear HB
       have ao := n0_
       have ae := n1_
       have aa := n2_
       have HB := n3_
       clear n0_ n1_ n2_ n3_
       clear hb ho31
       refine hK.out _ _ ⟨(zJ aa.out 0).trans rfl, (zJ aa.out 1).trans rfl, (zJ aa.out 2).trans rfl, (zJ aa.out 3).trans rfl, (zJ aa.out 4).trans rfl, (zJ aa.out 5).trans rfl, (zJ aa.out 6).trans rfl⟩ (fun hHeld => ?_)
       clear hK K
       refine norm_ (a' := ?_) ?_ ?_
       rotate_left
       ·show Act.put _ (some 48) _ = _
        simp only [Act.put, zO, zP, zQ, i64_w, i32_w]
        rfl
       exact norm_ (by first | (simp only [putAll, Act.put, zO, zP, zQ]; done) | (simp only [putAll, Act.put, zO, zP, zQ]; rfl)) (hJ2_7_8_11_12 (v203, aj) _ ⟨hHeld, (uR ao.out), (uR ae.out), (uK aa.out), (uC HB.out ac.out)⟩)
      rintro ⟨v203, aj⟩ w31 ⟨hS_, h0_, h1_, h2_, h3_⟩
      have n0_ : Aside0 (Kd.R (Kd.int .u32) 38 w31 w.heap.size (fun _ => True) v203 y202) := ⟨h0_⟩
      have n1_ : Aside0 (Kd.R (Kd.int .i64) 3 w31 w.heap.size (fun _ => True) aj y205) := ⟨h1_⟩
      have n2_ : Aside0 (w31.heap[ab]? = some (.cells #[.int .i64 a0_0, .int .i64 a0_1, .int .i64 a0_2, .int .i64 a0_3, .int .u32 a0_4, .int .i64 a0_5, .slice A0_6 l0_6.length c0_6] 40 (0, 0))) := ⟨h2_⟩
      have n3_ : Aside0 (Below w.heap.size w w31) := ⟨h3_⟩
      clear aa
      clear HB
      clear h0_ h1_ h2_ h3_
      have ao := n0_
      have ae := n1_
      have aa := n2_
      have HB := n3_
      clear n0_ n1_ n2_ n3_
      have hHeld : w31.cell? ⟨ab, 0, none⟩ = some (.int .i64 a0_0) ∧ w31.cell? ⟨ab, 1, none⟩ = some (.int .i64 a0_1) ∧ w31.cell? ⟨ab, 2, none⟩ = some (.int .i64 a0_2) ∧ w31.cell? ⟨ab, 3, none⟩ = some (.int .i64 a0_3) ∧ w31.cell? ⟨ab, 4, none⟩ = some (.int .u32 a0_4) ∧ w31.cell? ⟨ab, 5, none⟩ = some (.int .i64 a0_5) ∧ w31.cell? ⟨ab, 6, none⟩ = some (.slice A0_6 l0_6.length c0_6) := hS_
      refine norm_ (a' := ?_) ?_ ?_
      rotate_left
      ·simp only [putAll, Act.put, zO, zP, zQ]
       rfl
      refine pure_ (i := 14) (N := some 9) (v := ?_) (a' := ?_) #[true, true, true, true, true, true, true, true, true, true, true, true, true, true, true] rfl rfl (zR HT_.out (by kernel_rfl)) (fun _ _ _ h => h) (Or.inl ⟨by rfl, ?_⟩) ?_ ?_
      rotate_left
      ·intro w'
       go_simp
       with_reducible rfl
      rotate_left
      ·simp only [Act.put, zO, zP, zQ, i64_w, i32_w]
       rfl
      refine done_ (done_of HT_.out (by kernel_rfl)) ?_
      try go_wp2
      go_ret2
      exact ⟨_, _, by first | rfl | (simp [errW_none, errW_some] <;> rfl) | (simp [*, errW_none, errW_some] <;> rfl), by (with_reducible repeat (first | apply zA | apply zB | apply zC)); exact ao.out, by (with_reducible repeat (first | apply zA | apply zB | apply zC)); exact ae.out, by repeat (first | (with_reducible first | exact HB.out | apply zG | apply zF | apply zH | refine zL ?_ ac.out) | exact HB.out)⟩
     replace c20 := Bool.eq_false_iff.mpr c20
     subst c20
     have H1 : (if a0_0 = 40 then (if a1 = true then (switchbackref17_made.j2 kj16 a2 l3 al ad true a0_0 a0_1 a0_2 a0_3 a0_4 a0_5 l0_6) else (switchbackref17_made.j2 kj16 a2 l3 al ad (a0_0 == 41) a0_0 a0_1 a0_2 a0_3 a0_4 a0_5 l0_6)) else (switchbackref17_made.j2 kj16 a2 l3 al ad (a0_0 == 41) a0_0 a0_1 a0_2 a0_3 a0_4 a0_5 l0_6)) = some (r1, r2) := by rw [if_neg (show ¬ (false = true) by decide)] at H; exact H
     clear H
     have H := H1
     clear H1
     have HC32 := uZ H
     clear H
     go_upto_region 10 with (fail)
     go_cut [49] (fun v49 wc => ∃ (kq : Nat) (x49_31 : Bool), v49 = .bool x49_31 ∧ Aside0 (switchbackref17_made.j2 kq a2 l3 al ad x49_31 a0_0 a0_1 a0_2 a0_3 a0_4 a0_5 l0_6 = some (r1, r2)) ∧ Aside0 (kq ≤ kj16) ∧ Aside0 (wc.heap[ab]? = some (.cells #[.int .i64 a0_0, .int .i64 a0_1, .int .i64 a0_2, .int .i64 a0_3, .int .u32 a0_4, .int .i64 a0_5, (.slice A0_6 l0_6.length c0_6)] 40 (0, 0))) ∧ Aside0 (Below w.heap.size w wc))
     case first =>
      have H := HC32.out
      clear HC32
      by_cases c33 : a0_0 = 40
      ·rw [if_pos c33] at H
       have c33b0 : (a0_0 == 40) = true := beq_iff_eq.mpr c33
       have c33b1 : (a0_0 != 40) = false := bne_eq_false_iff_eq.mpr c33
       clear c33
       (first | rw [c33b0] | (simp only [i64_w, i32_w]; rw [c33b0]) | skip)
       by_cases c34 : a1 = true
       ·subst c34
        have H1 : (switchbackref17_made.j2 kj16 a2 l3 al ad true a0_0 a0_1 a0_2 a0_3 a0_4 a0_5 l0_6) = some (r1, r2) := by rw [if_pos rfl] at H; exact H
        clear H
        have H := H1
        clear H1
        have H' := uZ H
        clear H
        have hcz35_0 : wc.cell? ⟨ab, 0, none⟩ = some (.int .i64 a0_0) := (zJ aa.out 0).trans rfl
        have hcz35_1 : wc.cell? ⟨ab, 1, none⟩ = some (.int .i64 a0_1) := (zJ aa.out 1).trans rfl
        have hcz35_2 : wc.cell? ⟨ab, 2, none⟩ = some (.int .i64 a0_2) := (zJ aa.out 2).trans rfl
        have hcz35_3 : wc.cell? ⟨ab, 3, none⟩ = some (.int .i64 a0_3) := (zJ aa.out 3).trans rfl
        have hcz35_4 : wc.cell? ⟨ab, 4, none⟩ = some (.int .u32 a0_4) := (zJ aa.out 4).trans rfl
        have hcz35_5 : wc.cell? ⟨ab, 5, none⟩ = some (.int .i64 a0_5) := (zJ aa.out 5).trans rfl
        have hcz35_6 : wc.cell? ⟨ab, 6, none⟩ = some (.slice A0_6 l0_6.length c0_6) := (zJ aa.out 6).trans rfl
        have hfz35_0 := zI aa.out 0
        have hfz35_1 := zI aa.out 1
        have hfz35_2 := zI aa.out 2
        have hfz35_3 := zI aa.out 3
        have hfz35_4 := zI aa.out 4
        have hfz35_5 := zI aa.out 5
        have hfz35_6 := zI aa.out 6
        go_wp2
        go_meet
        case rel => exact ⟨_, (true), (by first | rfl | (simp; done) | (simp [*]; done)), H', ⟨by have := HJ6.out; have := HJ16.out; first | omega | exact Nat.le_refl _⟩, ⟨uK aa.out⟩, ⟨uC HB.out ac.out⟩⟩
       replace c34 := Bool.eq_false_iff.mpr c34
       subst c34
       have H1 : (switchbackref17_made.j2 kj16 a2 l3 al ad (a0_0 == 41) a0_0 a0_1 a0_2 a0_3 a0_4 a0_5 l0_6) = some (r1, r2) := by rw [if_neg (show ¬ (false = true) by decide)] at H; exact H
       clear H
       have H := H1
       clear H1
       have H' := uZ H
       clear H
       have hcz36_0 : wc.cell? ⟨ab, 0, none⟩ = some (.int .i64 a0_0) := (zJ aa.out 0).trans rfl
       have hcz36_1 : wc.cell? ⟨ab, 1, none⟩ = some (.int .i64 a0_1) := (zJ aa.out 1).trans rfl
       have hcz36_2 : wc.cell? ⟨ab, 2, none⟩ = some (.int .i64 a0_2) := (zJ aa.out 2).trans rfl
       have hcz36_3 : wc.cell? ⟨ab, 3, none⟩ = some (.int .i64 a0_3) := (zJ aa.out 3).trans rfl
       have hcz36_4 : wc.cell? ⟨ab, 4, none⟩ = some (.int .u32 a0_4) := (zJ aa.out 4).trans rfl
       have hcz36_5 : wc.cell? ⟨ab, 5, none⟩ = some (.int .i64 a0_5) := (zJ aa.out 5).trans rfl
       have hcz36_6 : wc.cell? ⟨ab, 6, none⟩ = some (.slice A0_6 l0_6.length c0_6) := (zJ aa.out 6).trans rfl
       have hfz36_0 := zI aa.out 0
       have hfz36_1 := zI aa.out 1
       have hfz36_2 := zI aa.out 2
       have hfz36_3 := zI aa.out 3
       have hfz36_4 := zI aa.out 4
       have hfz36_5 := zI aa.out 5
       have hfz36_6 := zI aa.out 6
       go_wp2
       go_meet
       case rel => exact ⟨_, ((a0_0 == 41)), (by first | rfl | (simp; done) | (simp [*]; done)), H', ⟨by have := HJ6.out; have := HJ16.out; first | omega | exact Nat.le_refl _⟩, ⟨uK aa.out⟩, ⟨uC HB.out ac.out⟩⟩
      rw [if_neg c33] at H
      have c33b0 : (a0_0 == 40) = false := beq_eq_false_iff_ne.mpr c33
      have c33b1 : (a0_0 != 40) = true := bne_iff_ne.mpr c33
      (first | rw [c33b0] | (simp only [i64_w, i32_w]; rw [c33b0]) | skip)
      have H' := uZ H
      clear H
      have hcz37_0 : wc.cell? ⟨ab, 0, none⟩ = some (.int .i64 a0_0) := (zJ aa.out 0).trans rfl
      have hcz37_1 : wc.cell? ⟨ab, 1, none⟩ = some (.int .i64 a0_1) := (zJ aa.out 1).trans rfl
      have hcz37_2 : wc.cell? ⟨ab, 2, none⟩ = some (.int .i64 a0_2) := (zJ aa.out 2).trans rfl
      have hcz37_3 : wc.cell? ⟨ab, 3, none⟩ = some (.int .i64 a0_3) := (zJ aa.out 3).trans rfl
      have hcz37_4 : wc.cell? ⟨ab, 4, none⟩ = some (.int .u32 a0_4) := (zJ aa.out 4).trans rfl
      have hcz37_5 : wc.cell? ⟨ab, 5, none⟩ = some (.int .i64 a0_5) := (zJ aa.out 5).trans rfl
      have hcz37_6 : wc.cell? ⟨ab, 6, none⟩ = some (.slice A0_6 l0_6.length c0_6) := (zJ aa.out 6).trans rfl
      have hfz37_0 := zI aa.out 0
      have hfz37_1 := zI aa.out 1
      have hfz37_2 := zI aa.out 2
      have hfz37_3 := zI aa.out 3
      have hfz37_4 := zI aa.out 4
      have hfz37_5 := zI aa.out 5
      have hfz37_6 := zI aa.out 6
      go_wp2
      go_meet
      case rel => exact ⟨_, ((a0_0 == 41)), (by first | rfl | (simp; done) | (simp [*]; done)), H', ⟨by have := HJ6.out; have := HJ16.out; first | omega | exact Nat.le_refl _⟩, ⟨uK aa.out⟩, ⟨uC HB.out ac.out⟩⟩
     case rest =>
      clear HC32
      try clear c2
      try clear p2
      try clear c3
      try clear c5
      try clear c7
      try clear c20
      try clear c33
      try clear c33b0
      try clear c33b1
      try clear c34
      try clear hcz35_0
      try clear hcz35_1
      try clear hcz35_2
      try clear hcz35_3
      try clear hcz35_4
      try clear hcz35_5
      try clear hcz35_6
      try clear hcz36_0
      try clear hcz36_1
      try clear hcz36_2
      try clear hcz36_3
      try clear hcz36_4
      try clear hcz36_5
      try clear hcz36_6
      try clear hcz37_0
      try clear hcz37_1
      try clear hcz37_2
      try clear hcz37_3
      try clear hcz37_4
      try clear hcz37_5
      try clear hcz37_6
      try clear hfz35_0
      try clear hfz35_1
      try clear hfz35_2
      try clear hfz35_3
      try clear hfz35_4
      try clear hfz35_5
      try clear hfz35_6
      try clear hfz36_0
      try clear hfz36_1
      try clear hfz36_2
      try clear hfz36_3
      try clear hfz36_4
      try clear hfz36_5
      try clear hfz36_6
      try clear hfz37_0
      try clear hfz37_1
      try clear hfz37_2
      try clear hfz37_3
      try clear hfz37_4
      try clear hfz37_5
      try clear hfz37_6
      obtain ⟨kq, x49_31, rfl, HA, HJ31, aa, HB⟩ := hcut
      cases kq with
      | zero => exact absurd HA.out (by simp [switchbackref17_made.j2])
      | succ kj31 =>
       have H := HA.out
       clear HA
       simp only [switchbackref17_made.j2] at H
       by_cases c38 : x49_31 = true
       ·subst c38
        have H1 : ((switchbackref17_word.f 41 0 0 0).bind fun t208 => (some ((([t208, (ad) % 4294967296] : List Int)), (([1, 2] : List Int))))) = some (r1, r2) := by rw [if_pos rfl] at H; exact H
        clear H
        have H := H1
        clear H1
        replace H := Option.bind_eq_some_iff.mp H
        obtain ⟨t208, A390, H⟩ := H
        replace H : (some ((([t208, (ad) % 4294967296] : List Int)), (([1, 2] : List Int)))) = some (r1, r2) := H
        have A39 := uZ A390
        clear A390
        obtain ⟨y209, hy209⟩ : ∃ y_ : List Int, y_ = (([t208, (ad) % 4294967296] : List Int)) := ⟨_, rfl⟩
        replace H : (some (y209, (([1, 2] : List Int)))) = some (r1, r2) := by first | (rw [hy209]; with_reducible exact H) | (have H2_ := (Option.bind_some _ _).symm.trans H; rw [hy209]; with_reducible exact H2_) | (have H2_ := (Option.bind_some _ _).symm.trans H; with_reducible exact H2_) | with_reducible exact H | (rw [hy209]; exact H) | exact H
        have Ny209 := uZ hy209
        clear hy209
        obtain ⟨y212, hy212⟩ : ∃ y_ : List Int, y_ = (([1, 2] : List Int)) := ⟨_, rfl⟩
        replace H : (some (y209, y212)) = some (r1, r2) := by first | (rw [hy212]; with_reducible exact H) | (have H2_ := (Option.bind_some _ _).symm.trans H; rw [hy212]; with_reducible exact H2_) | (have H2_ := (Option.bind_some _ _).symm.trans H; with_reducible exact H2_) | with_reducible exact H | (rw [hy212]; exact H) | exact H
        have Ny212 := uZ hy212
        clear hy212
        simp only [Option.some.injEq, Prod.mk.injEq] at H
        obtain ⟨rfl, rfl⟩ := H
        go_wp2_with (first | ((with_reducible refine gate_callee (f := 70) rfl ?_); refine goesL_ (some 61) rfl rfl Tryd.func70 (by kernel_rfl) rfl #[.int .i64 41, .int .i64 0, .int .i64 0, .int .i64 0] rfl (by (try simp only [zS, List.map_cons, List.map_nil]); first | done | rfl | (simp only [zT, zU]; rfl)) ?_; (with_reducible refine (switchbackref17_word.calls 41 0 0 0 t208 _ A39.out).mono ?_); rintro e w40 ⟨rfl, hb⟩; refine ⟨_, rfl, ?_⟩; have n0_ := uZ (zK (g := ab) (o := .cells #[.int .i64 a0_0, .int .i64 a0_1, .int .i64 a0_2, .int .i64 a0_3, .int .u32 a0_4, .int .i64 a0_5, .slice A0_6 l0_6.length c0_6] 40 (0, 0)) (uK aa.out) hb); have n1_ := uZ (zN (uC HB.out ac.out) hb); clear aa; clear HB; have aa := n0_; have HB := n1_; clear n0_ n1_; (try clear hb); (try clear hb2); (try clear hk); (try clear hi)) | ((with_reducible refine gate_dst (N := 64) rfl ?_); refine Kd.R_lit (Kd.int .u32) _ 38 ?hg (N := 64) ?hd (xs := ([t208, (ad) % 4294967296] : List Int)) (inner := [.int .u32 t208, .int .u32 ((ad) % 4294967296)]) (ok := fun _ => True) (okp := fun _ => True) ?hr ?hp (fun _ hk => hk) trivial (Below.refl _ _) (Nat.le_refl _) (by simp) ?_; (case hd => rfl); (case hg => rfl); (case hr => first | (go_simp; done) | (go_simp; rfl)); (case hp => exact (Reps.one (show Kd.M (Kd.int .u32) _ _ _ t208 [.int .u32 t208] from rfl) (Reps.one (show Kd.M (Kd.int .u32) _ _ _ ((ad) % 4294967296) [.int .u32 ((ad) % 4294967296)] from rfl) (Reps.none _ _)))); intro v210 w41 ho42 hb hg_ hnew_; clear hg_ hnew_; (first | rw [← Ny209.out] at ho42 | (simp only [Int.reduceToNat] at ho42; rw [← Ny209.out] at ho42)); have n0_ := uZ (zE ho42 (zM (uC HB.out ac.out))); have n1_ := uZ (zK (g := ab) (o := .cells #[.int .i64 a0_0, .int .i64 a0_1, .int .i64 a0_2, .int .i64 a0_3, .int .u32 a0_4, .int .i64 a0_5, .slice A0_6 l0_6.length c0_6] 40 (0, 0)) (uK aa.out) hb); have n2_ := uZ (zN (uC HB.out ac.out) hb); clear aa; clear HB; have HO211 := n0_; have aa := n1_; have HB := n2_; clear n0_ n1_ n2_; clear hb ho42) | ((with_reducible refine gate_dst (N := 65) rfl ?_); refine Kd.R_lit (Kd.int .i64) _ 3 ?hg (N := 65) ?hd (xs := ([1, 2] : List Int)) (inner := [.int .i64 1, .int .i64 2]) (ok := fun _ => True) (okp := fun _ => True) ?hr ?hp (fun _ hk => hk) trivial (Below.refl _ _) (Nat.le_refl _) (by simp) ?_; (case hd => rfl); (case hg => rfl); (case hr => first | (go_simp; done) | (go_simp; rfl)); (case hp => exact (Reps.one (show Kd.M (Kd.int .i64) _ _ _ 1 [.int .i64 1] from rfl) (Reps.one (show Kd.M (Kd.int .i64) _ _ _ 2 [.int .i64 2] from rfl) (Reps.none _ _)))); intro v213 w43 ho44 hb hg_ hnew_; clear hg_ hnew_; (first | rw [← Ny212.out] at ho44 | (simp only [Int.reduceToNat] at ho44; rw [← Ny212.out] at ho44)); have n0_ := uZ (zD (uR HO211.out) hb); have n1_ := uZ (zE ho44 (zM (uC HB.out ac.out))); have n2_ := uZ (zK (g := ab) (o := .cells #[.int .i64 a0_0, .int .i64 a0_1, .int .i64 a0_2, .int .i64 a0_3, .int .u32 a0_4, .int .i64 a0_5, .slice A0_6 l0_6.length c0_6] 40 (0, 0)) (uK aa.out) hb); have n3_ := uZ (zN (uC HB.out ac.out) hb); clear HO211; clear aa; clear HB; have HO211 := n0_; have HO214 := n1_; have aa := n2_; have HB := n3_; clear n0_ n1_ n2_ n3_; clear hb ho44))
        go_ret2
        exact ⟨_, _, by first | rfl | (simp [errW_none, errW_some] <;> rfl) | (simp [*, errW_none, errW_some] <;> rfl), by (with_reducible repeat (first | apply zA | apply zB | apply zC)); exact HO211.out, by (with_reducible repeat (first | apply zA | apply zB | apply zC)); exact HO214.out, by repeat (first | (with_reducible first | exact HB.out | apply zG | apply zF | apply zH | refine zL ?_ ac.out) | exact HB.out)⟩
       replace c38 := Bool.eq_false_iff.mpr c38
       subst c38
       have H1 : (if al = true then (switchbackref17_made.j3 kj31 a2 l3 ad true a0_0 a0_1 a0_2 a0_3 a0_4 a0_5 l0_6) else (switchbackref17_made.j3 kj31 a2 l3 ad (a0_0 == 40) a0_0 a0_1 a0_2 a0_3 a0_4 a0_5 l0_6)) = some (r1, r2) := by rw [if_neg (show ¬ (false = true) by decide)] at H; exact H
       clear H
       have H := H1
       clear H1
       have HC45 := uZ H
       clear H
       go_upto_region 12 with (fail)
       go_cut [66] (fun v66 wc => ∃ (kq : Nat) (x66_44 : Bool), v66 = .bool x66_44 ∧ Aside0 (switchbackref17_made.j3 kq a2 l3 ad x66_44 a0_0 a0_1 a0_2 a0_3 a0_4 a0_5 l0_6 = some (r1, r2)) ∧ Aside0 (kq ≤ kj31) ∧ Aside0 (wc.heap[ab]? = some (.cells #[.int .i64 a0_0, .int .i64 a0_1, .int .i64 a0_2, .int .i64 a0_3, .int .u32 a0_4, .int .i64 a0_5, (.slice A0_6 l0_6.length c0_6)] 40 (0, 0))) ∧ Aside0 (Below w.heap.size w wc))
       case first =>
        have H := HC45.out
        clear HC45
        by_cases c46 : al = true
        ·subst c46
         have H1 : (switchbackref17_made.j3 kj31 a2 l3 ad true a0_0 a0_1 a0_2 a0_3 a0_4 a0_5 l0_6) = some (r1, r2) := by rw [if_pos rfl] at H; exact H
         clear H
         have H := H1
         clear H1
         have H' := uZ H
         clear H
         go_wp2
         go_meet
         case rel => exact ⟨_, (true), (by first | rfl | (simp; done) | (simp [*]; done)), H', ⟨by have := HJ6.out; have := HJ16.out; have := HJ31.out; first | omega | exact Nat.le_refl _⟩, ⟨uK aa.out⟩, ⟨uC HB.out ac.out⟩⟩
        replace c46 := Bool.eq_false_iff.mpr c46
        subst c46
        have H1 : (switchbackref17_made.j3 kj31 a2 l3 ad (a0_0 == 40) a0_0 a0_1 a0_2 a0_3 a0_4 a0_5 l0_6) = some (r1, r2) := by rw [if_neg (show ¬ (false = true) by decide)] at H; exact H
        clear H
        have H := H1
        clear H1
        have H' := uZ H
        clear H
        have hcz47_0 : wc.cell? ⟨ab, 0, none⟩ = some (.int .i64 a0_0) := (zJ aa.out 0).trans rfl
        have hcz47_1 : wc.cell? ⟨ab, 1, none⟩ = some (.int .i64 a0_1) := (zJ aa.out 1).trans rfl
        have hcz47_2 : wc.cell? ⟨ab, 2, none⟩ = some (.int .i64 a0_2) := (zJ aa.out 2).trans rfl
        have hcz47_3 : wc.cell? ⟨ab, 3, none⟩ = some (.int .i64 a0_3) := (zJ aa.out 3).trans rfl
        have hcz47_4 : wc.cell? ⟨ab, 4, none⟩ = some (.int .u32 a0_4) := (zJ aa.out 4).trans rfl
        have hcz47_5 : wc.cell? ⟨ab, 5, none⟩ = some (.int .i64 a0_5) := (zJ aa.out 5).trans rfl
        have hcz47_6 : wc.cell? ⟨ab, 6, none⟩ = some (.slice A0_6 l0_6.length c0_6) := (zJ aa.out 6).trans rfl
        have hfz47_0 := zI aa.out 0
        have hfz47_1 := zI aa.out 1
        have hfz47_2 := zI aa.out 2
        have hfz47_3 := zI aa.out 3
        have hfz47_4 := zI aa.out 4
        have hfz47_5 := zI aa.out 5
        have hfz47_6 := zI aa.out 6
        go_wp2
        go_meet
        case rel => exact ⟨_, ((a0_0 == 40)), (by first | rfl | (simp; done) | (simp [*]; done)), H', ⟨by have := HJ6.out; have := HJ16.out; have := HJ31.out; first | omega | exact Nat.le_refl _⟩, ⟨uK aa.out⟩, ⟨uC HB.out ac.out⟩⟩
       case rest =>
        clear HC45
        try clear c2
        try clear p2
        try clear c3
        try clear c4
        try clear c5
        try clear c7
        try clear c20
        try clear c33
        try clear c33b0
        try clear c33b1
        try clear c34
        try clear c38
        try clear c46
        try clear hcz35_0
        try clear hcz35_1
        try clear hcz35_2
        try clear hcz35_3
        try clear hcz35_4
        try clear hcz35_5
        try clear hcz35_6
        try clear hcz36_0
        try clear hcz36_1
        try clear hcz36_2
        try clear hcz36_3
        try clear hcz36_4
        try clear hcz36_5
        try clear hcz36_6
        try clear hcz37_0
        try clear hcz37_1
        try clear hcz37_2
        try clear hcz37_3
        try clear hcz37_4
        try clear hcz37_5
        try clear hcz37_6
        try clear hcz47_0
        try clear hcz47_1
        try clear hcz47_2
        try clear hcz47_3
        try clear hcz47_4
        try clear hcz47_5
        try clear hcz47_6
        try clear hfz35_0
        try clear hfz35_1
        try clear hfz35_2
        try clear hfz35_3
        try clear hfz35_4
        try clear hfz35_5
        try clear hfz35_6
        try clear hfz36_0
        try clear hfz36_1
        try clear hfz36_2
        try clear hfz36_3
        try clear hfz36_4
        try clear hfz36_5
        try clear hfz36_6
        try clear hfz37_0
        try clear hfz37_1
        try clear hfz37_2
        try clear hfz37_3
        try clear hfz37_4
        try clear hfz37_5
        try clear hfz37_6
        try clear hfz47_0
        try clear hfz47_1
        try clear hfz47_2
        try clear hfz47_3
        try clear hfz47_4
        try clear hfz47_5
        try clear hfz47_6
        try clear p2
        obtain ⟨kq, x66_44, rfl, HA, HJ44, aa, HB⟩ := hcut
        cases kq with
        | zero => exact absurd HA.out (by simp [switchbackref17_made.j3])
        | succ kj44 =>
         have H := HA.out
         clear HA
         simp only [switchbackref17_made.j3] at H
         by_cases c48 : x66_44 = true
         ·subst c48
          have H1 : ((switchbackref17_word.f a0_0 a0_1 a0_2 (wrap64 ((wrap64 (ad - a2)) - 1))).bind fun t215 => (some ((([t215] : List Int)), (([1] : List Int))))) = some (r1, r2) := by rw [if_pos rfl] at H; exact H
          clear H
          have H := H1
          clear H1
          replace H := Option.bind_eq_some_iff.mp H
          obtain ⟨t215, A490, H⟩ := H
          replace H : (some ((([t215] : List Int)), (([1] : List Int)))) = some (r1, r2) := H
          have A49 := uZ A490
          clear A490
          obtain ⟨y216, hy216⟩ : ∃ y_ : List Int, y_ = (([t215] : List Int)) := ⟨_, rfl⟩
          replace H : (some (y216, (([1] : List Int)))) = some (r1, r2) := by first | (rw [hy216]; with_reducible exact H) | (have H2_ := (Option.bind_some _ _).symm.trans H; rw [hy216]; with_reducible exact H2_) | (have H2_ := (Option.bind_some _ _).symm.trans H; with_reducible exact H2_) | with_reducible exact H | (rw [hy216]; exact H) | exact H
          have Ny216 := uZ hy216
          clear hy216
          obtain ⟨y219, hy219⟩ : ∃ y_ : List Int, y_ = (([1] : List Int)) := ⟨_, rfl⟩
          replace H : (some (y216, y219)) = some (r1, r2) := by first | (rw [hy219]; with_reducible exact H) | (have H2_ := (Option.bind_some _ _).symm.trans H; rw [hy219]; with_reducible exact H2_) | (have H2_ := (Option.bind_some _ _).symm.trans H; with_reducible exact H2_) | with_reducible exact H | (rw [hy219]; exact H) | exact H
          have Ny219 := uZ hy219
          clear hy219
          simp only [Option.some.injEq, Prod.mk.injEq] at H
          obtain ⟨rfl, rfl⟩ := H
          have hcz50_0 : wc.cell? ⟨ab, 0, none⟩ = some (.int .i64 a0_0) := (zJ aa.out 0).trans rfl
          have hcz50_1 : wc.cell? ⟨ab, 1, none⟩ = some (.int .i64 a0_1) := (zJ aa.out 1).trans rfl
          have hcz50_2 : wc.cell? ⟨ab, 2, none⟩ = some (.int .i64 a0_2) := (zJ aa.out 2).trans rfl
          have hcz50_3 : wc.cell? ⟨ab, 3, none⟩ = some (.int .i64 a0_3) := (zJ aa.out 3).trans rfl
          have hcz50_4 : wc.cell? ⟨ab, 4, none⟩ = some (.int .u32 a0_4) := (zJ aa.out 4).trans rfl
          have hcz50_5 : wc.cell? ⟨ab, 5, none⟩ = some (.int .i64 a0_5) := (zJ aa.out 5).trans rfl
          have hcz50_6 : wc.cell? ⟨ab, 6, none⟩ = some (.slice A0_6 l0_6.length c0_6) := (zJ aa.out 6).trans rfl
          have hfz50_0 := zI aa.out 0
          have hfz50_1 := zI aa.out 1
          have hfz50_2 := zI aa.out 2
          have hfz50_3 := zI aa.out 3
          have hfz50_4 := zI aa.out 4
          have hfz50_5 := zI aa.out 5
          have hfz50_6 := zI aa.out 6
          go_wp2_with (first | ((with_reducible refine gate_callee (f := 70) rfl ?_); refine goesL_ (some 83) rfl rfl Tryd.func70 (by kernel_rfl) rfl #[.int .i64 a0_0, .int .i64 a0_1, .int .i64 a0_2, .int .i64 (wrap64 ((wrap64 (ad - a2)) - 1))] rfl (by (try simp only [zS, List.map_cons, List.map_nil]); first | done | rfl | (simp only [zT, zU]; rfl)) ?_; (with_reducible refine (switchbackref17_word.calls a0_0 a0_1 a0_2 (wrap64 ((wrap64 (ad - a2)) - 1)) t215 _ A49.out).mono ?_); rintro e w51 ⟨rfl, hb⟩; refine ⟨_, rfl, ?_⟩; have n0_ := uZ (zK (g := ab) (o := .cells #[.int .i64 a0_0, .int .i64 a0_1, .int .i64 a0_2, .int .i64 a0_3, .int .u32 a0_4, .int .i64 a0_5, .slice A0_6 l0_6.length c0_6] 40 (0, 0)) (uK aa.out) hb); have n1_ := uZ (zN (uC HB.out ac.out) hb); clear aa; clear HB; have aa := n0_; have HB := n1_; clear n0_ n1_; (try clear hb); (try clear hb2); (try clear hk); (try clear hi)) | ((with_reducible refine gate_dst (N := 84) rfl ?_); refine Kd.R_lit (Kd.int .u32) _ 38 ?hg (N := 84) ?hd (xs := ([t215] : List Int)) (inner := [.int .u32 t215]) (ok := fun _ => True) (okp := fun _ => True) ?hr ?hp (fun _ hk => hk) trivial (Below.refl _ _) (Nat.le_refl _) (by simp) ?_; (case hd => rfl); (case hg => rfl); (case hr => first | (go_simp; done) | (go_simp; rfl)); (case hp => exact (Reps.one (show Kd.M (Kd.int .u32) _ _ _ t215 [.int .u32 t215] from rfl) (Reps.none _ _))); intro v217 w52 ho53 hb hg_ hnew_; clear hg_ hnew_; (first | rw [← Ny216.out] at ho53 | (simp only [Int.reduceToNat] at ho53; rw [← Ny216.out] at ho53)); have n0_ := uZ (zE ho53 (zM (uC HB.out ac.out))); have n1_ := uZ (zK (g := ab) (o := .cells #[.int .i64 a0_0, .int .i64 a0_1, .int .i64 a0_2, .int .i64 a0_3, .int .u32 a0_4, .int .i64 a0_5, .slice A0_6 l0_6.length c0_6] 40 (0, 0)) (uK aa.out) hb); have n2_ := uZ (zN (uC HB.out ac.out) hb); clear aa; clear HB; have HO218 := n0_; have aa := n1_; have HB := n2_; clear n0_ n1_ n2_; clear hb ho53) | ((with_reducible refine gate_dst (N := 85) rfl ?_); refine Kd.R_lit (Kd.int .i64) _ 3 ?hg (N := 85) ?hd (xs := ([1] : List Int)) (inner := [.int .i64 1]) (ok := fun _ => True) (okp := fun _ => True) ?hr ?hp (fun _ hk => hk) trivial (Below.refl _ _) (Nat.le_refl _) (by simp) ?_; (case hd => rfl); (case hg => rfl); (case hr => first | (go_simp; done) | (go_simp; rfl)); (case hp => exact (Reps.one (show Kd.M (Kd.int .i64) _ _ _ 1 [.int .i64 1] from rfl) (Reps.none _ _))); intro v220 w54 ho55 hb hg_ hnew_; clear hg_ hnew_; (first | rw [← Ny219.out] at ho55 | (simp only [Int.reduceToNat] at ho55; rw [← Ny219.out] at ho55)); have n0_ := uZ (zD (uR HO218.out) hb); have n1_ := uZ (zE ho55 (zM (uC HB.out ac.out))); have n2_ := uZ (zK (g := ab) (o := .cells #[.int .i64 a0_0, .int .i64 a0_1, .int .i64 a0_2, .int .i64 a0_3, .int .u32 a0_4, .int .i64 a0_5, .slice A0_6 l0_6.length c0_6] 40 (0, 0)) (uK aa.out) hb); have n3_ := uZ (zN (uC HB.out ac.out) hb); clear HO218; clear aa; clear HB; have HO218 := n0_; have HO221 := n1_; have aa := n2_; have HB := n3_; clear n0_ n1_ n2_ n3_; clear hb ho55))
          go_ret2
          exact ⟨_, _, by first | rfl | (simp [errW_none, errW_some] <;> rfl) | (simp [*, errW_none, errW_some] <;> rfl), by (with_reducible repeat (first | apply zA | apply zB | apply zC)); exact HO218.out, by (with_reducible repeat (first | apply zA | apply zB | apply zC)); exact HO221.out, by repeat (first | (with_reducible first | exact HB.out | apply zG | apply zF | apply zH | refine zL ?_ ac.out) | exact HB.out)⟩
         replace c48 := Bool.eq_false_iff.mpr c48
         subst c48
         have H1 : (if a0_0 = 43 then ((switchbackref17_word.f 43 0 0 0).bind fun t222 => (some ((([t222, (ad) % 4294967296] : List Int)), (([1, 2] : List Int))))) else (if a0_0 = 2 then ((switchbackref17_word.f 2 a0_1 0 0).bind fun t229 => (some ((([t229, a0_4] : List Int)), (([1, 2] : List Int))))) else (if a0_0 = 42 then ((switchbackref17_word.f 42 a0_1 0 0).bind fun t236 => (switchbackref17_made.l0 kj44 l3 (([t236, ((l0_6.length : Int)) % 4294967296] : List Int)) (([1, 3] : List Int)) 0 a0_0 a0_1 a0_2 a0_3 a0_4 a0_5 l0_6)) else ((switchbackref17_word.f a0_0 a0_1 a0_2 a0_3).bind fun t251 => (some ((([t251] : List Int)), (([1] : List Int)))))))) = some (r1, r2) := by rw [if_neg (show ¬ (false = true) by decide)] at H; exact H
         clear H
         have H := H1
         clear H1
         by_cases c56 : a0_0 = 43
         ·rw [if_pos c56] at H
          have c56b0 : (a0_0 == 43) = true := beq_iff_eq.mpr c56
          have c56b1 : (a0_0 != 43) = false := bne_eq_false_iff_eq.mpr c56
          clear c56
          replace H := Option.bind_eq_some_iff.mp H
          obtain ⟨t222, A570, H⟩ := H
          replace H : (some ((([t222, (ad) % 4294967296] : List Int)), (([1, 2] : List Int)))) = some (r1, r2) := H
          have A57 := uZ A570
          clear A570
          obtain ⟨y223, hy223⟩ : ∃ y_ : List Int, y_ = (([t222, (ad) % 4294967296] : List Int)) := ⟨_, rfl⟩
          replace H : (some (y223, (([1, 2] : List Int)))) = some (r1, r2) := by first | (rw [hy223]; with_reducible exact H) | (have H2_ := (Option.bind_some _ _).symm.trans H; rw [hy223]; with_reducible exact H2_) | (have H2_ := (Option.bind_some _ _).symm.trans H; with_reducible exact H2_) | with_reducible exact H | (rw [hy223]; exact H) | exact H
          have Ny223 := uZ hy223
          clear hy223
          obtain ⟨y226, hy226⟩ : ∃ y_ : List Int, y_ = (([1, 2] : List Int)) := ⟨_, rfl⟩
          replace H : (some (y223, y226)) = some (r1, r2) := by first | (rw [hy226]; with_reducible exact H) | (have H2_ := (Option.bind_some _ _).symm.trans H; rw [hy226]; with_reducible exact H2_) | (have H2_ := (Option.bind_some _ _).symm.trans H; with_reducible exact H2_) | with_reducible exact H | (rw [hy226]; exact H) | exact H
          have Ny226 := uZ hy226
          clear hy226
          simp only [Option.some.injEq, Prod.mk.injEq] at H
          obtain ⟨rfl, rfl⟩ := H
          have hcz58_0 : wc.cell? ⟨ab, 0, none⟩ = some (.int .i64 a0_0) := (zJ aa.out 0).trans rfl
          have hcz58_1 : wc.cell? ⟨ab, 1, none⟩ = some (.int .i64 a0_1) := (zJ aa.out 1).trans rfl
          have hcz58_2 : wc.cell? ⟨ab, 2, none⟩ = some (.int .i64 a0_2) := (zJ aa.out 2).trans rfl
          have hcz58_3 : wc.cell? ⟨ab, 3, none⟩ = some (.int .i64 a0_3) := (zJ aa.out 3).trans rfl
          have hcz58_4 : wc.cell? ⟨ab, 4, none⟩ = some (.int .u32 a0_4) := (zJ aa.out 4).trans rfl
          have hcz58_5 : wc.cell? ⟨ab, 5, none⟩ = some (.int .i64 a0_5) := (zJ aa.out 5).trans rfl
          have hcz58_6 : wc.cell? ⟨ab, 6, none⟩ = some (.slice A0_6 l0_6.length c0_6) := (zJ aa.out 6).trans rfl
          have hfz58_0 := zI aa.out 0
          have hfz58_1 := zI aa.out 1
          have hfz58_2 := zI aa.out 2
          have hfz58_3 := zI aa.out 3
          have hfz58_4 := zI aa.out 4
          have hfz58_5 := zI aa.out 5
          have hfz58_6 := zI aa.out 6
          go_wp2_with (first | ((with_reducible refine gate_callee (f := 70) rfl ?_); refine goesL_ (some 90) rfl rfl Tryd.func70 (by kernel_rfl) rfl #[.int .i64 43, .int .i64 0, .int .i64 0, .int .i64 0] rfl (by (try simp only [zS, List.map_cons, List.map_nil]); first | done | rfl | (simp only [zT, zU]; rfl)) ?_; (with_reducible refine (switchbackref17_word.calls 43 0 0 0 t222 _ A57.out).mono ?_); rintro e w59 ⟨rfl, hb⟩; refine ⟨_, rfl, ?_⟩; have n0_ := uZ (zK (g := ab) (o := .cells #[.int .i64 a0_0, .int .i64 a0_1, .int .i64 a0_2, .int .i64 a0_3, .int .u32 a0_4, .int .i64 a0_5, .slice A0_6 l0_6.length c0_6] 40 (0, 0)) (uK aa.out) hb); have n1_ := uZ (zN (uC HB.out ac.out) hb); clear aa; clear HB; have aa := n0_; have HB := n1_; clear n0_ n1_; (try clear hb); (try clear hb2); (try clear hk); (try clear hi)) | ((with_reducible refine gate_dst (N := 93) rfl ?_); refine Kd.R_lit (Kd.int .u32) _ 38 ?hg (N := 93) ?hd (xs := ([t222, (ad) % 4294967296] : List Int)) (inner := [.int .u32 t222, .int .u32 ((ad) % 4294967296)]) (ok := fun _ => True) (okp := fun _ => True) ?hr ?hp (fun _ hk => hk) trivial (Below.refl _ _) (Nat.le_refl _) (by simp) ?_; (case hd => rfl); (case hg => rfl); (case hr => first | (go_simp; done) | (go_simp; rfl)); (case hp => exact (Reps.one (show Kd.M (Kd.int .u32) _ _ _ t222 [.int .u32 t222] from rfl) (Reps.one (show Kd.M (Kd.int .u32) _ _ _ ((ad) % 4294967296) [.int .u32 ((ad) % 4294967296)] from rfl) (Reps.none _ _)))); intro v224 w60 ho61 hb hg_ hnew_; clear hg_ hnew_; (first | rw [← Ny223.out] at ho61 | (simp only [Int.reduceToNat] at ho61; rw [← Ny223.out] at ho61)); have n0_ := uZ (zE ho61 (zM (uC HB.out ac.out))); have n1_ := uZ (zK (g := ab) (o := .cells #[.int .i64 a0_0, .int .i64 a0_1, .int .i64 a0_2, .int .i64 a0_3, .int .u32 a0_4, .int .i64 a0_5, .slice A0_6 l0_6.length c0_6] 40 (0, 0)) (uK aa.out) hb); have n2_ := uZ (zN (uC HB.out ac.out) hb); clear aa; clear HB; have HO225 := n0_; have aa := n1_; have HB := n2_; clear n0_ n1_ n2_; clear hb ho61) | ((with_reducible refine gate_dst (N := 94) rfl ?_); refine Kd.R_lit (Kd.int .i64) _ 3 ?hg (N := 94) ?hd (xs := ([1, 2] : List Int)) (inner := [.int .i64 1, .int .i64 2]) (ok := fun _ => True) (okp := fun _ => True) ?hr ?hp (fun _ hk => hk) trivial (Below.refl _ _) (Nat.le_refl _) (by simp) ?_; (case hd => rfl); (case hg => rfl); (case hr => first | (go_simp; done) | (go_simp; rfl)); (case hp => exact (Reps.one (show Kd.M (Kd.int .i64) _ _ _ 1 [.int .i64 1] from rfl) (Reps.one (show Kd.M (Kd.int .i64) _ _ _ 2 [.int .i64 2] from rfl) (Reps.none _ _)))); intro v227 w62 ho63 hb hg_ hnew_; clear hg_ hnew_; (first | rw [← Ny226.out] at ho63 | (simp only [Int.reduceToNat] at ho63; rw [← Ny226.out] at ho63)); have n0_ := uZ (zD (uR HO225.out) hb); have n1_ := uZ (zE ho63 (zM (uC HB.out ac.out))); have n2_ := uZ (zK (g := ab) (o := .cells #[.int .i64 a0_0, .int .i64 a0_1, .int .i64 a0_2, .int .i64 a0_3, .int .u32 a0_4, .int .i64 a0_5, .slice A0_6 l0_6.length c0_6] 40 (0, 0)) (uK aa.out) hb); have n3_ := uZ (zN (uC HB.out ac.out) hb); clear HO225; clear aa; clear HB; have HO225 := n0_; have HO228 := n1_; have aa := n2_; have HB := n3_; clear n0_ n1_ n2_ n3_; clear hb ho63))
          go_ret2
          exact ⟨_, _, by first | rfl | (simp [errW_none, errW_some] <;> rfl) | (simp [*, errW_none, errW_some] <;> rfl), by (with_reducible repeat (first | apply zA | apply zB | apply zC)); exact HO225.out, by (with_reducible repeat (first | apply zA | apply zB | apply zC)); exact HO228.out, by repeat (first | (with_reducible first | exact HB.out | apply zG | apply zF | apply zH | refine zL ?_ ac.out) | exact HB.out)⟩
         rw [if_neg c56] at H
         have c56b0 : (a0_0 == 43) = false := beq_eq_false_iff_ne.mpr c56
         have c56b1 : (a0_0 != 43) = true := bne_iff_ne.mpr c56
         by_cases c64 : a0_0 = 2
         ·rw [if_pos c64] at H
          have c64b0 : (a0_0 == 2) = true := beq_iff_eq.mpr c64
          have c64b1 : (a0_0 != 2) = false := bne_eq_false_iff_eq.mpr c64
          clear c64
          replace H := Option.bind_eq_some_iff.mp H
          obtain ⟨t229, A650, H⟩ := H
          replace H : (some ((([t229, a0_4] : List Int)), (([1, 2] : List Int)))) = some (r1, r2) := H
          have A65 := uZ A650
          clear A650
          obtain ⟨y230, hy230⟩ : ∃ y_ : List Int, y_ = (([t229, a0_4] : List Int)) := ⟨_, rfl⟩
          replace H : (some (y230, (([1, 2] : List Int)))) = some (r1, r2) := by first | (rw [hy230]; with_reducible exact H) | (have H2_ := (Option.bind_some _ _).symm.trans H; rw [hy230]; with_reducible exact H2_) | (have H2_ := (Option.bind_some _ _).symm.trans H; with_reducible exact H2_) | with_reducible exact H | (rw [hy230]; exact H) | exact H
          have Ny230 := uZ hy230
          clear hy230
          obtain ⟨y233, hy233⟩ : ∃ y_ : List Int, y_ = (([1, 2] : List Int)) := ⟨_, rfl⟩
          replace H : (some (y230, y233)) = some (r1, r2) := by first | (rw [hy233]; with_reducible exact H) | (have H2_ := (Option.bind_some _ _).symm.trans H; rw [hy233]; with_reducible exact H2_) | (have H2_ := (Option.bind_some _ _).symm.trans H; with_reducible exact H2_) | with_reducible exact H | (rw [hy233]; exact H) | exact H
          have Ny233 := uZ hy233
          clear hy233
          simp only [Option.some.injEq, Prod.mk.injEq] at H
          obtain ⟨rfl, rfl⟩ := H
          have hcz66_0 : wc.cell? ⟨ab, 0, none⟩ = some (.int .i64 a0_0) := (zJ aa.out 0).trans rfl
          have hcz66_1 : wc.cell? ⟨ab, 1, none⟩ = some (.int .i64 a0_1) := (zJ aa.out 1).trans rfl
          have hcz66_2 : wc.cell? ⟨ab, 2, none⟩ = some (.int .i64 a0_2) := (zJ aa.out 2).trans rfl
          have hcz66_3 : wc.cell? ⟨ab, 3, none⟩ = some (.int .i64 a0_3) := (zJ aa.out 3).trans rfl
          have hcz66_4 : wc.cell? ⟨ab, 4, none⟩ = some (.int .u32 a0_4) := (zJ aa.out 4).trans rfl
          have hcz66_5 : wc.cell? ⟨ab, 5, none⟩ = some (.int .i64 a0_5) := (zJ aa.out 5).trans rfl
          have hcz66_6 : wc.cell? ⟨ab, 6, none⟩ = some (.slice A0_6 l0_6.length c0_6) := (zJ aa.out 6).trans rfl
          have hfz66_0 := zI aa.out 0
          have hfz66_1 := zI aa.out 1
          have hfz66_2 := zI aa.out 2
          have hfz66_3 := zI aa.out 3
          have hfz66_4 := zI aa.out 4
          have hfz66_5 := zI aa.out 5
          have hfz66_6 := zI aa.out 6
          try go_wp2
          have n0_ := uZ (blk_drew aa.out)
          have n1_ := uZ (zH HB.out)
          clear aa
          clear HB
          have aa := n0_
          have HB := n1_
          clear n0_ n1_
          refine start_ (n := 9) (S := fun w' => True) (ds := []) #[false, false, false, false, false, false, false, false, false] (by kernel_rfl) rfl rfl trivial (fun hHeld => ?_); refine with_tabW switchbackref17_made.tab17 switchbackref17_made.bits17 (fun HT_ HW_ => ?_)
          generalize wc.drew = w67 at aa HB hHeld ⊢
          refine pure_ (i := 0) (N := some 99) (v := ?_) (a' := ?_) #[true, false, false, false, false, false, false, false, false] rfl rfl (zR HT_.out (by kernel_rfl)) (fun _ _ _ h => h) (Or.inl ⟨by rfl, ?_⟩) ?_ ?_
          rotate_left
          ·intro w'
           go_simp
           with_reducible rfl
          rotate_left
          ·simp only [Act.put, zO, zP, zQ, i64_w, i32_w]
           rfl
          refine pure_ (i := 3) (N := some 102) (v := ?_) (a' := ?_) #[true, false, false, true, false, false, false, false, false] rfl rfl (zR HT_.out (by kernel_rfl)) (fun _ _ _ h => h) (Or.inl ⟨by rfl, ?_⟩) ?_ ?_
          rotate_left
          ·intro w'
           go_simp
           with_reducible rfl
          rotate_left
          ·simp only [Act.put, zO, zP, zQ, i64_w, i32_w]
           rfl
          refine inv_at [1, 2, 4, 5, 6, 7, 8] (fun a0_ b a w' => ∃ (ah : Value) (ag : Value) (m7_ : Value) (m8_ : Value), a = putSel a0_ b [(1, 100, .int .i64 a0_1), (2, 101, .int .u32 t229), (4, 103, .int .u32 a0_4), (5, 104, ah), (6, 105, ag), (7, 8, m7_), (8, 9, m8_)] ∧ (w'.heap[ab]? = some (.cells #[.int .i64 a0_0, .int .i64 a0_1, .int .i64 a0_2, .int .i64 a0_3, .int .u32 a0_4, .int .i64 a0_5, .slice A0_6 l0_6.length c0_6] 40 (0, 0))) ∧ (Below w.heap.size w w') ∧ (b 5 = true → Kd.R (Kd.int .u32) 38 w' w.heap.size (fun _ => True) ah y230) ∧ (b 6 = true → Kd.R (Kd.int .i64) 3 w' w.heap.size (fun _ => True) ag y233) ∧ (b 7 = true → (m7_ : Value) = ah) ∧ (b 8 = true → (m8_ : Value) = ag)) HT_.out HW_.out (by kernel_rfl) (by kernel_rfl) ?_ ?_ ?_
          ·exact ⟨.bool false, .bool false, .bool false, .bool false, by simp only [putSel, Bool.false_eq_true, if_false], aa.out, HB.out, fun h_ => absurd h_ (by decide), fun h_ => absurd h_ (by decide), fun h_ => absurd h_ (by decide), fun h_ => absurd h_ (by decide)⟩
          ·skip
           clear aa HB
           refine steps_cons ?_ ?_
           ·rintro b a w' ⟨ah, ag, m7_, m8_, ha, Q_BK195, Q_HB, Q_HO232, Q_HO235, Q_X7_, Q_X8_⟩ hb_ hon hoff
            refine ⟨_, rfl, fun K hK => ?_⟩
            have e99 : a.tmps[99]? = some (.pointer (some ⟨ab, 1, none⟩)) := by rw [ha]; exact (putSel_off rfl).trans rfl
            replace ha := uZ ha
            have aa := uZ Q_BK195
            have HB := uZ Q_HB
            have hc0_ : w'.cell? ⟨ab, 0, none⟩ = some (.int .i64 a0_0) := (zJ aa.out 0).trans rfl
            have hc1_ : w'.cell? ⟨ab, 1, none⟩ = some (.int .i64 a0_1) := (zJ aa.out 1).trans rfl
            have hc2_ : w'.cell? ⟨ab, 2, none⟩ = some (.int .i64 a0_2) := (zJ aa.out 2).trans rfl
            have hc3_ : w'.cell? ⟨ab, 3, none⟩ = some (.int .i64 a0_3) := (zJ aa.out 3).trans rfl
            have hc4_ : w'.cell? ⟨ab, 4, none⟩ = some (.int .u32 a0_4) := (zJ aa.out 4).trans rfl
            have hc5_ : w'.cell? ⟨ab, 5, none⟩ = some (.int .i64 a0_5) := (zJ aa.out 5).trans rfl
            have hc6_ : w'.cell? ⟨ab, 6, none⟩ = some (.slice A0_6 l0_6.length c0_6) := (zJ aa.out 6).trans rfl
            refine value_ (w1 := w') (v := .int .i64 a0_1) (by rfl) rfl ?_ ?_
            ·go_simp
             (try simp only [i64_w])
             try rfl
            refine hK.out _ _ ⟨ah, ag, m7_, m8_, (by rw [ha.out]; exact putSel_upk 0 hb_ rfl rfl rfl), Q_BK195, Q_HB, fun h0_ => absurd ((hoff 5 (by kernel_rfl)).symm.trans h0_) (by decide), Q_HO235, fun h0_ => absurd ((hoff 7 (by kernel_rfl)).symm.trans h0_) (by decide), fun h0_ => absurd ((hoff 8 (by kernel_rfl)).symm.trans h0_) (by decide)⟩
           refine steps_cons ?_ ?_
           ·rintro b a w' ⟨ah, ag, m7_, m8_, ha, Q_BK195, Q_HB, Q_HO232, Q_HO235, Q_X7_, Q_X8_⟩ hb_ hon hoff
            refine ⟨_, rfl, fun K hK => ?_⟩
            have e100 : a.tmps[100]? = some (.int .i64 a0_1) := by rw [ha]; exact putSel_on (e := (1, 100, .int .i64 a0_1)) 0 rfl rfl (hon 1 (by kernel_rfl)) rfl
            replace ha := uZ ha
            have aa := uZ Q_BK195
            have HB := uZ Q_HB
            refine goes_ Tryd.func70 (by kernel_rfl) rfl #[.int .i64 2, .int .i64 a0_1, .int .i64 0, .int .i64 0] (by rfl) rfl rfl (by first | (simp only [zS, List.map_cons, List.map_nil, Act.eval, Array.getD_eq_getD_getElem?, Option.getD_some, e100]; done) | (simp only [zS, List.map_cons, List.map_nil, Act.eval, Array.getD_eq_getD_getElem?, Option.getD_some, e100]; rfl)) ?_
            with_reducible refine (switchbackref17_word.calls 2 a0_1 0 0 t229 _ A65.out).mono ?_
            rintro e w68 ⟨rfl, hb⟩
            refine ⟨_, rfl, ?_⟩
            have n0_ := uZ (zK (g := ab) (o := .cells #[.int .i64 a0_0, .int .i64 a0_1, .int .i64 a0_2, .int .i64 a0_3, .int .u32 a0_4, .int .i64 a0_5, .slice A0_6 l0_6.length c0_6] 40 (0, 0)) (uK aa.out) hb)
            have n1_ := uZ (zN (uC HB.out ac.out) hb)
            have z_HO235 := fun (h0_ : b 6 = true) => (show Kd.R (Kd.int .i64) 3 w68 w.heap.size (fun _ => True) ag y233 from by first | exact (zD (by (with_reducible repeat (first | apply zA | apply zB | apply zC)); exact (Q_HO235 h0_)) hb) | exact Kd.R_mono (zD (by (with_reducible repeat (first | apply zA | apply zB | apply zC)); exact (Q_HO235 h0_)) hb) (fun _ h_ => by first | trivial | exact h_ | exact h_.1))
            clear aa
            clear HB
            have aa := n0_
            have HB := n1_
            clear n0_ n1_
            (try clear hb)
            (try clear hb2)
            (try clear hk)
            (try clear hi)
            refine hK.out _ _ ⟨ah, ag, m7_, m8_, (by rw [ha.out]; exact putSel_upk 1 hb_ rfl rfl rfl), (uK aa.out), (uC HB.out ac.out), fun h0_ => absurd ((hoff 5 (by kernel_rfl)).symm.trans h0_) (by decide), z_HO235, fun h0_ => absurd ((hoff 7 (by kernel_rfl)).symm.trans h0_) (by decide), fun h0_ => absurd ((hoff 8 (by kernel_rfl)).symm.trans h0_) (by decide)⟩
           refine steps_cons ?_ ?_
           ·rintro b a w' ⟨ah, ag, m7_, m8_, ha, Q_BK195, Q_HB, Q_HO232, Q_HO235, Q_X7_, Q_X8_⟩ hb_ hon hoff
            refine ⟨_, rfl, fun K hK => ?_⟩
            have e102 : a.tmps[102]? = some (.pointer (some ⟨ab, 4, none⟩)) := by rw [ha]; exact (putSel_off rfl).trans rfl
            replace ha := uZ ha
            have aa := uZ Q_BK195
            have HB := uZ Q_HB
            have hc0_ : w'.cell? ⟨ab, 0, none⟩ = some (.int .i64 a0_0) := (zJ aa.out 0).trans rfl
            have hc1_ : w'.cell? ⟨ab, 1, none⟩ = some (.int .i64 a0_1) := (zJ aa.out 1).trans rfl
            have hc2_ : w'.cell? ⟨ab, 2, none⟩ = some (.int .i64 a0_2) := (zJ aa.out 2).trans rfl
            have hc3_ : w'.cell? ⟨ab, 3, none⟩ = some (.int .i64 a0_3) := (zJ aa.out 3).trans rfl
            have hc4_ : w'.cell? ⟨ab, 4, none⟩ = some (.int .u32 a0_4) := (zJ aa.out 4).trans rfl
            have hc5_ : w'.cell? ⟨ab, 5, none⟩ = some (.int .i64 a0_5) := (zJ aa.out 5).trans rfl
            have hc6_ : w'.cell? ⟨ab, 6, none⟩ = some (.slice A0_6 l0_6.length c0_6) := (zJ aa.out 6).trans rfl
            refine value_ (w1 := w') (v := .int .u32 a0_4) (by rfl) rfl ?_ ?_
            ·go_simp
             (try simp only [i64_w])
             try rfl
            refine hK.out _ _ ⟨ah, ag, m7_, m8_, (by rw [ha.out]; exact putSel_upk 2 hb_ rfl rfl rfl), Q_BK195, Q_HB, fun h0_ => absurd ((hoff 5 (by kernel_rfl)).symm.trans h0_) (by decide), Q_HO235, fun h0_ => absurd ((hoff 7 (by kernel_rfl)).symm.trans h0_) (by decide), fun h0_ => absurd ((hoff 8 (by kernel_rfl)).symm.trans h0_) (by decide)⟩
           refine steps_cons ?_ ?_
           ·rintro b a w' ⟨ah, ag, m7_, m8_, ha, Q_BK195, Q_HB, Q_HO232, Q_HO235, Q_X7_, Q_X8_⟩ hb_ hon hoff
            refine ⟨_, rfl, fun K hK => ?_⟩
            have e101 : a.tmps[101]? = some (.int .u32 t229) := by rw [ha]; exact putSel_on (e := (2, 101, .int .u32 t229)) 1 rfl rfl (hon 2 (by kernel_rfl)) rfl
            have e103 : a.tmps[103]? = some (.int .u32 a0_4) := by rw [ha]; exact putSel_on (e := (4, 103, .int .u32 a0_4)) 2 rfl rfl (hon 4 (by kernel_rfl)) rfl
            replace ha := uZ ha
            have aa := uZ Q_BK195
            have HB := uZ Q_HB
            refine Kd.R_lit_step (Kd.int .u32) _ 38 ?hg (N := 104) ?hd (xs := ([t229, a0_4] : List Int)) (inner := [.int .u32 t229, .int .u32 a0_4]) (ok := fun _ => True) (okp := fun _ => True) ?hr ?hp (fun _ hk => hk) trivial (Below.refl _ _) (Nat.le_refl _) (by simp) ?_; (case hd => rfl); (case hg => rfl); (case hr => first | (go_simp; done) | (go_simp; rfl)); (case hp => exact (Reps.one (show Kd.M (Kd.int .u32) _ _ _ t229 [.int .u32 t229] from rfl) (Reps.one (show Kd.M (Kd.int .u32) _ _ _ a0_4 [.int .u32 a0_4] from rfl) (Reps.none _ _))))
            intro ah w70 ho71 hb hg_ hnew_
            clear hg_ hnew_
            (first | rw [← Ny230.out] at ho71 | (simp only [Int.reduceToNat] at ho71; rw [← Ny230.out] at ho71))
            have n0_ := uZ (zE ho71 (zM (uC HB.out ac.out)))
            have n1_ := uZ (zK (g := ab) (o := .cells #[.int .i64 a0_0, .int .i64 a0_1, .int .i64 a0_2, .int .i64 a0_3, .int .u32 a0_4, .int .i64 a0_5, .slice A0_6 l0_6.length c0_6] 40 (0, 0)) (uK aa.out) hb)
            have n2_ := uZ (zN (uC HB.out ac.out) hb)
            have z_HO235 := fun (h0_ : b 6 = true) => (show Kd.R (Kd.int .i64) 3 w70 w.heap.size (fun _ => True) ag y233 from by first | exact (zD (by (with_reducible repeat (first | apply zA | apply zB | apply zC)); exact (Q_HO235 h0_)) hb) | exact Kd.R_mono (zD (by (with_reducible repeat (first | apply zA | apply zB | apply zC)); exact (Q_HO235 h0_)) hb) (fun _ h_ => by first | trivial | exact h_ | exact h_.1))
            clear aa
            clear HB
            have HO232 := n0_
            have aa := n1_
            have HB := n2_
            clear n0_ n1_ n2_
            clear hb ho71
            refine hK.out _ _ ⟨ah, ag, m7_, m8_, (by rw [ha.out]; exact putSel_upk 3 hb_ rfl rfl rfl), (uK aa.out), (uC HB.out ac.out), fun _ => (uR HO232.out), z_HO235, fun h0_ => absurd ((hoff 7 (by kernel_rfl)).symm.trans h0_) (by decide), fun h0_ => absurd ((hoff 8 (by kernel_rfl)).symm.trans h0_) (by decide)⟩
           refine steps_cons ?_ ?_
           ·rintro b a w' ⟨ah, ag, m7_, m8_, ha, Q_BK195, Q_HB, Q_HO232, Q_HO235, Q_X7_, Q_X8_⟩ hb_ hon hoff
            refine ⟨_, rfl, fun K hK => ?_⟩
            replace ha := uZ ha
            have aa := uZ Q_BK195
            have HB := uZ Q_HB
            refine Kd.R_lit_step (Kd.int .i64) _ 3 ?hg (N := 105) ?hd (xs := ([1, 2] : List Int)) (inner := [.int .i64 1, .int .i64 2]) (ok := fun _ => True) (okp := fun _ => True) ?hr ?hp (fun _ hk => hk) trivial (Below.refl _ _) (Nat.le_refl _) (by simp) ?_; (case hd => rfl); (case hg => rfl); (case hr => first | (go_simp; done) | (go_simp; rfl)); (case hp => exact (Reps.one (show Kd.M (Kd.int .i64) _ _ _ 1 [.int .i64 1] from rfl) (Reps.one (show Kd.M (Kd.int .i64) _ _ _ 2 [.int .i64 2] from rfl) (Reps.none _ _))))
            intro ag w68 ho69 hb hg_ hnew_
            clear hg_ hnew_
            (first | rw [← Ny233.out] at ho69 | (simp only [Int.reduceToNat] at ho69; rw [← Ny233.out] at ho69))
            have n0_ := uZ (zE ho69 (zM (uC HB.out ac.out)))
            have n1_ := uZ (zK (g := ab) (o := .cells #[.int .i64 a0_0, .int .i64 a0_1, .int .i64 a0_2, .int .i64 a0_3, .int .u32 a0_4, .int .i64 a0_5, .slice A0_6 l0_6.length c0_6] 40 (0, 0)) (uK aa.out) hb)
            have n2_ := uZ (zN (uC HB.out ac.out) hb)
            have z_HO232 := fun (h0_ : b 5 = true) => (show Kd.R (Kd.int .u32) 38 w68 w.heap.size (fun _ => True) ah y230 from by first | exact (zD (by (with_reducible repeat (first | apply zA | apply zB | apply zC)); exact (Q_HO232 h0_)) hb) | exact Kd.R_mono (zD (by (with_reducible repeat (first | apply zA | apply zB | apply zC)); exact (Q_HO232 h0_)) hb) (fun _ h_ => by first | trivial | exact h_ | exact h_.1))
            clear aa
            clear HB
            have HO235 := n0_
            have aa := n1_
            have HB := n2_
            clear n0_ n1_ n2_
            clear hb ho69
            refine hK.out _ _ ⟨ah, ag, m7_, m8_, (by rw [ha.out]; exact putSel_upk 4 hb_ rfl rfl rfl), (uK aa.out), (uC HB.out ac.out), z_HO232, fun _ => (uR HO235.out), Q_X7_, fun h0_ => absurd ((hoff 8 (by kernel_rfl)).symm.trans h0_) (by decide)⟩
           refine steps_cons ?_ ?_
           ·rintro b a w' ⟨ah, ag, m7_, m8_, ha, Q_BK195, Q_HB, Q_HO232, Q_HO235, Q_X7_, Q_X8_⟩ hb_ hon hoff
            refine ⟨_, rfl, fun K hK => ?_⟩
            have e104 : a.tmps[104]? = some (ah) := by rw [ha]; exact putSel_on (e := (5, 104, ah)) 3 rfl rfl (hon 5 (by kernel_rfl)) rfl
            replace ha := uZ ha
            have aa := uZ Q_BK195
            have HB := uZ Q_HB
            have HO232 := uZ (Q_HO232 (hon 5 (by kernel_rfl)))
            refine value_ (w1 := w') (v := ah) (by rfl) rfl ?_ ?_
            ·go_simp
             (try simp only [i64_w])
             try rfl
            refine hK.out _ _ ⟨ah, ag, (ah), m8_, (by rw [ha.out]; exact putSel_upk 5 hb_ rfl rfl rfl), Q_BK195, Q_HB, Q_HO232, Q_HO235, fun _ => rfl, fun h0_ => absurd ((hoff 8 (by kernel_rfl)).symm.trans h0_) (by decide)⟩
           refine steps_cons ?_ ?_
           ·rintro b a w' ⟨ah, ag, m7_, m8_, ha, Q_BK195, Q_HB, Q_HO232, Q_HO235, Q_X7_, Q_X8_⟩ hb_ hon hoff
            refine ⟨_, rfl, fun K hK => ?_⟩
            have e105 : a.tmps[105]? = some (ag) := by rw [ha]; exact putSel_on (e := (6, 105, ag)) 4 rfl rfl (hon 6 (by kernel_rfl)) rfl
            replace ha := uZ ha
            have aa := uZ Q_BK195
            have HB := uZ Q_HB
            have HO232 := uZ (Q_HO232 (hon 5 (by kernel_rfl)))
            have HO235 := uZ (Q_HO235 (hon 6 (by kernel_rfl)))
            refine value_ (w1 := w') (v := ag) (by rfl) rfl ?_ ?_
            ·go_simp
             (try simp only [i64_w])
             try rfl
            refine hK.out _ _ ⟨ah, ag, m7_, (ag), (by rw [ha.out]; exact putSel_upk 6 hb_ rfl rfl rfl), Q_BK195, Q_HB, Q_HO232, Q_HO235, Q_X7_, fun _ => rfl⟩
           exact steps_nil
          rintro b a w73 hall ⟨ah, ag, m7_, m8_, ha, Q_BK195, Q_HB, Q_HO232, Q_HO235, Q_X7_, Q_X8_⟩
          clear aa HB
          have hb1_ := hall 1 (by kernel_rfl)
          have hb2_ := hall 2 (by kernel_rfl)
          have hb4_ := hall 4 (by kernel_rfl)
          have hb5_ := hall 5 (by kernel_rfl)
          have hb6_ := hall 6 (by kernel_rfl)
          have hb7_ := hall 7 (by kernel_rfl)
          have hb8_ := hall 8 (by kernel_rfl)
          subst ha
          obtain rfl := Q_X7_ hb7_
          obtain rfl := Q_X8_ hb8_
          simp only [putSel, hb1_, hb2_, hb4_, hb5_, hb6_, hb7_, hb8_, if_true, Act.put, zO, zP, zQ]
          have aa := uZ Q_BK195
          clear Q_BK195
          have HB := uZ Q_HB
          clear Q_HB
          have HO232 := uZ (Q_HO232 hb5_)
          clear Q_HO232
          have HO235 := uZ (Q_HO235 hb6_)
          clear Q_HO235
          clear hall hb1_ hb2_ hb4_ hb5_ hb6_ hb7_ hb8_
          try go_wp2
          go_ret2
          exact ⟨_, _, by first | rfl | (simp [errW_none, errW_some] <;> rfl) | (simp [*, errW_none, errW_some] <;> rfl), by (with_reducible repeat (first | apply zA | apply zB | apply zC)); exact HO232.out, by (with_reducible repeat (first | apply zA | apply zB | apply zC)); exact HO235.out, by repeat (first | (with_reducible first | exact HB.out | apply zG | apply zF | apply zH | refine zL ?_ ac.out) | exact HB.out)⟩
         rw [if_neg c64] at H
         have c64b0 : (a0_0 == 2) = false := beq_eq_false_iff_ne.mpr c64
         have c64b1 : (a0_0 != 2) = true := bne_iff_ne.mpr c64
         by_cases c74 : a0_0 = 42
         ·rw [if_pos c74] at H
          have c74b0 : (a0_0 == 42) = true := beq_iff_eq.mpr c74
          have c74b1 : (a0_0 != 42) = false := bne_eq_false_iff_eq.mpr c74
          clear c74
          replace H := Option.bind_eq_some_iff.mp H
          obtain ⟨t236, A750, H⟩ := H
          replace H : (switchbackref17_made.l0 kj44 l3 (([t236, ((l0_6.length : Int)) % 4294967296] : List Int)) (([1, 3] : List Int)) 0 a0_0 a0_1 a0_2 a0_3 a0_4 a0_5 l0_6) = some (r1, r2) := H
          have A75 := uZ A750
          clear A750
          obtain ⟨y237, hy237⟩ : ∃ y_ : List Int, y_ = (([t236, ((l0_6.length : Int)) % 4294967296] : List Int)) := ⟨_, rfl⟩
          replace H : (switchbackref17_made.l0 kj44 l3 y237 (([1, 3] : List Int)) 0 a0_0 a0_1 a0_2 a0_3 a0_4 a0_5 l0_6) = some (r1, r2) := by first | (rw [hy237]; with_reducible exact H) | (have H2_ := (Option.bind_some _ _).symm.trans H; rw [hy237]; with_reducible exact H2_) | (have H2_ := (Option.bind_some _ _).symm.trans H; with_reducible exact H2_) | with_reducible exact H | (rw [hy237]; exact H) | exact H
          have Ny237 := uZ hy237
          clear hy237
          obtain ⟨y240, hy240⟩ : ∃ y_ : List Int, y_ = (([1, 3] : List Int)) := ⟨_, rfl⟩
          replace H : (switchbackref17_made.l0 kj44 l3 y237 y240 0 a0_0 a0_1 a0_2 a0_3 a0_4 a0_5 l0_6) = some (r1, r2) := by first | (rw [hy240]; with_reducible exact H) | (have H2_ := (Option.bind_some _ _).symm.trans H; rw [hy240]; with_reducible exact H2_) | (have H2_ := (Option.bind_some _ _).symm.trans H; with_reducible exact H2_) | with_reducible exact H | (rw [hy240]; exact H) | exact H
          have Ny240 := uZ hy240
          clear hy240
          have H' := uZ H
          clear H
          have hcz76_0 : wc.cell? ⟨ab, 0, none⟩ = some (.int .i64 a0_0) := (zJ aa.out 0).trans rfl
          have hcz76_1 : wc.cell? ⟨ab, 1, none⟩ = some (.int .i64 a0_1) := (zJ aa.out 1).trans rfl
          have hcz76_2 : wc.cell? ⟨ab, 2, none⟩ = some (.int .i64 a0_2) := (zJ aa.out 2).trans rfl
          have hcz76_3 : wc.cell? ⟨ab, 3, none⟩ = some (.int .i64 a0_3) := (zJ aa.out 3).trans rfl
          have hcz76_4 : wc.cell? ⟨ab, 4, none⟩ = some (.int .u32 a0_4) := (zJ aa.out 4).trans rfl
          have hcz76_5 : wc.cell? ⟨ab, 5, none⟩ = some (.int .i64 a0_5) := (zJ aa.out 5).trans rfl
          have hcz76_6 : wc.cell? ⟨ab, 6, none⟩ = some (.slice A0_6 l0_6.length c0_6) := (zJ aa.out 6).trans rfl
          have hfz76_0 := zI aa.out 0
          have hfz76_1 := zI aa.out 1
          have hfz76_2 := zI aa.out 2
          have hfz76_3 := zI aa.out 3
          have hfz76_4 := zI aa.out 4
          have hfz76_5 := zI aa.out 5
          have hfz76_6 := zI aa.out 6
          try go_wp2
          have n0_ := uZ (blk_drew aa.out)
          have n1_ := uZ (zH HB.out)
          clear aa
          clear HB
          have aa := n0_
          have HB := n1_
          clear n0_ n1_
          refine start_ (n := 9) (S := fun w' => w'.cell? ⟨ab, 0, none⟩ = some (.int .i64 a0_0) ∧ w'.cell? ⟨ab, 1, none⟩ = some (.int .i64 a0_1) ∧ w'.cell? ⟨ab, 2, none⟩ = some (.int .i64 a0_2) ∧ w'.cell? ⟨ab, 3, none⟩ = some (.int .i64 a0_3) ∧ w'.cell? ⟨ab, 4, none⟩ = some (.int .u32 a0_4) ∧ w'.cell? ⟨ab, 5, none⟩ = some (.int .i64 a0_5) ∧ w'.cell? ⟨ab, 6, none⟩ = some (.slice A0_6 l0_6.length c0_6)) (ds := []) #[false, false, false, false, false, false, false, false, false] (by kernel_rfl) rfl rfl ⟨(zJ aa.out 0).trans rfl, (zJ aa.out 1).trans rfl, (zJ aa.out 2).trans rfl, (zJ aa.out 3).trans rfl, (zJ aa.out 4).trans rfl, (zJ aa.out 5).trans rfl, (zJ aa.out 6).trans rfl⟩ (fun hHeld => ?_); refine with_tabW switchbackref17_made.tab19 switchbackref17_made.bits19 (fun HT_ HW_ => ?_)
          generalize wc.drew = w77 at aa HB hHeld ⊢
          refine pure_ (i := 0) (N := some 110) (v := ?_) (a' := ?_) #[true, false, false, false, false, false, false, false, false] rfl rfl (zR HT_.out (by kernel_rfl)) (fun _ _ _ h => h) (Or.inl ⟨by rfl, ?_⟩) ?_ ?_
          rotate_left
          ·intro w'
           go_simp
           with_reducible rfl
          rotate_left
          ·simp only [Act.put, zO, zP, zQ, i64_w, i32_w]
           rfl
          refine pure_ (i := 3) (N := some 113) (v := ?_) (a' := ?_) #[true, false, false, true, false, false, false, false, false] rfl rfl (zR HT_.out (by kernel_rfl)) (fun _ _ _ h => h) (Or.inl ⟨by rfl, ?_⟩) ?_ ?_
          rotate_left
          ·intro w'
           go_simp
           with_reducible rfl
          rotate_left
          ·simp only [Act.put, zO, zP, zQ, i64_w, i32_w]
           rfl
          refine take_ (i := 1) (N := some 111) (v := ?_) (a' := ?_) #[true, true, false, true, false, false, false, false, false] rfl rfl (take_ofW HT_.out HW_.out (by kernel_rfl)) (fun _ _ _ h => h) (Or.inl ⟨by rfl, ?_⟩) hHeld ?_ ?_
          rotate_left
          ·rintro w' ⟨s0, s1, s2, s3, s4, s5, s6⟩
           go_simp
           with_reducible rfl
          rotate_left
          ·simp only [Act.put, zO, zP, zQ, i64_w, i32_w]
           rfl
          refine take_ (i := 4) (N := some 114) (v := ?_) (a' := ?_) #[true, true, false, true, true, false, false, false, false] rfl rfl (take_ofW HT_.out HW_.out (by kernel_rfl)) (fun _ _ _ h => h) (Or.inl ⟨by rfl, ?_⟩) hHeld ?_ ?_
          rotate_left
          ·rintro w' ⟨s0, s1, s2, s3, s4, s5, s6⟩
           go_simp
           with_reducible rfl
          rotate_left
          ·simp only [Act.put, zO, zP, zQ, i64_w, i32_w]
           rfl
          refine pure_ (i := 5) (N := some 115) (v := ?_) (a' := ?_) #[true, true, false, true, true, true, false, false, false] rfl rfl (zR HT_.out (by kernel_rfl)) (fun _ _ _ h => h) (Or.inl ⟨by rfl, ?_⟩) ?_ ?_
          rotate_left
          ·intro w'
           go_simp
           with_reducible rfl
          rotate_left
          ·simp only [Act.put, zO, zP, zQ, i64_w, i32_w]
           rfl
          refine pure_ (i := 6) (N := some 116) (v := ?_) (a' := ?_) #[true, true, false, true, true, true, true, false, false] rfl rfl (zR HT_.out (by kernel_rfl)) (fun _ _ _ h => h) (Or.inl ⟨by rfl, ?_⟩) ?_ ?_
          rotate_left
          ·intro w'
           go_simp
           with_reducible rfl
          rotate_left
          ·simp only [Act.put, zO, zP, zQ, i64_w, i32_w]
           rfl
          refine one_ (i := 2) (N := some 112) #[true, true, true, true, true, true, true, false, false] rfl rfl (one_of HT_.out (by kernel_rfl)) (by decide) (fun K hK => ?_)
          refine goes_ Tryd.func70 (by kernel_rfl) rfl #[.int .i64 42, .int .i64 a0_1, .int .i64 0, .int .i64 0] (by rfl) rfl rfl (by (try simp only [zS, List.map_cons, List.map_nil]); first | done | rfl | (simp only [zT, zU]; rfl)) ?_
          with_reducible refine (switchbackref17_word.calls 42 a0_1 0 0 t236 _ A75.out).mono ?_
          rintro e w78 ⟨rfl, hb⟩
          refine ⟨_, rfl, ?_⟩
          have n0_ := uZ (zK (g := ab) (o := .cells #[.int .i64 a0_0, .int .i64 a0_1, .int .i64 a0_2, .int .i64 a0_3, .int .u32 a0_4, .int .i64 a0_5, .slice A0_6 l0_6.length c0_6] 40 (0, 0)) (uK aa.out) hb)
          have n1_ := uZ (zN (uC HB.out ac.out) hb)
          clear aa
          clear HB
          have aa := n0_
          have HB := n1_
          clear n0_ n1_
          (try clear hb)
          (try clear hb2)
          (try clear hk)
          (try clear hi)
          refine hK.out _ _ ⟨(zJ aa.out 0).trans rfl, (zJ aa.out 1).trans rfl, (zJ aa.out 2).trans rfl, (zJ aa.out 3).trans rfl, (zJ aa.out 4).trans rfl, (zJ aa.out 5).trans rfl, (zJ aa.out 6).trans rfl⟩ (fun hHeld => ?_)
          clear hK K
          refine norm_ (a' := ?_) ?_ ?_
          rotate_left
          ·show Act.put _ (some 112) _ = _
           simp only [Act.put, zO, zP, zQ, i64_w, i32_w]
           rfl
          refine one_ (i := 7) (N := some 117) #[true, true, true, true, true, true, true, true, false] rfl rfl (one_of HT_.out (by kernel_rfl)) (by decide) (fun K hK => ?_)
          refine Kd.R_lit_step (Kd.int .u32) _ 38 ?hg (N := 117) ?hd (xs := ([t236, ((l0_6.length : Int)) % 4294967296] : List Int)) (inner := [.int .u32 t236, .int .u32 (((l0_6.length : Int)) % 4294967296)]) (ok := fun _ => True) (okp := fun _ => True) ?hr ?hp (fun _ hk => hk) trivial (Below.refl _ _) (Nat.le_refl _) (by simp) ?_; (case hd => rfl); (case hg => rfl); (case hr => first | (go_simp; done) | (go_simp; rfl)); (case hp => exact (Reps.one (show Kd.M (Kd.int .u32) _ _ _ t236 [.int .u32 t236] from rfl) (Reps.one (show Kd.M (Kd.int .u32) _ _ _ (((l0_6.length : Int)) % 4294967296) [.int .u32 (((l0_6.length : Int)) % 4294967296)] from rfl) (Reps.none _ _))))
          intro v238 w79 ho80 hb hg_ hnew_
          clear hg_ hnew_
          (first | rw [← Ny237.out] at ho80 | (simp only [Int.reduceToNat] at ho80; rw [← Ny237.out] at ho80))
          have n0_ := uZ (zE ho80 (zM (uC HB.out ac.out)))
          have n1_ := uZ (zK (g := ab) (o := .cells #[.int .i64 a0_0, .int .i64 a0_1, .int .i64 a0_2, .int .i64 a0_3, .int .u32 a0_4, .int .i64 a0_5, .slice A0_6 l0_6.length c0_6] 40 (0, 0)) (uK aa.out) hb)
          have n2_ := uZ (zN (uC HB.out ac.out) hb)
          clear aa
          clear HB
          have HO239 := n0_
          have aa := n1_
          have HB := n2_
          clear n0_ n1_ n2_
          clear hb ho80
          refine hK.out _ _ ⟨(zJ aa.out 0).trans rfl, (zJ aa.out 1).trans rfl, (zJ aa.out 2).trans rfl, (zJ aa.out 3).trans rfl, (zJ aa.out 4).trans rfl, (zJ aa.out 5).trans rfl, (zJ aa.out 6).trans rfl⟩ (fun hHeld => ?_)
          clear hK K
          refine norm_ (a' := ?_) ?_ ?_
          rotate_left
          ·show Act.put _ (some 117) _ = _
           simp only [Act.put, zO, zP, zQ, i64_w, i32_w]
           rfl
          refine pure_ (i := 8) (N := some 13) (v := ?_) (a' := ?_) #[true, true, true, true, true, true, true, true, true] rfl rfl (zR HT_.out (by kernel_rfl)) (fun _ _ _ h => h) (Or.inl ⟨by rfl, ?_⟩) ?_ ?_
          rotate_left
          ·intro w'
           go_simp
           with_reducible rfl
          rotate_left
          ·simp only [Act.put, zO, zP, zQ, i64_w, i32_w]
           rfl
          refine done_ (done_of HT_.out (by kernel_rfl)) ?_
          try go_wp2_with (first | ((with_reducible refine gate_dst (N := 118) rfl ?_); refine Kd.R_lit (Kd.int .i64) _ 3 ?hg (N := 118) ?hd (xs := ([1, 3] : List Int)) (inner := [.int .i64 1, .int .i64 3]) (ok := fun _ => True) (okp := fun _ => True) ?hr ?hp (fun _ hk => hk) trivial (Below.refl _ _) (Nat.le_refl _) (by simp) ?_; (case hd => rfl); (case hg => rfl); (case hr => first | (go_simp; done) | (go_simp; rfl)); (case hp => exact (Reps.one (show Kd.M (Kd.int .i64) _ _ _ 1 [.int .i64 1] from rfl) (Reps.one (show Kd.M (Kd.int .i64) _ _ _ 3 [.int .i64 3] from rfl) (Reps.none _ _)))); intro v241 w81 ho82 hb hg_ hnew_; clear hg_ hnew_; (first | rw [← Ny240.out] at ho82 | (simp only [Int.reduceToNat] at ho82; rw [← Ny240.out] at ho82)); have n0_ := uZ (zD (uR HO239.out) hb); have n1_ := uZ (zE ho82 (zM (uC HB.out ac.out))); have n2_ := uZ (zK (g := ab) (o := .cells #[.int .i64 a0_0, .int .i64 a0_1, .int .i64 a0_2, .int .i64 a0_3, .int .u32 a0_4, .int .i64 a0_5, .slice A0_6 l0_6.length c0_6] 40 (0, 0)) (uK aa.out) hb); have n3_ := uZ (zN (uC HB.out ac.out) hb); clear HO239; clear aa; clear HB; have HO239 := n0_; have HO242 := n1_; have aa := n2_; have HB := n3_; clear n0_ n1_ n2_ n3_; clear hb ho82))
          go_loopg [13, 14, 15] kj44 (fun kq v13 v14 v15 w' => ∃ (x13_5 : List Int) (x14_5 : List Int) (af : Int), v15 = .int .i64 af ∧ Aside0 (switchbackref17_made.l0 kq l3 x13_5 x14_5 af a0_0 a0_1 a0_2 a0_3 a0_4 a0_5 l0_6 = some (r1, r2)) ∧ Aside0 (kq ≤ kj44) ∧ Aside0 (Kd.R (Kd.int .u32) 38 w' w.heap.size (fun _ => True) v13 x13_5) ∧ Aside0 (Kd.R (Kd.int .i64) 3 w' w.heap.size (fun _ => True) v14 x14_5) ∧ Aside0 (w'.heap[ab]? = some (.cells #[.int .i64 a0_0, .int .i64 a0_1, .int .i64 a0_2, .int .i64 a0_3, .int .u32 a0_4, .int .i64 a0_5, (.slice A0_6 l0_6.length c0_6)] 40 (0, 0))) ∧ Aside0 (Below w.heap.size w w'))
          case atStart => exact ⟨(y237), (y240), (0), (by first | rfl | (simp; done) | (simp [*]; done)), H', ⟨Nat.le_refl _⟩, ⟨uR HO239.out⟩, ⟨uR HO242.out⟩, ⟨uK aa.out⟩, ⟨uC HB.out ac.out⟩⟩
          case round =>
           clear H'
           try clear c1
           try clear c2
           try clear p2
           try clear c3
           try clear c4
           try clear c5
           try clear c6
           try clear p6
           try clear c7
           try clear c20
           try clear c33
           try clear c33b0
           try clear c33b1
           try clear c34
           try clear c38
           try clear c46
           try clear c48
           try clear c56
           try clear c56b0
           try clear c56b1
           try clear c64
           try clear c64b0
           try clear c64b1
           try clear p64
           try clear c70
           try clear c74
           try clear c74b0
           try clear c74b1
           try clear hcz35_0
           try clear hcz35_1
           try clear hcz35_2
           try clear hcz35_3
           try clear hcz35_4
           try clear hcz35_5
           try clear hcz35_6
           try clear hcz36_0
           try clear hcz36_1
           try clear hcz36_2
           try clear hcz36_3
           try clear hcz36_4
           try clear hcz36_5
           try clear hcz36_6
           try clear hcz37_0
           try clear hcz37_1
           try clear hcz37_2
           try clear hcz37_3
           try clear hcz37_4
           try clear hcz37_5
           try clear hcz37_6
           try clear hcz47_0
           try clear hcz47_1
           try clear hcz47_2
           try clear hcz47_3
           try clear hcz47_4
           try clear hcz47_5
           try clear hcz47_6
           try clear hcz50_0
           try clear hcz50_1
           try clear hcz50_2
           try clear hcz50_3
           try clear hcz50_4
           try clear hcz50_5
           try clear hcz50_6
           try clear hcz58_0
           try clear hcz58_1
           try clear hcz58_2
           try clear hcz58_3
           try clear hcz58_4
           try clear hcz58_5
           try clear hcz58_6
           try clear hcz66_0
           try clear hcz66_1
           try clear hcz66_2
           try clear hcz66_3
           try clear hcz66_4
           try clear hcz66_5
           try clear hcz66_6
           try clear hcz76_0
           try clear hcz76_1
           try clear hcz76_2
           try clear hcz76_3
           try clear hcz76_4
           try clear hcz76_5
           try clear hcz76_6
           try clear hfz35_0
           try clear hfz35_1
           try clear hfz35_2
           try clear hfz35_3
           try clear hfz35_4
           try clear hfz35_5
           try clear hfz35_6
           try clear hfz36_0
           try clear hfz36_1
           try clear hfz36_2
           try clear hfz36_3
           try clear hfz36_4
           try clear hfz36_5
           try clear hfz36_6
           try clear hfz37_0
           try clear hfz37_1
           try clear hfz37_2
           try clear hfz37_3
           try clear hfz37_4
           try clear hfz37_5
           try clear hfz37_6
           try clear hfz47_0
           try clear hfz47_1
           try clear hfz47_2
           try clear hfz47_3
           try clear hfz47_4
           try clear hfz47_5
           try clear hfz47_6
           try clear hfz50_0
           try clear hfz50_1
           try clear hfz50_2
           try clear hfz50_3
           try clear hfz50_4
           try clear hfz50_5
           try clear hfz50_6
           try clear hfz58_0
           try clear hfz58_1
           try clear hfz58_2
           try clear hfz58_3
           try clear hfz58_4
           try clear hfz58_5
           try clear hfz58_6
           try clear hfz66_0
           try clear hfz66_1
           try clear hfz66_2
           try clear hfz66_3
           try clear hfz66_4
           try clear hfz66_5
           try clear hfz66_6
           try clear hfz76_0
           try clear hfz76_1
           try clear hfz76_2
           try clear hfz76_3
           try clear hfz76_4
           try clear hfz76_5
           try clear hfz76_6
           try clear p2
           obtain ⟨x13_5, x14_5, af, rfl, HA, HK5, HO_13, HO_14, aa, HB⟩ := hrel
           cases gk with
           | zero => exact absurd HA.out (by simp [switchbackref17_made.l0])
           | succ k5 =>
            have H := HA.out
            clear HA
            simp only [switchbackref17_made.l0] at H
            by_cases c83 : af < (l0_6.length : Int)
            ·rw [if_pos c83] at H
             have c83b0 : decide (af < (l0_6.length : Int)) = true := decide_eq_true c83
             clear c83
             by_cases c84 : 0 ≤ af
             ·rw [if_pos c84] at H
              have c84b0 : decide (0 ≤ af) = true := decide_eq_true c84
              clear c84
              by_cases c85 : 0 ≤ (rd l0_6 af)
              ·rw [if_pos c85] at H
               have c85b0 : decide (0 ≤ (rd l0_6 af)) = true := decide_eq_true c85
               clear c85
               by_cases c86 : (rd l0_6 af) < (l3.length : Int)
               ·rw [if_pos c86] at H
                have c86b0 : decide ((rd l0_6 af) < (l3.length : Int)) = true := decide_eq_true c86
                clear c86
                by_cases c87 : x13_5.length < 35184372088832
                ·rw [if_pos c87] at H
                 have LMc87 := uZ c87
                 clear c87
                 obtain ⟨y245, hy245⟩ : ∃ y_ : List Int, y_ = (x13_5 ++ [(rd l3 (rd l0_6 af)) % 4294967296]) := ⟨_, rfl⟩
                 replace H : (if x14_5.length < 17592186044416 then (switchbackref17_made.l0 k5 l3 y245 (x14_5 ++ [3]) (wrap64 (af + 1)) a0_0 a0_1 a0_2 a0_3 a0_4 a0_5 l0_6) else (none)) = some (r1, r2) := by first | (rw [hy245]; with_reducible exact H) | (have H2_ := (Option.bind_some _ _).symm.trans H; rw [hy245]; with_reducible exact H2_) | (have H2_ := (Option.bind_some _ _).symm.trans H; with_reducible exact H2_) | with_reducible exact H | (rw [hy245]; exact H) | exact H
                 have Ny245 := uZ hy245
                 clear hy245
                 by_cases c88 : x14_5.length < 17592186044416
                 ·rw [if_pos c88] at H
                  have LMc88 := uZ c88
                  clear c88
                  obtain ⟨y248, hy248⟩ : ∃ y_ : List Int, y_ = (x14_5 ++ [3]) := ⟨_, rfl⟩
                  replace H : (switchbackref17_made.l0 k5 l3 y245 y248 (wrap64 (af + 1)) a0_0 a0_1 a0_2 a0_3 a0_4 a0_5 l0_6) = some (r1, r2) := by first | (rw [hy248]; with_reducible exact H) | (have H2_ := (Option.bind_some _ _).symm.trans H; rw [hy248]; with_reducible exact H2_) | (have H2_ := (Option.bind_some _ _).symm.trans H; with_reducible exact H2_) | with_reducible exact H | (rw [hy248]; exact H) | exact H
                  have Ny248 := uZ hy248
                  clear hy248
                  have H' := uZ H
                  clear H
                  have hcz89_0 : wr.cell? ⟨ab, 0, none⟩ = some (.int .i64 a0_0) := (zJ aa.out 0).trans rfl
                  have hcz89_1 : wr.cell? ⟨ab, 1, none⟩ = some (.int .i64 a0_1) := (zJ aa.out 1).trans rfl
                  have hcz89_2 : wr.cell? ⟨ab, 2, none⟩ = some (.int .i64 a0_2) := (zJ aa.out 2).trans rfl
                  have hcz89_3 : wr.cell? ⟨ab, 3, none⟩ = some (.int .i64 a0_3) := (zJ aa.out 3).trans rfl
                  have hcz89_4 : wr.cell? ⟨ab, 4, none⟩ = some (.int .u32 a0_4) := (zJ aa.out 4).trans rfl
                  have hcz89_5 : wr.cell? ⟨ab, 5, none⟩ = some (.int .i64 a0_5) := (zJ aa.out 5).trans rfl
                  have hcz89_6 : wr.cell? ⟨ab, 6, none⟩ = some (.slice A0_6 l0_6.length c0_6) := (zJ aa.out 6).trans rfl
                  have hfz89_0 := zI aa.out 0
                  have hfz89_1 := zI aa.out 1
                  have hfz89_2 := zI aa.out 2
                  have hfz89_3 := zI aa.out 3
                  have hfz89_4 := zI aa.out 4
                  have hfz89_5 := zI aa.out 5
                  have hfz89_6 := zI aa.out 6
                  have p243 : 0 ≤ (af : Int) := of_decide_eq_true (by first | (with_reducible assumption) | assumption)
                  have q243 : af < (l0_6.length : Int) := of_decide_eq_true (by first | (with_reducible assumption) | assumption)
                  obtain ⟨ad243, e243, hx243_0⟩ := Kd.at_int HR0_6.out af p243 q243
                  cases e243
                  replace hx243_0 := (HB.out.cell (World.block_lt_of_cell? w _ hx243_0)).trans hx243_0
                  replace p243 := eq_true p243
                  replace q243 := eq_true q243
                  have p244 : 0 ≤ ((rd l0_6 af) : Int) := of_decide_eq_true (by first | (with_reducible assumption) | assumption)
                  have q244 : (rd l0_6 af) < (l3.length : Int) := of_decide_eq_true (by first | (with_reducible assumption) | assumption)
                  obtain ⟨ad244, e244, hx244_0⟩ := Kd.at_int HR3.out (rd l0_6 af) p244 q244
                  cases e244
                  replace hx244_0 := (HB.out.cell (World.block_lt_of_cell? w _ hx244_0)).trans hx244_0
                  replace p244 := eq_true p244
                  replace q244 := eq_true q244
                  go_wp2_with (first | ((with_reducible refine gate_builtin (b := .append) (xs := #[.tmp 126, .tmp 136]) rfl ?_); at_builtin; refine Kd.R_append (Kd.int .u32) (w0 := w) w.heap.size rfl (.tmp 126) (.tmp 136) 24 38 (.int .u32 0) 4 rfl Tryd.underlying24 info38 rfl (by decide) (by omega) u13 x13_5 ((rd l3 (rd l0_6 af)) % 4294967296) [.int .u32 ((rd l3 (rd l0_6 af)) % 4294967296)] (fun _ => True) (fun _ => False) rfl rfl ?aP (fun _ hk => hk.elim) ?aF ?aO ?aB ?aS ?aL ?_; (case aP => exact rfl); (case aB => exact (uC HB.out ac.out)); (case aF => exact (fun _ _ => trivial)); (case aO => exact (uR HO_13.out)); (case aS => exact (zM (uC HB.out ac.out))); (case aL => have := LMc87.out; omega); intro v246 w90 ho hb hg hat; rw [← Ny245.out] at ho; have n0_ := uZ (Kd.R_over' (uR HO_14.out) (Kd.R_typed (uR HO_13.out)) (by decide) hg); have n1_ := uZ (blk_grown (g := ab) (o := .cells #[.int .i64 a0_0, .int .i64 a0_1, .int .i64 a0_2, .int .i64 a0_3, .int .u32 a0_4, .int .i64 a0_5, .slice (some ad243) l0_6.length c0_6] 40 (0, 0)) (uK aa.out) hg (Kd.R_ne HO_13.out aa.out (by decide))); have n2_ := uZ (hb); have n3_ := uZ (ho); clear HO_14; clear aa; clear HB; clear HO_13; have HO_14 := n0_; have aa := n1_; have HB := n2_; have HO247 := n3_; clear n0_ n1_ n2_ n3_; clear ho hb hg hat) | ((with_reducible refine gate_builtin (b := .append) (xs := #[.tmp 138, .tmp 139]) rfl ?_); at_builtin; refine Kd.R_append (Kd.int .i64) (w0 := w) w.heap.size rfl (.tmp 138) (.tmp 139) 25 3 (.int .i64 0) 8 rfl Tryd.underlying25 info3 rfl (by decide) (by omega) u14 x14_5 3 [.int .i64 3] (fun _ => True) (fun _ => False) rfl rfl ?aP (fun _ hk => hk.elim) ?aF ?aO ?aB ?aS ?aL ?_; (case aP => exact rfl); (case aB => exact (uC HB.out ac.out)); (case aF => exact (fun _ _ => trivial)); (case aO => exact (uR HO_14.out)); (case aS => exact (zM (uC HB.out ac.out))); (case aL => have := LMc88.out; omega); intro v249 w91 ho hb hg hat; rw [← Ny248.out] at ho; have n0_ := uZ (blk_grown (g := ab) (o := .cells #[.int .i64 a0_0, .int .i64 a0_1, .int .i64 a0_2, .int .i64 a0_3, .int .u32 a0_4, .int .i64 a0_5, .slice (some ad243) l0_6.length c0_6] 40 (0, 0)) (uK aa.out) hg (Kd.R_ne HO_14.out aa.out (by decide))); have n1_ := uZ (Kd.R_over' (uR HO247.out) (Kd.R_typed (uR HO_14.out)) (by decide) hg); have n2_ := uZ (hb); have n3_ := uZ (ho); clear aa; clear HO247; clear HB; clear HO_14; have aa := n0_; have HO247 := n1_; have HB := n2_; have HO250 := n3_; clear n0_ n1_ n2_ n3_; clear ho hb hg hat))
                  go_roundg k5
                  case measure => have := HJ6.out; have := HJ16.out; have := HJ31.out; have := HJ44.out; have := HK5.out; omega
                  case rel => exact ⟨(y245), (y248), (wrap64 (af + 1)), (by first | rfl | (simp; done) | (simp [*]; done)), H', ⟨by have := HJ6.out; have := HJ16.out; have := HJ31.out; have := HJ44.out; have := HK5.out; omega⟩, ⟨uR HO247.out⟩, ⟨uR HO250.out⟩, ⟨uK aa.out⟩, ⟨uC HB.out ac.out⟩⟩
                 rw [if_neg c88] at H
                 exact absurd H (by simp)
                rw [if_neg c87] at H
                exact absurd H (by simp)
               rw [if_neg c86] at H
               exact absurd H (by simp)
              rw [if_neg c85] at H
              exact absurd H (by simp)
             rw [if_neg c84] at H
             exact absurd H (by simp)
            rw [if_neg c83] at H
            have c83b0 : decide (af < (l0_6.length : Int)) = false := decide_eq_false c83
            clear c83
            simp only [Option.some.injEq, Prod.mk.injEq] at H
            obtain ⟨rfl, rfl⟩ := H
            have hcz92_0 : wr.cell? ⟨ab, 0, none⟩ = some (.int .i64 a0_0) := (zJ aa.out 0).trans rfl
            have hcz92_1 : wr.cell? ⟨ab, 1, none⟩ = some (.int .i64 a0_1) := (zJ aa.out 1).trans rfl
            have hcz92_2 : wr.cell? ⟨ab, 2, none⟩ = some (.int .i64 a0_2) := (zJ aa.out 2).trans rfl
            have hcz92_3 : wr.cell? ⟨ab, 3, none⟩ = some (.int .i64 a0_3) := (zJ aa.out 3).trans rfl
            have hcz92_4 : wr.cell? ⟨ab, 4, none⟩ = some (.int .u32 a0_4) := (zJ aa.out 4).trans rfl
            have hcz92_5 : wr.cell? ⟨ab, 5, none⟩ = some (.int .i64 a0_5) := (zJ aa.out 5).trans rfl
            have hcz92_6 : wr.cell? ⟨ab, 6, none⟩ = some (.slice A0_6 l0_6.length c0_6) := (zJ aa.out 6).trans rfl
            have hfz92_0 := zI aa.out 0
            have hfz92_1 := zI aa.out 1
            have hfz92_2 := zI aa.out 2
            have hfz92_3 := zI aa.out 3
            have hfz92_4 := zI aa.out 4
            have hfz92_5 := zI aa.out 5
            have hfz92_6 := zI aa.out 6
            go_wp2
            go_ret2
            exact ⟨_, _, by first | rfl | (simp [errW_none, errW_some] <;> rfl) | (simp [*, errW_none, errW_some] <;> rfl), by (with_reducible repeat (first | apply zA | apply zB | apply zC)); exact HO_13.out, by (with_reducible repeat (first | apply zA | apply zB | apply zC)); exact HO_14.out, by repeat (first | (with_reducible first | exact HB.out | apply zG | apply zF | apply zH | refine zL ?_ ac.out) | exact HB.out)⟩
         rw [if_neg c74] at H
         have c74b0 : (a0_0 == 42) = false := beq_eq_false_iff_ne.mpr c74
         have c74b1 : (a0_0 != 42) = true := bne_iff_ne.mpr c74
         replace H := Option.bind_eq_some_iff.mp H
         obtain ⟨t251, A930, H⟩ := H
         replace H : (some ((([t251] : List Int)), (([1] : List Int)))) = some (r1, r2) := H
         have A93 := uZ A930
         clear A930
         obtain ⟨y252, hy252⟩ : ∃ y_ : List Int, y_ = (([t251] : List Int)) := ⟨_, rfl⟩
         replace H : (some (y252, (([1] : List Int)))) = some (r1, r2) := by first | (rw [hy252]; with_reducible exact H) | (have H2_ := (Option.bind_some _ _).symm.trans H; rw [hy252]; with_reducible exact H2_) | (have H2_ := (Option.bind_some _ _).symm.trans H; with_reducible exact H2_) | with_reducible exact H | (rw [hy252]; exact H) | exact H
         have Ny252 := uZ hy252
         clear hy252
         obtain ⟨y255, hy255⟩ : ∃ y_ : List Int, y_ = (([1] : List Int)) := ⟨_, rfl⟩
         replace H : (some (y252, y255)) = some (r1, r2) := by first | (rw [hy255]; with_reducible exact H) | (have H2_ := (Option.bind_some _ _).symm.trans H; rw [hy255]; with_reducible exact H2_) | (have H2_ := (Option.bind_some _ _).symm.trans H; with_reducible exact H2_) | with_reducible exact H | (rw [hy255]; exact H) | exact H
         have Ny255 := uZ hy255
         clear hy255
         simp only [Option.some.injEq, Prod.mk.injEq] at H
         obtain ⟨rfl, rfl⟩ := H
         have hcz94_0 : wc.cell? ⟨ab, 0, none⟩ = some (.int .i64 a0_0) := (zJ aa.out 0).trans rfl
         have hcz94_1 : wc.cell? ⟨ab, 1, none⟩ = some (.int .i64 a0_1) := (zJ aa.out 1).trans rfl
         have hcz94_2 : wc.cell? ⟨ab, 2, none⟩ = some (.int .i64 a0_2) := (zJ aa.out 2).trans rfl
         have hcz94_3 : wc.cell? ⟨ab, 3, none⟩ = some (.int .i64 a0_3) := (zJ aa.out 3).trans rfl
         have hcz94_4 : wc.cell? ⟨ab, 4, none⟩ = some (.int .u32 a0_4) := (zJ aa.out 4).trans rfl
         have hcz94_5 : wc.cell? ⟨ab, 5, none⟩ = some (.int .i64 a0_5) := (zJ aa.out 5).trans rfl
         have hcz94_6 : wc.cell? ⟨ab, 6, none⟩ = some (.slice A0_6 l0_6.length c0_6) := (zJ aa.out 6).trans rfl
         have hfz94_0 := zI aa.out 0
         have hfz94_1 := zI aa.out 1
         have hfz94_2 := zI aa.out 2
         have hfz94_3 := zI aa.out 3
         have hfz94_4 := zI aa.out 4
         have hfz94_5 := zI aa.out 5
         have hfz94_6 := zI aa.out 6
         go_wp2_with (first | ((with_reducible refine gate_callee (f := 70) rfl ?_); refine goesL_ (some 151) rfl rfl Tryd.func70 (by kernel_rfl) rfl #[.int .i64 a0_0, .int .i64 a0_1, .int .i64 a0_2, .int .i64 a0_3] rfl (by (try simp only [zS, List.map_cons, List.map_nil]); first | done | rfl | (simp only [zT, zU]; rfl)) ?_; (with_reducible refine (switchbackref17_word.calls a0_0 a0_1 a0_2 a0_3 t251 _ A93.out).mono ?_); rintro e w95 ⟨rfl, hb⟩; refine ⟨_, rfl, ?_⟩; have n0_ := uZ (zK (g := ab) (o := .cells #[.int .i64 a0_0, .int .i64 a0_1, .int .i64 a0_2, .int .i64 a0_3, .int .u32 a0_4, .int .i64 a0_5, .slice A0_6 l0_6.length c0_6] 40 (0, 0)) (uK aa.out) hb); have n1_ := uZ (zN (uC HB.out ac.out) hb); clear aa; clear HB; have aa := n0_; have HB := n1_; clear n0_ n1_; (try clear hb); (try clear hb2); (try clear hk); (try clear hi)) | ((with_reducible refine gate_dst (N := 152) rfl ?_); refine Kd.R_lit (Kd.int .u32) _ 38 ?hg (N := 152) ?hd (xs := ([t251] : List Int)) (inner := [.int .u32 t251]) (ok := fun _ => True) (okp := fun _ => True) ?hr ?hp (fun _ hk => hk) trivial (Below.refl _ _) (Nat.le_refl _) (by simp) ?_; (case hd => rfl); (case hg => rfl); (case hr => first | (go_simp; done) | (go_simp; rfl)); (case hp => exact (Reps.one (show Kd.M (Kd.int .u32) _ _ _ t251 [.int .u32 t251] from rfl) (Reps.none _ _))); intro v253 w96 ho97 hb hg_ hnew_; clear hg_ hnew_; (first | rw [← Ny252.out] at ho97 | (simp only [Int.reduceToNat] at ho97; rw [← Ny252.out] at ho97)); have n0_ := uZ (zE ho97 (zM (uC HB.out ac.out))); have n1_ := uZ (zK (g := ab) (o := .cells #[.int .i64 a0_0, .int .i64 a0_1, .int .i64 a0_2, .int .i64 a0_3, .int .u32 a0_4, .int .i64 a0_5, .slice A0_6 l0_6.length c0_6] 40 (0, 0)) (uK aa.out) hb); have n2_ := uZ (zN (uC HB.out ac.out) hb); clear aa; clear HB; have HO254 := n0_; have aa := n1_; have HB := n2_; clear n0_ n1_ n2_; clear hb ho97) | ((with_reducible refine gate_dst (N := 153) rfl ?_); refine Kd.R_lit (Kd.int .i64) _ 3 ?hg (N := 153) ?hd (xs := ([1] : List Int)) (inner := [.int .i64 1]) (ok := fun _ => True) (okp := fun _ => True) ?hr ?hp (fun _ hk => hk) trivial (Below.refl _ _) (Nat.le_refl _) (by simp) ?_; (case hd => rfl); (case hg => rfl); (case hr => first | (go_simp; done) | (go_simp; rfl)); (case hp => exact (Reps.one (show Kd.M (Kd.int .i64) _ _ _ 1 [.int .i64 1] from rfl) (Reps.none _ _))); intro v256 w98 ho99 hb hg_ hnew_; clear hg_ hnew_; (first | rw [← Ny255.out] at ho99 | (simp only [Int.reduceToNat] at ho99; rw [← Ny255.out] at ho99)); have n0_ := uZ (zD (uR HO254.out) hb); have n1_ := uZ (zE ho99 (zM (uC HB.out ac.out))); have n2_ := uZ (zK (g := ab) (o := .cells #[.int .i64 a0_0, .int .i64 a0_1, .int .i64 a0_2, .int .i64 a0_3, .int .u32 a0_4, .int .i64 a0_5, .slice A0_6 l0_6.length c0_6] 40 (0, 0)) (uK aa.out) hb); have n3_ := uZ (zN (uC HB.out ac.out) hb); clear HO254; clear aa; clear HB; have HO254 := n0_; have HO257 := n1_; have aa := n2_; have HB := n3_; clear n0_ n1_ n2_ n3_; clear hb ho99))
         go_ret2
         exact ⟨_, _, by first | rfl | (simp [errW_none, errW_some] <;> rfl) | (simp [*, errW_none, errW_some] <;> rfl), by (with_reducible repeat (first | apply zA | apply zB | apply zC)); exact HO254.out, by (with_reducible repeat (first | apply zA | apply zB | apply zC)); exact HO257.out, by repeat (first | (with_reducible first | exact HB.out | apply zG | apply zF | apply zH | refine zL ?_ ac.out) | exact HB.out)⟩

end Go.Proofs.YtamimnaafiphcaaDoor.PR1D
