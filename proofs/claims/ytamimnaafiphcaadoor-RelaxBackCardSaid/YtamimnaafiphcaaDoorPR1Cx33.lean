-- Written by gp.py for this claim.
import Derived.Test.YtamimnaafiphcaaDoorPR1CZ
import Derived.Test.YtamimnaafiphcaaDoorPR1Cx1
import Derived.Test.YtamimnaafiphcaaDoorPR1Cx26
import Derived.Test.YtamimnaafiphcaaDoorPR1Cx30
import Derived.Test.YtamimnaafiphcaaDoorPR1Cx31
import Derived.Test.YtamimnaafiphcaaDoorPR1Cx32
import Derived.Test.YtamimnaafiphcaaDoorPR1Cd33
namespace Go.Proofs.YtamimnaafiphcaaDoor.PR1C
open Go.RowKit Go.Proofs.YtamimnaafiphcaaDoorW.PrintWords Go.Proofs.YtamimnaafiphcaaDoorW.PrintLast Go.Proofs.YtamimnaafiphcaaDoorW.PrintMore
attribute [local go_sem] max2_int min2_int max_two min_two max_three min_three max_four min_four   -- for this text's walks alone
set_option linter.unusedVariables false
set_option linter.unusedSimpArgs false

attribute [local go_sem high] eqA44
namespace q_lineG
theorem uZ {p : Prop} (h : p) : Aside0 p := ⟨h⟩
theorem uK {p q : Prop} (h : p) (g : p → q := by intro h; (with_reducible repeat (first | apply blk_drewN | apply blk_drew | apply blk_alloc)); exact h) : q := g h
theorem uB {p q : Prop} (h : p) (g : p → q := by intro h; repeat (first | (with_reducible first | exact h | apply below_alloc | apply pw_below_drewN | apply below_drew1) | exact h)) : q := g h
theorem uC {p q s : Prop} (h : p) (j : s) (g : p → s → q := by intro h j; repeat (first | (with_reducible first | exact h | apply below_alloc | apply pw_below_drewN | apply below_drew1 | refine below_set ?_ j) | exact h)) : q := g h j
theorem uD {p q s r : Prop} (h : p) (j : s) (k : r) (g : p → s → r → q := by intro h j k; repeat (first | (with_reducible first | exact h | apply below_alloc | apply pw_below_drewN | apply below_drew1 | refine below_set ?_ j | refine below_set ?_ k) | exact h)) : q := g h j k
theorem uA {p : Prop} [Decidable p] (h : decide p = true := by first | (with_reducible assumption) | assumption) : p := of_decide_eq_true h
theorem zA : type_of% @Kd.C_alloc := @Kd.C_alloc
theorem zB : type_of% @Kd.C_drewN := @Kd.C_drewN
theorem zC : type_of% @Kd.C_drew := @Kd.C_drew
theorem zD : type_of% @Kd.C_below := @Kd.C_below
theorem zE : type_of% @blk_drewN := @blk_drewN
theorem zF : type_of% @blk_drew := @blk_drew
theorem zG : type_of% @blk_alloc := @blk_alloc
theorem zH : type_of% @pw_below_drewN := @pw_below_drewN
theorem zI : type_of% @below_alloc := @below_alloc
theorem zJ : type_of% @below_drew1 := @below_drew1
theorem zK : type_of% @blk_frozen := @blk_frozen
theorem zL : type_of% @blk_cell := @blk_cell
theorem zM : type_of% @blk_put := @blk_put
theorem zN : type_of% @blk_far := @blk_far
theorem zO : type_of% @blk_below := @blk_below
theorem zP : type_of% @blk_lt := @blk_lt
theorem zQ : type_of% @below_set := @below_set
theorem zR : type_of% @below_size := @below_size
theorem zS : type_of% @below_step := @below_step
theorem zT : type_of% @World.block_lt_of_cell? := @World.block_lt_of_cell?
theorem zU : type_of% @List.setIfInBounds_toArray := @List.setIfInBounds_toArray
theorem zV : type_of% @List.set_cons_zero := @List.set_cons_zero
theorem zW : type_of% @List.set_cons_succ := @List.set_cons_succ
theorem zX : type_of% @any_of := @any_of
theorem zY : type_of% @List.map_toArray := @List.map_toArray
theorem zZ : type_of% @List.length_drop := @List.length_drop
theorem yA : type_of% @List.length_take := @List.length_take
end q_lineG
open q_lineG

def lineG.T19 : Bool × List (List Nat × List Nat) := (true, [([], []), ([], []), ([1], [1]), ([2], [2]), ([], []), ([4], [4]), ([], []), ([6], [6]), ([3, 5, 7], [3, 5, 7]), ([0, 8], [0, 8]), ([9, 3], [9]), ([10], [10]), ([10, 11], [10, 11]), ([12, 10], [12]), ([13], [13]), ([13], [13]), ([14, 15, 13], [13, 14, 15]), ([13, 16], [13, 16]), ([17, 13], [17]), ([18], [18]), ([18], [18]), ([20, 18], [18, 20]), ([18], [18]), ([19, 21, 22, 18, 18], [18, 19, 21, 22]), ([18, 23], [18, 23]), ([23], []), ([24, 25, 0, 1, 2, 3, 4, 5, 6, 7, 8, 9, 10, 11, 12, 13, 14, 15, 16, 17, 18, 19, 20, 21, 22, 23, 24, 25], [24])])
def lineG.B19 : List Nat := [0, 0, 2, 6, 0, 16, 0, 64, 254, 511, 1023, 2047, 4095, 8191, 16383, 16383, 65535, 131071, 262143, 524287, 524287, 1572863, 524287, 8388607, 16777215, 16777215, 67108863]
theorem lineG.tab19 : rtab .any (opsOf Tryd.f29 19) = lineG.T19 := by kernel_rfl
theorem lineG.bits19 : waitsOk lineG.T19.2 lineG.B19 = true := by kernel_rfl
def lineG.T23 : Bool × List (List Nat × List Nat) := (true, [([], []), ([], []), ([0, 1], [0, 1]), ([2], [2]), ([3], [3]), ([4, 3], [3, 4]), ([3], [3]), ([6, 3], [3, 6]), ([7, 3], [3, 7]), ([5, 8, 3], [3, 5, 8]), ([3, 9], [3, 9]), ([10, 3], [10]), ([11], [11]), ([12, 11], [11, 12]), ([11], [11]), ([14, 11], [11, 14]), ([13, 15, 11], [11, 13, 15]), ([16, 11], [11, 16]), ([17, 11], [11, 17]), ([11, 18], [11, 18]), ([19, 11], [19]), ([20], [20]), ([21, 20], [20, 21]), ([20], [20]), ([23, 20], [20, 23]), ([22, 24, 20], [20, 22, 24]), ([25, 20], [20, 25]), ([20], [20]), ([27, 20], [20, 27]), ([26, 28, 20], [20, 26, 28]), ([20, 29], [20, 29]), ([20], []), ([30, 31, 0, 1, 2, 3, 4, 5, 6, 7, 8, 9, 10, 11, 12, 13, 14, 15, 16, 17, 18, 19, 20, 21, 22, 23, 24, 25, 26, 27, 28, 29, 30, 31], [30])])
def lineG.B23 : List Nat := [0, 0, 3, 7, 15, 31, 15, 79, 207, 511, 1023, 2047, 4095, 8191, 4095, 20479, 65535, 131071, 262143, 524287, 1048575, 2097151, 4194303, 2097151, 10485759, 33554431, 67108863, 2097151, 136314879, 536870911, 1073741823, 2097151, 4294967295]
theorem lineG.tab23 : rtab .any (opsOf Tryd.f29 23) = lineG.T23 := by kernel_rfl
theorem lineG.bits23 : waitsOk lineG.T23.2 lineG.B23 = true := by kernel_rfl
def lineG.T29 : Bool × List (List Nat × List Nat) := (true, [([], []), ([], []), ([1], [1]), ([], []), ([2, 3], [2, 3]), ([], []), ([], []), ([], []), ([7], [7]), ([], []), ([8, 9], [8, 9]), ([10], [10]), ([5, 6, 11], [5, 6, 11]), ([0, 4, 12, 12], [0, 4, 12]), ([13, 13, 0, 1, 2, 3, 4, 5, 6, 7, 8, 9, 10, 11, 12, 13], [13])])
def lineG.B29 : List Nat := [0, 0, 2, 0, 14, 0, 0, 0, 128, 0, 896, 1920, 4064, 8191, 16383]
theorem lineG.tab29 : rtab .any (opsOf Tryd.f29 29) = lineG.T29 := by kernel_rfl
theorem lineG.bits29 : waitsOk lineG.T29.2 lineG.B29 = true := by kernel_rfl
def lineG.T30 : Bool × List (List Nat × List Nat) := (true, [([], []), ([0], [0]), ([1], [1]), ([2], [2]), ([], []), ([], []), ([4, 5], [4, 5]), ([6], [6]), ([7], [7]), ([7, 8], [7, 8]), ([3, 7, 0, 1, 2, 3], [3]), ([9, 10, 0, 1, 2, 3, 4, 5, 6, 7, 8, 9, 10], [9])])
def lineG.B30 : List Nat := [0, 1, 3, 7, 0, 0, 48, 112, 240, 496, 255, 2047]
theorem lineG.tab30 : rtab .any (opsOf Tryd.f29 30) = lineG.T30 := by kernel_rfl
theorem lineG.bits30 : waitsOk lineG.T30.2 lineG.B30 = true := by kernel_rfl
set_option maxHeartbeats 40000000 in
set_option maxRecDepth 100000 in
theorem lineG.calls (k : Nat) (A0 : Option Addr) (c0 : Nat) (l0 : List (S40)) (A1_0 : Option Addr) (c1_0 : Nat) (l1_0 : List Int) (A1_1 : Option Addr) (c1_1 : Nat) (l1_1 : List Int) (A1_2 : Option Addr) (c1_2 : Nat) (l1_2 : List Int) (a1_3 : Int) (a2 : Int) (a3 : Int) (r1 : Int) (r2 : Bool) (w : World) (hr0 : Kd.C k40 w A0 l0.length l0) (hc0 : l0.length ≤ c0) (hr1_0 : Kd.C (Kd.int .u32) w A1_0 l1_0.length l1_0) (hc1_0 : l1_0.length ≤ c1_0) (hr1_1 : Kd.C (Kd.int .i64) w A1_1 l1_1.length l1_1) (hc1_1 : l1_1.length ≤ c1_1) (hr1_2 : Kd.C (Kd.int .i64) w A1_2 l1_2.length l1_2) (hc1_2 : l1_2.length ≤ c1_2) (hLaid_ : Aside0 (Laid w)) (hT_ : Aside0 (r2 = true)) (h : lineG.f k l0 l1_0 l1_1 l1_2 a1_3 a2 a3 = some (r1, r2)) :
    Calls Tryd.prog 29 #[.slice A0 l0.length c0, .agg #[.slice A1_0 l1_0.length c1_0, .slice A1_1 l1_1.length c1_1, .slice A1_2 l1_2.length c1_2, .int .i64 a1_3], .int .i64 a2, .int .i64 a3] w fun e w' => e = .returned (.tuple #[.int .i64 r1, .bool r2]) ∧ Below w.heap.size w w' := by
 have hu27 := Tryd.underlying27
 have hu40 := Tryd.underlying40
 have hu44 := Tryd.underlying44
 have HR0 := uZ hr0
 have HC0 := uZ hc0
 clear hr0 hc0
 have bn := uZ hr1_0
 have bp := uZ hc1_0
 clear hr1_0 hc1_0
 have bo := uZ hr1_1
 have bq := uZ hc1_1
 clear hr1_1 hc1_1
 have br := uZ hr1_2
 have bs := uZ hc1_2
 clear hr1_2 hc1_2
 have HB := uZ (Below.refl w.heap.size w)
 have H : (if 0 ≤ a2 then (if a2 < (l0.length : Int) then (if ((rd_T40 l0 a2).f0) = 0 then (some (0, true)) else ((switchbacklaw17_code.f k l1_0 l1_1 l1_2 a1_3 a3).bind fun bw => (if bw.2.2.2.2 = true then ((switchbackref17_Branch.f ((rd_T40 l0 a2).f0) ((rd_T40 l0 a2).f1) ((rd_T40 l0 a2).f2) ((rd_T40 l0 a2).f3) ((rd_T40 l0 a2).f4) ((rd_T40 l0 a2).f5) ((rd_T40 l0 a2).f6)).bind fun bl => ((switchbackref17_Goes.f ((rd_T40 l0 a2).f0) ((rd_T40 l0 a2).f1) ((rd_T40 l0 a2).f2) ((rd_T40 l0 a2).f3) ((rd_T40 l0 a2).f4) ((rd_T40 l0 a2).f5) ((rd_T40 l0 a2).f6)).bind fun bj => (if bj = true then ((switchbacklaw17_at.f k l0 l1_0 l1_1 l1_2 a1_3 ((rd_T40 l0 a2).f5)).bind fun bv => (lineG.j0 k l0 a3 bl bv bj l1_0 l1_1 l1_2 a1_3 ((rd_T40 l0 a2).f0) ((rd_T40 l0 a2).f1) ((rd_T40 l0 a2).f2) ((rd_T40 l0 a2).f3) ((rd_T40 l0 a2).f4) ((rd_T40 l0 a2).f5) ((rd_T40 l0 a2).f6) bw.1 bw.2.1 bw.2.2.1 bw.2.2.2.1 ((rd_T40 l0 a2).f0) ((rd_T40 l0 a2).f1) ((rd_T40 l0 a2).f2) ((rd_T40 l0 a2).f3))) else (lineG.j0 k l0 a3 bl (-1) bj l1_0 l1_1 l1_2 a1_3 ((rd_T40 l0 a2).f0) ((rd_T40 l0 a2).f1) ((rd_T40 l0 a2).f2) ((rd_T40 l0 a2).f3) ((rd_T40 l0 a2).f4) ((rd_T40 l0 a2).f5) ((rd_T40 l0 a2).f6) bw.1 bw.2.1 bw.2.2.1 bw.2.2.2.1 ((rd_T40 l0 a2).f0) ((rd_T40 l0 a2).f1) ((rd_T40 l0 a2).f2) ((rd_T40 l0 a2).f3))))) else (some (0, false))))) else (none)) else (none)) = some (r1, r2) := h
 clear h
 by_cases c5 : 0 ≤ a2
 ·rw [if_pos c5] at H
  have c5b0 : decide (0 ≤ a2) = true := decide_eq_true c5
  clear c5
  by_cases c6 : a2 < (l0.length : Int)
  ·rw [if_pos c6] at H
   have c6b0 : decide (a2 < (l0.length : Int)) = true := decide_eq_true c6
   clear c6
   by_cases c7 : ((rd_T40 l0 a2).f0) = 0
   ·rw [if_pos c7] at H
    have c7b0 : (((rd_T40 l0 a2).f0) == 0) = true := beq_iff_eq.mpr c7
    have c7b1 : (((rd_T40 l0 a2).f0) != 0) = false := bne_eq_false_iff_eq.mpr c7
    clear c7
    simp only [Option.some.injEq, Prod.mk.injEq] at H
    obtain ⟨rfl, rfl⟩ := H
    go_enter Tryd.func29, Tryd.ntmps29
    go_wp2_with (first | ((with_reducible refine gate_dst (N := 5) rfl ?_); (try (refine gate_guard (by rfl) ?_; dsimp only)); refine box_event ?hg (N := 5) ?hd (cs := #[.slice A1_0 l1_0.length c1_0, .slice A1_1 l1_1.length c1_1, .slice A1_2 l1_2.length c1_2, .int .i64 a1_3]) (t := 27) ?hr ?_; (case hd => rfl); (case hg => rfl); (case hr => first | (go_simp; done) | (go_simp; rfl)); intro ac hg w8 hbox hb; have n0_ := uZ (zS (uB HB.out) hb); have n1_ := uZ (hbox); have n2_ := uZ ((by rw [hg]; exact (zR (uB HB.out)) : w.heap.size ≤ ac)); have n3_ := uZ ((by rw [hg]; exact (zR (uB HB.out)) : w.heap.size ≤ ac)); clear HB; have HB := n0_; have a9 := n1_; have GW174 := n2_; have ak := n3_; clear n0_ n1_ n2_ n3_; clear hb hbox hg; have p175 : 0 ≤ (a2 : Int) := uA; have q175 : a2 < (l0.length : Int) := uA; obtain ⟨ad175, A175_6, c175_6, e175, b9, ba, bb, bc, bd, be, bf, hl175_6, hi175_6⟩ := at_T40 HR0.out a2 p175 q175; cases e175; replace b9 := (HB.out.cell (zT w _ b9)).trans b9; replace ba := (HB.out.cell (zT w _ ba)).trans ba; replace bb := (HB.out.cell (zT w _ bb)).trans bb; replace bc := (HB.out.cell (zT w _ bc)).trans bc; replace bd := (HB.out.cell (zT w _ bd)).trans bd; replace be := (HB.out.cell (zT w _ be)).trans be; replace bf := (HB.out.cell (zT w _ bf)).trans bf; have bx := uZ hi175_6; have HC175_6 := uZ hl175_6; clear hi175_6 hl175_6; replace p175 := eq_true p175; replace q175 := eq_true q175) | ((with_reducible refine gate_dst (N := 10) rfl ?_); (try (refine gate_guard (by rfl) ?_; dsimp only)); refine box_event ?hg (N := 10) ?hd (cs := #[.int .i64 0, .int .i64 0, .int .i64 0, .int .i64 0, .int .u32 0, .int .i64 0, .slice none 0 0]) (t := 40) ?hr ?_; (case hd => rfl); (case hg => rfl); (case hr => first | (go_simp; done) | (go_simp; rfl)); intro a8 hg w9 hbox hb; have n0_ := uZ (zO (g := ac) (o := .cells #[.slice A1_0 l1_0.length c1_0, .slice A1_1 l1_1.length c1_1, .slice A1_2 l1_2.length c1_2, .int .i64 a1_3] 27 (0, 0)) (uK a9.out) hb); have n1_ := uZ (zS (uC HB.out ak.out) hb); have n2_ := uZ (hbox); have n3_ := uZ ((by rw [hg]; exact (zR (uC HB.out ak.out)) : w.heap.size ≤ a8)); have n4_ := uZ ((by rw [hg]; exact (zR (uC HB.out ak.out)) : w.heap.size ≤ a8)); have n5_ := uZ ((by rw [hg]; exact Nat.ne_of_lt (zP (g := ac) (o := .cells #[.slice A1_0 l1_0.length c1_0, .slice A1_1 l1_1.length c1_1, .slice A1_2 l1_2.length c1_2, .int .i64 a1_3] 27 (0, 0)) (uK a9.out)) : ac ≠ a8)); have n6_ := uZ ((by rw [hg]; exact Nat.ne_of_gt (zP (g := ac) (o := .cells #[.slice A1_0 l1_0.length c1_0, .slice A1_1 l1_1.length c1_1, .slice A1_2 l1_2.length c1_2, .int .i64 a1_3] 27 (0, 0)) (uK a9.out)) : a8 ≠ ac)); clear a9; clear HB; have a9 := n0_; have HB := n1_; have a7 := n2_; have GW176 := n3_; have am := n4_; have aj := n5_; have ar := n6_; clear n0_ n1_ n2_ n3_ n4_ n5_ n6_; clear hb hbox hg; have hnb10 := ar.out; have hnc10 := aj.out; have hcz11_0 : w9.cell? ⟨a8, 0, none⟩ = some (.int .i64 0) := (zL a7.out 0).trans rfl; have hcz11_1 : w9.cell? ⟨a8, 1, none⟩ = some (.int .i64 0) := (zL a7.out 1).trans rfl; have hcz11_2 : w9.cell? ⟨a8, 2, none⟩ = some (.int .i64 0) := (zL a7.out 2).trans rfl; have hcz11_3 : w9.cell? ⟨a8, 3, none⟩ = some (.int .i64 0) := (zL a7.out 3).trans rfl; have hcz11_4 : w9.cell? ⟨a8, 4, none⟩ = some (.int .u32 0) := (zL a7.out 4).trans rfl; have hcz11_5 : w9.cell? ⟨a8, 5, none⟩ = some (.int .i64 0) := (zL a7.out 5).trans rfl; have hcz11_6 : w9.cell? ⟨a8, 6, none⟩ = some (.slice none 0 0) := (zL a7.out 6).trans rfl; have hfz11_0 := zK a7.out 0; have hfz11_1 := zK a7.out 1; have hfz11_2 := zK a7.out 2; have hfz11_3 := zK a7.out 3; have hfz11_4 := zK a7.out 4; have hfz11_5 := zK a7.out 5; have hfz11_6 := zK a7.out 6))
    go_ret2
    exact ⟨by first | rfl | (simp [errW_none, errW_some] <;> rfl) | (simp [*, errW_none, errW_some] <;> rfl), by repeat (first | (with_reducible first | exact HB.out | apply zI | apply zH | apply zJ | refine zQ ?_ ak.out | refine zQ ?_ am.out) | exact HB.out)⟩
   rw [if_neg c7] at H
   have c7b0 : (((rd_T40 l0 a2).f0) == 0) = false := beq_eq_false_iff_ne.mpr c7
   have c7b1 : (((rd_T40 l0 a2).f0) != 0) = true := bne_iff_ne.mpr c7
   replace H := Option.bind_eq_some_iff.mp H
   obtain ⟨⟨ae, ag, ah, ai, t181⟩, A120, H⟩ := H
   replace H : (if t181 = true then ((switchbackref17_Branch.f ((rd_T40 l0 a2).f0) ((rd_T40 l0 a2).f1) ((rd_T40 l0 a2).f2) ((rd_T40 l0 a2).f3) ((rd_T40 l0 a2).f4) ((rd_T40 l0 a2).f5) ((rd_T40 l0 a2).f6)).bind fun bl => ((switchbackref17_Goes.f ((rd_T40 l0 a2).f0) ((rd_T40 l0 a2).f1) ((rd_T40 l0 a2).f2) ((rd_T40 l0 a2).f3) ((rd_T40 l0 a2).f4) ((rd_T40 l0 a2).f5) ((rd_T40 l0 a2).f6)).bind fun bj => (if bj = true then ((switchbacklaw17_at.f k l0 l1_0 l1_1 l1_2 a1_3 ((rd_T40 l0 a2).f5)).bind fun bv => (lineG.j0 k l0 a3 bl bv bj l1_0 l1_1 l1_2 a1_3 ((rd_T40 l0 a2).f0) ((rd_T40 l0 a2).f1) ((rd_T40 l0 a2).f2) ((rd_T40 l0 a2).f3) ((rd_T40 l0 a2).f4) ((rd_T40 l0 a2).f5) ((rd_T40 l0 a2).f6) ae ag ah ai ((rd_T40 l0 a2).f0) ((rd_T40 l0 a2).f1) ((rd_T40 l0 a2).f2) ((rd_T40 l0 a2).f3))) else (lineG.j0 k l0 a3 bl (-1) bj l1_0 l1_1 l1_2 a1_3 ((rd_T40 l0 a2).f0) ((rd_T40 l0 a2).f1) ((rd_T40 l0 a2).f2) ((rd_T40 l0 a2).f3) ((rd_T40 l0 a2).f4) ((rd_T40 l0 a2).f5) ((rd_T40 l0 a2).f6) ae ag ah ai ((rd_T40 l0 a2).f0) ((rd_T40 l0 a2).f1) ((rd_T40 l0 a2).f2) ((rd_T40 l0 a2).f3))))) else (some (0, false))) = some (r1, r2) := H
   have A12 := uZ A120
   clear A120
   by_cases c13 : t181 = true
   ·subst c13
    have H1 : ((switchbackref17_Branch.f ((rd_T40 l0 a2).f0) ((rd_T40 l0 a2).f1) ((rd_T40 l0 a2).f2) ((rd_T40 l0 a2).f3) ((rd_T40 l0 a2).f4) ((rd_T40 l0 a2).f5) ((rd_T40 l0 a2).f6)).bind fun bl => ((switchbackref17_Goes.f ((rd_T40 l0 a2).f0) ((rd_T40 l0 a2).f1) ((rd_T40 l0 a2).f2) ((rd_T40 l0 a2).f3) ((rd_T40 l0 a2).f4) ((rd_T40 l0 a2).f5) ((rd_T40 l0 a2).f6)).bind fun bj => (if bj = true then ((switchbacklaw17_at.f k l0 l1_0 l1_1 l1_2 a1_3 ((rd_T40 l0 a2).f5)).bind fun bv => (lineG.j0 k l0 a3 bl bv bj l1_0 l1_1 l1_2 a1_3 ((rd_T40 l0 a2).f0) ((rd_T40 l0 a2).f1) ((rd_T40 l0 a2).f2) ((rd_T40 l0 a2).f3) ((rd_T40 l0 a2).f4) ((rd_T40 l0 a2).f5) ((rd_T40 l0 a2).f6) ae ag ah ai ((rd_T40 l0 a2).f0) ((rd_T40 l0 a2).f1) ((rd_T40 l0 a2).f2) ((rd_T40 l0 a2).f3))) else (lineG.j0 k l0 a3 bl (-1) bj l1_0 l1_1 l1_2 a1_3 ((rd_T40 l0 a2).f0) ((rd_T40 l0 a2).f1) ((rd_T40 l0 a2).f2) ((rd_T40 l0 a2).f3) ((rd_T40 l0 a2).f4) ((rd_T40 l0 a2).f5) ((rd_T40 l0 a2).f6) ae ag ah ai ((rd_T40 l0 a2).f0) ((rd_T40 l0 a2).f1) ((rd_T40 l0 a2).f2) ((rd_T40 l0 a2).f3))))) = some (r1, r2) := by rw [if_pos rfl] at H; exact H
    clear H
    have H := H1
    clear H1
    replace H := Option.bind_eq_some_iff.mp H
    obtain ⟨bl, A140, H⟩ := H
    replace H : ((switchbackref17_Goes.f ((rd_T40 l0 a2).f0) ((rd_T40 l0 a2).f1) ((rd_T40 l0 a2).f2) ((rd_T40 l0 a2).f3) ((rd_T40 l0 a2).f4) ((rd_T40 l0 a2).f5) ((rd_T40 l0 a2).f6)).bind fun bj => (if bj = true then ((switchbacklaw17_at.f k l0 l1_0 l1_1 l1_2 a1_3 ((rd_T40 l0 a2).f5)).bind fun bv => (lineG.j0 k l0 a3 bl bv bj l1_0 l1_1 l1_2 a1_3 ((rd_T40 l0 a2).f0) ((rd_T40 l0 a2).f1) ((rd_T40 l0 a2).f2) ((rd_T40 l0 a2).f3) ((rd_T40 l0 a2).f4) ((rd_T40 l0 a2).f5) ((rd_T40 l0 a2).f6) ae ag ah ai ((rd_T40 l0 a2).f0) ((rd_T40 l0 a2).f1) ((rd_T40 l0 a2).f2) ((rd_T40 l0 a2).f3))) else (lineG.j0 k l0 a3 bl (-1) bj l1_0 l1_1 l1_2 a1_3 ((rd_T40 l0 a2).f0) ((rd_T40 l0 a2).f1) ((rd_T40 l0 a2).f2) ((rd_T40 l0 a2).f3) ((rd_T40 l0 a2).f4) ((rd_T40 l0 a2).f5) ((rd_T40 l0 a2).f6) ae ag ah ai ((rd_T40 l0 a2).f0) ((rd_T40 l0 a2).f1) ((rd_T40 l0 a2).f2) ((rd_T40 l0 a2).f3)))) = some (r1, r2) := H
    have A14 := uZ A140
    clear A140
    replace H := Option.bind_eq_some_iff.mp H
    obtain ⟨bj, A150, H⟩ := H
    replace H : (if bj = true then ((switchbacklaw17_at.f k l0 l1_0 l1_1 l1_2 a1_3 ((rd_T40 l0 a2).f5)).bind fun bv => (lineG.j0 k l0 a3 bl bv bj l1_0 l1_1 l1_2 a1_3 ((rd_T40 l0 a2).f0) ((rd_T40 l0 a2).f1) ((rd_T40 l0 a2).f2) ((rd_T40 l0 a2).f3) ((rd_T40 l0 a2).f4) ((rd_T40 l0 a2).f5) ((rd_T40 l0 a2).f6) ae ag ah ai ((rd_T40 l0 a2).f0) ((rd_T40 l0 a2).f1) ((rd_T40 l0 a2).f2) ((rd_T40 l0 a2).f3))) else (lineG.j0 k l0 a3 bl (-1) bj l1_0 l1_1 l1_2 a1_3 ((rd_T40 l0 a2).f0) ((rd_T40 l0 a2).f1) ((rd_T40 l0 a2).f2) ((rd_T40 l0 a2).f3) ((rd_T40 l0 a2).f4) ((rd_T40 l0 a2).f5) ((rd_T40 l0 a2).f6) ae ag ah ai ((rd_T40 l0 a2).f0) ((rd_T40 l0 a2).f1) ((rd_T40 l0 a2).f2) ((rd_T40 l0 a2).f3))) = some (r1, r2) := H
    have A15 := uZ A150
    clear A150
    have HC16 := uZ H
    clear H
    go_enter Tryd.func29, Tryd.ntmps29
    go_upto_if 49 with (first | ((with_reducible refine gate_dst (N := 5) rfl ?_); (try (refine gate_guard (by rfl) ?_; dsimp only)); refine box_event ?hg (N := 5) ?hd (cs := #[.slice A1_0 l1_0.length c1_0, .slice A1_1 l1_1.length c1_1, .slice A1_2 l1_2.length c1_2, .int .i64 a1_3]) (t := 27) ?hr ?_; (case hd => rfl); (case hg => rfl); (case hr => first | (go_simp; done) | (go_simp; rfl)); intro ac hg w17 hbox hb; have n0_ := uZ (zS (uB HB.out) hb); have n1_ := uZ (hbox); have n2_ := uZ ((by rw [hg]; exact (zR (uB HB.out)) : w.heap.size ≤ ac)); have n3_ := uZ ((by rw [hg]; exact (zR (uB HB.out)) : w.heap.size ≤ ac)); clear HB; have HB := n0_; have a9 := n1_; have GW174 := n2_; have ak := n3_; clear n0_ n1_ n2_ n3_; clear hb hbox hg; have p175 : 0 ≤ (a2 : Int) := uA; have q175 : a2 < (l0.length : Int) := uA; obtain ⟨ad175, A175_6, c175_6, e175, b9, ba, bb, bc, bd, be, bf, hl175_6, hi175_6⟩ := at_T40 HR0.out a2 p175 q175; cases e175; replace b9 := (HB.out.cell (zT w _ b9)).trans b9; replace ba := (HB.out.cell (zT w _ ba)).trans ba; replace bb := (HB.out.cell (zT w _ bb)).trans bb; replace bc := (HB.out.cell (zT w _ bc)).trans bc; replace bd := (HB.out.cell (zT w _ bd)).trans bd; replace be := (HB.out.cell (zT w _ be)).trans be; replace bf := (HB.out.cell (zT w _ bf)).trans bf; have bx := uZ hi175_6; have HC175_6 := uZ hl175_6; clear hi175_6 hl175_6; replace p175 := eq_true p175; replace q175 := eq_true q175) | ((with_reducible refine gate_dst (N := 10) rfl ?_); (try (refine gate_guard (by rfl) ?_; dsimp only)); refine box_event ?hg (N := 10) ?hd (cs := #[.int .i64 0, .int .i64 0, .int .i64 0, .int .i64 0, .int .u32 0, .int .i64 0, .slice none 0 0]) (t := 40) ?hr ?_; (case hd => rfl); (case hg => rfl); (case hr => first | (go_simp; done) | (go_simp; rfl)); intro a8 hg w18 hbox hb; have n0_ := uZ (zO (g := ac) (o := .cells #[.slice A1_0 l1_0.length c1_0, .slice A1_1 l1_1.length c1_1, .slice A1_2 l1_2.length c1_2, .int .i64 a1_3] 27 (0, 0)) (uK a9.out) hb); have n1_ := uZ (zS (uC HB.out ak.out) hb); have n2_ := uZ (hbox); have n3_ := uZ ((by rw [hg]; exact (zR (uC HB.out ak.out)) : w.heap.size ≤ a8)); have n4_ := uZ ((by rw [hg]; exact (zR (uC HB.out ak.out)) : w.heap.size ≤ a8)); have n5_ := uZ ((by rw [hg]; exact Nat.ne_of_lt (zP (g := ac) (o := .cells #[.slice A1_0 l1_0.length c1_0, .slice A1_1 l1_1.length c1_1, .slice A1_2 l1_2.length c1_2, .int .i64 a1_3] 27 (0, 0)) (uK a9.out)) : ac ≠ a8)); have n6_ := uZ ((by rw [hg]; exact Nat.ne_of_gt (zP (g := ac) (o := .cells #[.slice A1_0 l1_0.length c1_0, .slice A1_1 l1_1.length c1_1, .slice A1_2 l1_2.length c1_2, .int .i64 a1_3] 27 (0, 0)) (uK a9.out)) : a8 ≠ ac)); clear a9; clear HB; have a9 := n0_; have HB := n1_; have a7 := n2_; have GW176 := n3_; have am := n4_; have aj := n5_; have ar := n6_; clear n0_ n1_ n2_ n3_ n4_ n5_ n6_; clear hb hbox hg; have hnb19 := ar.out; have hnc19 := aj.out; have hcz20_0 : w18.cell? ⟨a8, 0, none⟩ = some (.int .i64 0) := (zL a7.out 0).trans rfl; have hcz20_1 : w18.cell? ⟨a8, 1, none⟩ = some (.int .i64 0) := (zL a7.out 1).trans rfl; have hcz20_2 : w18.cell? ⟨a8, 2, none⟩ = some (.int .i64 0) := (zL a7.out 2).trans rfl; have hcz20_3 : w18.cell? ⟨a8, 3, none⟩ = some (.int .i64 0) := (zL a7.out 3).trans rfl; have hcz20_4 : w18.cell? ⟨a8, 4, none⟩ = some (.int .u32 0) := (zL a7.out 4).trans rfl; have hcz20_5 : w18.cell? ⟨a8, 5, none⟩ = some (.int .i64 0) := (zL a7.out 5).trans rfl; have hcz20_6 : w18.cell? ⟨a8, 6, none⟩ = some (.slice none 0 0) := (zL a7.out 6).trans rfl; have hfz20_0 := zK a7.out 0; have hfz20_1 := zK a7.out 1; have hfz20_2 := zK a7.out 2; have hfz20_3 := zK a7.out 3; have hfz20_4 := zK a7.out 4; have hfz20_5 := zK a7.out 5; have hfz20_6 := zK a7.out 6; have hcz21_0 : w18.cell? ⟨ac, 0, none⟩ = some (.slice A1_0 l1_0.length c1_0) := (zL a9.out 0).trans rfl; have hcz21_1 : w18.cell? ⟨ac, 1, none⟩ = some (.slice A1_1 l1_1.length c1_1) := (zL a9.out 1).trans rfl; have hcz21_2 : w18.cell? ⟨ac, 2, none⟩ = some (.slice A1_2 l1_2.length c1_2) := (zL a9.out 2).trans rfl; have hcz21_3 : w18.cell? ⟨ac, 3, none⟩ = some (.int .i64 a1_3) := (zL a9.out 3).trans rfl; have hfz21_0 := zK a9.out 0; have hfz21_1 := zK a9.out 1; have hfz21_2 := zK a9.out 2; have hfz21_3 := zK a9.out 3) | ((with_reducible refine gate_callee (f := 33) rfl ?_); refine goesL_ (some 31) rfl rfl Tryd.func33 (by kernel_rfl) rfl #[.agg #[.slice A1_0 l1_0.length c1_0, .slice A1_1 l1_1.length c1_1, .slice A1_2 l1_2.length c1_2, .int .i64 a1_3], .int .i64 a3] rfl (by (try simp only [zY, List.map_cons, List.map_nil]); first | done | rfl | (simp only [zZ, yA]; rfl)) ?_; (with_reducible refine (switchbacklaw17_code.calls k _ _ l1_0 _ _ l1_1 _ _ l1_2 a1_3 a3 ae ag ah ai true _ ?side1 ?side2 ?side3 ?side4 ?side5 ?side6 (uZ (hLaid_.out.below (by repeat (first | (with_reducible first | exact HB.out | apply zI | apply zH | apply zJ) | refine zQ ?_ (Aside0.out (by assumption)) | exact HB.out)))) A12.out).mono ?_); (case side1 => exact zD bn.out (uD HB.out ak.out am.out)); (case side2 => exact bp.out); (case side3 => exact zD bo.out (uD HB.out ak.out am.out)); (case side4 => exact bq.out); (case side5 => exact zD br.out (uD HB.out ak.out am.out)); (case side6 => exact bs.out); rintro e w22 ⟨rfl, hb⟩; refine ⟨_, rfl, ?_⟩; have n0_ := uZ (zO (g := ac) (o := .cells #[.slice A1_0 l1_0.length c1_0, .slice A1_1 l1_1.length c1_1, .slice A1_2 l1_2.length c1_2, .int .i64 a1_3] 27 (0, 0)) (by (with_reducible repeat (first | apply zE | apply zF | apply zG)); refine zN ?_ aj.out _; (with_reducible repeat (first | apply zE | apply zF | apply zG)); refine zN ?_ aj.out _; (with_reducible repeat (first | apply zE | apply zF | apply zG)); refine zN ?_ aj.out _; (with_reducible repeat (first | apply zE | apply zF | apply zG)); refine zN ?_ aj.out _; (with_reducible repeat (first | apply zE | apply zF | apply zG)); refine zN ?_ aj.out _; (with_reducible repeat (first | apply zE | apply zF | apply zG)); refine zN ?_ aj.out _; (with_reducible repeat (first | apply zE | apply zF | apply zG)); refine zN ?_ aj.out _; (with_reducible repeat (first | apply zE | apply zF | apply zG)); exact a9.out) hb); have n1_ := uZ (zO (g := a8) (o := .cells #[.int .i64 ((rd_T40 l0 a2).f0), .int .i64 ((rd_T40 l0 a2).f1), .int .i64 ((rd_T40 l0 a2).f2), .int .i64 ((rd_T40 l0 a2).f3), .int .u32 ((rd_T40 l0 a2).f4), .int .i64 ((rd_T40 l0 a2).f5), .slice A175_6 ((rd_T40 l0 a2).f6).length c175_6] 40 (0, 0)) (by (with_reducible repeat (first | apply zE | apply zF | apply zG)); refine zM (cs := #[.int .i64 ((rd_T40 l0 a2).f0), .int .i64 ((rd_T40 l0 a2).f1), .int .i64 ((rd_T40 l0 a2).f2), .int .i64 ((rd_T40 l0 a2).f3), .int .u32 ((rd_T40 l0 a2).f4), .int .i64 ((rd_T40 l0 a2).f5), .slice none 0 0]) ?_ 6 _ rfl; (with_reducible repeat (first | apply zE | apply zF | apply zG)); refine zM (cs := #[.int .i64 ((rd_T40 l0 a2).f0), .int .i64 ((rd_T40 l0 a2).f1), .int .i64 ((rd_T40 l0 a2).f2), .int .i64 ((rd_T40 l0 a2).f3), .int .u32 ((rd_T40 l0 a2).f4), .int .i64 0, .slice none 0 0]) ?_ 5 _ rfl; (with_reducible repeat (first | apply zE | apply zF | apply zG)); refine zM (cs := #[.int .i64 ((rd_T40 l0 a2).f0), .int .i64 ((rd_T40 l0 a2).f1), .int .i64 ((rd_T40 l0 a2).f2), .int .i64 ((rd_T40 l0 a2).f3), .int .u32 0, .int .i64 0, .slice none 0 0]) ?_ 4 _ rfl; (with_reducible repeat (first | apply zE | apply zF | apply zG)); refine zM (cs := #[.int .i64 ((rd_T40 l0 a2).f0), .int .i64 ((rd_T40 l0 a2).f1), .int .i64 ((rd_T40 l0 a2).f2), .int .i64 0, .int .u32 0, .int .i64 0, .slice none 0 0]) ?_ 3 _ rfl; (with_reducible repeat (first | apply zE | apply zF | apply zG)); refine zM (cs := #[.int .i64 ((rd_T40 l0 a2).f0), .int .i64 ((rd_T40 l0 a2).f1), .int .i64 0, .int .i64 0, .int .u32 0, .int .i64 0, .slice none 0 0]) ?_ 2 _ rfl; (with_reducible repeat (first | apply zE | apply zF | apply zG)); refine zM (cs := #[.int .i64 ((rd_T40 l0 a2).f0), .int .i64 0, .int .i64 0, .int .i64 0, .int .u32 0, .int .i64 0, .slice none 0 0]) ?_ 1 _ rfl; (with_reducible repeat (first | apply zE | apply zF | apply zG)); refine zM (cs := #[.int .i64 0, .int .i64 0, .int .i64 0, .int .i64 0, .int .u32 0, .int .i64 0, .slice none 0 0]) ?_ 0 _ rfl; (with_reducible repeat (first | apply zE | apply zF | apply zG)); exact a7.out) hb); have n2_ := uZ (zS (uD HB.out ak.out am.out) hb); clear a9; clear a7; clear HB; have a9 := n0_; have a7 := n1_; have HB := n2_; clear n0_ n1_ n2_; (try clear hb); (try clear hb2); (try clear hk); (try clear hi)) | ((with_reducible refine gate_dst (N := 11) rfl ?_); (try (refine gate_guard (by rfl) ?_; dsimp only)); refine box_event ?hg (N := 11) ?hd (cs := #[.int .i64 0, .int .i64 0, .int .i64 0, .int .i64 0]) (t := 44) ?hr ?_; (case hd => rfl); (case hg => rfl); (case hr => first | (go_simp; done) | (go_simp; rfl)); intro af hg w23 hbox hb; have n0_ := uZ (zO (g := ac) (o := .cells #[.slice A1_0 l1_0.length c1_0, .slice A1_1 l1_1.length c1_1, .slice A1_2 l1_2.length c1_2, .int .i64 a1_3] 27 (0, 0)) (uK a9.out) hb); have n1_ := uZ (zO (g := a8) (o := .cells #[.int .i64 ((rd_T40 l0 a2).f0), .int .i64 ((rd_T40 l0 a2).f1), .int .i64 ((rd_T40 l0 a2).f2), .int .i64 ((rd_T40 l0 a2).f3), .int .u32 ((rd_T40 l0 a2).f4), .int .i64 ((rd_T40 l0 a2).f5), .slice A175_6 ((rd_T40 l0 a2).f6).length c175_6] 40 (0, 0)) (uK a7.out) hb); have n2_ := uZ (zS (uD HB.out ak.out am.out) hb); have n3_ := uZ (hbox); have n4_ := uZ ((by rw [hg]; exact (zR (uD HB.out ak.out am.out)) : w.heap.size ≤ af)); have n5_ := uZ ((by rw [hg]; exact (zR (uD HB.out ak.out am.out)) : w.heap.size ≤ af)); have n6_ := uZ ((by rw [hg]; exact Nat.ne_of_lt (zP (g := ac) (o := .cells #[.slice A1_0 l1_0.length c1_0, .slice A1_1 l1_1.length c1_1, .slice A1_2 l1_2.length c1_2, .int .i64 a1_3] 27 (0, 0)) (uK a9.out)) : ac ≠ af)); have n7_ := uZ ((by rw [hg]; exact Nat.ne_of_gt (zP (g := ac) (o := .cells #[.slice A1_0 l1_0.length c1_0, .slice A1_1 l1_1.length c1_1, .slice A1_2 l1_2.length c1_2, .int .i64 a1_3] 27 (0, 0)) (uK a9.out)) : af ≠ ac)); have n8_ := uZ ((by rw [hg]; exact Nat.ne_of_lt (zP (g := a8) (o := .cells #[.int .i64 ((rd_T40 l0 a2).f0), .int .i64 ((rd_T40 l0 a2).f1), .int .i64 ((rd_T40 l0 a2).f2), .int .i64 ((rd_T40 l0 a2).f3), .int .u32 ((rd_T40 l0 a2).f4), .int .i64 ((rd_T40 l0 a2).f5), .slice A175_6 ((rd_T40 l0 a2).f6).length c175_6] 40 (0, 0)) (uK a7.out)) : a8 ≠ af)); have n9_ := uZ ((by rw [hg]; exact Nat.ne_of_gt (zP (g := a8) (o := .cells #[.int .i64 ((rd_T40 l0 a2).f0), .int .i64 ((rd_T40 l0 a2).f1), .int .i64 ((rd_T40 l0 a2).f2), .int .i64 ((rd_T40 l0 a2).f3), .int .u32 ((rd_T40 l0 a2).f4), .int .i64 ((rd_T40 l0 a2).f5), .slice A175_6 ((rd_T40 l0 a2).f6).length c175_6] 40 (0, 0)) (uK a7.out)) : af ≠ a8)); clear a9; clear a7; clear HB; have a9 := n0_; have a7 := n1_; have HB := n2_; have aa := n3_; have GW182 := n4_; have aq := n5_; have an := n6_; have a_ := n7_; have al := n8_; have ax := n9_; clear n0_ n1_ n2_ n3_ n4_ n5_ n6_ n7_ n8_ n9_; clear hb hbox hg; have hnb24 := a_.out; have hnc24 := an.out; have hnb25 := ax.out; have hnc25 := al.out; have hcz26_0 : w23.cell? ⟨af, 0, none⟩ = some (.int .i64 0) := (zL aa.out 0).trans rfl; have hcz26_1 : w23.cell? ⟨af, 1, none⟩ = some (.int .i64 0) := (zL aa.out 1).trans rfl; have hcz26_2 : w23.cell? ⟨af, 2, none⟩ = some (.int .i64 0) := (zL aa.out 2).trans rfl; have hcz26_3 : w23.cell? ⟨af, 3, none⟩ = some (.int .i64 0) := (zL aa.out 3).trans rfl; have hfz26_0 := zK aa.out 0; have hfz26_1 := zK aa.out 1; have hfz26_2 := zK aa.out 2; have hfz26_3 := zK aa.out 3; have hcz27_0 : w23.cell? ⟨a8, 0, none⟩ = some (.int .i64 ((rd_T40 l0 a2).f0)) := (zL a7.out 0).trans rfl; have hcz27_1 : w23.cell? ⟨a8, 1, none⟩ = some (.int .i64 ((rd_T40 l0 a2).f1)) := (zL a7.out 1).trans rfl; have hcz27_2 : w23.cell? ⟨a8, 2, none⟩ = some (.int .i64 ((rd_T40 l0 a2).f2)) := (zL a7.out 2).trans rfl; have hcz27_3 : w23.cell? ⟨a8, 3, none⟩ = some (.int .i64 ((rd_T40 l0 a2).f3)) := (zL a7.out 3).trans rfl; have hcz27_4 : w23.cell? ⟨a8, 4, none⟩ = some (.int .u32 ((rd_T40 l0 a2).f4)) := (zL a7.out 4).trans rfl; have hcz27_5 : w23.cell? ⟨a8, 5, none⟩ = some (.int .i64 ((rd_T40 l0 a2).f5)) := (zL a7.out 5).trans rfl; have hcz27_6 : w23.cell? ⟨a8, 6, none⟩ = some (.slice A175_6 ((rd_T40 l0 a2).f6).length c175_6) := (zL a7.out 6).trans rfl; have hfz27_0 := zK a7.out 0; have hfz27_1 := zK a7.out 1; have hfz27_2 := zK a7.out 2; have hfz27_3 := zK a7.out 3; have hfz27_4 := zK a7.out 4; have hfz27_5 := zK a7.out 5; have hfz27_6 := zK a7.out 6) | ((with_reducible refine gate_dst (N := 13) rfl ?_); (try (refine gate_guard (by rfl) ?_; dsimp only)); refine box_event ?hg (N := 13) ?hd (cs := #[.int .i64 0, .int .i64 0, .int .i64 0, .int .i64 0]) (t := 44) ?hr ?_; (case hd => rfl); (case hg => rfl); (case hr => first | (go_simp; done) | (go_simp; rfl)); intro ao hg w28 hbox hb; have n0_ := uZ (zO (g := ac) (o := .cells #[.slice A1_0 l1_0.length c1_0, .slice A1_1 l1_1.length c1_1, .slice A1_2 l1_2.length c1_2, .int .i64 a1_3] 27 (0, 0)) (by (with_reducible repeat (first | apply zE | apply zF | apply zG)); refine zN ?_ an.out _; (with_reducible repeat (first | apply zE | apply zF | apply zG)); refine zN ?_ an.out _; (with_reducible repeat (first | apply zE | apply zF | apply zG)); refine zN ?_ an.out _; (with_reducible repeat (first | apply zE | apply zF | apply zG)); refine zN ?_ an.out _; (with_reducible repeat (first | apply zE | apply zF | apply zG)); exact a9.out) hb); have n1_ := uZ (zO (g := a8) (o := .cells #[.int .i64 ((rd_T40 l0 a2).f0), .int .i64 ((rd_T40 l0 a2).f1), .int .i64 ((rd_T40 l0 a2).f2), .int .i64 ((rd_T40 l0 a2).f3), .int .u32 ((rd_T40 l0 a2).f4), .int .i64 ((rd_T40 l0 a2).f5), .slice A175_6 ((rd_T40 l0 a2).f6).length c175_6] 40 (0, 0)) (by (with_reducible repeat (first | apply zE | apply zF | apply zG)); refine zN ?_ al.out _; (with_reducible repeat (first | apply zE | apply zF | apply zG)); refine zN ?_ al.out _; (with_reducible repeat (first | apply zE | apply zF | apply zG)); refine zN ?_ al.out _; (with_reducible repeat (first | apply zE | apply zF | apply zG)); refine zN ?_ al.out _; (with_reducible repeat (first | apply zE | apply zF | apply zG)); exact a7.out) hb); have n2_ := uZ (zO (g := af) (o := .cells #[.int .i64 ae, .int .i64 ag, .int .i64 ah, .int .i64 ai] 44 (0, 0)) (by (with_reducible repeat (first | apply zE | apply zF | apply zG)); refine zM (cs := #[.int .i64 ae, .int .i64 ag, .int .i64 ah, .int .i64 0]) ?_ 3 _ rfl; (with_reducible repeat (first | apply zE | apply zF | apply zG)); refine zM (cs := #[.int .i64 ae, .int .i64 ag, .int .i64 0, .int .i64 0]) ?_ 2 _ rfl; (with_reducible repeat (first | apply zE | apply zF | apply zG)); refine zM (cs := #[.int .i64 ae, .int .i64 0, .int .i64 0, .int .i64 0]) ?_ 1 _ rfl; (with_reducible repeat (first | apply zE | apply zF | apply zG)); refine zM (cs := #[.int .i64 0, .int .i64 0, .int .i64 0, .int .i64 0]) ?_ 0 _ rfl; (with_reducible repeat (first | apply zE | apply zF | apply zG)); exact aa.out) hb); have n3_ := uZ (zS (by repeat (first | (with_reducible first | exact HB.out | apply zI | apply zH | apply zJ | refine zQ ?_ ak.out | refine zQ ?_ am.out | refine zQ ?_ aq.out) | exact HB.out)) hb); have n4_ := uZ (hbox); have n5_ := uZ ((by rw [hg]; exact (zR (by repeat (first | (with_reducible first | exact HB.out | apply zI | apply zH | apply zJ | refine zQ ?_ ak.out | refine zQ ?_ am.out | refine zQ ?_ aq.out) | exact HB.out))) : w.heap.size ≤ ao)); have n6_ := uZ ((by rw [hg]; exact (zR (by repeat (first | (with_reducible first | exact HB.out | apply zI | apply zH | apply zJ | refine zQ ?_ ak.out | refine zQ ?_ am.out | refine zQ ?_ aq.out) | exact HB.out))) : w.heap.size ≤ ao)); have n7_ := uZ ((by rw [hg]; exact Nat.ne_of_lt (zP (g := ac) (o := .cells #[.slice A1_0 l1_0.length c1_0, .slice A1_1 l1_1.length c1_1, .slice A1_2 l1_2.length c1_2, .int .i64 a1_3] 27 (0, 0)) (by (with_reducible repeat (first | apply zE | apply zF | apply zG)); refine zN ?_ an.out _; (with_reducible repeat (first | apply zE | apply zF | apply zG)); refine zN ?_ an.out _; (with_reducible repeat (first | apply zE | apply zF | apply zG)); refine zN ?_ an.out _; (with_reducible repeat (first | apply zE | apply zF | apply zG)); refine zN ?_ an.out _; (with_reducible repeat (first | apply zE | apply zF | apply zG)); exact a9.out)) : ac ≠ ao)); have n8_ := uZ ((by rw [hg]; exact Nat.ne_of_gt (zP (g := ac) (o := .cells #[.slice A1_0 l1_0.length c1_0, .slice A1_1 l1_1.length c1_1, .slice A1_2 l1_2.length c1_2, .int .i64 a1_3] 27 (0, 0)) (by (with_reducible repeat (first | apply zE | apply zF | apply zG)); refine zN ?_ an.out _; (with_reducible repeat (first | apply zE | apply zF | apply zG)); refine zN ?_ an.out _; (with_reducible repeat (first | apply zE | apply zF | apply zG)); refine zN ?_ an.out _; (with_reducible repeat (first | apply zE | apply zF | apply zG)); refine zN ?_ an.out _; (with_reducible repeat (first | apply zE | apply zF | apply zG)); exact a9.out)) : ao ≠ ac)); have n9_ := uZ ((by rw [hg]; exact Nat.ne_of_lt (zP (g := a8) (o := .cells #[.int .i64 ((rd_T40 l0 a2).f0), .int .i64 ((rd_T40 l0 a2).f1), .int .i64 ((rd_T40 l0 a2).f2), .int .i64 ((rd_T40 l0 a2).f3), .int .u32 ((rd_T40 l0 a2).f4), .int .i64 ((rd_T40 l0 a2).f5), .slice A175_6 ((rd_T40 l0 a2).f6).length c175_6] 40 (0, 0)) (by (with_reducible repeat (first | apply zE | apply zF | apply zG)); refine zN ?_ al.out _; (with_reducible repeat (first | apply zE | apply zF | apply zG)); refine zN ?_ al.out _; (with_reducible repeat (first | apply zE | apply zF | apply zG)); refine zN ?_ al.out _; (with_reducible repeat (first | apply zE | apply zF | apply zG)); refine zN ?_ al.out _; (with_reducible repeat (first | apply zE | apply zF | apply zG)); exact a7.out)) : a8 ≠ ao)); have n10_ := uZ ((by rw [hg]; exact Nat.ne_of_gt (zP (g := a8) (o := .cells #[.int .i64 ((rd_T40 l0 a2).f0), .int .i64 ((rd_T40 l0 a2).f1), .int .i64 ((rd_T40 l0 a2).f2), .int .i64 ((rd_T40 l0 a2).f3), .int .u32 ((rd_T40 l0 a2).f4), .int .i64 ((rd_T40 l0 a2).f5), .slice A175_6 ((rd_T40 l0 a2).f6).length c175_6] 40 (0, 0)) (by (with_reducible repeat (first | apply zE | apply zF | apply zG)); refine zN ?_ al.out _; (with_reducible repeat (first | apply zE | apply zF | apply zG)); refine zN ?_ al.out _; (with_reducible repeat (first | apply zE | apply zF | apply zG)); refine zN ?_ al.out _; (with_reducible repeat (first | apply zE | apply zF | apply zG)); refine zN ?_ al.out _; (with_reducible repeat (first | apply zE | apply zF | apply zG)); exact a7.out)) : ao ≠ a8)); have n11_ := uZ ((by rw [hg]; exact Nat.ne_of_lt (zP (g := af) (o := .cells #[.int .i64 ae, .int .i64 ag, .int .i64 ah, .int .i64 ai] 44 (0, 0)) (by (with_reducible repeat (first | apply zE | apply zF | apply zG)); refine zM (cs := #[.int .i64 ae, .int .i64 ag, .int .i64 ah, .int .i64 0]) ?_ 3 _ rfl; (with_reducible repeat (first | apply zE | apply zF | apply zG)); refine zM (cs := #[.int .i64 ae, .int .i64 ag, .int .i64 0, .int .i64 0]) ?_ 2 _ rfl; (with_reducible repeat (first | apply zE | apply zF | apply zG)); refine zM (cs := #[.int .i64 ae, .int .i64 0, .int .i64 0, .int .i64 0]) ?_ 1 _ rfl; (with_reducible repeat (first | apply zE | apply zF | apply zG)); refine zM (cs := #[.int .i64 0, .int .i64 0, .int .i64 0, .int .i64 0]) ?_ 0 _ rfl; (with_reducible repeat (first | apply zE | apply zF | apply zG)); exact aa.out)) : af ≠ ao)); have n12_ := uZ ((by rw [hg]; exact Nat.ne_of_gt (zP (g := af) (o := .cells #[.int .i64 ae, .int .i64 ag, .int .i64 ah, .int .i64 ai] 44 (0, 0)) (by (with_reducible repeat (first | apply zE | apply zF | apply zG)); refine zM (cs := #[.int .i64 ae, .int .i64 ag, .int .i64 ah, .int .i64 0]) ?_ 3 _ rfl; (with_reducible repeat (first | apply zE | apply zF | apply zG)); refine zM (cs := #[.int .i64 ae, .int .i64 ag, .int .i64 0, .int .i64 0]) ?_ 2 _ rfl; (with_reducible repeat (first | apply zE | apply zF | apply zG)); refine zM (cs := #[.int .i64 ae, .int .i64 0, .int .i64 0, .int .i64 0]) ?_ 1 _ rfl; (with_reducible repeat (first | apply zE | apply zF | apply zG)); refine zM (cs := #[.int .i64 0, .int .i64 0, .int .i64 0, .int .i64 0]) ?_ 0 _ rfl; (with_reducible repeat (first | apply zE | apply zF | apply zG)); exact aa.out)) : ao ≠ af)); clear a9; clear a7; clear aa; clear HB; have a9 := n0_; have a7 := n1_; have aa := n2_; have HB := n3_; have ab := n4_; have GW183 := n5_; have av := n6_; have b0 := n7_; have bk := n8_; have au := n9_; have ay := n10_; have bg := n11_; have bm := n12_; clear n0_ n1_ n2_ n3_ n4_ n5_ n6_ n7_ n8_ n9_ n10_ n11_ n12_; clear hb hbox hg; have hnb29 := bk.out; have hnc29 := b0.out; have hnb30 := ay.out; have hnc30 := au.out; have hnb31 := bm.out; have hnc31 := bg.out; have hcz32_0 : w28.cell? ⟨ao, 0, none⟩ = some (.int .i64 0) := (zL ab.out 0).trans rfl; have hcz32_1 : w28.cell? ⟨ao, 1, none⟩ = some (.int .i64 0) := (zL ab.out 1).trans rfl; have hcz32_2 : w28.cell? ⟨ao, 2, none⟩ = some (.int .i64 0) := (zL ab.out 2).trans rfl; have hcz32_3 : w28.cell? ⟨ao, 3, none⟩ = some (.int .i64 0) := (zL ab.out 3).trans rfl; have hfz32_0 := zK ab.out 0; have hfz32_1 := zK ab.out 1; have hfz32_2 := zK ab.out 2; have hfz32_3 := zK ab.out 3; have hcz33_0 : w28.cell? ⟨a8, 0, none⟩ = some (.int .i64 ((rd_T40 l0 a2).f0)) := (zL a7.out 0).trans rfl; have hcz33_1 : w28.cell? ⟨a8, 1, none⟩ = some (.int .i64 ((rd_T40 l0 a2).f1)) := (zL a7.out 1).trans rfl; have hcz33_2 : w28.cell? ⟨a8, 2, none⟩ = some (.int .i64 ((rd_T40 l0 a2).f2)) := (zL a7.out 2).trans rfl; have hcz33_3 : w28.cell? ⟨a8, 3, none⟩ = some (.int .i64 ((rd_T40 l0 a2).f3)) := (zL a7.out 3).trans rfl; have hcz33_4 : w28.cell? ⟨a8, 4, none⟩ = some (.int .u32 ((rd_T40 l0 a2).f4)) := (zL a7.out 4).trans rfl; have hcz33_5 : w28.cell? ⟨a8, 5, none⟩ = some (.int .i64 ((rd_T40 l0 a2).f5)) := (zL a7.out 5).trans rfl; have hcz33_6 : w28.cell? ⟨a8, 6, none⟩ = some (.slice A175_6 ((rd_T40 l0 a2).f6).length c175_6) := (zL a7.out 6).trans rfl; have hfz33_0 := zK a7.out 0; have hfz33_1 := zK a7.out 1; have hfz33_2 := zK a7.out 2; have hfz33_3 := zK a7.out 3; have hfz33_4 := zK a7.out 4; have hfz33_5 := zK a7.out 5; have hfz33_6 := zK a7.out 6) | ((with_reducible refine gate_callee (f := 31) rfl ?_); refine goesL_ (some 46) rfl rfl Tryd.func31 (by kernel_rfl) rfl #[.agg #[.int .i64 ((rd_T40 l0 a2).f0), .int .i64 ((rd_T40 l0 a2).f1), .int .i64 ((rd_T40 l0 a2).f2), .int .i64 ((rd_T40 l0 a2).f3), .int .u32 ((rd_T40 l0 a2).f4), .int .i64 ((rd_T40 l0 a2).f5), .slice A175_6 ((rd_T40 l0 a2).f6).length c175_6]] rfl (by (try simp only [zY, List.map_cons, List.map_nil]); first | done | rfl | (simp only [zZ, yA]; rfl)) ?_; (with_reducible refine (switchbackref17_Branch.calls ((rd_T40 l0 a2).f0) ((rd_T40 l0 a2).f1) ((rd_T40 l0 a2).f2) ((rd_T40 l0 a2).f3) ((rd_T40 l0 a2).f4) ((rd_T40 l0 a2).f5) _ _ ((rd_T40 l0 a2).f6) bl _ ?side1 ?side2 A14.out).mono ?_); (case side1 => exact zD bx.out (by repeat (first | (with_reducible first | exact HB.out | apply zI | apply zH | apply zJ | refine zQ ?_ ak.out | refine zQ ?_ am.out | refine zQ ?_ aq.out | refine zQ ?_ av.out) | exact HB.out))); (case side2 => exact HC175_6.out); rintro e w34 ⟨rfl, hb⟩; refine ⟨_, rfl, ?_⟩; have n0_ := uZ (zO (g := ac) (o := .cells #[.slice A1_0 l1_0.length c1_0, .slice A1_1 l1_1.length c1_1, .slice A1_2 l1_2.length c1_2, .int .i64 a1_3] 27 (0, 0)) (by (with_reducible repeat (first | apply zE | apply zF | apply zG)); refine zN ?_ b0.out _; (with_reducible repeat (first | apply zE | apply zF | apply zG)); refine zN ?_ b0.out _; (with_reducible repeat (first | apply zE | apply zF | apply zG)); refine zN ?_ b0.out _; (with_reducible repeat (first | apply zE | apply zF | apply zG)); refine zN ?_ b0.out _; (with_reducible repeat (first | apply zE | apply zF | apply zG)); exact a9.out) hb); have n1_ := uZ (zO (g := a8) (o := .cells #[.int .i64 ((rd_T40 l0 a2).f0), .int .i64 ((rd_T40 l0 a2).f1), .int .i64 ((rd_T40 l0 a2).f2), .int .i64 ((rd_T40 l0 a2).f3), .int .u32 ((rd_T40 l0 a2).f4), .int .i64 ((rd_T40 l0 a2).f5), .slice A175_6 ((rd_T40 l0 a2).f6).length c175_6] 40 (0, 0)) (by (with_reducible repeat (first | apply zE | apply zF | apply zG)); refine zN ?_ au.out _; (with_reducible repeat (first | apply zE | apply zF | apply zG)); refine zN ?_ au.out _; (with_reducible repeat (first | apply zE | apply zF | apply zG)); refine zN ?_ au.out _; (with_reducible repeat (first | apply zE | apply zF | apply zG)); refine zN ?_ au.out _; (with_reducible repeat (first | apply zE | apply zF | apply zG)); exact a7.out) hb); have n2_ := uZ (zO (g := af) (o := .cells #[.int .i64 ae, .int .i64 ag, .int .i64 ah, .int .i64 ai] 44 (0, 0)) (by (with_reducible repeat (first | apply zE | apply zF | apply zG)); refine zN ?_ bg.out _; (with_reducible repeat (first | apply zE | apply zF | apply zG)); refine zN ?_ bg.out _; (with_reducible repeat (first | apply zE | apply zF | apply zG)); refine zN ?_ bg.out _; (with_reducible repeat (first | apply zE | apply zF | apply zG)); refine zN ?_ bg.out _; (with_reducible repeat (first | apply zE | apply zF | apply zG)); exact aa.out) hb); have n3_ := uZ (zO (g := ao) (o := .cells #[.int .i64 ((rd_T40 l0 a2).f0), .int .i64 ((rd_T40 l0 a2).f1), .int .i64 ((rd_T40 l0 a2).f2), .int .i64 ((rd_T40 l0 a2).f3)] 44 (0, 0)) (by (with_reducible repeat (first | apply zE | apply zF | apply zG)); refine zM (cs := #[.int .i64 ((rd_T40 l0 a2).f0), .int .i64 ((rd_T40 l0 a2).f1), .int .i64 ((rd_T40 l0 a2).f2), .int .i64 0]) ?_ 3 _ rfl; (with_reducible repeat (first | apply zE | apply zF | apply zG)); refine zM (cs := #[.int .i64 ((rd_T40 l0 a2).f0), .int .i64 ((rd_T40 l0 a2).f1), .int .i64 0, .int .i64 0]) ?_ 2 _ rfl; (with_reducible repeat (first | apply zE | apply zF | apply zG)); refine zM (cs := #[.int .i64 ((rd_T40 l0 a2).f0), .int .i64 0, .int .i64 0, .int .i64 0]) ?_ 1 _ rfl; (with_reducible repeat (first | apply zE | apply zF | apply zG)); refine zM (cs := #[.int .i64 0, .int .i64 0, .int .i64 0, .int .i64 0]) ?_ 0 _ rfl; (with_reducible repeat (first | apply zE | apply zF | apply zG)); exact ab.out) hb); have n4_ := uZ (zS (by repeat (first | (with_reducible first | exact HB.out | apply zI | apply zH | apply zJ | refine zQ ?_ ak.out | refine zQ ?_ am.out | refine zQ ?_ aq.out | refine zQ ?_ av.out) | exact HB.out)) hb); clear a9; clear a7; clear aa; clear ab; clear HB; have a9 := n0_; have a7 := n1_; have aa := n2_; have ab := n3_; have HB := n4_; clear n0_ n1_ n2_ n3_ n4_; (try clear hb); (try clear hb2); (try clear hk); (try clear hi); have hcz35_0 : w34.cell? ⟨a8, 0, none⟩ = some (.int .i64 ((rd_T40 l0 a2).f0)) := (zL a7.out 0).trans rfl; have hcz35_1 : w34.cell? ⟨a8, 1, none⟩ = some (.int .i64 ((rd_T40 l0 a2).f1)) := (zL a7.out 1).trans rfl; have hcz35_2 : w34.cell? ⟨a8, 2, none⟩ = some (.int .i64 ((rd_T40 l0 a2).f2)) := (zL a7.out 2).trans rfl; have hcz35_3 : w34.cell? ⟨a8, 3, none⟩ = some (.int .i64 ((rd_T40 l0 a2).f3)) := (zL a7.out 3).trans rfl; have hcz35_4 : w34.cell? ⟨a8, 4, none⟩ = some (.int .u32 ((rd_T40 l0 a2).f4)) := (zL a7.out 4).trans rfl; have hcz35_5 : w34.cell? ⟨a8, 5, none⟩ = some (.int .i64 ((rd_T40 l0 a2).f5)) := (zL a7.out 5).trans rfl; have hcz35_6 : w34.cell? ⟨a8, 6, none⟩ = some (.slice A175_6 ((rd_T40 l0 a2).f6).length c175_6) := (zL a7.out 6).trans rfl; have hfz35_0 := zK a7.out 0; have hfz35_1 := zK a7.out 1; have hfz35_2 := zK a7.out 2; have hfz35_3 := zK a7.out 3; have hfz35_4 := zK a7.out 4; have hfz35_5 := zK a7.out 5; have hfz35_6 := zK a7.out 6) | ((with_reducible refine gate_callee (f := 27) rfl ?_); refine goesL_ (some 48) rfl rfl Tryd.func27 (by kernel_rfl) rfl #[.agg #[.int .i64 ((rd_T40 l0 a2).f0), .int .i64 ((rd_T40 l0 a2).f1), .int .i64 ((rd_T40 l0 a2).f2), .int .i64 ((rd_T40 l0 a2).f3), .int .u32 ((rd_T40 l0 a2).f4), .int .i64 ((rd_T40 l0 a2).f5), .slice A175_6 ((rd_T40 l0 a2).f6).length c175_6]] rfl (by (try simp only [zY, List.map_cons, List.map_nil]); first | done | rfl | (simp only [zZ, yA]; rfl)) ?_; (with_reducible refine (switchbackref17_Goes.calls ((rd_T40 l0 a2).f0) ((rd_T40 l0 a2).f1) ((rd_T40 l0 a2).f2) ((rd_T40 l0 a2).f3) ((rd_T40 l0 a2).f4) ((rd_T40 l0 a2).f5) _ _ ((rd_T40 l0 a2).f6) bj _ ?side1 ?side2 A15.out).mono ?_); (case side1 => repeat (first | exact (zD bx.out HB.out) | (with_reducible refine zA ?_ _) | (with_reducible refine zB ?_ _) | (with_reducible refine zC ?_))); (case side2 => exact HC175_6.out); rintro e w36 ⟨rfl, hb⟩; refine ⟨_, rfl, ?_⟩; have n0_ := uZ (zO (g := ac) (o := .cells #[.slice A1_0 l1_0.length c1_0, .slice A1_1 l1_1.length c1_1, .slice A1_2 l1_2.length c1_2, .int .i64 a1_3] 27 (0, 0)) (uK a9.out) hb); have n1_ := uZ (zO (g := a8) (o := .cells #[.int .i64 ((rd_T40 l0 a2).f0), .int .i64 ((rd_T40 l0 a2).f1), .int .i64 ((rd_T40 l0 a2).f2), .int .i64 ((rd_T40 l0 a2).f3), .int .u32 ((rd_T40 l0 a2).f4), .int .i64 ((rd_T40 l0 a2).f5), .slice A175_6 ((rd_T40 l0 a2).f6).length c175_6] 40 (0, 0)) (uK a7.out) hb); have n2_ := uZ (zO (g := af) (o := .cells #[.int .i64 ae, .int .i64 ag, .int .i64 ah, .int .i64 ai] 44 (0, 0)) (uK aa.out) hb); have n3_ := uZ (zO (g := ao) (o := .cells #[.int .i64 ((rd_T40 l0 a2).f0), .int .i64 ((rd_T40 l0 a2).f1), .int .i64 ((rd_T40 l0 a2).f2), .int .i64 ((rd_T40 l0 a2).f3)] 44 (0, 0)) (uK ab.out) hb); have n4_ := uZ (zS (by repeat (first | (with_reducible first | exact HB.out | apply zI | apply zH | apply zJ | refine zQ ?_ ak.out | refine zQ ?_ am.out | refine zQ ?_ aq.out | refine zQ ?_ av.out) | exact HB.out)) hb); clear a9; clear a7; clear aa; clear ab; clear HB; have a9 := n0_; have a7 := n1_; have aa := n2_; have ab := n3_; have HB := n4_; clear n0_ n1_ n2_ n3_ n4_; (try clear hb); (try clear hb2); (try clear hk); (try clear hi)))
    (try simp only [Act.put, zU, zV, zW])
    go_cut [15] (fun v15 wc => ∃ (kq : Nat) (aw : Int), v15 = .int .i64 aw ∧ Aside0 (lineG.j0 kq l0 a3 bl aw bj l1_0 l1_1 l1_2 a1_3 ((rd_T40 l0 a2).f0) ((rd_T40 l0 a2).f1) ((rd_T40 l0 a2).f2) ((rd_T40 l0 a2).f3) ((rd_T40 l0 a2).f4) ((rd_T40 l0 a2).f5) ((rd_T40 l0 a2).f6) ae ag ah ai ((rd_T40 l0 a2).f0) ((rd_T40 l0 a2).f1) ((rd_T40 l0 a2).f2) ((rd_T40 l0 a2).f3) = some (r1, r2)) ∧ Aside0 (kq ≤ k) ∧ Aside0 (wc.heap[ac]? = some (.cells #[(.slice A1_0 l1_0.length c1_0), (.slice A1_1 l1_1.length c1_1), (.slice A1_2 l1_2.length c1_2), .int .i64 a1_3] 27 (0, 0))) ∧ Aside0 (wc.heap[a8]? = some (.cells #[.int .i64 ((rd_T40 l0 a2).f0), .int .i64 ((rd_T40 l0 a2).f1), .int .i64 ((rd_T40 l0 a2).f2), .int .i64 ((rd_T40 l0 a2).f3), .int .u32 ((rd_T40 l0 a2).f4), .int .i64 ((rd_T40 l0 a2).f5), (.slice A175_6 ((rd_T40 l0 a2).f6).length c175_6)] 40 (0, 0))) ∧ Aside0 (wc.heap[af]? = some (.cells #[.int .i64 ae, .int .i64 ag, .int .i64 ah, .int .i64 ai] 44 (0, 0))) ∧ Aside0 (wc.heap[ao]? = some (.cells #[.int .i64 ((rd_T40 l0 a2).f0), .int .i64 ((rd_T40 l0 a2).f1), .int .i64 ((rd_T40 l0 a2).f2), .int .i64 ((rd_T40 l0 a2).f3)] 44 (0, 0))) ∧ Aside0 (Below w.heap.size w wc))
    case first =>
     have H := HC16.out
     clear HC16
     by_cases c37 : bj = true
     ·subst c37
      have H1 : ((switchbacklaw17_at.f k l0 l1_0 l1_1 l1_2 a1_3 ((rd_T40 l0 a2).f5)).bind fun bv => (lineG.j0 k l0 a3 bl bv true l1_0 l1_1 l1_2 a1_3 ((rd_T40 l0 a2).f0) ((rd_T40 l0 a2).f1) ((rd_T40 l0 a2).f2) ((rd_T40 l0 a2).f3) ((rd_T40 l0 a2).f4) ((rd_T40 l0 a2).f5) ((rd_T40 l0 a2).f6) ae ag ah ai ((rd_T40 l0 a2).f0) ((rd_T40 l0 a2).f1) ((rd_T40 l0 a2).f2) ((rd_T40 l0 a2).f3))) = some (r1, r2) := by rw [if_pos rfl] at H; exact H
      clear H
      have H := H1
      clear H1
      replace H := Option.bind_eq_some_iff.mp H
      obtain ⟨bv, A380, H⟩ := H
      replace H : (lineG.j0 k l0 a3 bl bv true l1_0 l1_1 l1_2 a1_3 ((rd_T40 l0 a2).f0) ((rd_T40 l0 a2).f1) ((rd_T40 l0 a2).f2) ((rd_T40 l0 a2).f3) ((rd_T40 l0 a2).f4) ((rd_T40 l0 a2).f5) ((rd_T40 l0 a2).f6) ae ag ah ai ((rd_T40 l0 a2).f0) ((rd_T40 l0 a2).f1) ((rd_T40 l0 a2).f2) ((rd_T40 l0 a2).f3)) = some (r1, r2) := H
      have A38 := uZ A380
      clear A380
      have H' := uZ H
      clear H
      have hnb39 := aj.out
      have hnc39 := ar.out
      have hnb40 := an.out
      have hnc40 := a_.out
      have hnb41 := b0.out
      have hnc41 := bk.out
      have hcz42_0 : w36.cell? ⟨ac, 0, none⟩ = some (.slice A1_0 l1_0.length c1_0) := (zL a9.out 0).trans rfl
      have hcz42_1 : w36.cell? ⟨ac, 1, none⟩ = some (.slice A1_1 l1_1.length c1_1) := (zL a9.out 1).trans rfl
      have hcz42_2 : w36.cell? ⟨ac, 2, none⟩ = some (.slice A1_2 l1_2.length c1_2) := (zL a9.out 2).trans rfl
      have hcz42_3 : w36.cell? ⟨ac, 3, none⟩ = some (.int .i64 a1_3) := (zL a9.out 3).trans rfl
      have hfz42_0 := zK a9.out 0
      have hfz42_1 := zK a9.out 1
      have hfz42_2 := zK a9.out 2
      have hfz42_3 := zK a9.out 3
      have hnb43 := al.out
      have hnc43 := ax.out
      have hnb44 := au.out
      have hnc44 := ay.out
      have hcz45_0 : w36.cell? ⟨a8, 0, none⟩ = some (.int .i64 ((rd_T40 l0 a2).f0)) := (zL a7.out 0).trans rfl
      have hcz45_1 : w36.cell? ⟨a8, 1, none⟩ = some (.int .i64 ((rd_T40 l0 a2).f1)) := (zL a7.out 1).trans rfl
      have hcz45_2 : w36.cell? ⟨a8, 2, none⟩ = some (.int .i64 ((rd_T40 l0 a2).f2)) := (zL a7.out 2).trans rfl
      have hcz45_3 : w36.cell? ⟨a8, 3, none⟩ = some (.int .i64 ((rd_T40 l0 a2).f3)) := (zL a7.out 3).trans rfl
      have hcz45_4 : w36.cell? ⟨a8, 4, none⟩ = some (.int .u32 ((rd_T40 l0 a2).f4)) := (zL a7.out 4).trans rfl
      have hcz45_5 : w36.cell? ⟨a8, 5, none⟩ = some (.int .i64 ((rd_T40 l0 a2).f5)) := (zL a7.out 5).trans rfl
      have hcz45_6 : w36.cell? ⟨a8, 6, none⟩ = some (.slice A175_6 ((rd_T40 l0 a2).f6).length c175_6) := (zL a7.out 6).trans rfl
      have hfz45_0 := zK a7.out 0
      have hfz45_1 := zK a7.out 1
      have hfz45_2 := zK a7.out 2
      have hfz45_3 := zK a7.out 3
      have hfz45_4 := zK a7.out 4
      have hfz45_5 := zK a7.out 5
      have hfz45_6 := zK a7.out 6
      go_wp2_with (first | ((with_reducible refine gate_callee (f := 52) rfl ?_); refine goesL_ (some 54) rfl rfl Tryd.func52 (by kernel_rfl) rfl #[.slice (some ad175) l0.length c0, .agg #[.slice A1_0 l1_0.length c1_0, .slice A1_1 l1_1.length c1_1, .slice A1_2 l1_2.length c1_2, .int .i64 a1_3], .int .i64 ((rd_T40 l0 a2).f5)] rfl (by (try simp only [zY, List.map_cons, List.map_nil]); first | done | rfl | (simp only [zZ, yA]; rfl)) ?_; (with_reducible refine (switchbacklaw17_at.calls k _ _ l0 _ _ l1_0 _ _ l1_1 _ _ l1_2 a1_3 ((rd_T40 l0 a2).f5) bv _ ?side1 ?side2 ?side3 ?side4 ?side5 ?side6 ?side7 ?side8 A38.out).mono ?_); (case side1 => repeat (first | exact (zD HR0.out HB.out) | (with_reducible refine zA ?_ _) | (with_reducible refine zB ?_ _) | (with_reducible refine zC ?_))); (case side2 => exact HC0.out); (case side3 => repeat (first | exact (zD bn.out HB.out) | (with_reducible refine zA ?_ _) | (with_reducible refine zB ?_ _) | (with_reducible refine zC ?_))); (case side4 => exact bp.out); (case side5 => repeat (first | exact (zD bo.out HB.out) | (with_reducible refine zA ?_ _) | (with_reducible refine zB ?_ _) | (with_reducible refine zC ?_))); (case side6 => exact bq.out); (case side7 => repeat (first | exact (zD br.out HB.out) | (with_reducible refine zA ?_ _) | (with_reducible refine zB ?_ _) | (with_reducible refine zC ?_))); (case side8 => exact bs.out); rintro e w46 ⟨rfl, hb⟩; refine ⟨_, rfl, ?_⟩; have n0_ := uZ (zO (g := ac) (o := .cells #[.slice A1_0 l1_0.length c1_0, .slice A1_1 l1_1.length c1_1, .slice A1_2 l1_2.length c1_2, .int .i64 a1_3] 27 (0, 0)) (uK a9.out) hb); have n1_ := uZ (zO (g := a8) (o := .cells #[.int .i64 ((rd_T40 l0 a2).f0), .int .i64 ((rd_T40 l0 a2).f1), .int .i64 ((rd_T40 l0 a2).f2), .int .i64 ((rd_T40 l0 a2).f3), .int .u32 ((rd_T40 l0 a2).f4), .int .i64 ((rd_T40 l0 a2).f5), .slice A175_6 ((rd_T40 l0 a2).f6).length c175_6] 40 (0, 0)) (uK a7.out) hb); have n2_ := uZ (zO (g := af) (o := .cells #[.int .i64 ae, .int .i64 ag, .int .i64 ah, .int .i64 ai] 44 (0, 0)) (uK aa.out) hb); have n3_ := uZ (zO (g := ao) (o := .cells #[.int .i64 ((rd_T40 l0 a2).f0), .int .i64 ((rd_T40 l0 a2).f1), .int .i64 ((rd_T40 l0 a2).f2), .int .i64 ((rd_T40 l0 a2).f3)] 44 (0, 0)) (uK ab.out) hb); have n4_ := uZ (zS (by repeat (first | (with_reducible first | exact HB.out | apply zI | apply zH | apply zJ | refine zQ ?_ ak.out | refine zQ ?_ am.out | refine zQ ?_ aq.out | refine zQ ?_ av.out) | exact HB.out)) hb); clear a9; clear a7; clear aa; clear ab; clear HB; have a9 := n0_; have a7 := n1_; have aa := n2_; have ab := n3_; have HB := n4_; clear n0_ n1_ n2_ n3_ n4_; (try clear hb); (try clear hb2); (try clear hk); (try clear hi)))
      go_meet
      case rel => exact ⟨_, (bv), (by first | rfl | (simp; done) | (simp [*]; done)), H', ⟨by first | omega | exact Nat.le_refl _⟩, ⟨uK a9.out⟩, ⟨uK a7.out⟩, ⟨uK aa.out⟩, ⟨uK ab.out⟩, ⟨by repeat (first | (with_reducible first | exact HB.out | apply zI | apply zH | apply zJ | refine zQ ?_ ak.out | refine zQ ?_ am.out | refine zQ ?_ aq.out | refine zQ ?_ av.out) | exact HB.out)⟩⟩
     replace c37 := Bool.eq_false_iff.mpr c37
     subst c37
     have H1 : (lineG.j0 k l0 a3 bl (-1) false l1_0 l1_1 l1_2 a1_3 ((rd_T40 l0 a2).f0) ((rd_T40 l0 a2).f1) ((rd_T40 l0 a2).f2) ((rd_T40 l0 a2).f3) ((rd_T40 l0 a2).f4) ((rd_T40 l0 a2).f5) ((rd_T40 l0 a2).f6) ae ag ah ai ((rd_T40 l0 a2).f0) ((rd_T40 l0 a2).f1) ((rd_T40 l0 a2).f2) ((rd_T40 l0 a2).f3)) = some (r1, r2) := by rw [if_neg (show ¬ (false = true) by decide)] at H; exact H
     clear H
     have H := H1
     clear H1
     have H' := uZ H
     clear H
     go_wp2
     go_meet
     case rel => exact ⟨_, ((-1)), (by first | rfl | (simp; done) | (simp [*]; done)), H', ⟨by first | omega | exact Nat.le_refl _⟩, ⟨uK a9.out⟩, ⟨uK a7.out⟩, ⟨uK aa.out⟩, ⟨uK ab.out⟩, ⟨by repeat (first | (with_reducible first | exact HB.out | apply zI | apply zH | apply zJ | refine zQ ?_ ak.out | refine zQ ?_ am.out | refine zQ ?_ aq.out | refine zQ ?_ av.out) | exact HB.out)⟩⟩
    case rest =>
     clear HC16
     try clear c1
     try clear p1
     try clear q1
     try clear hx1
     try clear c2
     try clear p2
     try clear c3
     try clear c4
     try clear c5
     try clear c5b0
     try clear c6
     try clear c6b0
     try clear c7
     try clear c7b0
     try clear c7b1
     try clear c10
     try clear c13
     try clear c17
     try clear p17
     try clear q17
     try clear hx17
     try clear c19
     try clear c24
     try clear c25
     try clear c27
     try clear c29
     try clear c30
     try clear c31
     try clear c33
     try clear c37
     try clear c39
     try clear c40
     try clear c41
     try clear c43
     try clear c44
     try clear hcz11_0
     try clear hcz11_1
     try clear hcz11_2
     try clear hcz11_3
     try clear hcz11_4
     try clear hcz11_5
     try clear hcz11_6
     try clear hcz20_0
     try clear hcz20_1
     try clear hcz20_2
     try clear hcz20_3
     try clear hcz20_4
     try clear hcz20_5
     try clear hcz20_6
     try clear hcz21_0
     try clear hcz21_1
     try clear hcz21_2
     try clear hcz21_3
     try clear hcz26_0
     try clear hcz26_1
     try clear hcz26_2
     try clear hcz26_3
     try clear hcz27_0
     try clear hcz27_1
     try clear hcz27_2
     try clear hcz27_3
     try clear hcz27_4
     try clear hcz27_5
     try clear hcz27_6
     try clear hcz32_0
     try clear hcz32_1
     try clear hcz32_2
     try clear hcz32_3
     try clear hcz33_0
     try clear hcz33_1
     try clear hcz33_2
     try clear hcz33_3
     try clear hcz33_4
     try clear hcz33_5
     try clear hcz33_6
     try clear hcz35_0
     try clear hcz35_1
     try clear hcz35_2
     try clear hcz35_3
     try clear hcz35_4
     try clear hcz35_5
     try clear hcz35_6
     try clear hcz42_0
     try clear hcz42_1
     try clear hcz42_2
     try clear hcz42_3
     try clear hcz45_0
     try clear hcz45_1
     try clear hcz45_2
     try clear hcz45_3
     try clear hcz45_4
     try clear hcz45_5
     try clear hcz45_6
     try clear hfz11_0
     try clear hfz11_1
     try clear hfz11_2
     try clear hfz11_3
     try clear hfz11_4
     try clear hfz11_5
     try clear hfz11_6
     try clear hfz20_0
     try clear hfz20_1
     try clear hfz20_2
     try clear hfz20_3
     try clear hfz20_4
     try clear hfz20_5
     try clear hfz20_6
     try clear hfz21_0
     try clear hfz21_1
     try clear hfz21_2
     try clear hfz21_3
     try clear hfz26_0
     try clear hfz26_1
     try clear hfz26_2
     try clear hfz26_3
     try clear hfz27_0
     try clear hfz27_1
     try clear hfz27_2
     try clear hfz27_3
     try clear hfz27_4
     try clear hfz27_5
     try clear hfz27_6
     try clear hfz32_0
     try clear hfz32_1
     try clear hfz32_2
     try clear hfz32_3
     try clear hfz33_0
     try clear hfz33_1
     try clear hfz33_2
     try clear hfz33_3
     try clear hfz33_4
     try clear hfz33_5
     try clear hfz33_6
     try clear hfz35_0
     try clear hfz35_1
     try clear hfz35_2
     try clear hfz35_3
     try clear hfz35_4
     try clear hfz35_5
     try clear hfz35_6
     try clear hfz42_0
     try clear hfz42_1
     try clear hfz42_2
     try clear hfz42_3
     try clear hfz45_0
     try clear hfz45_1
     try clear hfz45_2
     try clear hfz45_3
     try clear hfz45_4
     try clear hfz45_5
     try clear hfz45_6
     try clear b9
     try clear ba
     try clear bb
     try clear bc
     try clear bd
     try clear be
     try clear bf
     try clear p175
     try clear q175
     obtain ⟨kq, aw, rfl, HA, HJ15, a9, a7, aa, ab, HB⟩ := hcut
     cases kq with
     | zero => exact absurd HA.out (by simp [lineG.j0])
     | succ kj15 =>
      have H := HA.out
      clear HA
      simp only [lineG.j0] at H
      have HC47 := uZ H
      clear H
      go_upto_region 13 with (fail)
      go_cut [55] (fun v55 wc => ∃ (kq : Nat) (x55_46 : Bool), v55 = .bool x55_46 ∧ Aside0 (lineG.j1 kq l0 a3 bl aw bj x55_46 l1_0 l1_1 l1_2 a1_3 ((rd_T40 l0 a2).f0) ((rd_T40 l0 a2).f1) ((rd_T40 l0 a2).f2) ((rd_T40 l0 a2).f3) ((rd_T40 l0 a2).f4) ((rd_T40 l0 a2).f5) ((rd_T40 l0 a2).f6) ae ag ah ai ((rd_T40 l0 a2).f0) ((rd_T40 l0 a2).f1) ((rd_T40 l0 a2).f2) ((rd_T40 l0 a2).f3) = some (r1, r2)) ∧ Aside0 (kq ≤ kj15) ∧ Aside0 (wc.heap[ac]? = some (.cells #[(.slice A1_0 l1_0.length c1_0), (.slice A1_1 l1_1.length c1_1), (.slice A1_2 l1_2.length c1_2), .int .i64 a1_3] 27 (0, 0))) ∧ Aside0 (wc.heap[a8]? = some (.cells #[.int .i64 ((rd_T40 l0 a2).f0), .int .i64 ((rd_T40 l0 a2).f1), .int .i64 ((rd_T40 l0 a2).f2), .int .i64 ((rd_T40 l0 a2).f3), .int .u32 ((rd_T40 l0 a2).f4), .int .i64 ((rd_T40 l0 a2).f5), (.slice A175_6 ((rd_T40 l0 a2).f6).length c175_6)] 40 (0, 0))) ∧ Aside0 (wc.heap[af]? = some (.cells #[.int .i64 ae, .int .i64 ag, .int .i64 ah, .int .i64 ai] 44 (0, 0))) ∧ Aside0 (wc.heap[ao]? = some (.cells #[.int .i64 ((rd_T40 l0 a2).f0), .int .i64 ((rd_T40 l0 a2).f1), .int .i64 ((rd_T40 l0 a2).f2), .int .i64 ((rd_T40 l0 a2).f3)] 44 (0, 0))) ∧ Aside0 (Below w.heap.size w wc))
      case first =>
       have H := HC47.out
       clear HC47
       by_cases c48 : bl = true
       ·subst c48
        have H1 : (lineG.j1 kj15 l0 a3 true aw bj (ae == ((rd_T40 l0 a2).f0)) l1_0 l1_1 l1_2 a1_3 ((rd_T40 l0 a2).f0) ((rd_T40 l0 a2).f1) ((rd_T40 l0 a2).f2) ((rd_T40 l0 a2).f3) ((rd_T40 l0 a2).f4) ((rd_T40 l0 a2).f5) ((rd_T40 l0 a2).f6) ae ag ah ai ((rd_T40 l0 a2).f0) ((rd_T40 l0 a2).f1) ((rd_T40 l0 a2).f2) ((rd_T40 l0 a2).f3)) = some (r1, r2) := by rw [if_pos rfl] at H; exact H
        clear H
        have H := H1
        clear H1
        have H' := uZ H
        clear H
        have hnb49 := a_.out
        have hnc49 := an.out
        have hnb50 := ax.out
        have hnc50 := al.out
        have hnb51 := bg.out
        have hnc51 := bm.out
        have hcz52_0 : wc.cell? ⟨af, 0, none⟩ = some (.int .i64 ae) := (zL aa.out 0).trans rfl
        have hcz52_1 : wc.cell? ⟨af, 1, none⟩ = some (.int .i64 ag) := (zL aa.out 1).trans rfl
        have hcz52_2 : wc.cell? ⟨af, 2, none⟩ = some (.int .i64 ah) := (zL aa.out 2).trans rfl
        have hcz52_3 : wc.cell? ⟨af, 3, none⟩ = some (.int .i64 ai) := (zL aa.out 3).trans rfl
        have hfz52_0 := zK aa.out 0
        have hfz52_1 := zK aa.out 1
        have hfz52_2 := zK aa.out 2
        have hfz52_3 := zK aa.out 3
        have hnb53 := ar.out
        have hnc53 := aj.out
        have hnb54 := au.out
        have hnc54 := ay.out
        have hcz55_0 : wc.cell? ⟨a8, 0, none⟩ = some (.int .i64 ((rd_T40 l0 a2).f0)) := (zL a7.out 0).trans rfl
        have hcz55_1 : wc.cell? ⟨a8, 1, none⟩ = some (.int .i64 ((rd_T40 l0 a2).f1)) := (zL a7.out 1).trans rfl
        have hcz55_2 : wc.cell? ⟨a8, 2, none⟩ = some (.int .i64 ((rd_T40 l0 a2).f2)) := (zL a7.out 2).trans rfl
        have hcz55_3 : wc.cell? ⟨a8, 3, none⟩ = some (.int .i64 ((rd_T40 l0 a2).f3)) := (zL a7.out 3).trans rfl
        have hcz55_4 : wc.cell? ⟨a8, 4, none⟩ = some (.int .u32 ((rd_T40 l0 a2).f4)) := (zL a7.out 4).trans rfl
        have hcz55_5 : wc.cell? ⟨a8, 5, none⟩ = some (.int .i64 ((rd_T40 l0 a2).f5)) := (zL a7.out 5).trans rfl
        have hcz55_6 : wc.cell? ⟨a8, 6, none⟩ = some (.slice A175_6 ((rd_T40 l0 a2).f6).length c175_6) := (zL a7.out 6).trans rfl
        have hfz55_0 := zK a7.out 0
        have hfz55_1 := zK a7.out 1
        have hfz55_2 := zK a7.out 2
        have hfz55_3 := zK a7.out 3
        have hfz55_4 := zK a7.out 4
        have hfz55_5 := zK a7.out 5
        have hfz55_6 := zK a7.out 6
        go_wp2
        go_meet
        case rel => exact ⟨_, ((ae == ((rd_T40 l0 a2).f0))), (by first | rfl | (simp; done) | (simp [*]; done)), H', ⟨by have := HJ15.out; first | omega | exact Nat.le_refl _⟩, ⟨uK a9.out⟩, ⟨uK a7.out⟩, ⟨uK aa.out⟩, ⟨uK ab.out⟩, ⟨by repeat (first | (with_reducible first | exact HB.out | apply zI | apply zH | apply zJ | refine zQ ?_ ak.out | refine zQ ?_ am.out | refine zQ ?_ aq.out | refine zQ ?_ av.out) | exact HB.out)⟩⟩
       replace c48 := Bool.eq_false_iff.mpr c48
       subst c48
       have H1 : (lineG.j1 kj15 l0 a3 false aw bj false l1_0 l1_1 l1_2 a1_3 ((rd_T40 l0 a2).f0) ((rd_T40 l0 a2).f1) ((rd_T40 l0 a2).f2) ((rd_T40 l0 a2).f3) ((rd_T40 l0 a2).f4) ((rd_T40 l0 a2).f5) ((rd_T40 l0 a2).f6) ae ag ah ai ((rd_T40 l0 a2).f0) ((rd_T40 l0 a2).f1) ((rd_T40 l0 a2).f2) ((rd_T40 l0 a2).f3)) = some (r1, r2) := by rw [if_neg (show ¬ (false = true) by decide)] at H; exact H
       clear H
       have H := H1
       clear H1
       have H' := uZ H
       clear H
       go_wp2
       go_meet
       case rel => exact ⟨_, (false), (by first | rfl | (simp; done) | (simp [*]; done)), H', ⟨by have := HJ15.out; first | omega | exact Nat.le_refl _⟩, ⟨uK a9.out⟩, ⟨uK a7.out⟩, ⟨uK aa.out⟩, ⟨uK ab.out⟩, ⟨by repeat (first | (with_reducible first | exact HB.out | apply zI | apply zH | apply zJ | refine zQ ?_ ak.out | refine zQ ?_ am.out | refine zQ ?_ aq.out | refine zQ ?_ av.out) | exact HB.out)⟩⟩
      case rest =>
       clear HC47
       try clear c1
       try clear p1
       try clear q1
       try clear hx1
       try clear c2
       try clear p2
       try clear c3
       try clear c4
       try clear c5
       try clear c5b0
       try clear c6
       try clear c6b0
       try clear c7
       try clear c7b0
       try clear c7b1
       try clear c10
       try clear c13
       try clear c17
       try clear p17
       try clear q17
       try clear hx17
       try clear c19
       try clear c24
       try clear c25
       try clear c27
       try clear c29
       try clear c30
       try clear c31
       try clear c33
       try clear c37
       try clear c39
       try clear c40
       try clear c41
       try clear c43
       try clear c44
       try clear c48
       try clear c49
       try clear c50
       try clear c51
       try clear c52
       try clear c53
       try clear c54
       try clear hcz11_0
       try clear hcz11_1
       try clear hcz11_2
       try clear hcz11_3
       try clear hcz11_4
       try clear hcz11_5
       try clear hcz11_6
       try clear hcz20_0
       try clear hcz20_1
       try clear hcz20_2
       try clear hcz20_3
       try clear hcz20_4
       try clear hcz20_5
       try clear hcz20_6
       try clear hcz21_0
       try clear hcz21_1
       try clear hcz21_2
       try clear hcz21_3
       try clear hcz26_0
       try clear hcz26_1
       try clear hcz26_2
       try clear hcz26_3
       try clear hcz27_0
       try clear hcz27_1
       try clear hcz27_2
       try clear hcz27_3
       try clear hcz27_4
       try clear hcz27_5
       try clear hcz27_6
       try clear hcz32_0
       try clear hcz32_1
       try clear hcz32_2
       try clear hcz32_3
       try clear hcz33_0
       try clear hcz33_1
       try clear hcz33_2
       try clear hcz33_3
       try clear hcz33_4
       try clear hcz33_5
       try clear hcz33_6
       try clear hcz35_0
       try clear hcz35_1
       try clear hcz35_2
       try clear hcz35_3
       try clear hcz35_4
       try clear hcz35_5
       try clear hcz35_6
       try clear hcz42_0
       try clear hcz42_1
       try clear hcz42_2
       try clear hcz42_3
       try clear hcz45_0
       try clear hcz45_1
       try clear hcz45_2
       try clear hcz45_3
       try clear hcz45_4
       try clear hcz45_5
       try clear hcz45_6
       try clear hcz52_0
       try clear hcz52_1
       try clear hcz52_2
       try clear hcz52_3
       try clear hcz55_0
       try clear hcz55_1
       try clear hcz55_2
       try clear hcz55_3
       try clear hcz55_4
       try clear hcz55_5
       try clear hcz55_6
       try clear hfz11_0
       try clear hfz11_1
       try clear hfz11_2
       try clear hfz11_3
       try clear hfz11_4
       try clear hfz11_5
       try clear hfz11_6
       try clear hfz20_0
       try clear hfz20_1
       try clear hfz20_2
       try clear hfz20_3
       try clear hfz20_4
       try clear hfz20_5
       try clear hfz20_6
       try clear hfz21_0
       try clear hfz21_1
       try clear hfz21_2
       try clear hfz21_3
       try clear hfz26_0
       try clear hfz26_1
       try clear hfz26_2
       try clear hfz26_3
       try clear hfz27_0
       try clear hfz27_1
       try clear hfz27_2
       try clear hfz27_3
       try clear hfz27_4
       try clear hfz27_5
       try clear hfz27_6
       try clear hfz32_0
       try clear hfz32_1
       try clear hfz32_2
       try clear hfz32_3
       try clear hfz33_0
       try clear hfz33_1
       try clear hfz33_2
       try clear hfz33_3
       try clear hfz33_4
       try clear hfz33_5
       try clear hfz33_6
       try clear hfz35_0
       try clear hfz35_1
       try clear hfz35_2
       try clear hfz35_3
       try clear hfz35_4
       try clear hfz35_5
       try clear hfz35_6
       try clear hfz42_0
       try clear hfz42_1
       try clear hfz42_2
       try clear hfz42_3
       try clear hfz45_0
       try clear hfz45_1
       try clear hfz45_2
       try clear hfz45_3
       try clear hfz45_4
       try clear hfz45_5
       try clear hfz45_6
       try clear hfz52_0
       try clear hfz52_1
       try clear hfz52_2
       try clear hfz52_3
       try clear hfz55_0
       try clear hfz55_1
       try clear hfz55_2
       try clear hfz55_3
       try clear hfz55_4
       try clear hfz55_5
       try clear hfz55_6
       try clear b9
       try clear ba
       try clear bb
       try clear bc
       try clear bd
       try clear be
       try clear bf
       try clear p1
       try clear p17
       try clear p175
       try clear p2
       try clear q1
       try clear q17
       try clear q175
       obtain ⟨kq, x55_46, rfl, HA, HJ46, a9, a7, aa, ab, HB⟩ := hcut
       cases kq with
       | zero => exact absurd HA.out (by simp [lineG.j1])
       | succ kj46 =>
        have H := HA.out
        clear HA
        simp only [lineG.j1] at H
        by_cases c56 : x55_46 = true
        ·subst c56
         have H1 : (if (ae == ((rd_T40 l0 a2).f0) && (ag == ((rd_T40 l0 a2).f1) && (ah == ((rd_T40 l0 a2).f2) && (ai == (wrap64 ((wrap64 (aw - a3)) - 1)))))) = true then ((switchbackref17_Near.f ai).bind fun t187 => (some (1, t187))) else (some (1, false))) = some (r1, r2) := by rw [if_pos rfl] at H; exact H
         clear H
         have H := H1
         clear H1
         by_cases c57 : (ae == ((rd_T40 l0 a2).f0) && (ag == ((rd_T40 l0 a2).f1) && (ah == ((rd_T40 l0 a2).f2) && (ai == (wrap64 ((wrap64 (aw - a3)) - 1)))))) = true
         ·as_aux_lemma =>
          rw [if_pos c57] at H
          have c57b0 : (ae == ((rd_T40 l0 a2).f0) && (ag == ((rd_T40 l0 a2).f1) && (ah == ((rd_T40 l0 a2).f2) && (ai == (wrap64 ((wrap64 (aw - a3)) - 1)))))) = true := c57
          (try (have c57b1 : decide (ae = ((rd_T40 l0 a2).f0) && (ag == ((rd_T40 l0 a2).f1) && (ah == ((rd_T40 l0 a2).f2) && (ai == (wrap64 ((wrap64 (aw - a3)) - 1)))))) = true := by simpa using c57))
          (try (have c57b2 : (ae == ((rd_T40 l0 a2).f0) && (ag == ((rd_T40 l0 a2).f1) && (ah == ((rd_T40 l0 a2).f2) && (ai == (wrap64 ((wrap64 (aw - a3)) - 1)))))) = true := by simpa using c57))
          clear c57
          replace H := Option.bind_eq_some_iff.mp H
          obtain ⟨t187, A580, H⟩ := H
          replace H : (some (1, t187)) = some (r1, r2) := H
          have A58 := uZ A580
          clear A580
          simp only [Option.some.injEq, Prod.mk.injEq] at H
          obtain ⟨rfl, rfl⟩ := H
          have hnb59 := a_.out
          have hnc59 := an.out
          have hnb60 := ax.out
          have hnc60 := al.out
          have hnb61 := bg.out
          have hnc61 := bm.out
          have hcz62_0 : wc.cell? ⟨af, 0, none⟩ = some (.int .i64 ae) := (zL aa.out 0).trans rfl
          have hcz62_1 : wc.cell? ⟨af, 1, none⟩ = some (.int .i64 ag) := (zL aa.out 1).trans rfl
          have hcz62_2 : wc.cell? ⟨af, 2, none⟩ = some (.int .i64 ah) := (zL aa.out 2).trans rfl
          have hcz62_3 : wc.cell? ⟨af, 3, none⟩ = some (.int .i64 ai) := (zL aa.out 3).trans rfl
          have hfz62_0 := zK aa.out 0
          have hfz62_1 := zK aa.out 1
          have hfz62_2 := zK aa.out 2
          have hfz62_3 := zK aa.out 3
          have hnb63 := ar.out
          have hnc63 := aj.out
          have hnb64 := au.out
          have hnc64 := ay.out
          have hcz65_0 : wc.cell? ⟨a8, 0, none⟩ = some (.int .i64 ((rd_T40 l0 a2).f0)) := (zL a7.out 0).trans rfl
          have hcz65_1 : wc.cell? ⟨a8, 1, none⟩ = some (.int .i64 ((rd_T40 l0 a2).f1)) := (zL a7.out 1).trans rfl
          have hcz65_2 : wc.cell? ⟨a8, 2, none⟩ = some (.int .i64 ((rd_T40 l0 a2).f2)) := (zL a7.out 2).trans rfl
          have hcz65_3 : wc.cell? ⟨a8, 3, none⟩ = some (.int .i64 ((rd_T40 l0 a2).f3)) := (zL a7.out 3).trans rfl
          have hcz65_4 : wc.cell? ⟨a8, 4, none⟩ = some (.int .u32 ((rd_T40 l0 a2).f4)) := (zL a7.out 4).trans rfl
          have hcz65_5 : wc.cell? ⟨a8, 5, none⟩ = some (.int .i64 ((rd_T40 l0 a2).f5)) := (zL a7.out 5).trans rfl
          have hcz65_6 : wc.cell? ⟨a8, 6, none⟩ = some (.slice A175_6 ((rd_T40 l0 a2).f6).length c175_6) := (zL a7.out 6).trans rfl
          have hfz65_0 := zK a7.out 0
          have hfz65_1 := zK a7.out 1
          have hfz65_2 := zK a7.out 2
          have hfz65_3 := zK a7.out 3
          have hfz65_4 := zK a7.out 4
          have hfz65_5 := zK a7.out 5
          have hfz65_6 := zK a7.out 6
          go_wp2_with (first | (go_at_call 32; (with_reducible refine (switchbackref17_Near.calls ai t187 _ A58.out).mono ?_); rintro e w' ⟨rfl, ⟨nd, rfl⟩⟩))
          go_ret2
          exact ⟨by first | rfl | (simp [errW_none, errW_some] <;> rfl) | (simp [*, errW_none, errW_some] <;> rfl), by repeat (first | (with_reducible first | exact HB.out | apply zI | apply zH | apply zJ | refine zQ ?_ ak.out | refine zQ ?_ am.out | refine zQ ?_ aq.out | refine zQ ?_ av.out) | exact HB.out)⟩
         rw [if_neg c57] at H
         have c57b0 : (ae == ((rd_T40 l0 a2).f0) && (ag == ((rd_T40 l0 a2).f1) && (ah == ((rd_T40 l0 a2).f2) && (ai == (wrap64 ((wrap64 (aw - a3)) - 1)))))) = false := by simpa using c57
         (try (have c57b1 : decide (ae = ((rd_T40 l0 a2).f0) && (ag == ((rd_T40 l0 a2).f1) && (ah == ((rd_T40 l0 a2).f2) && (ai == (wrap64 ((wrap64 (aw - a3)) - 1)))))) = false := by simpa using c57))
         (try (have c57b2 : (ae == ((rd_T40 l0 a2).f0) && (ag == ((rd_T40 l0 a2).f1) && (ah == ((rd_T40 l0 a2).f2) && (ai == (wrap64 ((wrap64 (aw - a3)) - 1)))))) = false := by simpa using c57))
         (try (have c57b3 : ¬ (ae = ((rd_T40 l0 a2).f0) && (ag == ((rd_T40 l0 a2).f1) && (ah == ((rd_T40 l0 a2).f2) && (ai == (wrap64 ((wrap64 (aw - a3)) - 1)))))) := by simpa using c57))
         clear c57
         simp only [Option.some.injEq, Prod.mk.injEq] at H
         obtain ⟨rfl, rfl⟩ := H
         exact absurd hT_.out (by decide)
        replace c56 := Bool.eq_false_iff.mpr c56
        subst c56
        have H1 : (if ((rd_T40 l0 a2).f0) = 40 then (if (ae == 41 && (ag == 0 && (ah == 0 && (ai == 0)))) = true then ((switchbacklaw17_data.f l1_0 l1_1 l1_2 a1_3 (wrap64 (a3 + 1)) 2 aw).bind fun t188 => (some (2, t188))) else (some (2, false))) else (if bl = true then ((switchbacklaw17_code.f kj46 l1_0 l1_1 l1_2 a1_3 (wrap64 (a3 + 1))).bind fun bt => ((switchbackref17_Other.f ((rd_T40 l0 a2).f0)).bind fun bu => (if (ae == bu && (ag == ((rd_T40 l0 a2).f1) && (ah == ((rd_T40 l0 a2).f2) && (ai == 2)))) = true then (if bt.2.2.2.2 = true then (if (bt.1 == 41 && (bt.2.1 == 0 && (bt.2.2.1 == 0 && (bt.2.2.2.1 == 0)))) = true then ((switchbacklaw17_data.f l1_0 l1_1 l1_2 a1_3 (wrap64 (a3 + 2)) 2 aw).bind fun t196 => (some (3, t196))) else (some (3, false))) else (some (3, false))) else (some (3, false))))) else (if bj = true then (if (ae == ((rd_T40 l0 a2).f0) && (ag == ((rd_T40 l0 a2).f1) && (ah == ((rd_T40 l0 a2).f2) && (ai == ((rd_T40 l0 a2).f3))))) = true then ((switchbacklaw17_data.f l1_0 l1_1 l1_2 a1_3 (wrap64 (a3 + 1)) 2 aw).bind fun t197 => (some (2, t197))) else (some (2, false))) else (if ((rd_T40 l0 a2).f0) = 2 then (if (ae == ((rd_T40 l0 a2).f0) && (ag == ((rd_T40 l0 a2).f1) && (ah == ((rd_T40 l0 a2).f2) && (ai == ((rd_T40 l0 a2).f3))))) = true then (if (wrap64 (a3 + 1)) < (l1_0.length : Int) then (if 0 ≤ (wrap64 (a3 + 1)) then (if (wrap64 (a3 + 1)) < (l1_1.length : Int) then (if (rd l1_1 (wrap64 (a3 + 1))) = 2 then (some (2, ((rd l1_0 (wrap64 (a3 + 1))) == ((rd_T40 l0 a2).f4)))) else (some (2, false))) else (none)) else (none)) else (some (2, false))) else (some (2, false))) else (if ((rd_T40 l0 a2).f0) = 42 then ((switchbacklaw17_data.f l1_0 l1_1 l1_2 a1_3 (wrap64 (a3 + 1)) 3 (((rd_T40 l0 a2).f6).length : Int)).bind fun t200 => (lineG.l0 kj46 l0 a3 t200 0 l1_0 l1_1 l1_2 a1_3 ((rd_T40 l0 a2).f0) ((rd_T40 l0 a2).f1) ((rd_T40 l0 a2).f2) ((rd_T40 l0 a2).f3) ((rd_T40 l0 a2).f4) ((rd_T40 l0 a2).f5) ((rd_T40 l0 a2).f6) ae ag ah ai ((rd_T40 l0 a2).f0) ((rd_T40 l0 a2).f1) ((rd_T40 l0 a2).f2) ((rd_T40 l0 a2).f3))) else (some (1, (ae == ((rd_T40 l0 a2).f0) && (ag == ((rd_T40 l0 a2).f1) && (ah == ((rd_T40 l0 a2).f2) && (ai == ((rd_T40 l0 a2).f3)))))))))))) = some (r1, r2) := by rw [if_neg (show ¬ (false = true) by decide)] at H; exact H
        clear H
        have H := H1
        clear H1
        by_cases c73 : ((rd_T40 l0 a2).f0) = 40
        ·rw [if_pos c73] at H
         have c73b0 : (((rd_T40 l0 a2).f0) == 40) = true := beq_iff_eq.mpr c73
         have c73b1 : (((rd_T40 l0 a2).f0) != 40) = false := bne_eq_false_iff_eq.mpr c73
         clear c73
         by_cases c74 : (ae == 41 && (ag == 0 && (ah == 0 && (ai == 0)))) = true
         ·as_aux_lemma =>
          rw [if_pos c74] at H
          have c74b0 : (ae == 41 && (ag == 0 && (ah == 0 && (ai == 0)))) = true := c74
          (try (have c74b1 : decide (ae = 41 && (ag == 0 && (ah == 0 && (ai == 0)))) = true := by simpa using c74))
          (try (have c74b2 : (ae == 41 && (ag == 0 && (ah == 0 && (ai == 0)))) = true := by simpa using c74))
          clear c74
          replace H := Option.bind_eq_some_iff.mp H
          obtain ⟨t188, A750, H⟩ := H
          replace H : (some (2, t188)) = some (r1, r2) := H
          have A75 := uZ A750
          clear A750
          simp only [Option.some.injEq, Prod.mk.injEq] at H
          obtain ⟨rfl, rfl⟩ := H
          have hnb76 := ar.out
          have hnc76 := aj.out
          have hnb77 := al.out
          have hnc77 := ax.out
          have hnb78 := au.out
          have hnc78 := ay.out
          have hcz79_0 : wc.cell? ⟨a8, 0, none⟩ = some (.int .i64 ((rd_T40 l0 a2).f0)) := (zL a7.out 0).trans rfl
          have hcz79_1 : wc.cell? ⟨a8, 1, none⟩ = some (.int .i64 ((rd_T40 l0 a2).f1)) := (zL a7.out 1).trans rfl
          have hcz79_2 : wc.cell? ⟨a8, 2, none⟩ = some (.int .i64 ((rd_T40 l0 a2).f2)) := (zL a7.out 2).trans rfl
          have hcz79_3 : wc.cell? ⟨a8, 3, none⟩ = some (.int .i64 ((rd_T40 l0 a2).f3)) := (zL a7.out 3).trans rfl
          have hcz79_4 : wc.cell? ⟨a8, 4, none⟩ = some (.int .u32 ((rd_T40 l0 a2).f4)) := (zL a7.out 4).trans rfl
          have hcz79_5 : wc.cell? ⟨a8, 5, none⟩ = some (.int .i64 ((rd_T40 l0 a2).f5)) := (zL a7.out 5).trans rfl
          have hcz79_6 : wc.cell? ⟨a8, 6, none⟩ = some (.slice A175_6 ((rd_T40 l0 a2).f6).length c175_6) := (zL a7.out 6).trans rfl
          have hfz79_0 := zK a7.out 0
          have hfz79_1 := zK a7.out 1
          have hfz79_2 := zK a7.out 2
          have hfz79_3 := zK a7.out 3
          have hfz79_4 := zK a7.out 4
          have hfz79_5 := zK a7.out 5
          have hfz79_6 := zK a7.out 6
          have hnb80 := a_.out
          have hnc80 := an.out
          have hnb81 := bg.out
          have hnc81 := bm.out
          have hcz82_0 : wc.cell? ⟨af, 0, none⟩ = some (.int .i64 ae) := (zL aa.out 0).trans rfl
          have hcz82_1 : wc.cell? ⟨af, 1, none⟩ = some (.int .i64 ag) := (zL aa.out 1).trans rfl
          have hcz82_2 : wc.cell? ⟨af, 2, none⟩ = some (.int .i64 ah) := (zL aa.out 2).trans rfl
          have hcz82_3 : wc.cell? ⟨af, 3, none⟩ = some (.int .i64 ai) := (zL aa.out 3).trans rfl
          have hfz82_0 := zK aa.out 0
          have hfz82_1 := zK aa.out 1
          have hfz82_2 := zK aa.out 2
          have hfz82_3 := zK aa.out 3
          have hnb83 := b0.out
          have hnc83 := bk.out
          have hcz84_0 : wc.cell? ⟨ac, 0, none⟩ = some (.slice A1_0 l1_0.length c1_0) := (zL a9.out 0).trans rfl
          have hcz84_1 : wc.cell? ⟨ac, 1, none⟩ = some (.slice A1_1 l1_1.length c1_1) := (zL a9.out 1).trans rfl
          have hcz84_2 : wc.cell? ⟨ac, 2, none⟩ = some (.slice A1_2 l1_2.length c1_2) := (zL a9.out 2).trans rfl
          have hcz84_3 : wc.cell? ⟨ac, 3, none⟩ = some (.int .i64 a1_3) := (zL a9.out 3).trans rfl
          have hfz84_0 := zK a9.out 0
          have hfz84_1 := zK a9.out 1
          have hfz84_2 := zK a9.out 2
          have hfz84_3 := zK a9.out 3
          go_wp2_with (first | (go_at_call 53; (with_reducible refine (switchbacklaw17_data.calls _ _ l1_0 _ _ l1_1 _ _ l1_2 a1_3 (wrap64 (a3 + 1)) 2 aw t188 _ ?side1 ?side2 ?side3 ?side4 ?side5 ?side6 A75.out).mono ?_); (case side1 => repeat (first | exact (zD bn.out HB.out) | (with_reducible refine zA ?_ _) | (with_reducible refine zB ?_ _) | (with_reducible refine zC ?_))); (case side2 => exact bp.out); (case side3 => repeat (first | exact (zD bo.out HB.out) | (with_reducible refine zA ?_ _) | (with_reducible refine zB ?_ _) | (with_reducible refine zC ?_))); (case side4 => exact bq.out); (case side5 => repeat (first | exact (zD br.out HB.out) | (with_reducible refine zA ?_ _) | (with_reducible refine zB ?_ _) | (with_reducible refine zC ?_))); (case side6 => exact bs.out); rintro e w85 ⟨rfl, hb⟩; have n0_ := uZ (zO (g := ac) (o := .cells #[.slice A1_0 l1_0.length c1_0, .slice A1_1 l1_1.length c1_1, .slice A1_2 l1_2.length c1_2, .int .i64 a1_3] 27 (0, 0)) (uK a9.out) hb); have n1_ := uZ (zO (g := a8) (o := .cells #[.int .i64 ((rd_T40 l0 a2).f0), .int .i64 ((rd_T40 l0 a2).f1), .int .i64 ((rd_T40 l0 a2).f2), .int .i64 ((rd_T40 l0 a2).f3), .int .u32 ((rd_T40 l0 a2).f4), .int .i64 ((rd_T40 l0 a2).f5), .slice A175_6 ((rd_T40 l0 a2).f6).length c175_6] 40 (0, 0)) (uK a7.out) hb); have n2_ := uZ (zO (g := af) (o := .cells #[.int .i64 ae, .int .i64 ag, .int .i64 ah, .int .i64 ai] 44 (0, 0)) (uK aa.out) hb); have n3_ := uZ (zO (g := ao) (o := .cells #[.int .i64 ((rd_T40 l0 a2).f0), .int .i64 ((rd_T40 l0 a2).f1), .int .i64 ((rd_T40 l0 a2).f2), .int .i64 ((rd_T40 l0 a2).f3)] 44 (0, 0)) (uK ab.out) hb); have n4_ := uZ (zS (by repeat (first | (with_reducible first | exact HB.out | apply zI | apply zH | apply zJ | refine zQ ?_ ak.out | refine zQ ?_ am.out | refine zQ ?_ aq.out | refine zQ ?_ av.out) | exact HB.out)) hb); clear a9; clear a7; clear aa; clear ab; clear HB; have a9 := n0_; have a7 := n1_; have aa := n2_; have ab := n3_; have HB := n4_; clear n0_ n1_ n2_ n3_ n4_; (try clear hb); (try clear hb2); (try clear hk); (try clear hi)))
          go_ret2
          exact ⟨by first | rfl | (simp [errW_none, errW_some] <;> rfl) | (simp [*, errW_none, errW_some] <;> rfl), by repeat (first | (with_reducible first | exact HB.out | apply zI | apply zH | apply zJ | refine zQ ?_ ak.out | refine zQ ?_ am.out | refine zQ ?_ aq.out | refine zQ ?_ av.out) | exact HB.out)⟩
         rw [if_neg c74] at H
         have c74b0 : (ae == 41 && (ag == 0 && (ah == 0 && (ai == 0)))) = false := by simpa using c74
         (try (have c74b1 : decide (ae = 41 && (ag == 0 && (ah == 0 && (ai == 0)))) = false := by simpa using c74))
         (try (have c74b2 : (ae == 41 && (ag == 0 && (ah == 0 && (ai == 0)))) = false := by simpa using c74))
         (try (have c74b3 : ¬ (ae = 41 && (ag == 0 && (ah == 0 && (ai == 0)))) := by simpa using c74))
         clear c74
         simp only [Option.some.injEq, Prod.mk.injEq] at H
         obtain ⟨rfl, rfl⟩ := H
         exact absurd hT_.out (by decide)
        rw [if_neg c73] at H
        have c73b0 : (((rd_T40 l0 a2).f0) == 40) = false := beq_eq_false_iff_ne.mpr c73
        have c73b1 : (((rd_T40 l0 a2).f0) != 40) = true := bne_iff_ne.mpr c73
        by_cases c93 : bl = true
        ·subst c93
         have H1 : ((switchbacklaw17_code.f kj46 l1_0 l1_1 l1_2 a1_3 (wrap64 (a3 + 1))).bind fun bt => ((switchbackref17_Other.f ((rd_T40 l0 a2).f0)).bind fun bu => (if (ae == bu && (ag == ((rd_T40 l0 a2).f1) && (ah == ((rd_T40 l0 a2).f2) && (ai == 2)))) = true then (if bt.2.2.2.2 = true then (if (bt.1 == 41 && (bt.2.1 == 0 && (bt.2.2.1 == 0 && (bt.2.2.2.1 == 0)))) = true then ((switchbacklaw17_data.f l1_0 l1_1 l1_2 a1_3 (wrap64 (a3 + 2)) 2 aw).bind fun t196 => (some (3, t196))) else (some (3, false))) else (some (3, false))) else (some (3, false))))) = some (r1, r2) := by rw [if_pos rfl] at H; exact H
         clear H
         have H := H1
         clear H1
         replace H := Option.bind_eq_some_iff.mp H
         obtain ⟨⟨b6, b8, bh, bi, t193⟩, A940, H⟩ := H
         replace H : ((switchbackref17_Other.f ((rd_T40 l0 a2).f0)).bind fun bu => (if (ae == bu && (ag == ((rd_T40 l0 a2).f1) && (ah == ((rd_T40 l0 a2).f2) && (ai == 2)))) = true then (if t193 = true then (if (b6 == 41 && (b8 == 0 && (bh == 0 && (bi == 0)))) = true then ((switchbacklaw17_data.f l1_0 l1_1 l1_2 a1_3 (wrap64 (a3 + 2)) 2 aw).bind fun t196 => (some (3, t196))) else (some (3, false))) else (some (3, false))) else (some (3, false)))) = some (r1, r2) := H
         have A94 := uZ A940
         clear A940
         replace H := Option.bind_eq_some_iff.mp H
         obtain ⟨bu, A950, H⟩ := H
         replace H : (if (ae == bu && (ag == ((rd_T40 l0 a2).f1) && (ah == ((rd_T40 l0 a2).f2) && (ai == 2)))) = true then (if t193 = true then (if (b6 == 41 && (b8 == 0 && (bh == 0 && (bi == 0)))) = true then ((switchbacklaw17_data.f l1_0 l1_1 l1_2 a1_3 (wrap64 (a3 + 2)) 2 aw).bind fun t196 => (some (3, t196))) else (some (3, false))) else (some (3, false))) else (some (3, false))) = some (r1, r2) := H
         have A95 := uZ A950
         clear A950
         by_cases c96 : (ae == bu && (ag == ((rd_T40 l0 a2).f1) && (ah == ((rd_T40 l0 a2).f2) && (ai == 2)))) = true
         ·as_aux_lemma =>
          rw [if_pos c96] at H
          have c96b0 : (ae == bu && (ag == ((rd_T40 l0 a2).f1) && (ah == ((rd_T40 l0 a2).f2) && (ai == 2)))) = true := c96
          (try (have c96b1 : decide (ae = bu && (ag == ((rd_T40 l0 a2).f1) && (ah == ((rd_T40 l0 a2).f2) && (ai == 2)))) = true := by simpa using c96))
          (try (have c96b2 : (ae == bu && (ag == ((rd_T40 l0 a2).f1) && (ah == ((rd_T40 l0 a2).f2) && (ai == 2)))) = true := by simpa using c96))
          clear c96
          by_cases c97 : t193 = true
          ·subst c97
           have H1 : (if (b6 == 41 && (b8 == 0 && (bh == 0 && (bi == 0)))) = true then ((switchbacklaw17_data.f l1_0 l1_1 l1_2 a1_3 (wrap64 (a3 + 2)) 2 aw).bind fun t196 => (some (3, t196))) else (some (3, false))) = some (r1, r2) := by rw [if_pos rfl] at H; exact H
           clear H
           have H := H1
           clear H1
           by_cases c98 : (b6 == 41 && (b8 == 0 && (bh == 0 && (bi == 0)))) = true
           ·rw [if_pos c98] at H
            have c98b0 : (b6 == 41 && (b8 == 0 && (bh == 0 && (bi == 0)))) = true := c98
            (try (have c98b1 : decide (b6 = 41 && (b8 == 0 && (bh == 0 && (bi == 0)))) = true := by simpa using c98))
            (try (have c98b2 : (b6 == 41 && (b8 == 0 && (bh == 0 && (bi == 0)))) = true := by simpa using c98))
            clear c98
            replace H := Option.bind_eq_some_iff.mp H
            obtain ⟨t196, A990, H⟩ := H
            replace H : (some (3, t196)) = some (r1, r2) := H
            have A99 := uZ A990
            clear A990
            simp only [Option.some.injEq, Prod.mk.injEq] at H
            obtain ⟨rfl, rfl⟩ := H
            have hnb100 := ar.out
            have hnc100 := aj.out
            have hnb101 := al.out
            have hnc101 := ax.out
            have hnb102 := au.out
            have hnc102 := ay.out
            have hcz103_0 : wc.cell? ⟨a8, 0, none⟩ = some (.int .i64 ((rd_T40 l0 a2).f0)) := (zL a7.out 0).trans rfl
            have hcz103_1 : wc.cell? ⟨a8, 1, none⟩ = some (.int .i64 ((rd_T40 l0 a2).f1)) := (zL a7.out 1).trans rfl
            have hcz103_2 : wc.cell? ⟨a8, 2, none⟩ = some (.int .i64 ((rd_T40 l0 a2).f2)) := (zL a7.out 2).trans rfl
            have hcz103_3 : wc.cell? ⟨a8, 3, none⟩ = some (.int .i64 ((rd_T40 l0 a2).f3)) := (zL a7.out 3).trans rfl
            have hcz103_4 : wc.cell? ⟨a8, 4, none⟩ = some (.int .u32 ((rd_T40 l0 a2).f4)) := (zL a7.out 4).trans rfl
            have hcz103_5 : wc.cell? ⟨a8, 5, none⟩ = some (.int .i64 ((rd_T40 l0 a2).f5)) := (zL a7.out 5).trans rfl
            have hcz103_6 : wc.cell? ⟨a8, 6, none⟩ = some (.slice A175_6 ((rd_T40 l0 a2).f6).length c175_6) := (zL a7.out 6).trans rfl
            have hfz103_0 := zK a7.out 0
            have hfz103_1 := zK a7.out 1
            have hfz103_2 := zK a7.out 2
            have hfz103_3 := zK a7.out 3
            have hfz103_4 := zK a7.out 4
            have hfz103_5 := zK a7.out 5
            have hfz103_6 := zK a7.out 6
            have hnb104 := an.out
            have hnc104 := a_.out
            have hnb105 := b0.out
            have hnc105 := bk.out
            have hcz106_0 : wc.cell? ⟨ac, 0, none⟩ = some (.slice A1_0 l1_0.length c1_0) := (zL a9.out 0).trans rfl
            have hcz106_1 : wc.cell? ⟨ac, 1, none⟩ = some (.slice A1_1 l1_1.length c1_1) := (zL a9.out 1).trans rfl
            have hcz106_2 : wc.cell? ⟨ac, 2, none⟩ = some (.slice A1_2 l1_2.length c1_2) := (zL a9.out 2).trans rfl
            have hcz106_3 : wc.cell? ⟨ac, 3, none⟩ = some (.int .i64 a1_3) := (zL a9.out 3).trans rfl
            have hfz106_0 := zK a9.out 0
            have hfz106_1 := zK a9.out 1
            have hfz106_2 := zK a9.out 2
            have hfz106_3 := zK a9.out 3
            try go_wp2_with (first | ((with_reducible refine gate_callee (f := 33) rfl ?_); refine goesL_ (some 102) rfl rfl Tryd.func33 (by kernel_rfl) rfl #[.agg #[.slice A1_0 l1_0.length c1_0, .slice A1_1 l1_1.length c1_1, .slice A1_2 l1_2.length c1_2, .int .i64 a1_3], .int .i64 (wrap64 (a3 + 1))] rfl (by (try simp only [zY, List.map_cons, List.map_nil]); first | done | rfl | (simp only [zZ, yA]; rfl)) ?_; (with_reducible refine (switchbacklaw17_code.calls kj46 _ _ l1_0 _ _ l1_1 _ _ l1_2 a1_3 (wrap64 (a3 + 1)) b6 b8 bh bi true _ ?side1 ?side2 ?side3 ?side4 ?side5 ?side6 (uZ (hLaid_.out.below (by repeat (first | (with_reducible first | exact HB.out | apply zI | apply zH | apply zJ) | refine zQ ?_ (Aside0.out (by assumption)) | exact HB.out)))) A94.out).mono ?_); (case side1 => repeat (first | exact (zD bn.out HB.out) | (with_reducible refine zA ?_ _) | (with_reducible refine zB ?_ _) | (with_reducible refine zC ?_))); (case side2 => exact bp.out); (case side3 => repeat (first | exact (zD bo.out HB.out) | (with_reducible refine zA ?_ _) | (with_reducible refine zB ?_ _) | (with_reducible refine zC ?_))); (case side4 => exact bq.out); (case side5 => repeat (first | exact (zD br.out HB.out) | (with_reducible refine zA ?_ _) | (with_reducible refine zB ?_ _) | (with_reducible refine zC ?_))); (case side6 => exact bs.out); rintro e w107 ⟨rfl, hb⟩; refine ⟨_, rfl, ?_⟩; have n0_ := uZ (zO (g := ac) (o := .cells #[.slice A1_0 l1_0.length c1_0, .slice A1_1 l1_1.length c1_1, .slice A1_2 l1_2.length c1_2, .int .i64 a1_3] 27 (0, 0)) (uK a9.out) hb); have n1_ := uZ (zO (g := a8) (o := .cells #[.int .i64 ((rd_T40 l0 a2).f0), .int .i64 ((rd_T40 l0 a2).f1), .int .i64 ((rd_T40 l0 a2).f2), .int .i64 ((rd_T40 l0 a2).f3), .int .u32 ((rd_T40 l0 a2).f4), .int .i64 ((rd_T40 l0 a2).f5), .slice A175_6 ((rd_T40 l0 a2).f6).length c175_6] 40 (0, 0)) (uK a7.out) hb); have n2_ := uZ (zO (g := af) (o := .cells #[.int .i64 ae, .int .i64 ag, .int .i64 ah, .int .i64 ai] 44 (0, 0)) (uK aa.out) hb); have n3_ := uZ (zO (g := ao) (o := .cells #[.int .i64 ((rd_T40 l0 a2).f0), .int .i64 ((rd_T40 l0 a2).f1), .int .i64 ((rd_T40 l0 a2).f2), .int .i64 ((rd_T40 l0 a2).f3)] 44 (0, 0)) (uK ab.out) hb); have n4_ := uZ (zS (by repeat (first | (with_reducible first | exact HB.out | apply zI | apply zH | apply zJ | refine zQ ?_ ak.out | refine zQ ?_ am.out | refine zQ ?_ aq.out | refine zQ ?_ av.out) | exact HB.out)) hb); clear a9; clear a7; clear aa; clear ab; clear HB; have a9 := n0_; have a7 := n1_; have aa := n2_; have ab := n3_; have HB := n4_; clear n0_ n1_ n2_ n3_ n4_; (try clear hb); (try clear hb2); (try clear hk); (try clear hi)) | ((with_reducible refine gate_dst (N := 17) rfl ?_); (try (refine gate_guard (by rfl) ?_; dsimp only)); refine box_event ?hg (N := 17) ?hd (cs := #[.int .i64 0, .int .i64 0, .int .i64 0, .int .i64 0]) (t := 44) ?hr ?_; (case hd => rfl); (case hg => rfl); (case hr => first | (go_simp; done) | (go_simp; rfl)); intro ad hg w108 hbox hb; have n0_ := uZ (zO (g := ac) (o := .cells #[.slice A1_0 l1_0.length c1_0, .slice A1_1 l1_1.length c1_1, .slice A1_2 l1_2.length c1_2, .int .i64 a1_3] 27 (0, 0)) (uK a9.out) hb); have n1_ := uZ (zO (g := a8) (o := .cells #[.int .i64 ((rd_T40 l0 a2).f0), .int .i64 ((rd_T40 l0 a2).f1), .int .i64 ((rd_T40 l0 a2).f2), .int .i64 ((rd_T40 l0 a2).f3), .int .u32 ((rd_T40 l0 a2).f4), .int .i64 ((rd_T40 l0 a2).f5), .slice A175_6 ((rd_T40 l0 a2).f6).length c175_6] 40 (0, 0)) (uK a7.out) hb); have n2_ := uZ (zO (g := af) (o := .cells #[.int .i64 ae, .int .i64 ag, .int .i64 ah, .int .i64 ai] 44 (0, 0)) (uK aa.out) hb); have n3_ := uZ (zO (g := ao) (o := .cells #[.int .i64 ((rd_T40 l0 a2).f0), .int .i64 ((rd_T40 l0 a2).f1), .int .i64 ((rd_T40 l0 a2).f2), .int .i64 ((rd_T40 l0 a2).f3)] 44 (0, 0)) (uK ab.out) hb); have n4_ := uZ (zS (by repeat (first | (with_reducible first | exact HB.out | apply zI | apply zH | apply zJ | refine zQ ?_ ak.out | refine zQ ?_ am.out | refine zQ ?_ aq.out | refine zQ ?_ av.out) | exact HB.out)) hb); have n5_ := uZ (hbox); have n6_ := uZ ((by rw [hg]; exact (zR (by repeat (first | (with_reducible first | exact HB.out | apply zI | apply zH | apply zJ | refine zQ ?_ ak.out | refine zQ ?_ am.out | refine zQ ?_ aq.out | refine zQ ?_ av.out) | exact HB.out))) : w.heap.size ≤ ad)); have n7_ := uZ ((by rw [hg]; exact (zR (by repeat (first | (with_reducible first | exact HB.out | apply zI | apply zH | apply zJ | refine zQ ?_ ak.out | refine zQ ?_ am.out | refine zQ ?_ aq.out | refine zQ ?_ av.out) | exact HB.out))) : w.heap.size ≤ ad)); have n8_ := uZ ((by rw [hg]; exact Nat.ne_of_lt (zP (g := ac) (o := .cells #[.slice A1_0 l1_0.length c1_0, .slice A1_1 l1_1.length c1_1, .slice A1_2 l1_2.length c1_2, .int .i64 a1_3] 27 (0, 0)) (uK a9.out)) : ac ≠ ad)); have n9_ := uZ ((by rw [hg]; exact Nat.ne_of_gt (zP (g := ac) (o := .cells #[.slice A1_0 l1_0.length c1_0, .slice A1_1 l1_1.length c1_1, .slice A1_2 l1_2.length c1_2, .int .i64 a1_3] 27 (0, 0)) (uK a9.out)) : ad ≠ ac)); have n10_ := uZ ((by rw [hg]; exact Nat.ne_of_lt (zP (g := a8) (o := .cells #[.int .i64 ((rd_T40 l0 a2).f0), .int .i64 ((rd_T40 l0 a2).f1), .int .i64 ((rd_T40 l0 a2).f2), .int .i64 ((rd_T40 l0 a2).f3), .int .u32 ((rd_T40 l0 a2).f4), .int .i64 ((rd_T40 l0 a2).f5), .slice A175_6 ((rd_T40 l0 a2).f6).length c175_6] 40 (0, 0)) (uK a7.out)) : a8 ≠ ad)); have n11_ := uZ ((by rw [hg]; exact Nat.ne_of_gt (zP (g := a8) (o := .cells #[.int .i64 ((rd_T40 l0 a2).f0), .int .i64 ((rd_T40 l0 a2).f1), .int .i64 ((rd_T40 l0 a2).f2), .int .i64 ((rd_T40 l0 a2).f3), .int .u32 ((rd_T40 l0 a2).f4), .int .i64 ((rd_T40 l0 a2).f5), .slice A175_6 ((rd_T40 l0 a2).f6).length c175_6] 40 (0, 0)) (uK a7.out)) : ad ≠ a8)); have n12_ := uZ ((by rw [hg]; exact Nat.ne_of_lt (zP (g := af) (o := .cells #[.int .i64 ae, .int .i64 ag, .int .i64 ah, .int .i64 ai] 44 (0, 0)) (uK aa.out)) : af ≠ ad)); have n13_ := uZ ((by rw [hg]; exact Nat.ne_of_gt (zP (g := af) (o := .cells #[.int .i64 ae, .int .i64 ag, .int .i64 ah, .int .i64 ai] 44 (0, 0)) (uK aa.out)) : ad ≠ af)); have n14_ := uZ ((by rw [hg]; exact Nat.ne_of_lt (zP (g := ao) (o := .cells #[.int .i64 ((rd_T40 l0 a2).f0), .int .i64 ((rd_T40 l0 a2).f1), .int .i64 ((rd_T40 l0 a2).f2), .int .i64 ((rd_T40 l0 a2).f3)] 44 (0, 0)) (uK ab.out)) : ao ≠ ad)); have n15_ := uZ ((by rw [hg]; exact Nat.ne_of_gt (zP (g := ao) (o := .cells #[.int .i64 ((rd_T40 l0 a2).f0), .int .i64 ((rd_T40 l0 a2).f1), .int .i64 ((rd_T40 l0 a2).f2), .int .i64 ((rd_T40 l0 a2).f3)] 44 (0, 0)) (uK ab.out)) : ad ≠ ao)); clear a9; clear a7; clear aa; clear ab; clear HB; have a9 := n0_; have a7 := n1_; have aa := n2_; have ab := n3_; have HB := n4_; have ap := n5_; have GW194 := n6_; have bz := n7_; have b2 := n8_; have NB194_174 := n9_; have b3 := n10_; have NB194_176 := n11_; have b4 := n12_; have NB194_182 := n13_; have b5 := n14_; have NB194_183 := n15_; clear n0_ n1_ n2_ n3_ n4_ n5_ n6_ n7_ n8_ n9_ n10_ n11_ n12_ n13_ n14_ n15_; clear hb hbox hg; have hnb109 := NB194_174.out; have hnc109 := b2.out; have hnb110 := NB194_176.out; have hnc110 := b3.out; have hnb111 := NB194_182.out; have hnc111 := b4.out; have hnb112 := NB194_183.out; have hnc112 := b5.out; have hcz113_0 : w108.cell? ⟨ad, 0, none⟩ = some (.int .i64 0) := (zL ap.out 0).trans rfl; have hcz113_1 : w108.cell? ⟨ad, 1, none⟩ = some (.int .i64 0) := (zL ap.out 1).trans rfl; have hcz113_2 : w108.cell? ⟨ad, 2, none⟩ = some (.int .i64 0) := (zL ap.out 2).trans rfl; have hcz113_3 : w108.cell? ⟨ad, 3, none⟩ = some (.int .i64 0) := (zL ap.out 3).trans rfl; have hfz113_0 := zK ap.out 0; have hfz113_1 := zK ap.out 1; have hfz113_2 := zK ap.out 2; have hfz113_3 := zK ap.out 3))
            have n0_ : Aside0 (((((w108.setCell ⟨ad, 0, none⟩ (.int .i64 b6)).setCell ⟨ad, 1, none⟩ (.int .i64 b8)).setCell ⟨ad, 2, none⟩ (.int .i64 bh)).setCell ⟨ad, 3, none⟩ (.int .i64 bi)).heap[ac]? = some (.cells #[.slice A1_0 l1_0.length c1_0, .slice A1_1 l1_1.length c1_1, .slice A1_2 l1_2.length c1_2, .int .i64 a1_3] 27 (0, 0))) := ⟨by (with_reducible repeat (first | apply zE | apply zF | apply zG)); refine zN ?_ b2.out _; (with_reducible repeat (first | apply zE | apply zF | apply zG)); refine zN ?_ b2.out _; (with_reducible repeat (first | apply zE | apply zF | apply zG)); refine zN ?_ b2.out _; (with_reducible repeat (first | apply zE | apply zF | apply zG)); refine zN ?_ b2.out _; (with_reducible repeat (first | apply zE | apply zF | apply zG)); exact a9.out⟩
            have n1_ : Aside0 (((((w108.setCell ⟨ad, 0, none⟩ (.int .i64 b6)).setCell ⟨ad, 1, none⟩ (.int .i64 b8)).setCell ⟨ad, 2, none⟩ (.int .i64 bh)).setCell ⟨ad, 3, none⟩ (.int .i64 bi)).heap[a8]? = some (.cells #[.int .i64 ((rd_T40 l0 a2).f0), .int .i64 ((rd_T40 l0 a2).f1), .int .i64 ((rd_T40 l0 a2).f2), .int .i64 ((rd_T40 l0 a2).f3), .int .u32 ((rd_T40 l0 a2).f4), .int .i64 ((rd_T40 l0 a2).f5), .slice A175_6 ((rd_T40 l0 a2).f6).length c175_6] 40 (0, 0))) := ⟨by (with_reducible repeat (first | apply zE | apply zF | apply zG)); refine zN ?_ b3.out _; (with_reducible repeat (first | apply zE | apply zF | apply zG)); refine zN ?_ b3.out _; (with_reducible repeat (first | apply zE | apply zF | apply zG)); refine zN ?_ b3.out _; (with_reducible repeat (first | apply zE | apply zF | apply zG)); refine zN ?_ b3.out _; (with_reducible repeat (first | apply zE | apply zF | apply zG)); exact a7.out⟩
            have n2_ : Aside0 (((((w108.setCell ⟨ad, 0, none⟩ (.int .i64 b6)).setCell ⟨ad, 1, none⟩ (.int .i64 b8)).setCell ⟨ad, 2, none⟩ (.int .i64 bh)).setCell ⟨ad, 3, none⟩ (.int .i64 bi)).heap[af]? = some (.cells #[.int .i64 ae, .int .i64 ag, .int .i64 ah, .int .i64 ai] 44 (0, 0))) := ⟨by (with_reducible repeat (first | apply zE | apply zF | apply zG)); refine zN ?_ b4.out _; (with_reducible repeat (first | apply zE | apply zF | apply zG)); refine zN ?_ b4.out _; (with_reducible repeat (first | apply zE | apply zF | apply zG)); refine zN ?_ b4.out _; (with_reducible repeat (first | apply zE | apply zF | apply zG)); refine zN ?_ b4.out _; (with_reducible repeat (first | apply zE | apply zF | apply zG)); exact aa.out⟩
            have n3_ : Aside0 (((((w108.setCell ⟨ad, 0, none⟩ (.int .i64 b6)).setCell ⟨ad, 1, none⟩ (.int .i64 b8)).setCell ⟨ad, 2, none⟩ (.int .i64 bh)).setCell ⟨ad, 3, none⟩ (.int .i64 bi)).heap[ao]? = some (.cells #[.int .i64 ((rd_T40 l0 a2).f0), .int .i64 ((rd_T40 l0 a2).f1), .int .i64 ((rd_T40 l0 a2).f2), .int .i64 ((rd_T40 l0 a2).f3)] 44 (0, 0))) := ⟨by (with_reducible repeat (first | apply zE | apply zF | apply zG)); refine zN ?_ b5.out _; (with_reducible repeat (first | apply zE | apply zF | apply zG)); refine zN ?_ b5.out _; (with_reducible repeat (first | apply zE | apply zF | apply zG)); refine zN ?_ b5.out _; (with_reducible repeat (first | apply zE | apply zF | apply zG)); refine zN ?_ b5.out _; (with_reducible repeat (first | apply zE | apply zF | apply zG)); exact ab.out⟩
            have n4_ : Aside0 (((((w108.setCell ⟨ad, 0, none⟩ (.int .i64 b6)).setCell ⟨ad, 1, none⟩ (.int .i64 b8)).setCell ⟨ad, 2, none⟩ (.int .i64 bh)).setCell ⟨ad, 3, none⟩ (.int .i64 bi)).heap[ad]? = some (.cells #[.int .i64 b6, .int .i64 b8, .int .i64 bh, .int .i64 bi] 44 (0, 0))) := ⟨by (with_reducible repeat (first | apply zE | apply zF | apply zG)); refine zM (cs := #[.int .i64 b6, .int .i64 b8, .int .i64 bh, .int .i64 0]) ?_ 3 _ rfl; (with_reducible repeat (first | apply zE | apply zF | apply zG)); refine zM (cs := #[.int .i64 b6, .int .i64 b8, .int .i64 0, .int .i64 0]) ?_ 2 _ rfl; (with_reducible repeat (first | apply zE | apply zF | apply zG)); refine zM (cs := #[.int .i64 b6, .int .i64 0, .int .i64 0, .int .i64 0]) ?_ 1 _ rfl; (with_reducible repeat (first | apply zE | apply zF | apply zG)); refine zM (cs := #[.int .i64 0, .int .i64 0, .int .i64 0, .int .i64 0]) ?_ 0 _ rfl; (with_reducible repeat (first | apply zE | apply zF | apply zG)); exact ap.out⟩
            have n5_ : Aside0 (Below w.heap.size w ((((w108.setCell ⟨ad, 0, none⟩ (.int .i64 b6)).setCell ⟨ad, 1, none⟩ (.int .i64 b8)).setCell ⟨ad, 2, none⟩ (.int .i64 bh)).setCell ⟨ad, 3, none⟩ (.int .i64 bi))) := ⟨by repeat (first | (with_reducible first | exact HB.out | apply zI | apply zH | apply zJ | refine zQ ?_ ak.out | refine zQ ?_ am.out | refine zQ ?_ aq.out | refine zQ ?_ av.out | refine zQ ?_ bz.out) | exact HB.out)⟩
            (try clear a9)
            (try clear a7)
            (try clear aa)
            (try clear ab)
            (try clear ap)
            (try clear HB)
            generalize ((((w108.setCell ⟨ad, 0, none⟩ (.int .i64 b6)).setCell ⟨ad, 1, none⟩ (.int .i64 b8)).setCell ⟨ad, 2, none⟩ (.int .i64 bh)).setCell ⟨ad, 3, none⟩ (.int .i64 bi)) = w114 at n0_ n1_ n2_ n3_ n4_ n5_ ⊢
            have a9 := n0_
            have a7 := n1_
            have aa := n2_
            have ab := n3_
            have ap := n4_
            have HB := n5_
            clear n0_ n1_ n2_ n3_ n4_ n5_
            have n0_ := uZ (zF a9.out)
            have n1_ := uZ (zF a7.out)
            have n2_ := uZ (zF aa.out)
            have n3_ := uZ (zF ab.out)
            have n4_ := uZ (zF ap.out)
            have n5_ := uZ (zJ HB.out)
            clear a9
            clear a7
            clear aa
            clear ab
            clear ap
            clear HB
            have a9 := n0_
            have a7 := n1_
            have aa := n2_
            have ab := n3_
            have ap := n4_
            have HB := n5_
            clear n0_ n1_ n2_ n3_ n4_ n5_
            refine start_ (n := 27) (S := fun w' => w'.cell? ⟨af, 0, none⟩ = some (.int .i64 ae) ∧ w'.cell? ⟨af, 1, none⟩ = some (.int .i64 ag) ∧ w'.cell? ⟨af, 2, none⟩ = some (.int .i64 ah) ∧ w'.cell? ⟨af, 3, none⟩ = some (.int .i64 ai) ∧ w'.cell? ⟨a8, 0, none⟩ = some (.int .i64 ((rd_T40 l0 a2).f0)) ∧ w'.cell? ⟨a8, 1, none⟩ = some (.int .i64 ((rd_T40 l0 a2).f1)) ∧ w'.cell? ⟨a8, 2, none⟩ = some (.int .i64 ((rd_T40 l0 a2).f2)) ∧ w'.cell? ⟨a8, 3, none⟩ = some (.int .i64 ((rd_T40 l0 a2).f3)) ∧ w'.cell? ⟨a8, 4, none⟩ = some (.int .u32 ((rd_T40 l0 a2).f4)) ∧ w'.cell? ⟨a8, 5, none⟩ = some (.int .i64 ((rd_T40 l0 a2).f5)) ∧ w'.cell? ⟨a8, 6, none⟩ = some (.slice A175_6 ((rd_T40 l0 a2).f6).length c175_6) ∧ w'.cell? ⟨ad, 0, none⟩ = some (.int .i64 b6) ∧ w'.cell? ⟨ad, 1, none⟩ = some (.int .i64 b8) ∧ w'.cell? ⟨ad, 2, none⟩ = some (.int .i64 bh) ∧ w'.cell? ⟨ad, 3, none⟩ = some (.int .i64 bi) ∧ w'.cell? ⟨ac, 0, none⟩ = some (.slice A1_0 l1_0.length c1_0) ∧ w'.cell? ⟨ac, 1, none⟩ = some (.slice A1_1 l1_1.length c1_1) ∧ w'.cell? ⟨ac, 2, none⟩ = some (.slice A1_2 l1_2.length c1_2) ∧ w'.cell? ⟨ac, 3, none⟩ = some (.int .i64 a1_3)) (ds := []) #[false, false, false, false, false, false, false, false, false, false, false, false, false, false, false, false, false, false, false, false, false, false, false, false, false, false, false] (by kernel_rfl) rfl rfl ⟨(zL aa.out 0).trans rfl, (zL aa.out 1).trans rfl, (zL aa.out 2).trans rfl, (zL aa.out 3).trans rfl, (zL a7.out 0).trans rfl, (zL a7.out 1).trans rfl, (zL a7.out 2).trans rfl, (zL a7.out 3).trans rfl, (zL a7.out 4).trans rfl, (zL a7.out 5).trans rfl, (zL a7.out 6).trans rfl, (zL ap.out 0).trans rfl, (zL ap.out 1).trans rfl, (zL ap.out 2).trans rfl, (zL ap.out 3).trans rfl, (zL a9.out 0).trans rfl, (zL a9.out 1).trans rfl, (zL a9.out 2).trans rfl, (zL a9.out 3).trans rfl⟩ (fun hHeld => ?_); refine with_tabW lineG.tab19 lineG.bits19 (fun HT_ HW_ => ?_)
            generalize w114.drew = w115 at a9 a7 aa ab ap HB hHeld ⊢
            refine pure_ (i := 1) (N := some 106) (v := ?_) (a' := ?_) #[false, true, false, false, false, false, false, false, false, false, false, false, false, false, false, false, false, false, false, false, false, false, false, false, false, false, false] rfl rfl (zX HT_.out (by kernel_rfl)) (fun _ _ _ h => h) (Or.inl ⟨by rfl, ?_⟩) ?_ ?_
            rotate_left
            ·intro w'
             go_simp
             with_reducible rfl
            rotate_left
            ·simp only [Act.put, zU, zV, zW, i64_w, i32_w]
             rfl
            refine pure_ (i := 4) (N := some 109) (v := ?_) (a' := ?_) #[false, true, false, false, true, false, false, false, false, false, false, false, false, false, false, false, false, false, false, false, false, false, false, false, false, false, false] rfl rfl (zX HT_.out (by kernel_rfl)) (fun _ _ _ h => h) (Or.inl ⟨by rfl, ?_⟩) ?_ ?_
            rotate_left
            ·intro w'
             go_simp
             with_reducible rfl
            rotate_left
            ·simp only [Act.put, zU, zV, zW, i64_w, i32_w]
             rfl
            refine pure_ (i := 6) (N := some 111) (v := ?_) (a' := ?_) #[false, true, false, false, true, false, true, false, false, false, false, false, false, false, false, false, false, false, false, false, false, false, false, false, false, false, false] rfl rfl (zX HT_.out (by kernel_rfl)) (fun _ _ _ h => h) (Or.inl ⟨by rfl, ?_⟩) ?_ ?_
            rotate_left
            ·intro w'
             go_simp
             with_reducible rfl
            rotate_left
            ·simp only [Act.put, zU, zV, zW, i64_w, i32_w]
             rfl
            refine take_ (i := 0) (N := some 105) (v := ?_) (a' := ?_) #[true, true, false, false, true, false, true, false, false, false, false, false, false, false, false, false, false, false, false, false, false, false, false, false, false, false, false] rfl rfl (take_ofW HT_.out HW_.out (by kernel_rfl)) (fun _ _ _ h => h) (Or.inl ⟨by rfl, ?_⟩) hHeld ?_ ?_
            rotate_left
            ·rintro w' ⟨s0, s1, s2, s3, s4, s5, s6, s7, s8, s9, s10, s11, s12, s13, s14, s15, s16, s17, s18⟩
             go_simp
             with_reducible rfl
            rotate_left
            ·simp only [Act.put, zU, zV, zW, i64_w, i32_w]
             rfl
            refine take_ (i := 2) (N := some 107) (v := ?_) (a' := ?_) #[true, true, true, false, true, false, true, false, false, false, false, false, false, false, false, false, false, false, false, false, false, false, false, false, false, false, false] rfl rfl (take_ofW HT_.out HW_.out (by kernel_rfl)) (fun _ _ _ h => h) (Or.inl ⟨by rfl, ?_⟩) hHeld ?_ ?_
            rotate_left
            ·rintro w' ⟨s0, s1, s2, s3, s4, s5, s6, s7, s8, s9, s10, s11, s12, s13, s14, s15, s16, s17, s18⟩
             go_simp
             with_reducible rfl
            rotate_left
            ·simp only [Act.put, zU, zV, zW, i64_w, i32_w]
             rfl
            refine take_ (i := 5) (N := some 110) (v := ?_) (a' := ?_) #[true, true, true, false, true, true, true, false, false, false, false, false, false, false, false, false, false, false, false, false, false, false, false, false, false, false, false] rfl rfl (take_ofW HT_.out HW_.out (by kernel_rfl)) (fun _ _ _ h => h) (Or.inl ⟨by rfl, ?_⟩) hHeld ?_ ?_
            rotate_left
            ·rintro w' ⟨s0, s1, s2, s3, s4, s5, s6, s7, s8, s9, s10, s11, s12, s13, s14, s15, s16, s17, s18⟩
             go_simp
             with_reducible rfl
            rotate_left
            ·simp only [Act.put, zU, zV, zW, i64_w, i32_w]
             rfl
            refine take_ (i := 7) (N := some 112) (v := ?_) (a' := ?_) #[true, true, true, false, true, true, true, true, false, false, false, false, false, false, false, false, false, false, false, false, false, false, false, false, false, false, false] rfl rfl (take_ofW HT_.out HW_.out (by kernel_rfl)) (fun _ _ _ h => h) (Or.inl ⟨by rfl, ?_⟩) hHeld ?_ ?_
            rotate_left
            ·rintro w' ⟨s0, s1, s2, s3, s4, s5, s6, s7, s8, s9, s10, s11, s12, s13, s14, s15, s16, s17, s18⟩
             go_simp
             with_reducible rfl
            rotate_left
            ·simp only [Act.put, zU, zV, zW, i64_w, i32_w]
             rfl
            refine one_ (i := 3) (N := some 108) #[true, true, true, true, true, true, true, true, false, false, false, false, false, false, false, false, false, false, false, false, false, false, false, false, false, false, false] rfl rfl (one_of HT_.out (by kernel_rfl)) (by decide) (fun K hK => ?_)
            refine goes_ Tryd.func54 (by kernel_rfl) rfl #[.int .i64 ((rd_T40 l0 a2).f0)] (by rfl) rfl rfl (by (try simp only [zY, List.map_cons, List.map_nil]); first | done | rfl | (simp only [zZ, yA]; rfl)) ?_
            with_reducible refine (switchbackref17_Other.calls ((rd_T40 l0 a2).f0) bu _ A95.out).mono ?_
            rintro e w' ⟨rfl, ⟨nd, rfl⟩⟩
            refine ⟨_, rfl, ?_⟩
            refine hK.out _ _ ⟨(zL aa.out 0).trans rfl, (zL aa.out 1).trans rfl, (zL aa.out 2).trans rfl, (zL aa.out 3).trans rfl, (zL a7.out 0).trans rfl, (zL a7.out 1).trans rfl, (zL a7.out 2).trans rfl, (zL a7.out 3).trans rfl, (zL a7.out 4).trans rfl, (zL a7.out 5).trans rfl, (zL a7.out 6).trans rfl, (zL ap.out 0).trans rfl, (zL ap.out 1).trans rfl, (zL ap.out 2).trans rfl, (zL ap.out 3).trans rfl, (zL a9.out 0).trans rfl, (zL a9.out 1).trans rfl, (zL a9.out 2).trans rfl, (zL a9.out 3).trans rfl⟩ (fun hHeld => ?_)
            clear hK K
            refine norm_ (a' := ?_) ?_ ?_
            rotate_left
            ·show Act.put _ (some 108) _ = _
             simp only [Act.put, zU, zV, zW, i64_w, i32_w]
             rfl
            refine pure_ (i := 8) (N := some 113) (v := ?_) (a' := ?_) #[true, true, true, true, true, true, true, true, true, false, false, false, false, false, false, false, false, false, false, false, false, false, false, false, false, false, false] rfl rfl (zX HT_.out (by kernel_rfl)) (fun _ _ _ h => h) (Or.inl ⟨by rfl, ?_⟩) ?_ ?_
            rotate_left
            ·intro w'
             go_simp
             with_reducible rfl
            rotate_left
            ·simp only [Act.put, zU, zV, zW, i64_w, i32_w]
             rfl
            refine pure_ (i := 9) (N := some 114) (v := ?_) (a' := ?_) #[true, true, true, true, true, true, true, true, true, true, false, false, false, false, false, false, false, false, false, false, false, false, false, false, false, false, false] rfl rfl (zX HT_.out (by kernel_rfl)) (fun _ _ _ h => h) (Or.inl ⟨by rfl, ?_⟩) ?_ ?_
            rotate_left
            ·intro w'
             go_simp
             with_reducible rfl
            rotate_left
            ·simp only [Act.put, zU, zV, zW, i64_w, i32_w]
             rfl
            refine pure_ (i := 10) (N := some 115) (v := ?_) (a' := ?_) #[true, true, true, true, true, true, true, true, true, true, true, false, false, false, false, false, false, false, false, false, false, false, false, false, false, false, false] rfl rfl (zX HT_.out (by kernel_rfl)) (fun _ _ _ h => h) (Or.inl ⟨by rfl, ?_⟩) ?_ ?_
            rotate_left
            ·intro w'
             go_simp
             with_reducible rfl
            rotate_left
            ·simp only [Act.put, zU, zV, zW, i64_w, i32_w]
             rfl
            refine pure_ (i := 11) (N := some 116) (v := ?_) (a' := ?_) #[true, true, true, true, true, true, true, true, true, true, true, true, false, false, false, false, false, false, false, false, false, false, false, false, false, false, false] rfl rfl (zX HT_.out (by kernel_rfl)) (fun _ _ _ h => h) (Or.inl ⟨by rfl, ?_⟩) ?_ ?_
            rotate_left
            ·intro w'
             go_simp
             with_reducible rfl
            rotate_left
            ·simp only [Act.put, zU, zV, zW, i64_w, i32_w]
             rfl
            refine pure_ (i := 12) (N := some 117) (v := ?_) (a' := ?_) #[true, true, true, true, true, true, true, true, true, true, true, true, true, false, false, false, false, false, false, false, false, false, false, false, false, false, false] rfl rfl (zX HT_.out (by kernel_rfl)) (fun _ _ _ h => h) (Or.inl ⟨by rfl, ?_⟩) ?_ ?_
            rotate_left
            ·intro w'
             go_simp
             with_reducible rfl
            rotate_left
            ·simp only [Act.put, zU, zV, zW, i64_w, i32_w]
             rfl
            refine pure_ (i := 13) (N := some 118) (v := ?_) (a' := ?_) #[true, true, true, true, true, true, true, true, true, true, true, true, true, true, false, false, false, false, false, false, false, false, false, false, false, false, false] rfl rfl (zX HT_.out (by kernel_rfl)) (fun _ _ _ h => h) (Or.inl ⟨by rfl, ?_⟩) ?_ ?_
            rotate_left
            ·intro w'
             go_simp
             with_reducible rfl
            rotate_left
            ·simp only [Act.put, zU, zV, zW, i64_w, i32_w]
             rfl
            refine pure_ (i := 15) (N := some 120) (v := ?_) (a' := ?_) #[true, true, true, true, true, true, true, true, true, true, true, true, true, true, false, true, false, false, false, false, false, false, false, false, false, false, false] rfl rfl (zX HT_.out (by kernel_rfl)) (fun _ _ _ h => h) (Or.inl ⟨by rfl, ?_⟩) ?_ ?_
            rotate_left
            ·intro w'
             go_simp
             with_reducible rfl
            rotate_left
            ·simp only [Act.put, zU, zV, zW, i64_w, i32_w]
             rfl
            refine take_ (i := 14) (N := some 119) (v := ?_) (a' := ?_) #[true, true, true, true, true, true, true, true, true, true, true, true, true, true, true, true, false, false, false, false, false, false, false, false, false, false, false] rfl rfl (take_ofW HT_.out HW_.out (by kernel_rfl)) (fun _ _ _ h => h) (Or.inl ⟨by rfl, ?_⟩) hHeld ?_ ?_
            rotate_left
            ·rintro w' ⟨s0, s1, s2, s3, s4, s5, s6, s7, s8, s9, s10, s11, s12, s13, s14, s15, s16, s17, s18⟩
             go_simp
             with_reducible rfl
            rotate_left
            ·simp only [Act.put, zU, zV, zW, i64_w, i32_w]
             rfl
            refine pure_ (i := 16) (N := some 121) (v := ?_) (a' := ?_) #[true, true, true, true, true, true, true, true, true, true, true, true, true, true, true, true, true, false, false, false, false, false, false, false, false, false, false] rfl rfl (zX HT_.out (by kernel_rfl)) (fun _ _ _ h => h) (Or.inl ⟨by rfl, ?_⟩) ?_ ?_
            rotate_left
            ·intro w'
             go_simp
             with_reducible rfl
            rotate_left
            ·simp only [Act.put, zU, zV, zW, i64_w, i32_w]
             rfl
            refine pure_ (i := 17) (N := some 122) (v := ?_) (a' := ?_) #[true, true, true, true, true, true, true, true, true, true, true, true, true, true, true, true, true, true, false, false, false, false, false, false, false, false, false] rfl rfl (zX HT_.out (by kernel_rfl)) (fun _ _ _ h => h) (Or.inl ⟨by rfl, ?_⟩) ?_ ?_
            rotate_left
            ·intro w'
             go_simp
             with_reducible rfl
            rotate_left
            ·simp only [Act.put, zU, zV, zW, i64_w, i32_w]
             rfl
            refine pure_ (i := 18) (N := some 123) (v := ?_) (a' := ?_) #[true, true, true, true, true, true, true, true, true, true, true, true, true, true, true, true, true, true, true, false, false, false, false, false, false, false, false] rfl rfl (zX HT_.out (by kernel_rfl)) (fun _ _ _ h => h) (Or.inl ⟨by rfl, ?_⟩) ?_ ?_
            rotate_left
            ·intro w'
             go_simp
             with_reducible rfl
            rotate_left
            ·simp only [Act.put, zU, zV, zW, i64_w, i32_w]
             rfl
            refine pure_ (i := 20) (N := some 125) (v := ?_) (a' := ?_) #[true, true, true, true, true, true, true, true, true, true, true, true, true, true, true, true, true, true, true, false, true, false, false, false, false, false, false] rfl rfl (zX HT_.out (by kernel_rfl)) (fun _ _ _ h => h) (Or.inl ⟨by rfl, ?_⟩) ?_ ?_
            rotate_left
            ·intro w'
             go_simp
             with_reducible rfl
            rotate_left
            ·simp only [Act.put, zU, zV, zW, i64_w, i32_w]
             rfl
            refine pure_ (i := 21) (N := some 126) (v := ?_) (a' := ?_) #[true, true, true, true, true, true, true, true, true, true, true, true, true, true, true, true, true, true, true, false, true, true, false, false, false, false, false] rfl rfl (zX HT_.out (by kernel_rfl)) (fun _ _ _ h => h) (Or.inl ⟨by rfl, ?_⟩) ?_ ?_
            rotate_left
            ·intro w'
             go_simp
             with_reducible rfl
            rotate_left
            ·simp only [Act.put, zU, zV, zW, i64_w, i32_w]
             rfl
            refine pure_ (i := 22) (N := some 127) (v := ?_) (a' := ?_) #[true, true, true, true, true, true, true, true, true, true, true, true, true, true, true, true, true, true, true, false, true, true, true, false, false, false, false] rfl rfl (zX HT_.out (by kernel_rfl)) (fun _ _ _ h => h) (Or.inl ⟨by rfl, ?_⟩) ?_ ?_
            rotate_left
            ·intro w'
             go_simp
             with_reducible rfl
            rotate_left
            ·simp only [Act.put, zU, zV, zW, i64_w, i32_w]
             rfl
            refine take_ (i := 19) (N := some 124) (v := ?_) (a' := ?_) #[true, true, true, true, true, true, true, true, true, true, true, true, true, true, true, true, true, true, true, true, true, true, true, false, false, false, false] rfl rfl (take_ofW HT_.out HW_.out (by kernel_rfl)) (fun _ _ _ h => h) (Or.inl ⟨by rfl, ?_⟩) hHeld ?_ ?_
            rotate_left
            ·rintro w' ⟨s0, s1, s2, s3, s4, s5, s6, s7, s8, s9, s10, s11, s12, s13, s14, s15, s16, s17, s18⟩
             go_simp
             with_reducible rfl
            rotate_left
            ·simp only [Act.put, zU, zV, zW, i64_w, i32_w]
             rfl
            refine one_ (i := 23) (N := some 128) #[true, true, true, true, true, true, true, true, true, true, true, true, true, true, true, true, true, true, true, true, true, true, true, true, false, false, false] rfl rfl (one_of HT_.out (by kernel_rfl)) (by decide) (fun K hK => ?_)
            refine goes_ Tryd.func53 (by kernel_rfl) rfl #[.agg #[.slice A1_0 l1_0.length c1_0, .slice A1_1 l1_1.length c1_1, .slice A1_2 l1_2.length c1_2, .int .i64 a1_3], .int .i64 (wrap64 (a3 + 2)), .int .i64 2, .int .i64 aw] (by rfl) rfl rfl (by (try simp only [zY, List.map_cons, List.map_nil]); first | done | rfl | (simp only [zZ, yA]; rfl)) ?_
            with_reducible refine (switchbacklaw17_data.calls _ _ l1_0 _ _ l1_1 _ _ l1_2 a1_3 (wrap64 (a3 + 2)) 2 aw t196 _ ?side1 ?side2 ?side3 ?side4 ?side5 ?side6 A99.out).mono ?_
            (case side1 => repeat (first | exact (zD bn.out (by repeat (first | (with_reducible first | exact HB.out | apply zI | apply zH | apply zJ | refine zQ ?_ ak.out | refine zQ ?_ am.out | refine zQ ?_ aq.out | refine zQ ?_ av.out | refine zQ ?_ bz.out) | exact HB.out))) | (with_reducible refine zA ?_ _) | (with_reducible refine zB ?_ _) | (with_reducible refine zC ?_)))
            (case side2 => exact bp.out)
            (case side3 => repeat (first | exact (zD bo.out (by repeat (first | (with_reducible first | exact HB.out | apply zI | apply zH | apply zJ | refine zQ ?_ ak.out | refine zQ ?_ am.out | refine zQ ?_ aq.out | refine zQ ?_ av.out | refine zQ ?_ bz.out) | exact HB.out))) | (with_reducible refine zA ?_ _) | (with_reducible refine zB ?_ _) | (with_reducible refine zC ?_)))
            (case side4 => exact bq.out)
            (case side5 => repeat (first | exact (zD br.out (by repeat (first | (with_reducible first | exact HB.out | apply zI | apply zH | apply zJ | refine zQ ?_ ak.out | refine zQ ?_ am.out | refine zQ ?_ aq.out | refine zQ ?_ av.out | refine zQ ?_ bz.out) | exact HB.out))) | (with_reducible refine zA ?_ _) | (with_reducible refine zB ?_ _) | (with_reducible refine zC ?_)))
            (case side6 => exact bs.out)
            rintro e w116 ⟨rfl, hb⟩
            refine ⟨_, rfl, ?_⟩
            have n0_ := uZ (zO (g := ac) (o := .cells #[.slice A1_0 l1_0.length c1_0, .slice A1_1 l1_1.length c1_1, .slice A1_2 l1_2.length c1_2, .int .i64 a1_3] 27 (0, 0)) (uK a9.out) hb)
            have n1_ := uZ (zO (g := a8) (o := .cells #[.int .i64 ((rd_T40 l0 a2).f0), .int .i64 ((rd_T40 l0 a2).f1), .int .i64 ((rd_T40 l0 a2).f2), .int .i64 ((rd_T40 l0 a2).f3), .int .u32 ((rd_T40 l0 a2).f4), .int .i64 ((rd_T40 l0 a2).f5), .slice A175_6 ((rd_T40 l0 a2).f6).length c175_6] 40 (0, 0)) (uK a7.out) hb)
            have n2_ := uZ (zO (g := af) (o := .cells #[.int .i64 ae, .int .i64 ag, .int .i64 ah, .int .i64 ai] 44 (0, 0)) (uK aa.out) hb)
            have n3_ := uZ (zO (g := ao) (o := .cells #[.int .i64 ((rd_T40 l0 a2).f0), .int .i64 ((rd_T40 l0 a2).f1), .int .i64 ((rd_T40 l0 a2).f2), .int .i64 ((rd_T40 l0 a2).f3)] 44 (0, 0)) (uK ab.out) hb)
            have n4_ := uZ (zO (g := ad) (o := .cells #[.int .i64 b6, .int .i64 b8, .int .i64 bh, .int .i64 bi] 44 (0, 0)) (uK ap.out) hb)
            have n5_ := uZ (zS (by repeat (first | (with_reducible first | exact HB.out | apply zI | apply zH | apply zJ | refine zQ ?_ ak.out | refine zQ ?_ am.out | refine zQ ?_ aq.out | refine zQ ?_ av.out | refine zQ ?_ bz.out) | exact HB.out)) hb)
            clear a9
            clear a7
            clear aa
            clear ab
            clear ap
            clear HB
            have a9 := n0_
            have a7 := n1_
            have aa := n2_
            have ab := n3_
            have ap := n4_
            have HB := n5_
            clear n0_ n1_ n2_ n3_ n4_ n5_
            (try clear hb)
            (try clear hb2)
            (try clear hk)
            (try clear hi)
            refine hK.out _ _ ⟨(zL aa.out 0).trans rfl, (zL aa.out 1).trans rfl, (zL aa.out 2).trans rfl, (zL aa.out 3).trans rfl, (zL a7.out 0).trans rfl, (zL a7.out 1).trans rfl, (zL a7.out 2).trans rfl, (zL a7.out 3).trans rfl, (zL a7.out 4).trans rfl, (zL a7.out 5).trans rfl, (zL a7.out 6).trans rfl, (zL ap.out 0).trans rfl, (zL ap.out 1).trans rfl, (zL ap.out 2).trans rfl, (zL ap.out 3).trans rfl, (zL a9.out 0).trans rfl, (zL a9.out 1).trans rfl, (zL a9.out 2).trans rfl, (zL a9.out 3).trans rfl⟩ (fun hHeld => ?_)
            clear hK K
            refine norm_ (a' := ?_) ?_ ?_
            rotate_left
            ·show Act.put _ (some 128) _ = _
             simp only [Act.put, zU, zV, zW, i64_w, i32_w]
             rfl
            refine pure_ (i := 24) (N := some 129) (v := ?_) (a' := ?_) #[true, true, true, true, true, true, true, true, true, true, true, true, true, true, true, true, true, true, true, true, true, true, true, true, true, false, false] rfl rfl (zX HT_.out (by kernel_rfl)) (fun _ _ _ h => h) (Or.inl ⟨by rfl, ?_⟩) ?_ ?_
            rotate_left
            ·intro w'
             go_simp
             with_reducible rfl
            rotate_left
            ·simp only [Act.put, zU, zV, zW, i64_w, i32_w]
             rfl
            refine pure_ (i := 25) (N := some 8) (v := ?_) (a' := ?_) #[true, true, true, true, true, true, true, true, true, true, true, true, true, true, true, true, true, true, true, true, true, true, true, true, true, true, false] rfl rfl (zX HT_.out (by kernel_rfl)) (fun _ _ _ h => h) (Or.inl ⟨by rfl, ?_⟩) ?_ ?_
            rotate_left
            ·intro w'
             go_simp
             with_reducible rfl
            rotate_left
            ·simp only [Act.put, zU, zV, zW, i64_w, i32_w]
             rfl
            refine pure_ (i := 26) (N := some 9) (v := ?_) (a' := ?_) #[true, true, true, true, true, true, true, true, true, true, true, true, true, true, true, true, true, true, true, true, true, true, true, true, true, true, true] rfl rfl (zX HT_.out (by kernel_rfl)) (fun _ _ _ h => h) (Or.inl ⟨by rfl, ?_⟩) ?_ ?_
            rotate_left
            ·intro w'
             go_simp
             with_reducible rfl
            rotate_left
            ·simp only [Act.put, zU, zV, zW, i64_w, i32_w]
             rfl
            refine done_ (done_of HT_.out (by kernel_rfl)) ?_
            try go_wp2
            go_ret2
            exact ⟨by first | rfl | (simp [errW_none, errW_some] <;> rfl) | (simp [*, errW_none, errW_some] <;> rfl), by repeat (first | (with_reducible first | exact HB.out | apply zI | apply zH | apply zJ | refine zQ ?_ ak.out | refine zQ ?_ am.out | refine zQ ?_ aq.out | refine zQ ?_ av.out | refine zQ ?_ bz.out) | exact HB.out)⟩
           rw [if_neg c98] at H
           have c98b0 : (b6 == 41 && (b8 == 0 && (bh == 0 && (bi == 0)))) = false := by simpa using c98
           (try (have c98b1 : decide (b6 = 41 && (b8 == 0 && (bh == 0 && (bi == 0)))) = false := by simpa using c98))
           (try (have c98b2 : (b6 == 41 && (b8 == 0 && (bh == 0 && (bi == 0)))) = false := by simpa using c98))
           (try (have c98b3 : ¬ (b6 = 41 && (b8 == 0 && (bh == 0 && (bi == 0)))) := by simpa using c98))
           clear c98
           simp only [Option.some.injEq, Prod.mk.injEq] at H
           obtain ⟨rfl, rfl⟩ := H
           exact absurd hT_.out (by decide)
          replace c97 := Bool.eq_false_iff.mpr c97
          subst c97
          have H1 : (some (3, false)) = some (r1, r2) := by rw [if_neg (show ¬ (false = true) by decide)] at H; exact H
          clear H
          have H := H1
          clear H1
          simp only [Option.some.injEq, Prod.mk.injEq] at H
          obtain ⟨rfl, rfl⟩ := H
          have hnb133 := ar.out
          have hnc133 := aj.out
          have hnb134 := al.out
          have hnc134 := ax.out
          have hnb135 := au.out
          have hnc135 := ay.out
          have hcz136_0 : wc.cell? ⟨a8, 0, none⟩ = some (.int .i64 ((rd_T40 l0 a2).f0)) := (zL a7.out 0).trans rfl
          have hcz136_1 : wc.cell? ⟨a8, 1, none⟩ = some (.int .i64 ((rd_T40 l0 a2).f1)) := (zL a7.out 1).trans rfl
          have hcz136_2 : wc.cell? ⟨a8, 2, none⟩ = some (.int .i64 ((rd_T40 l0 a2).f2)) := (zL a7.out 2).trans rfl
          have hcz136_3 : wc.cell? ⟨a8, 3, none⟩ = some (.int .i64 ((rd_T40 l0 a2).f3)) := (zL a7.out 3).trans rfl
          have hcz136_4 : wc.cell? ⟨a8, 4, none⟩ = some (.int .u32 ((rd_T40 l0 a2).f4)) := (zL a7.out 4).trans rfl
          have hcz136_5 : wc.cell? ⟨a8, 5, none⟩ = some (.int .i64 ((rd_T40 l0 a2).f5)) := (zL a7.out 5).trans rfl
          have hcz136_6 : wc.cell? ⟨a8, 6, none⟩ = some (.slice A175_6 ((rd_T40 l0 a2).f6).length c175_6) := (zL a7.out 6).trans rfl
          have hfz136_0 := zK a7.out 0
          have hfz136_1 := zK a7.out 1
          have hfz136_2 := zK a7.out 2
          have hfz136_3 := zK a7.out 3
          have hfz136_4 := zK a7.out 4
          have hfz136_5 := zK a7.out 5
          have hfz136_6 := zK a7.out 6
          have hnb137 := an.out
          have hnc137 := a_.out
          have hnb138 := b0.out
          have hnc138 := bk.out
          have hcz139_0 : wc.cell? ⟨ac, 0, none⟩ = some (.slice A1_0 l1_0.length c1_0) := (zL a9.out 0).trans rfl
          have hcz139_1 : wc.cell? ⟨ac, 1, none⟩ = some (.slice A1_1 l1_1.length c1_1) := (zL a9.out 1).trans rfl
          have hcz139_2 : wc.cell? ⟨ac, 2, none⟩ = some (.slice A1_2 l1_2.length c1_2) := (zL a9.out 2).trans rfl
          have hcz139_3 : wc.cell? ⟨ac, 3, none⟩ = some (.int .i64 a1_3) := (zL a9.out 3).trans rfl
          have hfz139_0 := zK a9.out 0
          have hfz139_1 := zK a9.out 1
          have hfz139_2 := zK a9.out 2
          have hfz139_3 := zK a9.out 3
          try go_wp2_with (first | ((with_reducible refine gate_callee (f := 33) rfl ?_); refine goesL_ (some 102) rfl rfl Tryd.func33 (by kernel_rfl) rfl #[.agg #[.slice A1_0 l1_0.length c1_0, .slice A1_1 l1_1.length c1_1, .slice A1_2 l1_2.length c1_2, .int .i64 a1_3], .int .i64 (wrap64 (a3 + 1))] rfl (by (try simp only [zY, List.map_cons, List.map_nil]); first | done | rfl | (simp only [zZ, yA]; rfl)) ?_; (with_reducible refine (switchbacklaw17_code.calls kj46 _ _ l1_0 _ _ l1_1 _ _ l1_2 a1_3 (wrap64 (a3 + 1)) b6 b8 bh bi false _ ?side1 ?side2 ?side3 ?side4 ?side5 ?side6 (uZ (hLaid_.out.below (by repeat (first | (with_reducible first | exact HB.out | apply zI | apply zH | apply zJ) | refine zQ ?_ (Aside0.out (by assumption)) | exact HB.out)))) A94.out).mono ?_); (case side1 => repeat (first | exact (zD bn.out HB.out) | (with_reducible refine zA ?_ _) | (with_reducible refine zB ?_ _) | (with_reducible refine zC ?_))); (case side2 => exact bp.out); (case side3 => repeat (first | exact (zD bo.out HB.out) | (with_reducible refine zA ?_ _) | (with_reducible refine zB ?_ _) | (with_reducible refine zC ?_))); (case side4 => exact bq.out); (case side5 => repeat (first | exact (zD br.out HB.out) | (with_reducible refine zA ?_ _) | (with_reducible refine zB ?_ _) | (with_reducible refine zC ?_))); (case side6 => exact bs.out); rintro e w140 ⟨rfl, hb⟩; refine ⟨_, rfl, ?_⟩; have n0_ := uZ (zO (g := ac) (o := .cells #[.slice A1_0 l1_0.length c1_0, .slice A1_1 l1_1.length c1_1, .slice A1_2 l1_2.length c1_2, .int .i64 a1_3] 27 (0, 0)) (uK a9.out) hb); have n1_ := uZ (zO (g := a8) (o := .cells #[.int .i64 ((rd_T40 l0 a2).f0), .int .i64 ((rd_T40 l0 a2).f1), .int .i64 ((rd_T40 l0 a2).f2), .int .i64 ((rd_T40 l0 a2).f3), .int .u32 ((rd_T40 l0 a2).f4), .int .i64 ((rd_T40 l0 a2).f5), .slice A175_6 ((rd_T40 l0 a2).f6).length c175_6] 40 (0, 0)) (uK a7.out) hb); have n2_ := uZ (zO (g := af) (o := .cells #[.int .i64 ae, .int .i64 ag, .int .i64 ah, .int .i64 ai] 44 (0, 0)) (uK aa.out) hb); have n3_ := uZ (zO (g := ao) (o := .cells #[.int .i64 ((rd_T40 l0 a2).f0), .int .i64 ((rd_T40 l0 a2).f1), .int .i64 ((rd_T40 l0 a2).f2), .int .i64 ((rd_T40 l0 a2).f3)] 44 (0, 0)) (uK ab.out) hb); have n4_ := uZ (zS (by repeat (first | (with_reducible first | exact HB.out | apply zI | apply zH | apply zJ | refine zQ ?_ ak.out | refine zQ ?_ am.out | refine zQ ?_ aq.out | refine zQ ?_ av.out) | exact HB.out)) hb); clear a9; clear a7; clear aa; clear ab; clear HB; have a9 := n0_; have a7 := n1_; have aa := n2_; have ab := n3_; have HB := n4_; clear n0_ n1_ n2_ n3_ n4_; (try clear hb); (try clear hb2); (try clear hk); (try clear hi)) | ((with_reducible refine gate_dst (N := 17) rfl ?_); (try (refine gate_guard (by rfl) ?_; dsimp only)); refine box_event ?hg (N := 17) ?hd (cs := #[.int .i64 0, .int .i64 0, .int .i64 0, .int .i64 0]) (t := 44) ?hr ?_; (case hd => rfl); (case hg => rfl); (case hr => first | (go_simp; done) | (go_simp; rfl)); intro ad hg w141 hbox hb; have n0_ := uZ (zO (g := ac) (o := .cells #[.slice A1_0 l1_0.length c1_0, .slice A1_1 l1_1.length c1_1, .slice A1_2 l1_2.length c1_2, .int .i64 a1_3] 27 (0, 0)) (uK a9.out) hb); have n1_ := uZ (zO (g := a8) (o := .cells #[.int .i64 ((rd_T40 l0 a2).f0), .int .i64 ((rd_T40 l0 a2).f1), .int .i64 ((rd_T40 l0 a2).f2), .int .i64 ((rd_T40 l0 a2).f3), .int .u32 ((rd_T40 l0 a2).f4), .int .i64 ((rd_T40 l0 a2).f5), .slice A175_6 ((rd_T40 l0 a2).f6).length c175_6] 40 (0, 0)) (uK a7.out) hb); have n2_ := uZ (zO (g := af) (o := .cells #[.int .i64 ae, .int .i64 ag, .int .i64 ah, .int .i64 ai] 44 (0, 0)) (uK aa.out) hb); have n3_ := uZ (zO (g := ao) (o := .cells #[.int .i64 ((rd_T40 l0 a2).f0), .int .i64 ((rd_T40 l0 a2).f1), .int .i64 ((rd_T40 l0 a2).f2), .int .i64 ((rd_T40 l0 a2).f3)] 44 (0, 0)) (uK ab.out) hb); have n4_ := uZ (zS (by repeat (first | (with_reducible first | exact HB.out | apply zI | apply zH | apply zJ | refine zQ ?_ ak.out | refine zQ ?_ am.out | refine zQ ?_ aq.out | refine zQ ?_ av.out) | exact HB.out)) hb); have n5_ := uZ (hbox); have n6_ := uZ ((by rw [hg]; exact (zR (by repeat (first | (with_reducible first | exact HB.out | apply zI | apply zH | apply zJ | refine zQ ?_ ak.out | refine zQ ?_ am.out | refine zQ ?_ aq.out | refine zQ ?_ av.out) | exact HB.out))) : w.heap.size ≤ ad)); have n7_ := uZ ((by rw [hg]; exact (zR (by repeat (first | (with_reducible first | exact HB.out | apply zI | apply zH | apply zJ | refine zQ ?_ ak.out | refine zQ ?_ am.out | refine zQ ?_ aq.out | refine zQ ?_ av.out) | exact HB.out))) : w.heap.size ≤ ad)); have n8_ := uZ ((by rw [hg]; exact Nat.ne_of_lt (zP (g := ac) (o := .cells #[.slice A1_0 l1_0.length c1_0, .slice A1_1 l1_1.length c1_1, .slice A1_2 l1_2.length c1_2, .int .i64 a1_3] 27 (0, 0)) (uK a9.out)) : ac ≠ ad)); have n9_ := uZ ((by rw [hg]; exact Nat.ne_of_gt (zP (g := ac) (o := .cells #[.slice A1_0 l1_0.length c1_0, .slice A1_1 l1_1.length c1_1, .slice A1_2 l1_2.length c1_2, .int .i64 a1_3] 27 (0, 0)) (uK a9.out)) : ad ≠ ac)); have n10_ := uZ ((by rw [hg]; exact Nat.ne_of_lt (zP (g := a8) (o := .cells #[.int .i64 ((rd_T40 l0 a2).f0), .int .i64 ((rd_T40 l0 a2).f1), .int .i64 ((rd_T40 l0 a2).f2), .int .i64 ((rd_T40 l0 a2).f3), .int .u32 ((rd_T40 l0 a2).f4), .int .i64 ((rd_T40 l0 a2).f5), .slice A175_6 ((rd_T40 l0 a2).f6).length c175_6] 40 (0, 0)) (uK a7.out)) : a8 ≠ ad)); have n11_ := uZ ((by rw [hg]; exact Nat.ne_of_gt (zP (g := a8) (o := .cells #[.int .i64 ((rd_T40 l0 a2).f0), .int .i64 ((rd_T40 l0 a2).f1), .int .i64 ((rd_T40 l0 a2).f2), .int .i64 ((rd_T40 l0 a2).f3), .int .u32 ((rd_T40 l0 a2).f4), .int .i64 ((rd_T40 l0 a2).f5), .slice A175_6 ((rd_T40 l0 a2).f6).length c175_6] 40 (0, 0)) (uK a7.out)) : ad ≠ a8)); have n12_ := uZ ((by rw [hg]; exact Nat.ne_of_lt (zP (g := af) (o := .cells #[.int .i64 ae, .int .i64 ag, .int .i64 ah, .int .i64 ai] 44 (0, 0)) (uK aa.out)) : af ≠ ad)); have n13_ := uZ ((by rw [hg]; exact Nat.ne_of_gt (zP (g := af) (o := .cells #[.int .i64 ae, .int .i64 ag, .int .i64 ah, .int .i64 ai] 44 (0, 0)) (uK aa.out)) : ad ≠ af)); have n14_ := uZ ((by rw [hg]; exact Nat.ne_of_lt (zP (g := ao) (o := .cells #[.int .i64 ((rd_T40 l0 a2).f0), .int .i64 ((rd_T40 l0 a2).f1), .int .i64 ((rd_T40 l0 a2).f2), .int .i64 ((rd_T40 l0 a2).f3)] 44 (0, 0)) (uK ab.out)) : ao ≠ ad)); have n15_ := uZ ((by rw [hg]; exact Nat.ne_of_gt (zP (g := ao) (o := .cells #[.int .i64 ((rd_T40 l0 a2).f0), .int .i64 ((rd_T40 l0 a2).f1), .int .i64 ((rd_T40 l0 a2).f2), .int .i64 ((rd_T40 l0 a2).f3)] 44 (0, 0)) (uK ab.out)) : ad ≠ ao)); clear a9; clear a7; clear aa; clear ab; clear HB; have a9 := n0_; have a7 := n1_; have aa := n2_; have ab := n3_; have HB := n4_; have ap := n5_; have GW194 := n6_; have bz := n7_; have b2 := n8_; have NB194_174 := n9_; have b3 := n10_; have NB194_176 := n11_; have b4 := n12_; have NB194_182 := n13_; have b5 := n14_; have NB194_183 := n15_; clear n0_ n1_ n2_ n3_ n4_ n5_ n6_ n7_ n8_ n9_ n10_ n11_ n12_ n13_ n14_ n15_; clear hb hbox hg; have hnb142 := NB194_174.out; have hnc142 := b2.out; have hnb143 := NB194_176.out; have hnc143 := b3.out; have hnb144 := NB194_182.out; have hnc144 := b4.out; have hnb145 := NB194_183.out; have hnc145 := b5.out; have hcz146_0 : w141.cell? ⟨ad, 0, none⟩ = some (.int .i64 0) := (zL ap.out 0).trans rfl; have hcz146_1 : w141.cell? ⟨ad, 1, none⟩ = some (.int .i64 0) := (zL ap.out 1).trans rfl; have hcz146_2 : w141.cell? ⟨ad, 2, none⟩ = some (.int .i64 0) := (zL ap.out 2).trans rfl; have hcz146_3 : w141.cell? ⟨ad, 3, none⟩ = some (.int .i64 0) := (zL ap.out 3).trans rfl; have hfz146_0 := zK ap.out 0; have hfz146_1 := zK ap.out 1; have hfz146_2 := zK ap.out 2; have hfz146_3 := zK ap.out 3))
          have n0_ : Aside0 (((((w141.setCell ⟨ad, 0, none⟩ (.int .i64 b6)).setCell ⟨ad, 1, none⟩ (.int .i64 b8)).setCell ⟨ad, 2, none⟩ (.int .i64 bh)).setCell ⟨ad, 3, none⟩ (.int .i64 bi)).heap[ac]? = some (.cells #[.slice A1_0 l1_0.length c1_0, .slice A1_1 l1_1.length c1_1, .slice A1_2 l1_2.length c1_2, .int .i64 a1_3] 27 (0, 0))) := ⟨by (with_reducible repeat (first | apply zE | apply zF | apply zG)); refine zN ?_ b2.out _; (with_reducible repeat (first | apply zE | apply zF | apply zG)); refine zN ?_ b2.out _; (with_reducible repeat (first | apply zE | apply zF | apply zG)); refine zN ?_ b2.out _; (with_reducible repeat (first | apply zE | apply zF | apply zG)); refine zN ?_ b2.out _; (with_reducible repeat (first | apply zE | apply zF | apply zG)); exact a9.out⟩
          have n1_ : Aside0 (((((w141.setCell ⟨ad, 0, none⟩ (.int .i64 b6)).setCell ⟨ad, 1, none⟩ (.int .i64 b8)).setCell ⟨ad, 2, none⟩ (.int .i64 bh)).setCell ⟨ad, 3, none⟩ (.int .i64 bi)).heap[a8]? = some (.cells #[.int .i64 ((rd_T40 l0 a2).f0), .int .i64 ((rd_T40 l0 a2).f1), .int .i64 ((rd_T40 l0 a2).f2), .int .i64 ((rd_T40 l0 a2).f3), .int .u32 ((rd_T40 l0 a2).f4), .int .i64 ((rd_T40 l0 a2).f5), .slice A175_6 ((rd_T40 l0 a2).f6).length c175_6] 40 (0, 0))) := ⟨by (with_reducible repeat (first | apply zE | apply zF | apply zG)); refine zN ?_ b3.out _; (with_reducible repeat (first | apply zE | apply zF | apply zG)); refine zN ?_ b3.out _; (with_reducible repeat (first | apply zE | apply zF | apply zG)); refine zN ?_ b3.out _; (with_reducible repeat (first | apply zE | apply zF | apply zG)); refine zN ?_ b3.out _; (with_reducible repeat (first | apply zE | apply zF | apply zG)); exact a7.out⟩
          have n2_ : Aside0 (((((w141.setCell ⟨ad, 0, none⟩ (.int .i64 b6)).setCell ⟨ad, 1, none⟩ (.int .i64 b8)).setCell ⟨ad, 2, none⟩ (.int .i64 bh)).setCell ⟨ad, 3, none⟩ (.int .i64 bi)).heap[af]? = some (.cells #[.int .i64 ae, .int .i64 ag, .int .i64 ah, .int .i64 ai] 44 (0, 0))) := ⟨by (with_reducible repeat (first | apply zE | apply zF | apply zG)); refine zN ?_ b4.out _; (with_reducible repeat (first | apply zE | apply zF | apply zG)); refine zN ?_ b4.out _; (with_reducible repeat (first | apply zE | apply zF | apply zG)); refine zN ?_ b4.out _; (with_reducible repeat (first | apply zE | apply zF | apply zG)); refine zN ?_ b4.out _; (with_reducible repeat (first | apply zE | apply zF | apply zG)); exact aa.out⟩
          have n3_ : Aside0 (((((w141.setCell ⟨ad, 0, none⟩ (.int .i64 b6)).setCell ⟨ad, 1, none⟩ (.int .i64 b8)).setCell ⟨ad, 2, none⟩ (.int .i64 bh)).setCell ⟨ad, 3, none⟩ (.int .i64 bi)).heap[ao]? = some (.cells #[.int .i64 ((rd_T40 l0 a2).f0), .int .i64 ((rd_T40 l0 a2).f1), .int .i64 ((rd_T40 l0 a2).f2), .int .i64 ((rd_T40 l0 a2).f3)] 44 (0, 0))) := ⟨by (with_reducible repeat (first | apply zE | apply zF | apply zG)); refine zN ?_ b5.out _; (with_reducible repeat (first | apply zE | apply zF | apply zG)); refine zN ?_ b5.out _; (with_reducible repeat (first | apply zE | apply zF | apply zG)); refine zN ?_ b5.out _; (with_reducible repeat (first | apply zE | apply zF | apply zG)); refine zN ?_ b5.out _; (with_reducible repeat (first | apply zE | apply zF | apply zG)); exact ab.out⟩
          have n4_ : Aside0 (((((w141.setCell ⟨ad, 0, none⟩ (.int .i64 b6)).setCell ⟨ad, 1, none⟩ (.int .i64 b8)).setCell ⟨ad, 2, none⟩ (.int .i64 bh)).setCell ⟨ad, 3, none⟩ (.int .i64 bi)).heap[ad]? = some (.cells #[.int .i64 b6, .int .i64 b8, .int .i64 bh, .int .i64 bi] 44 (0, 0))) := ⟨by (with_reducible repeat (first | apply zE | apply zF | apply zG)); refine zM (cs := #[.int .i64 b6, .int .i64 b8, .int .i64 bh, .int .i64 0]) ?_ 3 _ rfl; (with_reducible repeat (first | apply zE | apply zF | apply zG)); refine zM (cs := #[.int .i64 b6, .int .i64 b8, .int .i64 0, .int .i64 0]) ?_ 2 _ rfl; (with_reducible repeat (first | apply zE | apply zF | apply zG)); refine zM (cs := #[.int .i64 b6, .int .i64 0, .int .i64 0, .int .i64 0]) ?_ 1 _ rfl; (with_reducible repeat (first | apply zE | apply zF | apply zG)); refine zM (cs := #[.int .i64 0, .int .i64 0, .int .i64 0, .int .i64 0]) ?_ 0 _ rfl; (with_reducible repeat (first | apply zE | apply zF | apply zG)); exact ap.out⟩
          have n5_ : Aside0 (Below w.heap.size w ((((w141.setCell ⟨ad, 0, none⟩ (.int .i64 b6)).setCell ⟨ad, 1, none⟩ (.int .i64 b8)).setCell ⟨ad, 2, none⟩ (.int .i64 bh)).setCell ⟨ad, 3, none⟩ (.int .i64 bi))) := ⟨by repeat (first | (with_reducible first | exact HB.out | apply zI | apply zH | apply zJ | refine zQ ?_ ak.out | refine zQ ?_ am.out | refine zQ ?_ aq.out | refine zQ ?_ av.out | refine zQ ?_ bz.out) | exact HB.out)⟩
          (try clear a9)
          (try clear a7)
          (try clear aa)
          (try clear ab)
          (try clear ap)
          (try clear HB)
          generalize ((((w141.setCell ⟨ad, 0, none⟩ (.int .i64 b6)).setCell ⟨ad, 1, none⟩ (.int .i64 b8)).setCell ⟨ad, 2, none⟩ (.int .i64 bh)).setCell ⟨ad, 3, none⟩ (.int .i64 bi)) = w147 at n0_ n1_ n2_ n3_ n4_ n5_ ⊢
          have a9 := n0_
          have a7 := n1_
          have aa := n2_
          have ab := n3_
          have ap := n4_
          have HB := n5_
          clear n0_ n1_ n2_ n3_ n4_ n5_
          have n0_ := uZ (zF a9.out)
          have n1_ := uZ (zF a7.out)
          have n2_ := uZ (zF aa.out)
          have n3_ := uZ (zF ab.out)
          have n4_ := uZ (zF ap.out)
          have n5_ := uZ (zJ HB.out)
          clear a9
          clear a7
          clear aa
          clear ab
          clear ap
          clear HB
          have a9 := n0_
          have a7 := n1_
          have aa := n2_
          have ab := n3_
          have ap := n4_
          have HB := n5_
          clear n0_ n1_ n2_ n3_ n4_ n5_
          refine start_ (n := 27) (S := fun w' => w'.cell? ⟨af, 0, none⟩ = some (.int .i64 ae) ∧ w'.cell? ⟨af, 1, none⟩ = some (.int .i64 ag) ∧ w'.cell? ⟨af, 2, none⟩ = some (.int .i64 ah) ∧ w'.cell? ⟨af, 3, none⟩ = some (.int .i64 ai) ∧ w'.cell? ⟨a8, 0, none⟩ = some (.int .i64 ((rd_T40 l0 a2).f0)) ∧ w'.cell? ⟨a8, 1, none⟩ = some (.int .i64 ((rd_T40 l0 a2).f1)) ∧ w'.cell? ⟨a8, 2, none⟩ = some (.int .i64 ((rd_T40 l0 a2).f2)) ∧ w'.cell? ⟨a8, 3, none⟩ = some (.int .i64 ((rd_T40 l0 a2).f3)) ∧ w'.cell? ⟨a8, 4, none⟩ = some (.int .u32 ((rd_T40 l0 a2).f4)) ∧ w'.cell? ⟨a8, 5, none⟩ = some (.int .i64 ((rd_T40 l0 a2).f5)) ∧ w'.cell? ⟨a8, 6, none⟩ = some (.slice A175_6 ((rd_T40 l0 a2).f6).length c175_6)) (ds := []) #[false, false, false, false, false, false, false, false, false, false, false, false, false, false, false, false, false, false, false, false, false, false, false, false, false, false, false] (by kernel_rfl) rfl rfl ⟨(zL aa.out 0).trans rfl, (zL aa.out 1).trans rfl, (zL aa.out 2).trans rfl, (zL aa.out 3).trans rfl, (zL a7.out 0).trans rfl, (zL a7.out 1).trans rfl, (zL a7.out 2).trans rfl, (zL a7.out 3).trans rfl, (zL a7.out 4).trans rfl, (zL a7.out 5).trans rfl, (zL a7.out 6).trans rfl⟩ (fun hHeld => ?_); refine with_tabW lineG.tab19 lineG.bits19 (fun HT_ HW_ => ?_)
          generalize w147.drew = w148 at a9 a7 aa ab ap HB hHeld ⊢
          refine pure_ (i := 1) (N := some 106) (v := ?_) (a' := ?_) #[false, true, false, false, false, false, false, false, false, false, false, false, false, false, false, false, false, false, false, false, false, false, false, false, false, false, false] rfl rfl (zX HT_.out (by kernel_rfl)) (fun _ _ _ h => h) (Or.inl ⟨by rfl, ?_⟩) ?_ ?_
          rotate_left
          ·intro w'
           go_simp
           with_reducible rfl
          rotate_left
          ·simp only [Act.put, zU, zV, zW, i64_w, i32_w]
           rfl
          refine pure_ (i := 4) (N := some 109) (v := ?_) (a' := ?_) #[false, true, false, false, true, false, false, false, false, false, false, false, false, false, false, false, false, false, false, false, false, false, false, false, false, false, false] rfl rfl (zX HT_.out (by kernel_rfl)) (fun _ _ _ h => h) (Or.inl ⟨by rfl, ?_⟩) ?_ ?_
          rotate_left
          ·intro w'
           go_simp
           with_reducible rfl
          rotate_left
          ·simp only [Act.put, zU, zV, zW, i64_w, i32_w]
           rfl
          refine pure_ (i := 6) (N := some 111) (v := ?_) (a' := ?_) #[false, true, false, false, true, false, true, false, false, false, false, false, false, false, false, false, false, false, false, false, false, false, false, false, false, false, false] rfl rfl (zX HT_.out (by kernel_rfl)) (fun _ _ _ h => h) (Or.inl ⟨by rfl, ?_⟩) ?_ ?_
          rotate_left
          ·intro w'
           go_simp
           with_reducible rfl
          rotate_left
          ·simp only [Act.put, zU, zV, zW, i64_w, i32_w]
           rfl
          refine take_ (i := 0) (N := some 105) (v := ?_) (a' := ?_) #[true, true, false, false, true, false, true, false, false, false, false, false, false, false, false, false, false, false, false, false, false, false, false, false, false, false, false] rfl rfl (take_ofW HT_.out HW_.out (by kernel_rfl)) (fun _ _ _ h => h) (Or.inl ⟨by rfl, ?_⟩) hHeld ?_ ?_
          rotate_left
          ·rintro w' ⟨s0, s1, s2, s3, s4, s5, s6, s7, s8, s9, s10⟩
           go_simp
           with_reducible rfl
          rotate_left
          ·simp only [Act.put, zU, zV, zW, i64_w, i32_w]
           rfl
          refine take_ (i := 2) (N := some 107) (v := ?_) (a' := ?_) #[true, true, true, false, true, false, true, false, false, false, false, false, false, false, false, false, false, false, false, false, false, false, false, false, false, false, false] rfl rfl (take_ofW HT_.out HW_.out (by kernel_rfl)) (fun _ _ _ h => h) (Or.inl ⟨by rfl, ?_⟩) hHeld ?_ ?_
          rotate_left
          ·rintro w' ⟨s0, s1, s2, s3, s4, s5, s6, s7, s8, s9, s10⟩
           go_simp
           with_reducible rfl
          rotate_left
          ·simp only [Act.put, zU, zV, zW, i64_w, i32_w]
           rfl
          refine take_ (i := 5) (N := some 110) (v := ?_) (a' := ?_) #[true, true, true, false, true, true, true, false, false, false, false, false, false, false, false, false, false, false, false, false, false, false, false, false, false, false, false] rfl rfl (take_ofW HT_.out HW_.out (by kernel_rfl)) (fun _ _ _ h => h) (Or.inl ⟨by rfl, ?_⟩) hHeld ?_ ?_
          rotate_left
          ·rintro w' ⟨s0, s1, s2, s3, s4, s5, s6, s7, s8, s9, s10⟩
           go_simp
           with_reducible rfl
          rotate_left
          ·simp only [Act.put, zU, zV, zW, i64_w, i32_w]
           rfl
          refine take_ (i := 7) (N := some 112) (v := ?_) (a' := ?_) #[true, true, true, false, true, true, true, true, false, false, false, false, false, false, false, false, false, false, false, false, false, false, false, false, false, false, false] rfl rfl (take_ofW HT_.out HW_.out (by kernel_rfl)) (fun _ _ _ h => h) (Or.inl ⟨by rfl, ?_⟩) hHeld ?_ ?_
          rotate_left
          ·rintro w' ⟨s0, s1, s2, s3, s4, s5, s6, s7, s8, s9, s10⟩
           go_simp
           with_reducible rfl
          rotate_left
          ·simp only [Act.put, zU, zV, zW, i64_w, i32_w]
           rfl
          refine one_ (i := 3) (N := some 108) #[true, true, true, true, true, true, true, true, false, false, false, false, false, false, false, false, false, false, false, false, false, false, false, false, false, false, false] rfl rfl (one_of HT_.out (by kernel_rfl)) (by decide) (fun K hK => ?_)
          refine goes_ Tryd.func54 (by kernel_rfl) rfl #[.int .i64 ((rd_T40 l0 a2).f0)] (by rfl) rfl rfl (by (try simp only [zY, List.map_cons, List.map_nil]); first | done | rfl | (simp only [zZ, yA]; rfl)) ?_
          with_reducible refine (switchbackref17_Other.calls ((rd_T40 l0 a2).f0) bu _ A95.out).mono ?_
          rintro e w' ⟨rfl, ⟨nd, rfl⟩⟩
          refine ⟨_, rfl, ?_⟩
          refine hK.out _ _ ⟨(zL aa.out 0).trans rfl, (zL aa.out 1).trans rfl, (zL aa.out 2).trans rfl, (zL aa.out 3).trans rfl, (zL a7.out 0).trans rfl, (zL a7.out 1).trans rfl, (zL a7.out 2).trans rfl, (zL a7.out 3).trans rfl, (zL a7.out 4).trans rfl, (zL a7.out 5).trans rfl, (zL a7.out 6).trans rfl⟩ (fun hHeld => ?_)
          clear hK K
          refine norm_ (a' := ?_) ?_ ?_
          rotate_left
          ·show Act.put _ (some 108) _ = _
           simp only [Act.put, zU, zV, zW, i64_w, i32_w]
           rfl
          refine pure_ (i := 8) (N := some 113) (v := ?_) (a' := ?_) #[true, true, true, true, true, true, true, true, true, false, false, false, false, false, false, false, false, false, false, false, false, false, false, false, false, false, false] rfl rfl (zX HT_.out (by kernel_rfl)) (fun _ _ _ h => h) (Or.inl ⟨by rfl, ?_⟩) ?_ ?_
          rotate_left
          ·intro w'
           go_simp
           with_reducible rfl
          rotate_left
          ·simp only [Act.put, zU, zV, zW, i64_w, i32_w]
           rfl
          refine pure_ (i := 9) (N := some 114) (v := ?_) (a' := ?_) #[true, true, true, true, true, true, true, true, true, true, false, false, false, false, false, false, false, false, false, false, false, false, false, false, false, false, false] rfl rfl (zX HT_.out (by kernel_rfl)) (fun _ _ _ h => h) (Or.inl ⟨by rfl, ?_⟩) ?_ ?_
          rotate_left
          ·intro w'
           go_simp
           with_reducible rfl
          rotate_left
          ·simp only [Act.put, zU, zV, zW, i64_w, i32_w]
           rfl
          refine pure_ (i := 10) (N := some 115) (v := ?_) (a' := ?_) #[true, true, true, true, true, true, true, true, true, true, true, false, false, false, false, false, false, false, false, false, false, false, false, false, false, false, false] rfl rfl (zX HT_.out (by kernel_rfl)) (fun _ _ _ h => h) (Or.inl ⟨by rfl, ?_⟩) ?_ ?_
          rotate_left
          ·intro w'
           go_simp
           with_reducible rfl
          rotate_left
          ·simp only [Act.put, zU, zV, zW, i64_w, i32_w]
           rfl
          refine pure_ (i := 11) (N := some 116) (v := ?_) (a' := ?_) #[true, true, true, true, true, true, true, true, true, true, true, true, false, false, false, false, false, false, false, false, false, false, false, false, false, false, false] rfl rfl (zX HT_.out (by kernel_rfl)) (fun _ _ _ h => h) (Or.inl ⟨by rfl, ?_⟩) ?_ ?_
          rotate_left
          ·intro w'
           go_simp
           with_reducible rfl
          rotate_left
          ·simp only [Act.put, zU, zV, zW, i64_w, i32_w]
           rfl
          refine pure_ (i := 12) (N := some 117) (v := ?_) (a' := ?_) #[true, true, true, true, true, true, true, true, true, true, true, true, true, false, false, false, false, false, false, false, false, false, false, false, false, false, false] rfl rfl (zX HT_.out (by kernel_rfl)) (fun _ _ _ h => h) (Or.inl ⟨by rfl, ?_⟩) ?_ ?_
          rotate_left
          ·intro w'
           go_simp
           with_reducible rfl
          rotate_left
          ·simp only [Act.put, zU, zV, zW, i64_w, i32_w]
           rfl
          refine pure_ (i := 13) (N := some 118) (v := ?_) (a' := ?_) #[true, true, true, true, true, true, true, true, true, true, true, true, true, true, false, false, false, false, false, false, false, false, false, false, false, false, false] rfl rfl (zX HT_.out (by kernel_rfl)) (fun _ _ _ h => h) (Or.inl ⟨by rfl, ?_⟩) ?_ ?_
          rotate_left
          ·intro w'
           go_simp
           with_reducible rfl
          rotate_left
          ·simp only [Act.put, zU, zV, zW, i64_w, i32_w]
           rfl
          refine pure_ (i := 14) (N := some 119) (v := undef) (a' := ?_) #[true, true, true, true, true, true, true, true, true, true, true, true, true, true, true, false, false, false, false, false, false, false, false, false, false, false, false] rfl rfl (zX HT_.out (by kernel_rfl)) (fun _ _ _ h => h) (Or.inr ⟨by rfl, rfl⟩) ?_ ?_
          rotate_left
          ·simp only [Act.put, zU, zV, zW, i64_w, i32_w]
           rfl
          refine pure_ (i := 15) (N := some 120) (v := undef) (a' := ?_) #[true, true, true, true, true, true, true, true, true, true, true, true, true, true, true, true, false, false, false, false, false, false, false, false, false, false, false] rfl rfl (zX HT_.out (by kernel_rfl)) (fun _ _ _ h => h) (Or.inr ⟨by rfl, rfl⟩) ?_ ?_
          rotate_left
          ·simp only [Act.put, zU, zV, zW, i64_w, i32_w]
           rfl
          refine pure_ (i := 16) (N := some 121) (v := undef) (a' := ?_) #[true, true, true, true, true, true, true, true, true, true, true, true, true, true, true, true, true, false, false, false, false, false, false, false, false, false, false] rfl rfl (zX HT_.out (by kernel_rfl)) (fun _ _ _ h => h) (Or.inr ⟨by rfl, rfl⟩) ?_ ?_
          rotate_left
          ·simp only [Act.put, zU, zV, zW, i64_w, i32_w]
           rfl
          refine pure_ (i := 17) (N := some 122) (v := ?_) (a' := ?_) #[true, true, true, true, true, true, true, true, true, true, true, true, true, true, true, true, true, true, false, false, false, false, false, false, false, false, false] rfl rfl (zX HT_.out (by kernel_rfl)) (fun _ _ _ h => h) (Or.inl ⟨by rfl, ?_⟩) ?_ ?_
          rotate_left
          ·intro w'
           go_simp
           with_reducible rfl
          rotate_left
          ·simp only [Act.put, zU, zV, zW, i64_w, i32_w]
           rfl
          refine pure_ (i := 18) (N := some 123) (v := ?_) (a' := ?_) #[true, true, true, true, true, true, true, true, true, true, true, true, true, true, true, true, true, true, true, false, false, false, false, false, false, false, false] rfl rfl (zX HT_.out (by kernel_rfl)) (fun _ _ _ h => h) (Or.inl ⟨by rfl, ?_⟩) ?_ ?_
          rotate_left
          ·intro w'
           go_simp
           with_reducible rfl
          rotate_left
          ·simp only [Act.put, zU, zV, zW, i64_w, i32_w]
           rfl
          refine pure_ (i := 19) (N := some 124) (v := undef) (a' := ?_) #[true, true, true, true, true, true, true, true, true, true, true, true, true, true, true, true, true, true, true, true, false, false, false, false, false, false, false] rfl rfl (zX HT_.out (by kernel_rfl)) (fun _ _ _ h => h) (Or.inr ⟨by rfl, rfl⟩) ?_ ?_
          rotate_left
          ·simp only [Act.put, zU, zV, zW, i64_w, i32_w]
           rfl
          refine pure_ (i := 20) (N := some 125) (v := undef) (a' := ?_) #[true, true, true, true, true, true, true, true, true, true, true, true, true, true, true, true, true, true, true, true, true, false, false, false, false, false, false] rfl rfl (zX HT_.out (by kernel_rfl)) (fun _ _ _ h => h) (Or.inr ⟨by rfl, rfl⟩) ?_ ?_
          rotate_left
          ·simp only [Act.put, zU, zV, zW, i64_w, i32_w]
           rfl
          refine pure_ (i := 21) (N := some 126) (v := undef) (a' := ?_) #[true, true, true, true, true, true, true, true, true, true, true, true, true, true, true, true, true, true, true, true, true, true, false, false, false, false, false] rfl rfl (zX HT_.out (by kernel_rfl)) (fun _ _ _ h => h) (Or.inr ⟨by rfl, rfl⟩) ?_ ?_
          rotate_left
          ·simp only [Act.put, zU, zV, zW, i64_w, i32_w]
           rfl
          refine pure_ (i := 22) (N := some 127) (v := undef) (a' := ?_) #[true, true, true, true, true, true, true, true, true, true, true, true, true, true, true, true, true, true, true, true, true, true, true, false, false, false, false] rfl rfl (zX HT_.out (by kernel_rfl)) (fun _ _ _ h => h) (Or.inr ⟨by rfl, rfl⟩) ?_ ?_
          rotate_left
          ·simp only [Act.put, zU, zV, zW, i64_w, i32_w]
           rfl
          refine pure_ (i := 23) (N := some 128) (v := undef) (a' := ?_) #[true, true, true, true, true, true, true, true, true, true, true, true, true, true, true, true, true, true, true, true, true, true, true, true, false, false, false] rfl rfl (zX HT_.out (by kernel_rfl)) (fun _ _ _ h => h) (Or.inr ⟨by rfl, rfl⟩) ?_ ?_
          rotate_left
          ·simp only [Act.put, zU, zV, zW, i64_w, i32_w]
           rfl
          refine pure_ (i := 24) (N := some 129) (v := ?_) (a' := ?_) #[true, true, true, true, true, true, true, true, true, true, true, true, true, true, true, true, true, true, true, true, true, true, true, true, true, false, false] rfl rfl (zX HT_.out (by kernel_rfl)) (fun _ _ _ h => h) (Or.inl ⟨by rfl, ?_⟩) ?_ ?_
          rotate_left
          ·intro w'
           go_simp
           with_reducible rfl
          rotate_left
          ·simp only [Act.put, zU, zV, zW, i64_w, i32_w]
           rfl
          refine pure_ (i := 25) (N := some 8) (v := ?_) (a' := ?_) #[true, true, true, true, true, true, true, true, true, true, true, true, true, true, true, true, true, true, true, true, true, true, true, true, true, true, false] rfl rfl (zX HT_.out (by kernel_rfl)) (fun _ _ _ h => h) (Or.inl ⟨by rfl, ?_⟩) ?_ ?_
          rotate_left
          ·intro w'
           go_simp
           with_reducible rfl
          rotate_left
          ·simp only [Act.put, zU, zV, zW, i64_w, i32_w]
           rfl
          refine pure_ (i := 26) (N := some 9) (v := ?_) (a' := ?_) #[true, true, true, true, true, true, true, true, true, true, true, true, true, true, true, true, true, true, true, true, true, true, true, true, true, true, true] rfl rfl (zX HT_.out (by kernel_rfl)) (fun _ _ _ h => h) (Or.inl ⟨by rfl, ?_⟩) ?_ ?_
          rotate_left
          ·intro w'
           go_simp
           with_reducible rfl
          rotate_left
          ·simp only [Act.put, zU, zV, zW, i64_w, i32_w]
           rfl
          refine done_ (done_of HT_.out (by kernel_rfl)) ?_
          try go_wp2
          go_ret2
          exact ⟨by first | rfl | (simp [errW_none, errW_some] <;> rfl) | (simp [*, errW_none, errW_some] <;> rfl), by repeat (first | (with_reducible first | exact HB.out | apply zI | apply zH | apply zJ | refine zQ ?_ ak.out | refine zQ ?_ am.out | refine zQ ?_ aq.out | refine zQ ?_ av.out | refine zQ ?_ bz.out) | exact HB.out)⟩
         rw [if_neg c96] at H
         have c96b0 : (ae == bu && (ag == ((rd_T40 l0 a2).f1) && (ah == ((rd_T40 l0 a2).f2) && (ai == 2)))) = false := by simpa using c96
         (try (have c96b1 : decide (ae = bu && (ag == ((rd_T40 l0 a2).f1) && (ah == ((rd_T40 l0 a2).f2) && (ai == 2)))) = false := by simpa using c96))
         (try (have c96b2 : (ae == bu && (ag == ((rd_T40 l0 a2).f1) && (ah == ((rd_T40 l0 a2).f2) && (ai == 2)))) = false := by simpa using c96))
         (try (have c96b3 : ¬ (ae = bu && (ag == ((rd_T40 l0 a2).f1) && (ah == ((rd_T40 l0 a2).f2) && (ai == 2)))) := by simpa using c96))
         clear c96
         simp only [Option.some.injEq, Prod.mk.injEq] at H
         obtain ⟨rfl, rfl⟩ := H
         exact absurd hT_.out (by decide)
        replace c93 := Bool.eq_false_iff.mpr c93
        subst c93
        have H1 : (if bj = true then (if (ae == ((rd_T40 l0 a2).f0) && (ag == ((rd_T40 l0 a2).f1) && (ah == ((rd_T40 l0 a2).f2) && (ai == ((rd_T40 l0 a2).f3))))) = true then ((switchbacklaw17_data.f l1_0 l1_1 l1_2 a1_3 (wrap64 (a3 + 1)) 2 aw).bind fun t197 => (some (2, t197))) else (some (2, false))) else (if ((rd_T40 l0 a2).f0) = 2 then (if (ae == ((rd_T40 l0 a2).f0) && (ag == ((rd_T40 l0 a2).f1) && (ah == ((rd_T40 l0 a2).f2) && (ai == ((rd_T40 l0 a2).f3))))) = true then (if (wrap64 (a3 + 1)) < (l1_0.length : Int) then (if 0 ≤ (wrap64 (a3 + 1)) then (if (wrap64 (a3 + 1)) < (l1_1.length : Int) then (if (rd l1_1 (wrap64 (a3 + 1))) = 2 then (some (2, ((rd l1_0 (wrap64 (a3 + 1))) == ((rd_T40 l0 a2).f4)))) else (some (2, false))) else (none)) else (none)) else (some (2, false))) else (some (2, false))) else (if ((rd_T40 l0 a2).f0) = 42 then ((switchbacklaw17_data.f l1_0 l1_1 l1_2 a1_3 (wrap64 (a3 + 1)) 3 (((rd_T40 l0 a2).f6).length : Int)).bind fun t200 => (lineG.l0 kj46 l0 a3 t200 0 l1_0 l1_1 l1_2 a1_3 ((rd_T40 l0 a2).f0) ((rd_T40 l0 a2).f1) ((rd_T40 l0 a2).f2) ((rd_T40 l0 a2).f3) ((rd_T40 l0 a2).f4) ((rd_T40 l0 a2).f5) ((rd_T40 l0 a2).f6) ae ag ah ai ((rd_T40 l0 a2).f0) ((rd_T40 l0 a2).f1) ((rd_T40 l0 a2).f2) ((rd_T40 l0 a2).f3))) else (some (1, (ae == ((rd_T40 l0 a2).f0) && (ag == ((rd_T40 l0 a2).f1) && (ah == ((rd_T40 l0 a2).f2) && (ai == ((rd_T40 l0 a2).f3)))))))))) = some (r1, r2) := by rw [if_neg (show ¬ (false = true) by decide)] at H; exact H
        clear H
        have H := H1
        clear H1
        by_cases c165 : bj = true
        ·subst c165
         have H1 : (if (ae == ((rd_T40 l0 a2).f0) && (ag == ((rd_T40 l0 a2).f1) && (ah == ((rd_T40 l0 a2).f2) && (ai == ((rd_T40 l0 a2).f3))))) = true then ((switchbacklaw17_data.f l1_0 l1_1 l1_2 a1_3 (wrap64 (a3 + 1)) 2 aw).bind fun t197 => (some (2, t197))) else (some (2, false))) = some (r1, r2) := by rw [if_pos rfl] at H; exact H
         clear H
         have H := H1
         clear H1
         by_cases c166 : (ae == ((rd_T40 l0 a2).f0) && (ag == ((rd_T40 l0 a2).f1) && (ah == ((rd_T40 l0 a2).f2) && (ai == ((rd_T40 l0 a2).f3))))) = true
         ·as_aux_lemma =>
          rw [if_pos c166] at H
          have c166b0 : (ae == ((rd_T40 l0 a2).f0) && (ag == ((rd_T40 l0 a2).f1) && (ah == ((rd_T40 l0 a2).f2) && (ai == ((rd_T40 l0 a2).f3))))) = true := c166
          (try (have c166b1 : decide (ae = ((rd_T40 l0 a2).f0) && (ag == ((rd_T40 l0 a2).f1) && (ah == ((rd_T40 l0 a2).f2) && (ai == ((rd_T40 l0 a2).f3))))) = true := by simpa using c166))
          (try (have c166b2 : (ae == ((rd_T40 l0 a2).f0) && (ag == ((rd_T40 l0 a2).f1) && (ah == ((rd_T40 l0 a2).f2) && (ai == ((rd_T40 l0 a2).f3))))) = true := by simpa using c166))
          clear c166
          replace H := Option.bind_eq_some_iff.mp H
          obtain ⟨t197, A1670, H⟩ := H
          replace H : (some (2, t197)) = some (r1, r2) := H
          have A167 := uZ A1670
          clear A1670
          simp only [Option.some.injEq, Prod.mk.injEq] at H
          obtain ⟨rfl, rfl⟩ := H
          have hnb168 := ar.out
          have hnc168 := aj.out
          have hnb169 := al.out
          have hnc169 := ax.out
          have hnb170 := au.out
          have hnc170 := ay.out
          have hcz171_0 : wc.cell? ⟨a8, 0, none⟩ = some (.int .i64 ((rd_T40 l0 a2).f0)) := (zL a7.out 0).trans rfl
          have hcz171_1 : wc.cell? ⟨a8, 1, none⟩ = some (.int .i64 ((rd_T40 l0 a2).f1)) := (zL a7.out 1).trans rfl
          have hcz171_2 : wc.cell? ⟨a8, 2, none⟩ = some (.int .i64 ((rd_T40 l0 a2).f2)) := (zL a7.out 2).trans rfl
          have hcz171_3 : wc.cell? ⟨a8, 3, none⟩ = some (.int .i64 ((rd_T40 l0 a2).f3)) := (zL a7.out 3).trans rfl
          have hcz171_4 : wc.cell? ⟨a8, 4, none⟩ = some (.int .u32 ((rd_T40 l0 a2).f4)) := (zL a7.out 4).trans rfl
          have hcz171_5 : wc.cell? ⟨a8, 5, none⟩ = some (.int .i64 ((rd_T40 l0 a2).f5)) := (zL a7.out 5).trans rfl
          have hcz171_6 : wc.cell? ⟨a8, 6, none⟩ = some (.slice A175_6 ((rd_T40 l0 a2).f6).length c175_6) := (zL a7.out 6).trans rfl
          have hfz171_0 := zK a7.out 0
          have hfz171_1 := zK a7.out 1
          have hfz171_2 := zK a7.out 2
          have hfz171_3 := zK a7.out 3
          have hfz171_4 := zK a7.out 4
          have hfz171_5 := zK a7.out 5
          have hfz171_6 := zK a7.out 6
          have hnb172 := a_.out
          have hnc172 := an.out
          have hnb173 := bg.out
          have hnc173 := bm.out
          have hcz174_0 : wc.cell? ⟨af, 0, none⟩ = some (.int .i64 ae) := (zL aa.out 0).trans rfl
          have hcz174_1 : wc.cell? ⟨af, 1, none⟩ = some (.int .i64 ag) := (zL aa.out 1).trans rfl
          have hcz174_2 : wc.cell? ⟨af, 2, none⟩ = some (.int .i64 ah) := (zL aa.out 2).trans rfl
          have hcz174_3 : wc.cell? ⟨af, 3, none⟩ = some (.int .i64 ai) := (zL aa.out 3).trans rfl
          have hfz174_0 := zK aa.out 0
          have hfz174_1 := zK aa.out 1
          have hfz174_2 := zK aa.out 2
          have hfz174_3 := zK aa.out 3
          have hnb175 := bk.out
          have hnc175 := b0.out
          have hcz176_0 : wc.cell? ⟨ao, 0, none⟩ = some (.int .i64 ((rd_T40 l0 a2).f0)) := (zL ab.out 0).trans rfl
          have hcz176_1 : wc.cell? ⟨ao, 1, none⟩ = some (.int .i64 ((rd_T40 l0 a2).f1)) := (zL ab.out 1).trans rfl
          have hcz176_2 : wc.cell? ⟨ao, 2, none⟩ = some (.int .i64 ((rd_T40 l0 a2).f2)) := (zL ab.out 2).trans rfl
          have hcz176_3 : wc.cell? ⟨ao, 3, none⟩ = some (.int .i64 ((rd_T40 l0 a2).f3)) := (zL ab.out 3).trans rfl
          have hfz176_0 := zK ab.out 0
          have hfz176_1 := zK ab.out 1
          have hfz176_2 := zK ab.out 2
          have hfz176_3 := zK ab.out 3
          have hcz177_0 : wc.cell? ⟨ac, 0, none⟩ = some (.slice A1_0 l1_0.length c1_0) := (zL a9.out 0).trans rfl
          have hcz177_1 : wc.cell? ⟨ac, 1, none⟩ = some (.slice A1_1 l1_1.length c1_1) := (zL a9.out 1).trans rfl
          have hcz177_2 : wc.cell? ⟨ac, 2, none⟩ = some (.slice A1_2 l1_2.length c1_2) := (zL a9.out 2).trans rfl
          have hcz177_3 : wc.cell? ⟨ac, 3, none⟩ = some (.int .i64 a1_3) := (zL a9.out 3).trans rfl
          have hfz177_0 := zK a9.out 0
          have hfz177_1 := zK a9.out 1
          have hfz177_2 := zK a9.out 2
          have hfz177_3 := zK a9.out 3
          go_wp2_with (first | (go_at_call 53; (with_reducible refine (switchbacklaw17_data.calls _ _ l1_0 _ _ l1_1 _ _ l1_2 a1_3 (wrap64 (a3 + 1)) 2 aw t197 _ ?side1 ?side2 ?side3 ?side4 ?side5 ?side6 A167.out).mono ?_); (case side1 => repeat (first | exact (zD bn.out HB.out) | (with_reducible refine zA ?_ _) | (with_reducible refine zB ?_ _) | (with_reducible refine zC ?_))); (case side2 => exact bp.out); (case side3 => repeat (first | exact (zD bo.out HB.out) | (with_reducible refine zA ?_ _) | (with_reducible refine zB ?_ _) | (with_reducible refine zC ?_))); (case side4 => exact bq.out); (case side5 => repeat (first | exact (zD br.out HB.out) | (with_reducible refine zA ?_ _) | (with_reducible refine zB ?_ _) | (with_reducible refine zC ?_))); (case side6 => exact bs.out); rintro e w178 ⟨rfl, hb⟩; have n0_ := uZ (zO (g := ac) (o := .cells #[.slice A1_0 l1_0.length c1_0, .slice A1_1 l1_1.length c1_1, .slice A1_2 l1_2.length c1_2, .int .i64 a1_3] 27 (0, 0)) (uK a9.out) hb); have n1_ := uZ (zO (g := a8) (o := .cells #[.int .i64 ((rd_T40 l0 a2).f0), .int .i64 ((rd_T40 l0 a2).f1), .int .i64 ((rd_T40 l0 a2).f2), .int .i64 ((rd_T40 l0 a2).f3), .int .u32 ((rd_T40 l0 a2).f4), .int .i64 ((rd_T40 l0 a2).f5), .slice A175_6 ((rd_T40 l0 a2).f6).length c175_6] 40 (0, 0)) (uK a7.out) hb); have n2_ := uZ (zO (g := af) (o := .cells #[.int .i64 ae, .int .i64 ag, .int .i64 ah, .int .i64 ai] 44 (0, 0)) (uK aa.out) hb); have n3_ := uZ (zO (g := ao) (o := .cells #[.int .i64 ((rd_T40 l0 a2).f0), .int .i64 ((rd_T40 l0 a2).f1), .int .i64 ((rd_T40 l0 a2).f2), .int .i64 ((rd_T40 l0 a2).f3)] 44 (0, 0)) (uK ab.out) hb); have n4_ := uZ (zS (by repeat (first | (with_reducible first | exact HB.out | apply zI | apply zH | apply zJ | refine zQ ?_ ak.out | refine zQ ?_ am.out | refine zQ ?_ aq.out | refine zQ ?_ av.out) | exact HB.out)) hb); clear a9; clear a7; clear aa; clear ab; clear HB; have a9 := n0_; have a7 := n1_; have aa := n2_; have ab := n3_; have HB := n4_; clear n0_ n1_ n2_ n3_ n4_; (try clear hb); (try clear hb2); (try clear hk); (try clear hi)))
          go_ret2
          exact ⟨by first | rfl | (simp [errW_none, errW_some] <;> rfl) | (simp [*, errW_none, errW_some] <;> rfl), by repeat (first | (with_reducible first | exact HB.out | apply zI | apply zH | apply zJ | refine zQ ?_ ak.out | refine zQ ?_ am.out | refine zQ ?_ aq.out | refine zQ ?_ av.out) | exact HB.out)⟩
         rw [if_neg c166] at H
         have c166b0 : (ae == ((rd_T40 l0 a2).f0) && (ag == ((rd_T40 l0 a2).f1) && (ah == ((rd_T40 l0 a2).f2) && (ai == ((rd_T40 l0 a2).f3))))) = false := by simpa using c166
         (try (have c166b1 : decide (ae = ((rd_T40 l0 a2).f0) && (ag == ((rd_T40 l0 a2).f1) && (ah == ((rd_T40 l0 a2).f2) && (ai == ((rd_T40 l0 a2).f3))))) = false := by simpa using c166))
         (try (have c166b2 : (ae == ((rd_T40 l0 a2).f0) && (ag == ((rd_T40 l0 a2).f1) && (ah == ((rd_T40 l0 a2).f2) && (ai == ((rd_T40 l0 a2).f3))))) = false := by simpa using c166))
         (try (have c166b3 : ¬ (ae = ((rd_T40 l0 a2).f0) && (ag == ((rd_T40 l0 a2).f1) && (ah == ((rd_T40 l0 a2).f2) && (ai == ((rd_T40 l0 a2).f3))))) := by simpa using c166))
         clear c166
         simp only [Option.some.injEq, Prod.mk.injEq] at H
         obtain ⟨rfl, rfl⟩ := H
         exact absurd hT_.out (by decide)
        replace c165 := Bool.eq_false_iff.mpr c165
        subst c165
        have H1 : (if ((rd_T40 l0 a2).f0) = 2 then (if (ae == ((rd_T40 l0 a2).f0) && (ag == ((rd_T40 l0 a2).f1) && (ah == ((rd_T40 l0 a2).f2) && (ai == ((rd_T40 l0 a2).f3))))) = true then (if (wrap64 (a3 + 1)) < (l1_0.length : Int) then (if 0 ≤ (wrap64 (a3 + 1)) then (if (wrap64 (a3 + 1)) < (l1_1.length : Int) then (if (rd l1_1 (wrap64 (a3 + 1))) = 2 then (some (2, ((rd l1_0 (wrap64 (a3 + 1))) == ((rd_T40 l0 a2).f4)))) else (some (2, false))) else (none)) else (none)) else (some (2, false))) else (some (2, false))) else (if ((rd_T40 l0 a2).f0) = 42 then ((switchbacklaw17_data.f l1_0 l1_1 l1_2 a1_3 (wrap64 (a3 + 1)) 3 (((rd_T40 l0 a2).f6).length : Int)).bind fun t200 => (lineG.l0 kj46 l0 a3 t200 0 l1_0 l1_1 l1_2 a1_3 ((rd_T40 l0 a2).f0) ((rd_T40 l0 a2).f1) ((rd_T40 l0 a2).f2) ((rd_T40 l0 a2).f3) ((rd_T40 l0 a2).f4) ((rd_T40 l0 a2).f5) ((rd_T40 l0 a2).f6) ae ag ah ai ((rd_T40 l0 a2).f0) ((rd_T40 l0 a2).f1) ((rd_T40 l0 a2).f2) ((rd_T40 l0 a2).f3))) else (some (1, (ae == ((rd_T40 l0 a2).f0) && (ag == ((rd_T40 l0 a2).f1) && (ah == ((rd_T40 l0 a2).f2) && (ai == ((rd_T40 l0 a2).f3))))))))) = some (r1, r2) := by rw [if_neg (show ¬ (false = true) by decide)] at H; exact H
        clear H
        have H := H1
        clear H1
        by_cases c188 : ((rd_T40 l0 a2).f0) = 2
        ·rw [if_pos c188] at H
         have c188b0 : (((rd_T40 l0 a2).f0) == 2) = true := beq_iff_eq.mpr c188
         have c188b1 : (((rd_T40 l0 a2).f0) != 2) = false := bne_eq_false_iff_eq.mpr c188
         clear c188
         by_cases c189 : (ae == ((rd_T40 l0 a2).f0) && (ag == ((rd_T40 l0 a2).f1) && (ah == ((rd_T40 l0 a2).f2) && (ai == ((rd_T40 l0 a2).f3))))) = true
         ·as_aux_lemma =>
          rw [if_pos c189] at H
          have c189b0 : (ae == ((rd_T40 l0 a2).f0) && (ag == ((rd_T40 l0 a2).f1) && (ah == ((rd_T40 l0 a2).f2) && (ai == ((rd_T40 l0 a2).f3))))) = true := c189
          (try (have c189b1 : decide (ae = ((rd_T40 l0 a2).f0) && (ag == ((rd_T40 l0 a2).f1) && (ah == ((rd_T40 l0 a2).f2) && (ai == ((rd_T40 l0 a2).f3))))) = true := by simpa using c189))
          (try (have c189b2 : (ae == ((rd_T40 l0 a2).f0) && (ag == ((rd_T40 l0 a2).f1) && (ah == ((rd_T40 l0 a2).f2) && (ai == ((rd_T40 l0 a2).f3))))) = true := by simpa using c189))
          clear c189
          by_cases c190 : (wrap64 (a3 + 1)) < (l1_0.length : Int)
          ·rw [if_pos c190] at H
           have c190b0 : decide ((wrap64 (a3 + 1)) < (l1_0.length : Int)) = true := decide_eq_true c190
           clear c190
           obtain ⟨b7, hji191⟩ : ∃ j_ : Int, (wrap64 (a3 + 1)) = j_ := ⟨_, rfl⟩
           replace H : (if 0 ≤ (b7) then (if (b7) < (l1_1.length : Int) then (if (rd l1_1 (b7)) = 2 then (some (2, ((rd l1_0 (b7)) == ((rd_T40 l0 a2).f4)))) else (some (2, false))) else (none)) else (none)) = some (r1, r2) := by first | (rw [hji191] at H; exact H) | (simp only [hji191] at H ⊢; exact H)
           (try rw [hji191] at c190b0)
           have hji191w : (IntKind.i64.wrap (a3 + 1)) = b7 := (i64_w _).trans hji191
           by_cases c192 : 0 ≤ (b7)
           ·rw [if_pos c192] at H
            have c192b0 : decide (0 ≤ (b7)) = true := decide_eq_true c192
            clear c192
            by_cases c193 : (b7) < (l1_1.length : Int)
            ·rw [if_pos c193] at H
             have c193b0 : decide ((b7) < (l1_1.length : Int)) = true := decide_eq_true c193
             clear c193
             by_cases c194 : (rd l1_1 (b7)) = 2
             ·rw [if_pos c194] at H
              have c194b0 : ((rd l1_1 (b7)) == 2) = true := beq_iff_eq.mpr c194
              have c194b1 : ((rd l1_1 (b7)) != 2) = false := bne_eq_false_iff_eq.mpr c194
              clear c194
              simp only [Option.some.injEq, Prod.mk.injEq] at H
              obtain ⟨rfl, rfl⟩ := H
              have hnb195 := ar.out
              have hnc195 := aj.out
              have hnb196 := al.out
              have hnc196 := ax.out
              have hnb197 := au.out
              have hnc197 := ay.out
              have hcz198_0 : wc.cell? ⟨a8, 0, none⟩ = some (.int .i64 ((rd_T40 l0 a2).f0)) := (zL a7.out 0).trans rfl
              have hcz198_1 : wc.cell? ⟨a8, 1, none⟩ = some (.int .i64 ((rd_T40 l0 a2).f1)) := (zL a7.out 1).trans rfl
              have hcz198_2 : wc.cell? ⟨a8, 2, none⟩ = some (.int .i64 ((rd_T40 l0 a2).f2)) := (zL a7.out 2).trans rfl
              have hcz198_3 : wc.cell? ⟨a8, 3, none⟩ = some (.int .i64 ((rd_T40 l0 a2).f3)) := (zL a7.out 3).trans rfl
              have hcz198_4 : wc.cell? ⟨a8, 4, none⟩ = some (.int .u32 ((rd_T40 l0 a2).f4)) := (zL a7.out 4).trans rfl
              have hcz198_5 : wc.cell? ⟨a8, 5, none⟩ = some (.int .i64 ((rd_T40 l0 a2).f5)) := (zL a7.out 5).trans rfl
              have hcz198_6 : wc.cell? ⟨a8, 6, none⟩ = some (.slice A175_6 ((rd_T40 l0 a2).f6).length c175_6) := (zL a7.out 6).trans rfl
              have hfz198_0 := zK a7.out 0
              have hfz198_1 := zK a7.out 1
              have hfz198_2 := zK a7.out 2
              have hfz198_3 := zK a7.out 3
              have hfz198_4 := zK a7.out 4
              have hfz198_5 := zK a7.out 5
              have hfz198_6 := zK a7.out 6
              try go_wp2
              have n0_ := uZ (zF a9.out)
              have n1_ := uZ (zF a7.out)
              have n2_ := uZ (zF aa.out)
              have n3_ := uZ (zF ab.out)
              have n4_ := uZ (zJ HB.out)
              clear a9
              clear a7
              clear aa
              clear ab
              clear HB
              have a9 := n0_
              have a7 := n1_
              have aa := n2_
              have ab := n3_
              have HB := n4_
              clear n0_ n1_ n2_ n3_ n4_
              have p198 : 0 ≤ ((b7) : Int) := uA
              have q198 : (b7) < (l1_1.length : Int) := uA
              obtain ⟨ad198, e198, b_⟩ := Kd.at_int bo.out (b7) p198 q198
              have hw198_0 := b_
              cases e198
              replace b_ := (HB.out.cell (zT w _ b_)).trans b_
              replace p198 := eq_true p198
              replace q198 := eq_true q198
              have p199 : 0 ≤ ((b7) : Int) := uA
              have q199 : (b7) < (l1_0.length : Int) := uA
              obtain ⟨ad199, e199, c8⟩ := Kd.at_int bn.out (b7) p199 q199
              have hw199_0 := c8
              cases e199
              replace c8 := (HB.out.cell (zT w _ c8)).trans c8
              replace p199 := eq_true p199
              replace q199 := eq_true q199
              refine start_ (n := 33) (S := fun w' => w'.cell? ⟨af, 0, none⟩ = some (.int .i64 ae) ∧ w'.cell? ⟨af, 1, none⟩ = some (.int .i64 ag) ∧ w'.cell? ⟨af, 2, none⟩ = some (.int .i64 ah) ∧ w'.cell? ⟨af, 3, none⟩ = some (.int .i64 ai) ∧ w'.cell? ⟨ao, 0, none⟩ = some (.int .i64 ((rd_T40 l0 a2).f0)) ∧ w'.cell? ⟨ao, 1, none⟩ = some (.int .i64 ((rd_T40 l0 a2).f1)) ∧ w'.cell? ⟨ao, 2, none⟩ = some (.int .i64 ((rd_T40 l0 a2).f2)) ∧ w'.cell? ⟨ao, 3, none⟩ = some (.int .i64 ((rd_T40 l0 a2).f3)) ∧ w'.cell? ⟨ac, 0, none⟩ = some (.slice (some ad199) l1_0.length c1_0) ∧ w'.cell? ⟨ac, 1, none⟩ = some (.slice (some ad198) l1_1.length c1_1) ∧ w'.cell? ⟨ac, 2, none⟩ = some (.slice A1_2 l1_2.length c1_2) ∧ w'.cell? ⟨ac, 3, none⟩ = some (.int .i64 a1_3) ∧ w'.cell? ⟨a8, 0, none⟩ = some (.int .i64 ((rd_T40 l0 a2).f0)) ∧ w'.cell? ⟨a8, 1, none⟩ = some (.int .i64 ((rd_T40 l0 a2).f1)) ∧ w'.cell? ⟨a8, 2, none⟩ = some (.int .i64 ((rd_T40 l0 a2).f2)) ∧ w'.cell? ⟨a8, 3, none⟩ = some (.int .i64 ((rd_T40 l0 a2).f3)) ∧ w'.cell? ⟨a8, 4, none⟩ = some (.int .u32 ((rd_T40 l0 a2).f4)) ∧ w'.cell? ⟨a8, 5, none⟩ = some (.int .i64 ((rd_T40 l0 a2).f5)) ∧ w'.cell? ⟨a8, 6, none⟩ = some (.slice A175_6 ((rd_T40 l0 a2).f6).length c175_6) ∧ w'.cell? (ad198.add ((b7)).toNat) = some (.int .i64 (rd l1_1 (b7))) ∧ w'.cell? (ad199.add ((b7)).toNat) = some (.int .u32 (rd l1_0 (b7)))) (ds := []) #[false, false, false, false, false, false, false, false, false, false, false, false, false, false, false, false, false, false, false, false, false, false, false, false, false, false, false, false, false, false, false, false, false] (by kernel_rfl) rfl rfl ⟨(zL aa.out 0).trans rfl, (zL aa.out 1).trans rfl, (zL aa.out 2).trans rfl, (zL aa.out 3).trans rfl, (zL ab.out 0).trans rfl, (zL ab.out 1).trans rfl, (zL ab.out 2).trans rfl, (zL ab.out 3).trans rfl, (zL a9.out 0).trans rfl, (zL a9.out 1).trans rfl, (zL a9.out 2).trans rfl, (zL a9.out 3).trans rfl, (zL a7.out 0).trans rfl, (zL a7.out 1).trans rfl, (zL a7.out 2).trans rfl, (zL a7.out 3).trans rfl, (zL a7.out 4).trans rfl, (zL a7.out 5).trans rfl, (zL a7.out 6).trans rfl, ((HB.out.cell (zT w _ hw198_0)).trans hw198_0), ((HB.out.cell (zT w _ hw199_0)).trans hw199_0)⟩ (fun hHeld => ?_); refine with_tabW lineG.tab23 lineG.bits23 (fun HT_ HW_ => ?_)
              generalize wc.drew = w199 at a9 a7 aa ab HB b_ c8 hHeld ⊢
              refine take_ (i := 0) (N := some 146) (v := ?_) (a' := ?_) #[true, false, false, false, false, false, false, false, false, false, false, false, false, false, false, false, false, false, false, false, false, false, false, false, false, false, false, false, false, false, false, false, false] rfl rfl (take_ofW HT_.out HW_.out (by kernel_rfl)) (fun _ _ _ h => h) (Or.inl ⟨by rfl, ?_⟩) hHeld ?_ ?_
              rotate_left
              ·rintro w' ⟨s0, s1, s2, s3, s4, s5, s6, s7, s8, s9, s10, s11, s12, s13, s14, s15, s16, s17, s18, s19, s20⟩
               go_simp
               with_reducible rfl
              rotate_left
              ·simp only [Act.put, zU, zV, zW, i64_w, i32_w]
               rfl
              refine take_ (i := 1) (N := some 147) (v := ?_) (a' := ?_) #[true, true, false, false, false, false, false, false, false, false, false, false, false, false, false, false, false, false, false, false, false, false, false, false, false, false, false, false, false, false, false, false, false] rfl rfl (take_ofW HT_.out HW_.out (by kernel_rfl)) (fun _ _ _ h => h) (Or.inl ⟨by rfl, ?_⟩) hHeld ?_ ?_
              rotate_left
              ·rintro w' ⟨s0, s1, s2, s3, s4, s5, s6, s7, s8, s9, s10, s11, s12, s13, s14, s15, s16, s17, s18, s19, s20⟩
               go_simp
               with_reducible rfl
              rotate_left
              ·simp only [Act.put, zU, zV, zW, i64_w, i32_w]
               rfl
              refine pure_ (i := 2) (N := some 148) (v := ?_) (a' := ?_) #[true, true, true, false, false, false, false, false, false, false, false, false, false, false, false, false, false, false, false, false, false, false, false, false, false, false, false, false, false, false, false, false, false] rfl rfl (zX HT_.out (by kernel_rfl)) (fun _ _ _ h => h) (Or.inl ⟨by rfl, ?_⟩) ?_ ?_
              rotate_left
              ·intro w'
               go_simp
               with_reducible rfl
              rotate_left
              ·simp only [Act.put, zU, zV, zW, i64_w, i32_w]
               rfl
              refine pure_ (i := 3) (N := some 149) (v := ?_) (a' := ?_) #[true, true, true, true, false, false, false, false, false, false, false, false, false, false, false, false, false, false, false, false, false, false, false, false, false, false, false, false, false, false, false, false, false] rfl rfl (zX HT_.out (by kernel_rfl)) (fun _ _ _ h => h) (Or.inl ⟨by rfl, ?_⟩) ?_ ?_
              rotate_left
              ·intro w'
               go_simp
               with_reducible rfl
              rotate_left
              ·simp only [Act.put, zU, zV, zW, i64_w, i32_w]
               rfl
              refine pure_ (i := 4) (N := some 150) (v := ?_) (a' := ?_) #[true, true, true, true, true, false, false, false, false, false, false, false, false, false, false, false, false, false, false, false, false, false, false, false, false, false, false, false, false, false, false, false, false] rfl rfl (zX HT_.out (by kernel_rfl)) (fun _ _ _ h => h) (Or.inl ⟨by rfl, ?_⟩) ?_ ?_
              rotate_left
              ·intro w'
               go_simp
               with_reducible rfl
              rotate_left
              ·simp only [Act.put, zU, zV, zW, i64_w, i32_w]
               rfl
              refine pure_ (i := 5) (N := some 151) (v := ?_) (a' := ?_) #[true, true, true, true, true, true, false, false, false, false, false, false, false, false, false, false, false, false, false, false, false, false, false, false, false, false, false, false, false, false, false, false, false] rfl rfl (zX HT_.out (by kernel_rfl)) (fun _ _ _ h => h) (Or.inl ⟨by rfl, ?_⟩) ?_ ?_
              rotate_left
              ·intro w'
               go_simp
               with_reducible rfl
              rotate_left
              ·simp only [Act.put, zU, zV, zW, i64_w, i32_w]
               rfl
              refine pure_ (i := 6) (N := some 152) (v := ?_) (a' := ?_) #[true, true, true, true, true, true, true, false, false, false, false, false, false, false, false, false, false, false, false, false, false, false, false, false, false, false, false, false, false, false, false, false, false] rfl rfl (zX HT_.out (by kernel_rfl)) (fun _ _ _ h => h) (Or.inl ⟨by rfl, ?_⟩) ?_ ?_
              rotate_left
              ·intro w'
               go_simp
               with_reducible rfl
              rotate_left
              ·simp only [Act.put, zU, zV, zW, i64_w, i32_w]
               rfl
              refine take_ (i := 7) (N := some 153) (v := ?_) (a' := ?_) #[true, true, true, true, true, true, true, true, false, false, false, false, false, false, false, false, false, false, false, false, false, false, false, false, false, false, false, false, false, false, false, false, false] rfl rfl (take_ofW HT_.out HW_.out (by kernel_rfl)) (fun _ _ _ h => h) (Or.inl ⟨by rfl, ?_⟩) hHeld ?_ ?_
              rotate_left
              ·rintro w' ⟨s0, s1, s2, s3, s4, s5, s6, s7, s8, s9, s10, s11, s12, s13, s14, s15, s16, s17, s18, s19, s20⟩
               go_simp
               with_reducible rfl
              rotate_left
              ·simp only [Act.put, zU, zV, zW, i64_w, i32_w]
               rfl
              refine pure_ (i := 8) (N := some 154) (v := ?_) (a' := ?_) #[true, true, true, true, true, true, true, true, true, false, false, false, false, false, false, false, false, false, false, false, false, false, false, false, false, false, false, false, false, false, false, false, false] rfl rfl (zX HT_.out (by kernel_rfl)) (fun _ _ _ h => h) (Or.inl ⟨by rfl, ?_⟩) ?_ ?_
              rotate_left
              ·intro w'
               go_simp
               with_reducible rfl
              rotate_left
              ·simp only [Act.put, zU, zV, zW, i64_w, i32_w]
               rfl
              refine pure_ (i := 9) (N := some 155) (v := ?_) (a' := ?_) #[true, true, true, true, true, true, true, true, true, true, false, false, false, false, false, false, false, false, false, false, false, false, false, false, false, false, false, false, false, false, false, false, false] rfl rfl (zX HT_.out (by kernel_rfl)) (fun _ _ _ h => h) (Or.inl ⟨by rfl, ?_⟩) ?_ ?_
              rotate_left
              ·intro w'
               go_simp
               with_reducible rfl
              rotate_left
              ·simp only [Act.put, zU, zV, zW, i64_w, i32_w]
               rfl
              refine pure_ (i := 10) (N := some 156) (v := ?_) (a' := ?_) #[true, true, true, true, true, true, true, true, true, true, true, false, false, false, false, false, false, false, false, false, false, false, false, false, false, false, false, false, false, false, false, false, false] rfl rfl (zX HT_.out (by kernel_rfl)) (fun _ _ _ h => h) (Or.inl ⟨by rfl, ?_⟩) ?_ ?_
              rotate_left
              ·intro w'
               go_simp
               with_reducible rfl
              rotate_left
              ·simp only [Act.put, zU, zV, zW, i64_w, i32_w]
               rfl
              refine pure_ (i := 11) (N := some 157) (v := ?_) (a' := ?_) #[true, true, true, true, true, true, true, true, true, true, true, true, false, false, false, false, false, false, false, false, false, false, false, false, false, false, false, false, false, false, false, false, false] rfl rfl (zX HT_.out (by kernel_rfl)) (fun _ _ _ h => h) (Or.inl ⟨by rfl, ?_⟩) ?_ ?_
              rotate_left
              ·intro w'
               go_simp
               with_reducible rfl
              rotate_left
              ·simp only [Act.put, zU, zV, zW, i64_w, i32_w]
               rfl
              refine pure_ (i := 12) (N := some 158) (v := ?_) (a' := ?_) #[true, true, true, true, true, true, true, true, true, true, true, true, true, false, false, false, false, false, false, false, false, false, false, false, false, false, false, false, false, false, false, false, false] rfl rfl (zX HT_.out (by kernel_rfl)) (fun _ _ _ h => h) (Or.inl ⟨by rfl, ?_⟩) ?_ ?_
              rotate_left
              ·intro w'
               go_simp
               with_reducible rfl
              rotate_left
              ·simp only [Act.put, zU, zV, zW, i64_w, i32_w]
               rfl
              refine pure_ (i := 14) (N := some 160) (v := ?_) (a' := ?_) #[true, true, true, true, true, true, true, true, true, true, true, true, true, false, true, false, false, false, false, false, false, false, false, false, false, false, false, false, false, false, false, false, false] rfl rfl (zX HT_.out (by kernel_rfl)) (fun _ _ _ h => h) (Or.inl ⟨by rfl, ?_⟩) ?_ ?_
              rotate_left
              ·intro w'
               go_simp
               with_reducible rfl
              rotate_left
              ·simp only [Act.put, zU, zV, zW, i64_w, i32_w]
               rfl
              refine pure_ (i := 15) (N := some 161) (v := ?_) (a' := ?_) #[true, true, true, true, true, true, true, true, true, true, true, true, true, false, true, true, false, false, false, false, false, false, false, false, false, false, false, false, false, false, false, false, false] rfl rfl (zX HT_.out (by kernel_rfl)) (fun _ _ _ h => h) (Or.inl ⟨by rfl, ?_⟩) ?_ ?_
              rotate_left
              ·intro w'
               go_simp
               with_reducible rfl
              rotate_left
              ·simp only [Act.put, zU, zV, zW, i64_w, i32_w]
               rfl
              refine take_ (i := 13) (N := some 159) (v := ?_) (a' := ?_) #[true, true, true, true, true, true, true, true, true, true, true, true, true, true, true, true, false, false, false, false, false, false, false, false, false, false, false, false, false, false, false, false, false] rfl rfl (take_ofW HT_.out HW_.out (by kernel_rfl)) (fun _ _ _ h => h) (Or.inl ⟨by rfl, ?_⟩) hHeld ?_ ?_
              rotate_left
              ·rintro w' ⟨s0, s1, s2, s3, s4, s5, s6, s7, s8, s9, s10, s11, s12, s13, s14, s15, s16, s17, s18, s19, s20⟩
               go_simp
               with_reducible rfl
              rotate_left
              ·simp only [Act.put, zU, zV, zW, i64_w, i32_w]
               rfl
              refine pure_ (i := 16) (N := some 162) (v := ?_) (a' := ?_) #[true, true, true, true, true, true, true, true, true, true, true, true, true, true, true, true, true, false, false, false, false, false, false, false, false, false, false, false, false, false, false, false, false] rfl rfl (zX HT_.out (by kernel_rfl)) (fun _ _ _ h => h) (Or.inl ⟨by rfl, ?_⟩) ?_ ?_
              rotate_left
              ·intro w'
               go_simp
               with_reducible rfl
              rotate_left
              ·simp only [Act.put, zU, zV, zW, i64_w, i32_w]
               rfl
              refine take_ (i := 17) (N := some 163) (v := ?_) (a' := ?_) #[true, true, true, true, true, true, true, true, true, true, true, true, true, true, true, true, true, true, false, false, false, false, false, false, false, false, false, false, false, false, false, false, false] rfl rfl (take_ofW HT_.out HW_.out (by kernel_rfl)) (fun _ _ _ h => h) (Or.inl ⟨by rfl, ?_⟩) hHeld ?_ ?_
              rotate_left
              ·rintro w' ⟨s0, s1, s2, s3, s4, s5, s6, s7, s8, s9, s10, s11, s12, s13, s14, s15, s16, s17, s18, s19, s20⟩
               go_simp
               with_reducible rfl
              rotate_left
              ·simp only [Act.put, zU, zV, zW, i64_w, i32_w]
               rfl
              refine pure_ (i := 18) (N := some 164) (v := ?_) (a' := ?_) #[true, true, true, true, true, true, true, true, true, true, true, true, true, true, true, true, true, true, true, false, false, false, false, false, false, false, false, false, false, false, false, false, false] rfl rfl (zX HT_.out (by kernel_rfl)) (fun _ _ _ h => h) (Or.inl ⟨by rfl, ?_⟩) ?_ ?_
              rotate_left
              ·intro w'
               go_simp
               with_reducible rfl
              rotate_left
              ·simp only [Act.put, zU, zV, zW, i64_w, i32_w]
               rfl
              refine pure_ (i := 19) (N := some 165) (v := ?_) (a' := ?_) #[true, true, true, true, true, true, true, true, true, true, true, true, true, true, true, true, true, true, true, true, false, false, false, false, false, false, false, false, false, false, false, false, false] rfl rfl (zX HT_.out (by kernel_rfl)) (fun _ _ _ h => h) (Or.inl ⟨by rfl, ?_⟩) ?_ ?_
              rotate_left
              ·intro w'
               go_simp
               with_reducible rfl
              rotate_left
              ·simp only [Act.put, zU, zV, zW, i64_w, i32_w]
               rfl
              refine pure_ (i := 20) (N := some 166) (v := ?_) (a' := ?_) #[true, true, true, true, true, true, true, true, true, true, true, true, true, true, true, true, true, true, true, true, true, false, false, false, false, false, false, false, false, false, false, false, false] rfl rfl (zX HT_.out (by kernel_rfl)) (fun _ _ _ h => h) (Or.inl ⟨by rfl, ?_⟩) ?_ ?_
              rotate_left
              ·intro w'
               go_simp
               with_reducible rfl
              rotate_left
              ·simp only [Act.put, zU, zV, zW, i64_w, i32_w]
               rfl
              refine pure_ (i := 21) (N := some 167) (v := ?_) (a' := ?_) #[true, true, true, true, true, true, true, true, true, true, true, true, true, true, true, true, true, true, true, true, true, true, false, false, false, false, false, false, false, false, false, false, false] rfl rfl (zX HT_.out (by kernel_rfl)) (fun _ _ _ h => h) (Or.inl ⟨by rfl, ?_⟩) ?_ ?_
              rotate_left
              ·intro w'
               go_simp
               with_reducible rfl
              rotate_left
              ·simp only [Act.put, zU, zV, zW, i64_w, i32_w]
               rfl
              refine pure_ (i := 23) (N := some 169) (v := ?_) (a' := ?_) #[true, true, true, true, true, true, true, true, true, true, true, true, true, true, true, true, true, true, true, true, true, true, false, true, false, false, false, false, false, false, false, false, false] rfl rfl (zX HT_.out (by kernel_rfl)) (fun _ _ _ h => h) (Or.inl ⟨by rfl, ?_⟩) ?_ ?_
              rotate_left
              ·intro w'
               go_simp
               with_reducible rfl
              rotate_left
              ·simp only [Act.put, zU, zV, zW, i64_w, i32_w]
               rfl
              refine pure_ (i := 24) (N := some 170) (v := ?_) (a' := ?_) #[true, true, true, true, true, true, true, true, true, true, true, true, true, true, true, true, true, true, true, true, true, true, false, true, true, false, false, false, false, false, false, false, false] rfl rfl (zX HT_.out (by kernel_rfl)) (fun _ _ _ h => h) (Or.inl ⟨by rfl, ?_⟩) ?_ ?_
              rotate_left
              ·intro w'
               go_simp
               with_reducible rfl
              rotate_left
              ·simp only [Act.put, zU, zV, zW, i64_w, i32_w]
               rfl
              refine pure_ (i := 27) (N := some 173) (v := ?_) (a' := ?_) #[true, true, true, true, true, true, true, true, true, true, true, true, true, true, true, true, true, true, true, true, true, true, false, true, true, false, false, true, false, false, false, false, false] rfl rfl (zX HT_.out (by kernel_rfl)) (fun _ _ _ h => h) (Or.inl ⟨by rfl, ?_⟩) ?_ ?_
              rotate_left
              ·intro w'
               go_simp
               with_reducible rfl
              rotate_left
              ·simp only [Act.put, zU, zV, zW, i64_w, i32_w]
               rfl
              refine pure_ (i := 31) (N := some 8) (v := ?_) (a' := ?_) #[true, true, true, true, true, true, true, true, true, true, true, true, true, true, true, true, true, true, true, true, true, true, false, true, true, false, false, true, false, false, false, true, false] rfl rfl (zX HT_.out (by kernel_rfl)) (fun _ _ _ h => h) (Or.inl ⟨by rfl, ?_⟩) ?_ ?_
              rotate_left
              ·intro w'
               go_simp
               with_reducible rfl
              rotate_left
              ·simp only [Act.put, zU, zV, zW, i64_w, i32_w]
               rfl
              refine take_ (i := 22) (N := some 168) (v := ?_) (a' := ?_) #[true, true, true, true, true, true, true, true, true, true, true, true, true, true, true, true, true, true, true, true, true, true, true, true, true, false, false, true, false, false, false, true, false] rfl rfl (take_ofW HT_.out HW_.out (by kernel_rfl)) (fun _ _ _ h => h) (Or.inl ⟨by rfl, ?_⟩) hHeld ?_ ?_
              rotate_left
              ·rintro w' ⟨s0, s1, s2, s3, s4, s5, s6, s7, s8, s9, s10, s11, s12, s13, s14, s15, s16, s17, s18, s19, s20⟩
               go_simp
               with_reducible rfl
              rotate_left
              ·simp only [Act.put, zU, zV, zW, i64_w, i32_w]
               rfl
              refine pure_ (i := 25) (N := some 171) (v := ?_) (a' := ?_) #[true, true, true, true, true, true, true, true, true, true, true, true, true, true, true, true, true, true, true, true, true, true, true, true, true, true, false, true, false, false, false, true, false] rfl rfl (zX HT_.out (by kernel_rfl)) (fun _ _ _ h => h) (Or.inl ⟨by rfl, ?_⟩) ?_ ?_
              rotate_left
              ·intro w'
               go_simp
               with_reducible rfl
              rotate_left
              ·simp only [Act.put, zU, zV, zW, i64_w, i32_w]
               rfl
              refine take_ (i := 26) (N := some 172) (v := ?_) (a' := ?_) #[true, true, true, true, true, true, true, true, true, true, true, true, true, true, true, true, true, true, true, true, true, true, true, true, true, true, true, true, false, false, false, true, false] rfl rfl (take_ofW HT_.out HW_.out (by kernel_rfl)) (fun _ _ _ h => h) (Or.inl ⟨by rfl, ?_⟩) hHeld ?_ ?_
              rotate_left
              ·rintro w' ⟨s0, s1, s2, s3, s4, s5, s6, s7, s8, s9, s10, s11, s12, s13, s14, s15, s16, s17, s18, s19, s20⟩
               go_simp
               with_reducible rfl
              rotate_left
              ·simp only [Act.put, zU, zV, zW, i64_w, i32_w]
               rfl
              refine take_ (i := 28) (N := some 174) (v := ?_) (a' := ?_) #[true, true, true, true, true, true, true, true, true, true, true, true, true, true, true, true, true, true, true, true, true, true, true, true, true, true, true, true, true, false, false, true, false] rfl rfl (take_ofW HT_.out HW_.out (by kernel_rfl)) (fun _ _ _ h => h) (Or.inl ⟨by rfl, ?_⟩) hHeld ?_ ?_
              rotate_left
              ·rintro w' ⟨s0, s1, s2, s3, s4, s5, s6, s7, s8, s9, s10, s11, s12, s13, s14, s15, s16, s17, s18, s19, s20⟩
               go_simp
               with_reducible rfl
              rotate_left
              ·simp only [Act.put, zU, zV, zW, i64_w, i32_w]
               rfl
              refine pure_ (i := 29) (N := some 175) (v := ?_) (a' := ?_) #[true, true, true, true, true, true, true, true, true, true, true, true, true, true, true, true, true, true, true, true, true, true, true, true, true, true, true, true, true, true, false, true, false] rfl rfl (zX HT_.out (by kernel_rfl)) (fun _ _ _ h => h) (Or.inl ⟨by rfl, ?_⟩) ?_ ?_
              rotate_left
              ·intro w'
               go_simp
               with_reducible rfl
              rotate_left
              ·simp only [Act.put, zU, zV, zW, i64_w, i32_w]
               rfl
              refine pure_ (i := 30) (N := some 176) (v := ?_) (a' := ?_) #[true, true, true, true, true, true, true, true, true, true, true, true, true, true, true, true, true, true, true, true, true, true, true, true, true, true, true, true, true, true, true, true, false] rfl rfl (zX HT_.out (by kernel_rfl)) (fun _ _ _ h => h) (Or.inl ⟨by rfl, ?_⟩) ?_ ?_
              rotate_left
              ·intro w'
               go_simp
               with_reducible rfl
              rotate_left
              ·simp only [Act.put, zU, zV, zW, i64_w, i32_w]
               rfl
              refine pure_ (i := 32) (N := some 9) (v := ?_) (a' := ?_) #[true, true, true, true, true, true, true, true, true, true, true, true, true, true, true, true, true, true, true, true, true, true, true, true, true, true, true, true, true, true, true, true, true] rfl rfl (zX HT_.out (by kernel_rfl)) (fun _ _ _ h => h) (Or.inl ⟨by rfl, ?_⟩) ?_ ?_
              rotate_left
              ·intro w'
               go_simp
               with_reducible rfl
              rotate_left
              ·simp only [Act.put, zU, zV, zW, i64_w, i32_w]
               rfl
              refine done_ (done_of HT_.out (by kernel_rfl)) ?_
              try go_wp2
              go_ret2
              exact ⟨by first | rfl | (simp [errW_none, errW_some] <;> rfl) | (simp only [← hji191]; first | rfl | (simp [errW_none, errW_some] <;> rfl)) | (simp [*, errW_none, errW_some] <;> rfl), by repeat (first | (with_reducible first | exact HB.out | apply zI | apply zH | apply zJ | refine zQ ?_ ak.out | refine zQ ?_ am.out | refine zQ ?_ aq.out | refine zQ ?_ av.out) | exact HB.out)⟩
             rw [if_neg c194] at H
             have c194b0 : ((rd l1_1 (b7)) == 2) = false := beq_eq_false_iff_ne.mpr c194
             have c194b1 : ((rd l1_1 (b7)) != 2) = true := bne_iff_ne.mpr c194
             simp only [Option.some.injEq, Prod.mk.injEq] at H
             obtain ⟨rfl, rfl⟩ := H
             exact absurd hT_.out (by decide)
            rw [if_neg c193] at H
            exact absurd H (by simp)
           rw [if_neg c192] at H
           exact absurd H (by simp)
          rw [if_neg c190] at H
          have c190b0 : decide ((wrap64 (a3 + 1)) < (l1_0.length : Int)) = false := decide_eq_false c190
          clear c190
          simp only [Option.some.injEq, Prod.mk.injEq] at H
          obtain ⟨rfl, rfl⟩ := H
          exact absurd hT_.out (by decide)
         rw [if_neg c189] at H
         have c189b0 : (ae == ((rd_T40 l0 a2).f0) && (ag == ((rd_T40 l0 a2).f1) && (ah == ((rd_T40 l0 a2).f2) && (ai == ((rd_T40 l0 a2).f3))))) = false := by simpa using c189
         (try (have c189b1 : decide (ae = ((rd_T40 l0 a2).f0) && (ag == ((rd_T40 l0 a2).f1) && (ah == ((rd_T40 l0 a2).f2) && (ai == ((rd_T40 l0 a2).f3))))) = false := by simpa using c189))
         (try (have c189b2 : (ae == ((rd_T40 l0 a2).f0) && (ag == ((rd_T40 l0 a2).f1) && (ah == ((rd_T40 l0 a2).f2) && (ai == ((rd_T40 l0 a2).f3))))) = false := by simpa using c189))
         (try (have c189b3 : ¬ (ae = ((rd_T40 l0 a2).f0) && (ag == ((rd_T40 l0 a2).f1) && (ah == ((rd_T40 l0 a2).f2) && (ai == ((rd_T40 l0 a2).f3))))) := by simpa using c189))
         clear c189
         simp only [Option.some.injEq, Prod.mk.injEq] at H
         obtain ⟨rfl, rfl⟩ := H
         exact absurd hT_.out (by decide)
        rw [if_neg c188] at H
        have c188b0 : (((rd_T40 l0 a2).f0) == 2) = false := beq_eq_false_iff_ne.mpr c188
        have c188b1 : (((rd_T40 l0 a2).f0) != 2) = true := bne_iff_ne.mpr c188
        by_cases c215 : ((rd_T40 l0 a2).f0) = 42
        ·as_aux_lemma =>
         rw [if_pos c215] at H
         have c215b0 : (((rd_T40 l0 a2).f0) == 42) = true := beq_iff_eq.mpr c215
         have c215b1 : (((rd_T40 l0 a2).f0) != 42) = false := bne_eq_false_iff_eq.mpr c215
         clear c215
         replace H := Option.bind_eq_some_iff.mp H
         obtain ⟨t200, A2160, H⟩ := H
         replace H : (lineG.l0 kj46 l0 a3 t200 0 l1_0 l1_1 l1_2 a1_3 ((rd_T40 l0 a2).f0) ((rd_T40 l0 a2).f1) ((rd_T40 l0 a2).f2) ((rd_T40 l0 a2).f3) ((rd_T40 l0 a2).f4) ((rd_T40 l0 a2).f5) ((rd_T40 l0 a2).f6) ae ag ah ai ((rd_T40 l0 a2).f0) ((rd_T40 l0 a2).f1) ((rd_T40 l0 a2).f2) ((rd_T40 l0 a2).f3)) = some (r1, r2) := H
         have A216 := uZ A2160
         clear A2160
         have H' := uZ H
         clear H
         have hnb217 := ar.out
         have hnc217 := aj.out
         have hnb218 := al.out
         have hnc218 := ax.out
         have hnb219 := au.out
         have hnc219 := ay.out
         have hcz220_0 : wc.cell? ⟨a8, 0, none⟩ = some (.int .i64 ((rd_T40 l0 a2).f0)) := (zL a7.out 0).trans rfl
         have hcz220_1 : wc.cell? ⟨a8, 1, none⟩ = some (.int .i64 ((rd_T40 l0 a2).f1)) := (zL a7.out 1).trans rfl
         have hcz220_2 : wc.cell? ⟨a8, 2, none⟩ = some (.int .i64 ((rd_T40 l0 a2).f2)) := (zL a7.out 2).trans rfl
         have hcz220_3 : wc.cell? ⟨a8, 3, none⟩ = some (.int .i64 ((rd_T40 l0 a2).f3)) := (zL a7.out 3).trans rfl
         have hcz220_4 : wc.cell? ⟨a8, 4, none⟩ = some (.int .u32 ((rd_T40 l0 a2).f4)) := (zL a7.out 4).trans rfl
         have hcz220_5 : wc.cell? ⟨a8, 5, none⟩ = some (.int .i64 ((rd_T40 l0 a2).f5)) := (zL a7.out 5).trans rfl
         have hcz220_6 : wc.cell? ⟨a8, 6, none⟩ = some (.slice A175_6 ((rd_T40 l0 a2).f6).length c175_6) := (zL a7.out 6).trans rfl
         have hfz220_0 := zK a7.out 0
         have hfz220_1 := zK a7.out 1
         have hfz220_2 := zK a7.out 2
         have hfz220_3 := zK a7.out 3
         have hfz220_4 := zK a7.out 4
         have hfz220_5 := zK a7.out 5
         have hfz220_6 := zK a7.out 6
         have hnb221 := an.out
         have hnc221 := a_.out
         have hnb222 := b0.out
         have hnc222 := bk.out
         have hcz223_0 : wc.cell? ⟨ac, 0, none⟩ = some (.slice A1_0 l1_0.length c1_0) := (zL a9.out 0).trans rfl
         have hcz223_1 : wc.cell? ⟨ac, 1, none⟩ = some (.slice A1_1 l1_1.length c1_1) := (zL a9.out 1).trans rfl
         have hcz223_2 : wc.cell? ⟨ac, 2, none⟩ = some (.slice A1_2 l1_2.length c1_2) := (zL a9.out 2).trans rfl
         have hcz223_3 : wc.cell? ⟨ac, 3, none⟩ = some (.int .i64 a1_3) := (zL a9.out 3).trans rfl
         have hfz223_0 := zK a9.out 0
         have hfz223_1 := zK a9.out 1
         have hfz223_2 := zK a9.out 2
         have hfz223_3 := zK a9.out 3
         go_wp2_with (first | ((with_reducible refine gate_callee (f := 53) rfl ?_); refine goesL_ (some 187) rfl rfl Tryd.func53 (by kernel_rfl) rfl #[.agg #[.slice A1_0 l1_0.length c1_0, .slice A1_1 l1_1.length c1_1, .slice A1_2 l1_2.length c1_2, .int .i64 a1_3], .int .i64 (wrap64 (a3 + 1)), .int .i64 3, .int .i64 (((rd_T40 l0 a2).f6).length : Int)] rfl (by (try simp only [zY, List.map_cons, List.map_nil]); first | done | rfl | (simp only [zZ, yA]; rfl)) ?_; (with_reducible refine (switchbacklaw17_data.calls _ _ l1_0 _ _ l1_1 _ _ l1_2 a1_3 (wrap64 (a3 + 1)) 3 (((rd_T40 l0 a2).f6).length : Int) t200 _ ?side1 ?side2 ?side3 ?side4 ?side5 ?side6 A216.out).mono ?_); (case side1 => repeat (first | exact (zD bn.out HB.out) | (with_reducible refine zA ?_ _) | (with_reducible refine zB ?_ _) | (with_reducible refine zC ?_))); (case side2 => exact bp.out); (case side3 => repeat (first | exact (zD bo.out HB.out) | (with_reducible refine zA ?_ _) | (with_reducible refine zB ?_ _) | (with_reducible refine zC ?_))); (case side4 => exact bq.out); (case side5 => repeat (first | exact (zD br.out HB.out) | (with_reducible refine zA ?_ _) | (with_reducible refine zB ?_ _) | (with_reducible refine zC ?_))); (case side6 => exact bs.out); rintro e w224 ⟨rfl, hb⟩; refine ⟨_, rfl, ?_⟩; have n0_ := uZ (zO (g := ac) (o := .cells #[.slice A1_0 l1_0.length c1_0, .slice A1_1 l1_1.length c1_1, .slice A1_2 l1_2.length c1_2, .int .i64 a1_3] 27 (0, 0)) (uK a9.out) hb); have n1_ := uZ (zO (g := a8) (o := .cells #[.int .i64 ((rd_T40 l0 a2).f0), .int .i64 ((rd_T40 l0 a2).f1), .int .i64 ((rd_T40 l0 a2).f2), .int .i64 ((rd_T40 l0 a2).f3), .int .u32 ((rd_T40 l0 a2).f4), .int .i64 ((rd_T40 l0 a2).f5), .slice A175_6 ((rd_T40 l0 a2).f6).length c175_6] 40 (0, 0)) (uK a7.out) hb); have n2_ := uZ (zO (g := af) (o := .cells #[.int .i64 ae, .int .i64 ag, .int .i64 ah, .int .i64 ai] 44 (0, 0)) (uK aa.out) hb); have n3_ := uZ (zO (g := ao) (o := .cells #[.int .i64 ((rd_T40 l0 a2).f0), .int .i64 ((rd_T40 l0 a2).f1), .int .i64 ((rd_T40 l0 a2).f2), .int .i64 ((rd_T40 l0 a2).f3)] 44 (0, 0)) (uK ab.out) hb); have n4_ := uZ (zS (by repeat (first | (with_reducible first | exact HB.out | apply zI | apply zH | apply zJ | refine zQ ?_ ak.out | refine zQ ?_ am.out | refine zQ ?_ aq.out | refine zQ ?_ av.out) | exact HB.out)) hb); clear a9; clear a7; clear aa; clear ab; clear HB; have a9 := n0_; have a7 := n1_; have aa := n2_; have ab := n3_; have HB := n4_; clear n0_ n1_ n2_ n3_ n4_; (try clear hb); (try clear hb2); (try clear hk); (try clear hi)))
         go_loopg [19, 20] kj46 (fun kq v19 v20 w' => ∃ (x19_3 : Bool) (az : Int), v19 = .bool x19_3 ∧ v20 = .int .i64 az ∧ Aside0 (lineG.l0 kq l0 a3 x19_3 az l1_0 l1_1 l1_2 a1_3 ((rd_T40 l0 a2).f0) ((rd_T40 l0 a2).f1) ((rd_T40 l0 a2).f2) ((rd_T40 l0 a2).f3) ((rd_T40 l0 a2).f4) ((rd_T40 l0 a2).f5) ((rd_T40 l0 a2).f6) ae ag ah ai ((rd_T40 l0 a2).f0) ((rd_T40 l0 a2).f1) ((rd_T40 l0 a2).f2) ((rd_T40 l0 a2).f3) = some (r1, r2)) ∧ Aside0 (kq ≤ kj46) ∧ Aside0 (w'.heap[ac]? = some (.cells #[(.slice A1_0 l1_0.length c1_0), (.slice A1_1 l1_1.length c1_1), (.slice A1_2 l1_2.length c1_2), .int .i64 a1_3] 27 (0, 0))) ∧ Aside0 (w'.heap[a8]? = some (.cells #[.int .i64 ((rd_T40 l0 a2).f0), .int .i64 ((rd_T40 l0 a2).f1), .int .i64 ((rd_T40 l0 a2).f2), .int .i64 ((rd_T40 l0 a2).f3), .int .u32 ((rd_T40 l0 a2).f4), .int .i64 ((rd_T40 l0 a2).f5), (.slice A175_6 ((rd_T40 l0 a2).f6).length c175_6)] 40 (0, 0))) ∧ Aside0 (w'.heap[af]? = some (.cells #[.int .i64 ae, .int .i64 ag, .int .i64 ah, .int .i64 ai] 44 (0, 0))) ∧ Aside0 (w'.heap[ao]? = some (.cells #[.int .i64 ((rd_T40 l0 a2).f0), .int .i64 ((rd_T40 l0 a2).f1), .int .i64 ((rd_T40 l0 a2).f2), .int .i64 ((rd_T40 l0 a2).f3)] 44 (0, 0))) ∧ Aside0 (Below w.heap.size w w'))
         case atStart => exact ⟨(t200), (0), (by first | rfl | (simp; done) | (simp [*]; done)), (by first | rfl | (simp; done) | (simp [*]; done)), H', ⟨Nat.le_refl _⟩, ⟨uK a9.out⟩, ⟨uK a7.out⟩, ⟨uK aa.out⟩, ⟨uK ab.out⟩, ⟨by repeat (first | (with_reducible first | exact HB.out | apply zI | apply zH | apply zJ | refine zQ ?_ ak.out | refine zQ ?_ am.out | refine zQ ?_ aq.out | refine zQ ?_ av.out) | exact HB.out)⟩⟩
         case round =>
          clear H'
          try clear c1
          try clear c2
          try clear p2
          try clear c5
          try clear p6
          try clear c17
          try clear c18
          try clear c19
          try clear c20
          try clear c21
          try clear c22
          try clear c53
          try clear p64
          try clear c175
          try clear c188
          try clear c188b0
          try clear c188b1
          try clear c189
          try clear c189b0
          try clear c189b1
          try clear c189b2
          try clear c190
          try clear c190b0
          try clear c192
          try clear c193
          try clear c205
          try clear c206
          try clear c207
          try clear c210
          try clear c211
          try clear c212
          try clear c215
          try clear c215b0
          try clear c215b1
          try clear c217
          try clear c218
          try clear c219
          try clear c221
          try clear c222
          try clear hcz208_0
          try clear hcz208_1
          try clear hcz208_2
          try clear hcz208_3
          try clear hcz208_4
          try clear hcz208_5
          try clear hcz208_6
          try clear hcz213_0
          try clear hcz213_1
          try clear hcz213_2
          try clear hcz213_3
          try clear hcz213_4
          try clear hcz213_5
          try clear hcz213_6
          try clear hcz220_0
          try clear hcz220_1
          try clear hcz220_2
          try clear hcz220_3
          try clear hcz220_4
          try clear hcz220_5
          try clear hcz220_6
          try clear hcz223_0
          try clear hcz223_1
          try clear hcz223_2
          try clear hcz223_3
          try clear hfz208_0
          try clear hfz208_1
          try clear hfz208_2
          try clear hfz208_3
          try clear hfz208_4
          try clear hfz208_5
          try clear hfz208_6
          try clear hfz213_0
          try clear hfz213_1
          try clear hfz213_2
          try clear hfz213_3
          try clear hfz213_4
          try clear hfz213_5
          try clear hfz213_6
          try clear hfz220_0
          try clear hfz220_1
          try clear hfz220_2
          try clear hfz220_3
          try clear hfz220_4
          try clear hfz220_5
          try clear hfz220_6
          try clear hfz223_0
          try clear hfz223_1
          try clear hfz223_2
          try clear hfz223_3
          obtain ⟨x19_3, az, rfl, rfl, HA, HK3, a9, a7, aa, ab, HB⟩ := hrel
          cases gk with
          | zero => exact absurd HA.out (by simp [lineG.l0])
          | succ k3 =>
           have H := HA.out
           clear HA
           simp only [lineG.l0] at H
           have HC225 := uZ H
           clear H
           go_upto_region 27 with (fail)
           go_cut [195] (fun v195 wc => ∃ (kq : Nat) (c9 : Bool), v195 = .bool c9 ∧ Aside0 (lineG.j3 kq l0 a3 x19_3 az c9 l1_0 l1_1 l1_2 a1_3 ((rd_T40 l0 a2).f0) ((rd_T40 l0 a2).f1) ((rd_T40 l0 a2).f2) ((rd_T40 l0 a2).f3) ((rd_T40 l0 a2).f4) ((rd_T40 l0 a2).f5) ((rd_T40 l0 a2).f6) ae ag ah ai ((rd_T40 l0 a2).f0) ((rd_T40 l0 a2).f1) ((rd_T40 l0 a2).f2) ((rd_T40 l0 a2).f3) = some (r1, r2)) ∧ Aside0 (kq ≤ k3) ∧ Aside0 (wc.heap[ac]? = some (.cells #[(.slice A1_0 l1_0.length c1_0), (.slice A1_1 l1_1.length c1_1), (.slice A1_2 l1_2.length c1_2), .int .i64 a1_3] 27 (0, 0))) ∧ Aside0 (wc.heap[a8]? = some (.cells #[.int .i64 ((rd_T40 l0 a2).f0), .int .i64 ((rd_T40 l0 a2).f1), .int .i64 ((rd_T40 l0 a2).f2), .int .i64 ((rd_T40 l0 a2).f3), .int .u32 ((rd_T40 l0 a2).f4), .int .i64 ((rd_T40 l0 a2).f5), (.slice A175_6 ((rd_T40 l0 a2).f6).length c175_6)] 40 (0, 0))) ∧ Aside0 (wc.heap[af]? = some (.cells #[.int .i64 ae, .int .i64 ag, .int .i64 ah, .int .i64 ai] 44 (0, 0))) ∧ Aside0 (wc.heap[ao]? = some (.cells #[.int .i64 ((rd_T40 l0 a2).f0), .int .i64 ((rd_T40 l0 a2).f1), .int .i64 ((rd_T40 l0 a2).f2), .int .i64 ((rd_T40 l0 a2).f3)] 44 (0, 0))) ∧ Aside0 (Below w.heap.size w wc))
           case first =>
            have H := HC225.out
            clear HC225
            by_cases c226 : az < (((rd_T40 l0 a2).f6).length : Int)
            ·rw [if_pos c226] at H
             have c226b0 : decide (az < (((rd_T40 l0 a2).f6).length : Int)) = true := decide_eq_true c226
             clear c226
             (first | rw [c226b0] | (simp only [i64_w, i32_w]; rw [c226b0]) | skip)
             have H' := uZ H
             clear H
             have hnb227 := ar.out
             have hnc227 := aj.out
             have hnb228 := al.out
             have hnc228 := ax.out
             have hnb229 := au.out
             have hnc229 := ay.out
             have hcz230_0 : wr.cell? ⟨a8, 0, none⟩ = some (.int .i64 ((rd_T40 l0 a2).f0)) := (zL a7.out 0).trans rfl
             have hcz230_1 : wr.cell? ⟨a8, 1, none⟩ = some (.int .i64 ((rd_T40 l0 a2).f1)) := (zL a7.out 1).trans rfl
             have hcz230_2 : wr.cell? ⟨a8, 2, none⟩ = some (.int .i64 ((rd_T40 l0 a2).f2)) := (zL a7.out 2).trans rfl
             have hcz230_3 : wr.cell? ⟨a8, 3, none⟩ = some (.int .i64 ((rd_T40 l0 a2).f3)) := (zL a7.out 3).trans rfl
             have hcz230_4 : wr.cell? ⟨a8, 4, none⟩ = some (.int .u32 ((rd_T40 l0 a2).f4)) := (zL a7.out 4).trans rfl
             have hcz230_5 : wr.cell? ⟨a8, 5, none⟩ = some (.int .i64 ((rd_T40 l0 a2).f5)) := (zL a7.out 5).trans rfl
             have hcz230_6 : wr.cell? ⟨a8, 6, none⟩ = some (.slice A175_6 ((rd_T40 l0 a2).f6).length c175_6) := (zL a7.out 6).trans rfl
             have hfz230_0 := zK a7.out 0
             have hfz230_1 := zK a7.out 1
             have hfz230_2 := zK a7.out 2
             have hfz230_3 := zK a7.out 3
             have hfz230_4 := zK a7.out 4
             have hfz230_5 := zK a7.out 5
             have hfz230_6 := zK a7.out 6
             go_wp2
             go_meet
             case rel => exact ⟨_, (x19_3), (by first | rfl | (simp; done) | (simp [*]; done)), H', ⟨by have := HJ15.out; have := HJ46.out; have := HK3.out; first | omega | exact Nat.le_refl _⟩, ⟨uK a9.out⟩, ⟨uK a7.out⟩, ⟨uK aa.out⟩, ⟨uK ab.out⟩, ⟨by repeat (first | (with_reducible first | exact HB.out | apply zI | apply zH | apply zJ | refine zQ ?_ ak.out | refine zQ ?_ am.out | refine zQ ?_ aq.out | refine zQ ?_ av.out) | exact HB.out)⟩⟩
            rw [if_neg c226] at H
            have c226b0 : decide (az < (((rd_T40 l0 a2).f6).length : Int)) = false := decide_eq_false c226
            clear c226
            (first | rw [c226b0] | (simp only [i64_w, i32_w]; rw [c226b0]) | skip)
            have H' := uZ H
            clear H
            have hnb231 := ar.out
            have hnc231 := aj.out
            have hnb232 := al.out
            have hnc232 := ax.out
            have hnb233 := au.out
            have hnc233 := ay.out
            have hcz234_0 : wr.cell? ⟨a8, 0, none⟩ = some (.int .i64 ((rd_T40 l0 a2).f0)) := (zL a7.out 0).trans rfl
            have hcz234_1 : wr.cell? ⟨a8, 1, none⟩ = some (.int .i64 ((rd_T40 l0 a2).f1)) := (zL a7.out 1).trans rfl
            have hcz234_2 : wr.cell? ⟨a8, 2, none⟩ = some (.int .i64 ((rd_T40 l0 a2).f2)) := (zL a7.out 2).trans rfl
            have hcz234_3 : wr.cell? ⟨a8, 3, none⟩ = some (.int .i64 ((rd_T40 l0 a2).f3)) := (zL a7.out 3).trans rfl
            have hcz234_4 : wr.cell? ⟨a8, 4, none⟩ = some (.int .u32 ((rd_T40 l0 a2).f4)) := (zL a7.out 4).trans rfl
            have hcz234_5 : wr.cell? ⟨a8, 5, none⟩ = some (.int .i64 ((rd_T40 l0 a2).f5)) := (zL a7.out 5).trans rfl
            have hcz234_6 : wr.cell? ⟨a8, 6, none⟩ = some (.slice A175_6 ((rd_T40 l0 a2).f6).length c175_6) := (zL a7.out 6).trans rfl
            have hfz234_0 := zK a7.out 0
            have hfz234_1 := zK a7.out 1
            have hfz234_2 := zK a7.out 2
            have hfz234_3 := zK a7.out 3
            have hfz234_4 := zK a7.out 4
            have hfz234_5 := zK a7.out 5
            have hfz234_6 := zK a7.out 6
            go_wp2
            go_meet
            case rel => exact ⟨_, (false), (by first | rfl | (simp; done) | (simp [*]; done)), H', ⟨by have := HJ15.out; have := HJ46.out; have := HK3.out; first | omega | exact Nat.le_refl _⟩, ⟨uK a9.out⟩, ⟨uK a7.out⟩, ⟨uK aa.out⟩, ⟨uK ab.out⟩, ⟨by repeat (first | (with_reducible first | exact HB.out | apply zI | apply zH | apply zJ | refine zQ ?_ ak.out | refine zQ ?_ am.out | refine zQ ?_ aq.out | refine zQ ?_ av.out) | exact HB.out)⟩⟩
           case rest =>
            clear HC225
            try clear c1
            try clear c2
            try clear p2
            try clear c5
            try clear p6
            try clear c17
            try clear c18
            try clear c19
            try clear c20
            try clear c21
            try clear c22
            try clear c23
            try clear c53
            try clear p64
            try clear c175
            try clear c188
            try clear c188b0
            try clear c188b1
            try clear c189
            try clear c189b0
            try clear c189b1
            try clear c189b2
            try clear c190
            try clear c190b0
            try clear c192
            try clear c193
            try clear c205
            try clear c206
            try clear c207
            try clear c210
            try clear c211
            try clear c212
            try clear c215
            try clear c215b0
            try clear c215b1
            try clear c217
            try clear c218
            try clear c219
            try clear c221
            try clear c222
            try clear c226
            try clear c226b0
            try clear c227
            try clear c228
            try clear c229
            try clear c231
            try clear c232
            try clear c233
            try clear hcz208_0
            try clear hcz208_1
            try clear hcz208_2
            try clear hcz208_3
            try clear hcz208_4
            try clear hcz208_5
            try clear hcz208_6
            try clear hcz213_0
            try clear hcz213_1
            try clear hcz213_2
            try clear hcz213_3
            try clear hcz213_4
            try clear hcz213_5
            try clear hcz213_6
            try clear hcz220_0
            try clear hcz220_1
            try clear hcz220_2
            try clear hcz220_3
            try clear hcz220_4
            try clear hcz220_5
            try clear hcz220_6
            try clear hcz223_0
            try clear hcz223_1
            try clear hcz223_2
            try clear hcz223_3
            try clear hcz230_0
            try clear hcz230_1
            try clear hcz230_2
            try clear hcz230_3
            try clear hcz230_4
            try clear hcz230_5
            try clear hcz230_6
            try clear hcz234_0
            try clear hcz234_1
            try clear hcz234_2
            try clear hcz234_3
            try clear hcz234_4
            try clear hcz234_5
            try clear hcz234_6
            try clear hfz208_0
            try clear hfz208_1
            try clear hfz208_2
            try clear hfz208_3
            try clear hfz208_4
            try clear hfz208_5
            try clear hfz208_6
            try clear hfz213_0
            try clear hfz213_1
            try clear hfz213_2
            try clear hfz213_3
            try clear hfz213_4
            try clear hfz213_5
            try clear hfz213_6
            try clear hfz220_0
            try clear hfz220_1
            try clear hfz220_2
            try clear hfz220_3
            try clear hfz220_4
            try clear hfz220_5
            try clear hfz220_6
            try clear hfz223_0
            try clear hfz223_1
            try clear hfz223_2
            try clear hfz223_3
            try clear hfz230_0
            try clear hfz230_1
            try clear hfz230_2
            try clear hfz230_3
            try clear hfz230_4
            try clear hfz230_5
            try clear hfz230_6
            try clear hfz234_0
            try clear hfz234_1
            try clear hfz234_2
            try clear hfz234_3
            try clear hfz234_4
            try clear hfz234_5
            try clear hfz234_6
            try clear p2
            try clear p6
            try clear p64
            obtain ⟨kq, c9, rfl, HA, HJ224, a9, a7, aa, ab, HB⟩ := hcut
            cases kq with
            | zero => exact absurd HA.out (by simp [lineG.j3])
            | succ kj224 =>
             have H := HA.out
             clear HA
             simp only [lineG.j3] at H
             by_cases c235 : c9 = true
             ·subst c235
              have H1 : (if 0 ≤ az then (if az < (((rd_T40 l0 a2).f6).length : Int) then ((switchbacklaw17_at.f kj224 l0 l1_0 l1_1 l1_2 a1_3 (rd ((rd_T40 l0 a2).f6) az)).bind fun t202 => ((switchbacklaw17_data.f l1_0 l1_1 l1_2 a1_3 (wrap64 ((wrap64 (a3 + 2)) + az)) 3 t202).bind fun t203 => (lineG.l0 kj224 l0 a3 t203 (wrap64 (az + 1)) l1_0 l1_1 l1_2 a1_3 ((rd_T40 l0 a2).f0) ((rd_T40 l0 a2).f1) ((rd_T40 l0 a2).f2) ((rd_T40 l0 a2).f3) ((rd_T40 l0 a2).f4) ((rd_T40 l0 a2).f5) ((rd_T40 l0 a2).f6) ae ag ah ai ((rd_T40 l0 a2).f0) ((rd_T40 l0 a2).f1) ((rd_T40 l0 a2).f2) ((rd_T40 l0 a2).f3)))) else (none)) else (none)) = some (r1, r2) := by rw [if_pos rfl] at H; exact H
              clear H
              have H := H1
              clear H1
              by_cases c236 : 0 ≤ az
              ·rw [if_pos c236] at H
               have c236b0 : decide (0 ≤ az) = true := decide_eq_true c236
               clear c236
               by_cases c237 : az < (((rd_T40 l0 a2).f6).length : Int)
               ·rw [if_pos c237] at H
                have c237b0 : decide (az < (((rd_T40 l0 a2).f6).length : Int)) = true := decide_eq_true c237
                clear c237
                replace H := Option.bind_eq_some_iff.mp H
                obtain ⟨t202, A2380, H⟩ := H
                replace H : ((switchbacklaw17_data.f l1_0 l1_1 l1_2 a1_3 (wrap64 ((wrap64 (a3 + 2)) + az)) 3 t202).bind fun t203 => (lineG.l0 kj224 l0 a3 t203 (wrap64 (az + 1)) l1_0 l1_1 l1_2 a1_3 ((rd_T40 l0 a2).f0) ((rd_T40 l0 a2).f1) ((rd_T40 l0 a2).f2) ((rd_T40 l0 a2).f3) ((rd_T40 l0 a2).f4) ((rd_T40 l0 a2).f5) ((rd_T40 l0 a2).f6) ae ag ah ai ((rd_T40 l0 a2).f0) ((rd_T40 l0 a2).f1) ((rd_T40 l0 a2).f2) ((rd_T40 l0 a2).f3))) = some (r1, r2) := H
                have A238 := uZ A2380
                clear A2380
                replace H := Option.bind_eq_some_iff.mp H
                obtain ⟨t203, A2390, H⟩ := H
                replace H : (lineG.l0 kj224 l0 a3 t203 (wrap64 (az + 1)) l1_0 l1_1 l1_2 a1_3 ((rd_T40 l0 a2).f0) ((rd_T40 l0 a2).f1) ((rd_T40 l0 a2).f2) ((rd_T40 l0 a2).f3) ((rd_T40 l0 a2).f4) ((rd_T40 l0 a2).f5) ((rd_T40 l0 a2).f6) ae ag ah ai ((rd_T40 l0 a2).f0) ((rd_T40 l0 a2).f1) ((rd_T40 l0 a2).f2) ((rd_T40 l0 a2).f3)) = some (r1, r2) := H
                have A239 := uZ A2390
                clear A2390
                have H' := uZ H
                clear H
                try go_wp2
                have n0_ := uZ (zF a9.out)
                have n1_ := uZ (zF a7.out)
                have n2_ := uZ (zF aa.out)
                have n3_ := uZ (zF ab.out)
                have n4_ := uZ (zJ HB.out)
                clear a9
                clear a7
                clear aa
                clear ab
                clear HB
                have a9 := n0_
                have a7 := n1_
                have aa := n2_
                have ab := n3_
                have HB := n4_
                clear n0_ n1_ n2_ n3_ n4_
                have p201 : 0 ≤ (az : Int) := uA
                have q201 : az < (((rd_T40 l0 a2).f6).length : Int) := uA
                obtain ⟨ad201, e201, ca⟩ := Kd.at_int bx.out az p201 q201
                have hw201_0 := ca
                cases e201
                replace ca := (HB.out.cell (zT w _ ca)).trans ca
                replace p201 := eq_true p201
                replace q201 := eq_true q201
                refine start_ (n := 15) (S := fun w' => w'.cell? ⟨ac, 0, none⟩ = some (.slice A1_0 l1_0.length c1_0) ∧ w'.cell? ⟨ac, 1, none⟩ = some (.slice A1_1 l1_1.length c1_1) ∧ w'.cell? ⟨ac, 2, none⟩ = some (.slice A1_2 l1_2.length c1_2) ∧ w'.cell? ⟨ac, 3, none⟩ = some (.int .i64 a1_3) ∧ w'.cell? ⟨a8, 0, none⟩ = some (.int .i64 ((rd_T40 l0 a2).f0)) ∧ w'.cell? ⟨a8, 1, none⟩ = some (.int .i64 ((rd_T40 l0 a2).f1)) ∧ w'.cell? ⟨a8, 2, none⟩ = some (.int .i64 ((rd_T40 l0 a2).f2)) ∧ w'.cell? ⟨a8, 3, none⟩ = some (.int .i64 ((rd_T40 l0 a2).f3)) ∧ w'.cell? ⟨a8, 4, none⟩ = some (.int .u32 ((rd_T40 l0 a2).f4)) ∧ w'.cell? ⟨a8, 5, none⟩ = some (.int .i64 ((rd_T40 l0 a2).f5)) ∧ w'.cell? ⟨a8, 6, none⟩ = some (.slice (some ad201) ((rd_T40 l0 a2).f6).length c175_6) ∧ w'.cell? (ad201.add (az).toNat) = some (.int .i64 (rd ((rd_T40 l0 a2).f6) az))) (ds := []) #[false, false, false, false, false, false, false, false, false, false, false, false, false, false, false] (by kernel_rfl) rfl rfl ⟨(zL a9.out 0).trans rfl, (zL a9.out 1).trans rfl, (zL a9.out 2).trans rfl, (zL a9.out 3).trans rfl, (zL a7.out 0).trans rfl, (zL a7.out 1).trans rfl, (zL a7.out 2).trans rfl, (zL a7.out 3).trans rfl, (zL a7.out 4).trans rfl, (zL a7.out 5).trans rfl, (zL a7.out 6).trans rfl, ((HB.out.cell (zT w _ hw201_0)).trans hw201_0)⟩ (fun hHeld => ?_); refine with_tabW lineG.tab29 lineG.bits29 (fun HT_ HW_ => ?_)
                generalize wc.drew = w240 at a9 a7 aa ab HB ca hHeld ⊢
                refine pure_ (i := 1) (N := some 199) (v := ?_) (a' := ?_) #[false, true, false, false, false, false, false, false, false, false, false, false, false, false, false] rfl rfl (zX HT_.out (by kernel_rfl)) (fun _ _ _ h => h) (Or.inl ⟨by rfl, ?_⟩) ?_ ?_
                rotate_left
                ·intro w'
                 go_simp
                 with_reducible rfl
                rotate_left
                ·simp only [Act.put, zU, zV, zW, i64_w, i32_w]
                 rfl
                refine pure_ (i := 2) (N := some 200) (v := ?_) (a' := ?_) #[false, true, true, false, false, false, false, false, false, false, false, false, false, false, false] rfl rfl (zX HT_.out (by kernel_rfl)) (fun _ _ _ h => h) (Or.inl ⟨by rfl, ?_⟩) ?_ ?_
                rotate_left
                ·intro w'
                 go_simp
                 with_reducible rfl
                rotate_left
                ·simp only [Act.put, zU, zV, zW, i64_w, i32_w]
                 rfl
                refine pure_ (i := 3) (N := some 201) (v := ?_) (a' := ?_) #[false, true, true, true, false, false, false, false, false, false, false, false, false, false, false] rfl rfl (zX HT_.out (by kernel_rfl)) (fun _ _ _ h => h) (Or.inl ⟨by rfl, ?_⟩) ?_ ?_
                rotate_left
                ·intro w'
                 go_simp
                 with_reducible rfl
                rotate_left
                ·simp only [Act.put, zU, zV, zW, i64_w, i32_w]
                 rfl
                refine pure_ (i := 4) (N := some 202) (v := ?_) (a' := ?_) #[false, true, true, true, true, false, false, false, false, false, false, false, false, false, false] rfl rfl (zX HT_.out (by kernel_rfl)) (fun _ _ _ h => h) (Or.inl ⟨by rfl, ?_⟩) ?_ ?_
                rotate_left
                ·intro w'
                 go_simp
                 with_reducible rfl
                rotate_left
                ·simp only [Act.put, zU, zV, zW, i64_w, i32_w]
                 rfl
                refine pure_ (i := 5) (N := some 203) (v := ?_) (a' := ?_) #[false, true, true, true, true, true, false, false, false, false, false, false, false, false, false] rfl rfl (zX HT_.out (by kernel_rfl)) (fun _ _ _ h => h) (Or.inl ⟨by rfl, ?_⟩) ?_ ?_
                rotate_left
                ·intro w'
                 go_simp
                 with_reducible rfl
                rotate_left
                ·simp only [Act.put, zU, zV, zW, i64_w, i32_w]
                 rfl
                refine pure_ (i := 7) (N := some 205) (v := ?_) (a' := ?_) #[false, true, true, true, true, true, false, true, false, false, false, false, false, false, false] rfl rfl (zX HT_.out (by kernel_rfl)) (fun _ _ _ h => h) (Or.inl ⟨by rfl, ?_⟩) ?_ ?_
                rotate_left
                ·intro w'
                 go_simp
                 with_reducible rfl
                rotate_left
                ·simp only [Act.put, zU, zV, zW, i64_w, i32_w]
                 rfl
                refine pure_ (i := 9) (N := some 207) (v := ?_) (a' := ?_) #[false, true, true, true, true, true, false, true, false, true, false, false, false, false, false] rfl rfl (zX HT_.out (by kernel_rfl)) (fun _ _ _ h => h) (Or.inl ⟨by rfl, ?_⟩) ?_ ?_
                rotate_left
                ·intro w'
                 go_simp
                 with_reducible rfl
                rotate_left
                ·simp only [Act.put, zU, zV, zW, i64_w, i32_w]
                 rfl
                refine take_ (i := 0) (N := some 198) (v := ?_) (a' := ?_) #[true, true, true, true, true, true, false, true, false, true, false, false, false, false, false] rfl rfl (take_ofW HT_.out HW_.out (by kernel_rfl)) (fun _ _ _ h => h) (Or.inl ⟨by rfl, ?_⟩) hHeld ?_ ?_
                rotate_left
                ·rintro w' ⟨s0, s1, s2, s3, s4, s5, s6, s7, s8, s9, s10, s11⟩
                 go_simp
                 with_reducible rfl
                rotate_left
                ·simp only [Act.put, zU, zV, zW, i64_w, i32_w]
                 rfl
                refine take_ (i := 6) (N := some 204) (v := ?_) (a' := ?_) #[true, true, true, true, true, true, true, true, false, true, false, false, false, false, false] rfl rfl (take_ofW HT_.out HW_.out (by kernel_rfl)) (fun _ _ _ h => h) (Or.inl ⟨by rfl, ?_⟩) hHeld ?_ ?_
                rotate_left
                ·rintro w' ⟨s0, s1, s2, s3, s4, s5, s6, s7, s8, s9, s10, s11⟩
                 go_simp
                 with_reducible rfl
                rotate_left
                ·simp only [Act.put, zU, zV, zW, i64_w, i32_w]
                 rfl
                refine take_ (i := 8) (N := some 206) (v := ?_) (a' := ?_) #[true, true, true, true, true, true, true, true, true, true, false, false, false, false, false] rfl rfl (take_ofW HT_.out HW_.out (by kernel_rfl)) (fun _ _ _ h => h) (Or.inl ⟨by rfl, ?_⟩) hHeld ?_ ?_
                rotate_left
                ·rintro w' ⟨s0, s1, s2, s3, s4, s5, s6, s7, s8, s9, s10, s11⟩
                 go_simp
                 with_reducible rfl
                rotate_left
                ·simp only [Act.put, zU, zV, zW, i64_w, i32_w]
                 rfl
                refine pure_ (i := 10) (N := some 208) (v := ?_) (a' := ?_) #[true, true, true, true, true, true, true, true, true, true, true, false, false, false, false] rfl rfl (zX HT_.out (by kernel_rfl)) (fun _ _ _ h => h) (Or.inl ⟨by rfl, ?_⟩) ?_ ?_
                rotate_left
                ·intro w'
                 go_simp
                 with_reducible rfl
                rotate_left
                ·simp only [Act.put, zU, zV, zW, i64_w, i32_w]
                 rfl
                refine take_ (i := 11) (N := some 209) (v := ?_) (a' := ?_) #[true, true, true, true, true, true, true, true, true, true, true, true, false, false, false] rfl rfl (take_ofW HT_.out HW_.out (by kernel_rfl)) (fun _ _ _ h => h) (Or.inl ⟨by rfl, ?_⟩) hHeld ?_ ?_
                rotate_left
                ·rintro w' ⟨s0, s1, s2, s3, s4, s5, s6, s7, s8, s9, s10, s11⟩
                 go_simp
                 with_reducible rfl
                rotate_left
                ·simp only [Act.put, zU, zV, zW, i64_w, i32_w]
                 rfl
                refine one_ (i := 12) (N := some 210) #[true, true, true, true, true, true, true, true, true, true, true, true, true, false, false] rfl rfl (one_of HT_.out (by kernel_rfl)) (by decide) (fun K hK => ?_)
                refine goes_ Tryd.func52 (by kernel_rfl) rfl #[.slice (some ad175) l0.length c0, .agg #[.slice A1_0 l1_0.length c1_0, .slice A1_1 l1_1.length c1_1, .slice A1_2 l1_2.length c1_2, .int .i64 a1_3], .int .i64 (rd ((rd_T40 l0 a2).f6) az)] (by rfl) rfl rfl (by (try simp only [zY, List.map_cons, List.map_nil]); first | done | rfl | (simp only [zZ, yA]; rfl)) ?_
                with_reducible refine (switchbacklaw17_at.calls kj224 _ _ l0 _ _ l1_0 _ _ l1_1 _ _ l1_2 a1_3 (rd ((rd_T40 l0 a2).f6) az) t202 _ ?side1 ?side2 ?side3 ?side4 ?side5 ?side6 ?side7 ?side8 A238.out).mono ?_
                (case side1 => repeat (first | exact (zD HR0.out HB.out) | (with_reducible refine zA ?_ _) | (with_reducible refine zB ?_ _) | (with_reducible refine zC ?_)))
                (case side2 => exact HC0.out)
                (case side3 => repeat (first | exact (zD bn.out HB.out) | (with_reducible refine zA ?_ _) | (with_reducible refine zB ?_ _) | (with_reducible refine zC ?_)))
                (case side4 => exact bp.out)
                (case side5 => repeat (first | exact (zD bo.out HB.out) | (with_reducible refine zA ?_ _) | (with_reducible refine zB ?_ _) | (with_reducible refine zC ?_)))
                (case side6 => exact bq.out)
                (case side7 => repeat (first | exact (zD br.out HB.out) | (with_reducible refine zA ?_ _) | (with_reducible refine zB ?_ _) | (with_reducible refine zC ?_)))
                (case side8 => exact bs.out)
                rintro e w241 ⟨rfl, hb⟩
                refine ⟨_, rfl, ?_⟩
                have n0_ := uZ (zO (g := ac) (o := .cells #[.slice A1_0 l1_0.length c1_0, .slice A1_1 l1_1.length c1_1, .slice A1_2 l1_2.length c1_2, .int .i64 a1_3] 27 (0, 0)) (uK a9.out) hb)
                have n1_ := uZ (zO (g := a8) (o := .cells #[.int .i64 ((rd_T40 l0 a2).f0), .int .i64 ((rd_T40 l0 a2).f1), .int .i64 ((rd_T40 l0 a2).f2), .int .i64 ((rd_T40 l0 a2).f3), .int .u32 ((rd_T40 l0 a2).f4), .int .i64 ((rd_T40 l0 a2).f5), .slice (some ad201) ((rd_T40 l0 a2).f6).length c175_6] 40 (0, 0)) (uK a7.out) hb)
                have n2_ := uZ (zO (g := af) (o := .cells #[.int .i64 ae, .int .i64 ag, .int .i64 ah, .int .i64 ai] 44 (0, 0)) (uK aa.out) hb)
                have n3_ := uZ (zO (g := ao) (o := .cells #[.int .i64 ((rd_T40 l0 a2).f0), .int .i64 ((rd_T40 l0 a2).f1), .int .i64 ((rd_T40 l0 a2).f2), .int .i64 ((rd_T40 l0 a2).f3)] 44 (0, 0)) (uK ab.out) hb)
                have n4_ := uZ (zS (by repeat (first | (with_reducible first | exact HB.out | apply zI | apply zH | apply zJ | refine zQ ?_ ak.out | refine zQ ?_ am.out | refine zQ ?_ aq.out | refine zQ ?_ av.out) | exact HB.out)) hb)
                clear a9
                clear a7
                clear aa
                clear ab
                clear HB
                have a9 := n0_
                have a7 := n1_
                have aa := n2_
                have ab := n3_
                have HB := n4_
                clear n0_ n1_ n2_ n3_ n4_
                (try clear hb)
                (try clear hb2)
                (try clear hk)
                (try clear hi)
                refine hK.out _ _ ⟨(zL a9.out 0).trans rfl, (zL a9.out 1).trans rfl, (zL a9.out 2).trans rfl, (zL a9.out 3).trans rfl, (zL a7.out 0).trans rfl, (zL a7.out 1).trans rfl, (zL a7.out 2).trans rfl, (zL a7.out 3).trans rfl, (zL a7.out 4).trans rfl, (zL a7.out 5).trans rfl, (zL a7.out 6).trans rfl, ((HB.out.cell (zT w _ hw201_0)).trans hw201_0)⟩ (fun hHeld => ?_)
                clear hK K
                refine norm_ (a' := ?_) ?_ ?_
                rotate_left
                ·show Act.put _ (some 210) _ = _
                 simp only [Act.put, zU, zV, zW, i64_w, i32_w]
                 rfl
                refine one_ (i := 13) (N := some 211) #[true, true, true, true, true, true, true, true, true, true, true, true, true, true, false] rfl rfl (one_of HT_.out (by kernel_rfl)) (by decide) (fun K hK => ?_)
                refine goes_ Tryd.func53 (by kernel_rfl) rfl #[.agg #[.slice A1_0 l1_0.length c1_0, .slice A1_1 l1_1.length c1_1, .slice A1_2 l1_2.length c1_2, .int .i64 a1_3], .int .i64 (wrap64 ((wrap64 (a3 + 2)) + az)), .int .i64 3, .int .i64 t202] (by rfl) rfl rfl (by (try simp only [zY, List.map_cons, List.map_nil]); first | done | rfl | (simp only [zZ, yA]; rfl)) ?_
                with_reducible refine (switchbacklaw17_data.calls _ _ l1_0 _ _ l1_1 _ _ l1_2 a1_3 (wrap64 ((wrap64 (a3 + 2)) + az)) 3 t202 t203 _ ?side1 ?side2 ?side3 ?side4 ?side5 ?side6 A239.out).mono ?_
                (case side1 => repeat (first | exact (zD bn.out HB.out) | (with_reducible refine zA ?_ _) | (with_reducible refine zB ?_ _) | (with_reducible refine zC ?_)))
                (case side2 => exact bp.out)
                (case side3 => repeat (first | exact (zD bo.out HB.out) | (with_reducible refine zA ?_ _) | (with_reducible refine zB ?_ _) | (with_reducible refine zC ?_)))
                (case side4 => exact bq.out)
                (case side5 => repeat (first | exact (zD br.out HB.out) | (with_reducible refine zA ?_ _) | (with_reducible refine zB ?_ _) | (with_reducible refine zC ?_)))
                (case side6 => exact bs.out)
                rintro e w242 ⟨rfl, hb⟩
                refine ⟨_, rfl, ?_⟩
                have n0_ := uZ (zO (g := ac) (o := .cells #[.slice A1_0 l1_0.length c1_0, .slice A1_1 l1_1.length c1_1, .slice A1_2 l1_2.length c1_2, .int .i64 a1_3] 27 (0, 0)) (uK a9.out) hb)
                have n1_ := uZ (zO (g := a8) (o := .cells #[.int .i64 ((rd_T40 l0 a2).f0), .int .i64 ((rd_T40 l0 a2).f1), .int .i64 ((rd_T40 l0 a2).f2), .int .i64 ((rd_T40 l0 a2).f3), .int .u32 ((rd_T40 l0 a2).f4), .int .i64 ((rd_T40 l0 a2).f5), .slice (some ad201) ((rd_T40 l0 a2).f6).length c175_6] 40 (0, 0)) (uK a7.out) hb)
                have n2_ := uZ (zO (g := af) (o := .cells #[.int .i64 ae, .int .i64 ag, .int .i64 ah, .int .i64 ai] 44 (0, 0)) (uK aa.out) hb)
                have n3_ := uZ (zO (g := ao) (o := .cells #[.int .i64 ((rd_T40 l0 a2).f0), .int .i64 ((rd_T40 l0 a2).f1), .int .i64 ((rd_T40 l0 a2).f2), .int .i64 ((rd_T40 l0 a2).f3)] 44 (0, 0)) (uK ab.out) hb)
                have n4_ := uZ (zS (by repeat (first | (with_reducible first | exact HB.out | apply zI | apply zH | apply zJ | refine zQ ?_ ak.out | refine zQ ?_ am.out | refine zQ ?_ aq.out | refine zQ ?_ av.out) | exact HB.out)) hb)
                clear a9
                clear a7
                clear aa
                clear ab
                clear HB
                have a9 := n0_
                have a7 := n1_
                have aa := n2_
                have ab := n3_
                have HB := n4_
                clear n0_ n1_ n2_ n3_ n4_
                (try clear hb)
                (try clear hb2)
                (try clear hk)
                (try clear hi)
                refine hK.out _ _ ⟨(zL a9.out 0).trans rfl, (zL a9.out 1).trans rfl, (zL a9.out 2).trans rfl, (zL a9.out 3).trans rfl, (zL a7.out 0).trans rfl, (zL a7.out 1).trans rfl, (zL a7.out 2).trans rfl, (zL a7.out 3).trans rfl, (zL a7.out 4).trans rfl, (zL a7.out 5).trans rfl, (zL a7.out 6).trans rfl, ((HB.out.cell (zT w _ hw201_0)).trans hw201_0)⟩ (fun hHeld => ?_)
                clear hK K
                refine norm_ (a' := ?_) ?_ ?_
                rotate_left
                ·show Act.put _ (some 211) _ = _
                 simp only [Act.put, zU, zV, zW, i64_w, i32_w]
                 rfl
                refine pure_ (i := 14) (N := some 19) (v := ?_) (a' := ?_) #[true, true, true, true, true, true, true, true, true, true, true, true, true, true, true] rfl rfl (zX HT_.out (by kernel_rfl)) (fun _ _ _ h => h) (Or.inl ⟨by rfl, ?_⟩) ?_ ?_
                rotate_left
                ·intro w'
                 go_simp
                 with_reducible rfl
                rotate_left
                ·simp only [Act.put, zU, zV, zW, i64_w, i32_w]
                 rfl
                refine done_ (done_of HT_.out (by kernel_rfl)) ?_
                try go_wp2
                go_roundg kj224
                case measure => have := HJ15.out; have := HJ46.out; have := HK3.out; have := HJ224.out; omega
                case rel => exact ⟨(t203), (wrap64 (az + 1)), (by first | rfl | (simp; done) | (simp [*]; done)), (by first | rfl | (simp; done) | (simp [*]; done)), H', ⟨by have := HJ15.out; have := HJ46.out; have := HK3.out; have := HJ224.out; omega⟩, ⟨uK a9.out⟩, ⟨uK a7.out⟩, ⟨uK aa.out⟩, ⟨uK ab.out⟩, ⟨by repeat (first | (with_reducible first | exact HB.out | apply zI | apply zH | apply zJ | refine zQ ?_ ak.out | refine zQ ?_ am.out | refine zQ ?_ aq.out | refine zQ ?_ av.out) | exact HB.out)⟩⟩
               rw [if_neg c237] at H
               exact absurd H (by simp)
              rw [if_neg c236] at H
              exact absurd H (by simp)
             replace c235 := Bool.eq_false_iff.mpr c235
             subst c235
             have H1 : (if (ae == ((rd_T40 l0 a2).f0) && (ag == ((rd_T40 l0 a2).f1) && (ah == ((rd_T40 l0 a2).f2) && (ai == ((rd_T40 l0 a2).f3))))) = true then (some (wrap64 (2 + (((rd_T40 l0 a2).f6).length : Int)), x19_3)) else (some (wrap64 (2 + (((rd_T40 l0 a2).f6).length : Int)), false))) = some (r1, r2) := by rw [if_neg (show ¬ (false = true) by decide)] at H; exact H
             clear H
             have H := H1
             clear H1
             by_cases c243 : (ae == ((rd_T40 l0 a2).f0) && (ag == ((rd_T40 l0 a2).f1) && (ah == ((rd_T40 l0 a2).f2) && (ai == ((rd_T40 l0 a2).f3))))) = true
             ·rw [if_pos c243] at H
              have c243b0 : (ae == ((rd_T40 l0 a2).f0) && (ag == ((rd_T40 l0 a2).f1) && (ah == ((rd_T40 l0 a2).f2) && (ai == ((rd_T40 l0 a2).f3))))) = true := c243
              (try (have c243b1 : decide (ae = ((rd_T40 l0 a2).f0) && (ag == ((rd_T40 l0 a2).f1) && (ah == ((rd_T40 l0 a2).f2) && (ai == ((rd_T40 l0 a2).f3))))) = true := by simpa using c243))
              (try (have c243b2 : (ae == ((rd_T40 l0 a2).f0) && (ag == ((rd_T40 l0 a2).f1) && (ah == ((rd_T40 l0 a2).f2) && (ai == ((rd_T40 l0 a2).f3))))) = true := by simpa using c243))
              clear c243
              simp only [Option.some.injEq, Prod.mk.injEq] at H
              obtain ⟨rfl, rfl⟩ := H
              try go_wp2
              have n0_ := uZ (zF a9.out)
              have n1_ := uZ (zF a7.out)
              have n2_ := uZ (zF aa.out)
              have n3_ := uZ (zF ab.out)
              have n4_ := uZ (zJ HB.out)
              clear a9
              clear a7
              clear aa
              clear ab
              clear HB
              have a9 := n0_
              have a7 := n1_
              have aa := n2_
              have ab := n3_
              have HB := n4_
              clear n0_ n1_ n2_ n3_ n4_
              refine start_ (n := 12) (S := fun w' => w'.cell? ⟨a8, 0, none⟩ = some (.int .i64 ((rd_T40 l0 a2).f0)) ∧ w'.cell? ⟨a8, 1, none⟩ = some (.int .i64 ((rd_T40 l0 a2).f1)) ∧ w'.cell? ⟨a8, 2, none⟩ = some (.int .i64 ((rd_T40 l0 a2).f2)) ∧ w'.cell? ⟨a8, 3, none⟩ = some (.int .i64 ((rd_T40 l0 a2).f3)) ∧ w'.cell? ⟨a8, 4, none⟩ = some (.int .u32 ((rd_T40 l0 a2).f4)) ∧ w'.cell? ⟨a8, 5, none⟩ = some (.int .i64 ((rd_T40 l0 a2).f5)) ∧ w'.cell? ⟨a8, 6, none⟩ = some (.slice A175_6 ((rd_T40 l0 a2).f6).length c175_6) ∧ w'.cell? ⟨af, 0, none⟩ = some (.int .i64 ae) ∧ w'.cell? ⟨af, 1, none⟩ = some (.int .i64 ag) ∧ w'.cell? ⟨af, 2, none⟩ = some (.int .i64 ah) ∧ w'.cell? ⟨af, 3, none⟩ = some (.int .i64 ai) ∧ w'.cell? ⟨ao, 0, none⟩ = some (.int .i64 ((rd_T40 l0 a2).f0)) ∧ w'.cell? ⟨ao, 1, none⟩ = some (.int .i64 ((rd_T40 l0 a2).f1)) ∧ w'.cell? ⟨ao, 2, none⟩ = some (.int .i64 ((rd_T40 l0 a2).f2)) ∧ w'.cell? ⟨ao, 3, none⟩ = some (.int .i64 ((rd_T40 l0 a2).f3))) (ds := []) #[false, false, false, false, false, false, false, false, false, false, false, false] (by kernel_rfl) rfl rfl ⟨(zL a7.out 0).trans rfl, (zL a7.out 1).trans rfl, (zL a7.out 2).trans rfl, (zL a7.out 3).trans rfl, (zL a7.out 4).trans rfl, (zL a7.out 5).trans rfl, (zL a7.out 6).trans rfl, (zL aa.out 0).trans rfl, (zL aa.out 1).trans rfl, (zL aa.out 2).trans rfl, (zL aa.out 3).trans rfl, (zL ab.out 0).trans rfl, (zL ab.out 1).trans rfl, (zL ab.out 2).trans rfl, (zL ab.out 3).trans rfl⟩ (fun hHeld => ?_); refine with_tabW lineG.tab30 lineG.bits30 (fun HT_ HW_ => ?_)
              generalize wc.drew = w244 at a9 a7 aa ab HB hHeld ⊢
              refine pure_ (i := 0) (N := some 212) (v := ?_) (a' := ?_) #[true, false, false, false, false, false, false, false, false, false, false, false] rfl rfl (zX HT_.out (by kernel_rfl)) (fun _ _ _ h => h) (Or.inl ⟨by rfl, ?_⟩) ?_ ?_
              rotate_left
              ·intro w'
               go_simp
               with_reducible rfl
              rotate_left
              ·simp only [Act.put, zU, zV, zW, i64_w, i32_w]
               rfl
              refine take_ (i := 1) (N := some 213) (v := ?_) (a' := ?_) #[true, true, false, false, false, false, false, false, false, false, false, false] rfl rfl (take_ofW HT_.out HW_.out (by kernel_rfl)) (fun _ _ _ h => h) (Or.inl ⟨by rfl, ?_⟩) hHeld ?_ ?_
              rotate_left
              ·rintro w' ⟨s0, s1, s2, s3, s4, s5, s6, s7, s8, s9, s10, s11, s12, s13, s14⟩
               go_simp
               with_reducible rfl
              rotate_left
              ·simp only [Act.put, zU, zV, zW, i64_w, i32_w]
               rfl
              refine pure_ (i := 2) (N := some 214) (v := ?_) (a' := ?_) #[true, true, true, false, false, false, false, false, false, false, false, false] rfl rfl (zX HT_.out (by kernel_rfl)) (fun _ _ _ h => h) (Or.inl ⟨by rfl, ?_⟩) ?_ ?_
              rotate_left
              ·intro w'
               go_simp
               with_reducible rfl
              rotate_left
              ·simp only [Act.put, zU, zV, zW, i64_w, i32_w]
               rfl
              refine pure_ (i := 3) (N := some 215) (v := ?_) (a' := ?_) #[true, true, true, true, false, false, false, false, false, false, false, false] rfl rfl (zX HT_.out (by kernel_rfl)) (fun _ _ _ h => h) (Or.inl ⟨by rfl, ?_⟩) ?_ ?_
              rotate_left
              ·intro w'
               go_simp
               with_reducible rfl
              rotate_left
              ·simp only [Act.put, zU, zV, zW, i64_w, i32_w]
               rfl
              refine take_ (i := 4) (N := some 216) (v := ?_) (a' := ?_) #[true, true, true, true, true, false, false, false, false, false, false, false] rfl rfl (take_ofW HT_.out HW_.out (by kernel_rfl)) (fun _ _ _ h => h) (Or.inl ⟨by rfl, ?_⟩) hHeld ?_ ?_
              rotate_left
              ·rintro w' ⟨s0, s1, s2, s3, s4, s5, s6, s7, s8, s9, s10, s11, s12, s13, s14⟩
               go_simp
               with_reducible rfl
              rotate_left
              ·simp only [Act.put, zU, zV, zW, i64_w, i32_w]
               rfl
              refine take_ (i := 5) (N := some 217) (v := ?_) (a' := ?_) #[true, true, true, true, true, true, false, false, false, false, false, false] rfl rfl (take_ofW HT_.out HW_.out (by kernel_rfl)) (fun _ _ _ h => h) (Or.inl ⟨by rfl, ?_⟩) hHeld ?_ ?_
              rotate_left
              ·rintro w' ⟨s0, s1, s2, s3, s4, s5, s6, s7, s8, s9, s10, s11, s12, s13, s14⟩
               go_simp
               with_reducible rfl
              rotate_left
              ·simp only [Act.put, zU, zV, zW, i64_w, i32_w]
               rfl
              refine pure_ (i := 6) (N := some 218) (v := ?_) (a' := ?_) #[true, true, true, true, true, true, true, false, false, false, false, false] rfl rfl (zX HT_.out (by kernel_rfl)) (fun _ _ _ h => h) (Or.inl ⟨by rfl, ?_⟩) ?_ ?_
              rotate_left
              ·intro w'
               go_simp
               with_reducible rfl
              rotate_left
              ·simp only [Act.put, zU, zV, zW, i64_w, i32_w]
               rfl
              refine pure_ (i := 7) (N := some 219) (v := ?_) (a' := ?_) #[true, true, true, true, true, true, true, true, false, false, false, false] rfl rfl (zX HT_.out (by kernel_rfl)) (fun _ _ _ h => h) (Or.inl ⟨by rfl, ?_⟩) ?_ ?_
              rotate_left
              ·intro w'
               go_simp
               with_reducible rfl
              rotate_left
              ·simp only [Act.put, zU, zV, zW, i64_w, i32_w]
               rfl
              refine pure_ (i := 8) (N := some 220) (v := ?_) (a' := ?_) #[true, true, true, true, true, true, true, true, true, false, false, false] rfl rfl (zX HT_.out (by kernel_rfl)) (fun _ _ _ h => h) (Or.inl ⟨by rfl, ?_⟩) ?_ ?_
              rotate_left
              ·intro w'
               go_simp
               with_reducible rfl
              rotate_left
              ·simp only [Act.put, zU, zV, zW, i64_w, i32_w]
               rfl
              refine pure_ (i := 9) (N := some 221) (v := ?_) (a' := ?_) #[true, true, true, true, true, true, true, true, true, true, false, false] rfl rfl (zX HT_.out (by kernel_rfl)) (fun _ _ _ h => h) (Or.inl ⟨by rfl, ?_⟩) ?_ ?_
              rotate_left
              ·intro w'
               go_simp
               with_reducible rfl
              rotate_left
              ·simp only [Act.put, zU, zV, zW, i64_w, i32_w]
               rfl
              refine pure_ (i := 10) (N := some 8) (v := ?_) (a' := ?_) #[true, true, true, true, true, true, true, true, true, true, true, false] rfl rfl (zX HT_.out (by kernel_rfl)) (fun _ _ _ h => h) (Or.inl ⟨by rfl, ?_⟩) ?_ ?_
              rotate_left
              ·intro w'
               go_simp
               with_reducible rfl
              rotate_left
              ·simp only [Act.put, zU, zV, zW, i64_w, i32_w]
               rfl
              refine pure_ (i := 11) (N := some 9) (v := ?_) (a' := ?_) #[true, true, true, true, true, true, true, true, true, true, true, true] rfl rfl (zX HT_.out (by kernel_rfl)) (fun _ _ _ h => h) (Or.inl ⟨by rfl, ?_⟩) ?_ ?_
              rotate_left
              ·intro w'
               go_simp
               with_reducible rfl
              rotate_left
              ·simp only [Act.put, zU, zV, zW, i64_w, i32_w]
               rfl
              refine done_ (done_of HT_.out (by kernel_rfl)) ?_
              try go_wp2
              go_ret2
              exact ⟨by first | rfl | (simp [errW_none, errW_some] <;> rfl) | (simp [*, errW_none, errW_some] <;> rfl), by repeat (first | (with_reducible first | exact HB.out | apply zI | apply zH | apply zJ | refine zQ ?_ ak.out | refine zQ ?_ am.out | refine zQ ?_ aq.out | refine zQ ?_ av.out) | exact HB.out)⟩
             rw [if_neg c243] at H
             have c243b0 : (ae == ((rd_T40 l0 a2).f0) && (ag == ((rd_T40 l0 a2).f1) && (ah == ((rd_T40 l0 a2).f2) && (ai == ((rd_T40 l0 a2).f3))))) = false := by simpa using c243
             (try (have c243b1 : decide (ae = ((rd_T40 l0 a2).f0) && (ag == ((rd_T40 l0 a2).f1) && (ah == ((rd_T40 l0 a2).f2) && (ai == ((rd_T40 l0 a2).f3))))) = false := by simpa using c243))
             (try (have c243b2 : (ae == ((rd_T40 l0 a2).f0) && (ag == ((rd_T40 l0 a2).f1) && (ah == ((rd_T40 l0 a2).f2) && (ai == ((rd_T40 l0 a2).f3))))) = false := by simpa using c243))
             (try (have c243b3 : ¬ (ae = ((rd_T40 l0 a2).f0) && (ag == ((rd_T40 l0 a2).f1) && (ah == ((rd_T40 l0 a2).f2) && (ai == ((rd_T40 l0 a2).f3))))) := by simpa using c243))
             clear c243
             simp only [Option.some.injEq, Prod.mk.injEq] at H
             obtain ⟨rfl, rfl⟩ := H
             exact absurd hT_.out (by decide)
        rw [if_neg c215] at H
        have c215b0 : (((rd_T40 l0 a2).f0) == 42) = false := beq_eq_false_iff_ne.mpr c215
        have c215b1 : (((rd_T40 l0 a2).f0) != 42) = true := bne_iff_ne.mpr c215
        simp only [Option.some.injEq, Prod.mk.injEq] at H
        obtain ⟨rfl, rfl⟩ := H
        have hnb246 := ar.out
        have hnc246 := aj.out
        have hnb247 := al.out
        have hnc247 := ax.out
        have hnb248 := au.out
        have hnc248 := ay.out
        have hcz249_0 : wc.cell? ⟨a8, 0, none⟩ = some (.int .i64 ((rd_T40 l0 a2).f0)) := (zL a7.out 0).trans rfl
        have hcz249_1 : wc.cell? ⟨a8, 1, none⟩ = some (.int .i64 ((rd_T40 l0 a2).f1)) := (zL a7.out 1).trans rfl
        have hcz249_2 : wc.cell? ⟨a8, 2, none⟩ = some (.int .i64 ((rd_T40 l0 a2).f2)) := (zL a7.out 2).trans rfl
        have hcz249_3 : wc.cell? ⟨a8, 3, none⟩ = some (.int .i64 ((rd_T40 l0 a2).f3)) := (zL a7.out 3).trans rfl
        have hcz249_4 : wc.cell? ⟨a8, 4, none⟩ = some (.int .u32 ((rd_T40 l0 a2).f4)) := (zL a7.out 4).trans rfl
        have hcz249_5 : wc.cell? ⟨a8, 5, none⟩ = some (.int .i64 ((rd_T40 l0 a2).f5)) := (zL a7.out 5).trans rfl
        have hcz249_6 : wc.cell? ⟨a8, 6, none⟩ = some (.slice A175_6 ((rd_T40 l0 a2).f6).length c175_6) := (zL a7.out 6).trans rfl
        have hfz249_0 := zK a7.out 0
        have hfz249_1 := zK a7.out 1
        have hfz249_2 := zK a7.out 2
        have hfz249_3 := zK a7.out 3
        have hfz249_4 := zK a7.out 4
        have hfz249_5 := zK a7.out 5
        have hfz249_6 := zK a7.out 6
        try go_wp2
        have n0_ := uZ (zF a9.out)
        have n1_ := uZ (zF a7.out)
        have n2_ := uZ (zF aa.out)
        have n3_ := uZ (zF ab.out)
        have n4_ := uZ (zJ HB.out)
        clear a9
        clear a7
        clear aa
        clear ab
        clear HB
        have a9 := n0_
        have a7 := n1_
        have aa := n2_
        have ab := n3_
        have HB := n4_
        clear n0_ n1_ n2_ n3_ n4_
        refine start_ (n := 5) (S := fun w' => w'.cell? ⟨af, 0, none⟩ = some (.int .i64 ae) ∧ w'.cell? ⟨af, 1, none⟩ = some (.int .i64 ag) ∧ w'.cell? ⟨af, 2, none⟩ = some (.int .i64 ah) ∧ w'.cell? ⟨af, 3, none⟩ = some (.int .i64 ai) ∧ w'.cell? ⟨ao, 0, none⟩ = some (.int .i64 ((rd_T40 l0 a2).f0)) ∧ w'.cell? ⟨ao, 1, none⟩ = some (.int .i64 ((rd_T40 l0 a2).f1)) ∧ w'.cell? ⟨ao, 2, none⟩ = some (.int .i64 ((rd_T40 l0 a2).f2)) ∧ w'.cell? ⟨ao, 3, none⟩ = some (.int .i64 ((rd_T40 l0 a2).f3))) (ds := []) #[false, false, false, false, false] (by kernel_rfl) rfl rfl ⟨(zL aa.out 0).trans rfl, (zL aa.out 1).trans rfl, (zL aa.out 2).trans rfl, (zL aa.out 3).trans rfl, (zL ab.out 0).trans rfl, (zL ab.out 1).trans rfl, (zL ab.out 2).trans rfl, (zL ab.out 3).trans rfl⟩ (fun hHeld => ?_)
        generalize wc.drew = w250 at a9 a7 aa ab HB hHeld ⊢
        refine pure_ (i := 3) (N := some 8) (v := ?_) (a' := ?_) #[false, false, false, true, false] rfl rfl (by kernel_rfl) (fun _ _ _ h => h) (Or.inl ⟨by rfl, ?_⟩) ?_ ?_
        rotate_left
        ·intro w'
         go_simp
         with_reducible rfl
        rotate_left
        ·simp only [Act.put, zU, zV, zW, i64_w, i32_w]
         rfl
        refine take_ (i := 0) (N := some 222) (v := ?_) (a' := ?_) #[true, false, false, true, false] rfl rfl (by kernel_rfl) (fun _ _ _ h => h) (Or.inl ⟨by rfl, ?_⟩) hHeld ?_ ?_
        rotate_left
        ·rintro w' ⟨s0, s1, s2, s3, s4, s5, s6, s7⟩
         go_simp
         with_reducible rfl
        rotate_left
        ·simp only [Act.put, zU, zV, zW, i64_w, i32_w]
         rfl
        refine take_ (i := 1) (N := some 223) (v := ?_) (a' := ?_) #[true, true, false, true, false] rfl rfl (by kernel_rfl) (fun _ _ _ h => h) (Or.inl ⟨by rfl, ?_⟩) hHeld ?_ ?_
        rotate_left
        ·rintro w' ⟨s0, s1, s2, s3, s4, s5, s6, s7⟩
         go_simp
         with_reducible rfl
        rotate_left
        ·simp only [Act.put, zU, zV, zW, i64_w, i32_w]
         rfl
        refine pure_ (i := 2) (N := some 224) (v := ?_) (a' := ?_) #[true, true, true, true, false] rfl rfl (by kernel_rfl) (fun _ _ _ h => h) (Or.inl ⟨by rfl, ?_⟩) ?_ ?_
        rotate_left
        ·intro w'
         go_simp
         with_reducible rfl
        rotate_left
        ·simp only [Act.put, zU, zV, zW, i64_w, i32_w]
         rfl
        refine pure_ (i := 4) (N := some 9) (v := ?_) (a' := ?_) #[true, true, true, true, true] rfl rfl (by kernel_rfl) (fun _ _ _ h => h) (Or.inl ⟨by rfl, ?_⟩) ?_ ?_
        rotate_left
        ·intro w'
         go_simp
         with_reducible rfl
        rotate_left
        ·simp only [Act.put, zU, zV, zW, i64_w, i32_w]
         rfl
        refine done_ (by kernel_rfl) ?_
        try go_wp2
        go_ret2
        exact ⟨by first | rfl | (simp [errW_none, errW_some] <;> rfl) | (simp [*, errW_none, errW_some] <;> rfl), by repeat (first | (with_reducible first | exact HB.out | apply zI | apply zH | apply zJ | refine zQ ?_ ak.out | refine zQ ?_ am.out | refine zQ ?_ aq.out | refine zQ ?_ av.out) | exact HB.out)⟩
   replace c13 := Bool.eq_false_iff.mpr c13
   subst c13
   have H1 : (some (0, false)) = some (r1, r2) := by rw [if_neg (show ¬ (false = true) by decide)] at H; exact H
   clear H
   have H := H1
   clear H1
   simp only [Option.some.injEq, Prod.mk.injEq] at H
   obtain ⟨rfl, rfl⟩ := H
   go_enter Tryd.func29, Tryd.ntmps29
   go_wp2_with (first | ((with_reducible refine gate_dst (N := 5) rfl ?_); (try (refine gate_guard (by rfl) ?_; dsimp only)); refine box_event ?hg (N := 5) ?hd (cs := #[.slice A1_0 l1_0.length c1_0, .slice A1_1 l1_1.length c1_1, .slice A1_2 l1_2.length c1_2, .int .i64 a1_3]) (t := 27) ?hr ?_; (case hd => rfl); (case hg => rfl); (case hr => first | (go_simp; done) | (go_simp; rfl)); intro ac hg w251 hbox hb; have n0_ := uZ (zS (uB HB.out) hb); have n1_ := uZ (hbox); have n2_ := uZ ((by rw [hg]; exact (zR (uB HB.out)) : w.heap.size ≤ ac)); have n3_ := uZ ((by rw [hg]; exact (zR (uB HB.out)) : w.heap.size ≤ ac)); clear HB; have HB := n0_; have a9 := n1_; have GW174 := n2_; have ak := n3_; clear n0_ n1_ n2_ n3_; clear hb hbox hg; have p175 : 0 ≤ (a2 : Int) := uA; have q175 : a2 < (l0.length : Int) := uA; obtain ⟨ad175, A175_6, c175_6, e175, b9, ba, bb, bc, bd, be, bf, hl175_6, hi175_6⟩ := at_T40 HR0.out a2 p175 q175; cases e175; replace b9 := (HB.out.cell (zT w _ b9)).trans b9; replace ba := (HB.out.cell (zT w _ ba)).trans ba; replace bb := (HB.out.cell (zT w _ bb)).trans bb; replace bc := (HB.out.cell (zT w _ bc)).trans bc; replace bd := (HB.out.cell (zT w _ bd)).trans bd; replace be := (HB.out.cell (zT w _ be)).trans be; replace bf := (HB.out.cell (zT w _ bf)).trans bf; have bx := uZ hi175_6; have HC175_6 := uZ hl175_6; clear hi175_6 hl175_6; replace p175 := eq_true p175; replace q175 := eq_true q175) | ((with_reducible refine gate_dst (N := 10) rfl ?_); (try (refine gate_guard (by rfl) ?_; dsimp only)); refine box_event ?hg (N := 10) ?hd (cs := #[.int .i64 0, .int .i64 0, .int .i64 0, .int .i64 0, .int .u32 0, .int .i64 0, .slice none 0 0]) (t := 40) ?hr ?_; (case hd => rfl); (case hg => rfl); (case hr => first | (go_simp; done) | (go_simp; rfl)); intro a8 hg w252 hbox hb; have n0_ := uZ (zO (g := ac) (o := .cells #[.slice A1_0 l1_0.length c1_0, .slice A1_1 l1_1.length c1_1, .slice A1_2 l1_2.length c1_2, .int .i64 a1_3] 27 (0, 0)) (uK a9.out) hb); have n1_ := uZ (zS (uC HB.out ak.out) hb); have n2_ := uZ (hbox); have n3_ := uZ ((by rw [hg]; exact (zR (uC HB.out ak.out)) : w.heap.size ≤ a8)); have n4_ := uZ ((by rw [hg]; exact (zR (uC HB.out ak.out)) : w.heap.size ≤ a8)); have n5_ := uZ ((by rw [hg]; exact Nat.ne_of_lt (zP (g := ac) (o := .cells #[.slice A1_0 l1_0.length c1_0, .slice A1_1 l1_1.length c1_1, .slice A1_2 l1_2.length c1_2, .int .i64 a1_3] 27 (0, 0)) (uK a9.out)) : ac ≠ a8)); have n6_ := uZ ((by rw [hg]; exact Nat.ne_of_gt (zP (g := ac) (o := .cells #[.slice A1_0 l1_0.length c1_0, .slice A1_1 l1_1.length c1_1, .slice A1_2 l1_2.length c1_2, .int .i64 a1_3] 27 (0, 0)) (uK a9.out)) : a8 ≠ ac)); clear a9; clear HB; have a9 := n0_; have HB := n1_; have a7 := n2_; have GW176 := n3_; have am := n4_; have aj := n5_; have ar := n6_; clear n0_ n1_ n2_ n3_ n4_ n5_ n6_; clear hb hbox hg; have hnb253 := ar.out; have hnc253 := aj.out; have hcz254_0 : w252.cell? ⟨a8, 0, none⟩ = some (.int .i64 0) := (zL a7.out 0).trans rfl; have hcz254_1 : w252.cell? ⟨a8, 1, none⟩ = some (.int .i64 0) := (zL a7.out 1).trans rfl; have hcz254_2 : w252.cell? ⟨a8, 2, none⟩ = some (.int .i64 0) := (zL a7.out 2).trans rfl; have hcz254_3 : w252.cell? ⟨a8, 3, none⟩ = some (.int .i64 0) := (zL a7.out 3).trans rfl; have hcz254_4 : w252.cell? ⟨a8, 4, none⟩ = some (.int .u32 0) := (zL a7.out 4).trans rfl; have hcz254_5 : w252.cell? ⟨a8, 5, none⟩ = some (.int .i64 0) := (zL a7.out 5).trans rfl; have hcz254_6 : w252.cell? ⟨a8, 6, none⟩ = some (.slice none 0 0) := (zL a7.out 6).trans rfl; have hfz254_0 := zK a7.out 0; have hfz254_1 := zK a7.out 1; have hfz254_2 := zK a7.out 2; have hfz254_3 := zK a7.out 3; have hfz254_4 := zK a7.out 4; have hfz254_5 := zK a7.out 5; have hfz254_6 := zK a7.out 6; have hcz255_0 : w252.cell? ⟨ac, 0, none⟩ = some (.slice A1_0 l1_0.length c1_0) := (zL a9.out 0).trans rfl; have hcz255_1 : w252.cell? ⟨ac, 1, none⟩ = some (.slice A1_1 l1_1.length c1_1) := (zL a9.out 1).trans rfl; have hcz255_2 : w252.cell? ⟨ac, 2, none⟩ = some (.slice A1_2 l1_2.length c1_2) := (zL a9.out 2).trans rfl; have hcz255_3 : w252.cell? ⟨ac, 3, none⟩ = some (.int .i64 a1_3) := (zL a9.out 3).trans rfl; have hfz255_0 := zK a9.out 0; have hfz255_1 := zK a9.out 1; have hfz255_2 := zK a9.out 2; have hfz255_3 := zK a9.out 3) | ((with_reducible refine gate_callee (f := 33) rfl ?_); refine goesL_ (some 31) rfl rfl Tryd.func33 (by kernel_rfl) rfl #[.agg #[.slice A1_0 l1_0.length c1_0, .slice A1_1 l1_1.length c1_1, .slice A1_2 l1_2.length c1_2, .int .i64 a1_3], .int .i64 a3] rfl (by (try simp only [zY, List.map_cons, List.map_nil]); first | done | rfl | (simp only [zZ, yA]; rfl)) ?_; (with_reducible refine (switchbacklaw17_code.calls k _ _ l1_0 _ _ l1_1 _ _ l1_2 a1_3 a3 ae ag ah ai false _ ?side1 ?side2 ?side3 ?side4 ?side5 ?side6 (uZ (hLaid_.out.below (by repeat (first | (with_reducible first | exact HB.out | apply zI | apply zH | apply zJ) | refine zQ ?_ (Aside0.out (by assumption)) | exact HB.out)))) A12.out).mono ?_); (case side1 => exact zD bn.out (uD HB.out ak.out am.out)); (case side2 => exact bp.out); (case side3 => exact zD bo.out (uD HB.out ak.out am.out)); (case side4 => exact bq.out); (case side5 => exact zD br.out (uD HB.out ak.out am.out)); (case side6 => exact bs.out); rintro e w256 ⟨rfl, hb⟩; refine ⟨_, rfl, ?_⟩; have n0_ := uZ (zO (g := ac) (o := .cells #[.slice A1_0 l1_0.length c1_0, .slice A1_1 l1_1.length c1_1, .slice A1_2 l1_2.length c1_2, .int .i64 a1_3] 27 (0, 0)) (by (with_reducible repeat (first | apply zE | apply zF | apply zG)); refine zN ?_ aj.out _; (with_reducible repeat (first | apply zE | apply zF | apply zG)); refine zN ?_ aj.out _; (with_reducible repeat (first | apply zE | apply zF | apply zG)); refine zN ?_ aj.out _; (with_reducible repeat (first | apply zE | apply zF | apply zG)); refine zN ?_ aj.out _; (with_reducible repeat (first | apply zE | apply zF | apply zG)); refine zN ?_ aj.out _; (with_reducible repeat (first | apply zE | apply zF | apply zG)); refine zN ?_ aj.out _; (with_reducible repeat (first | apply zE | apply zF | apply zG)); refine zN ?_ aj.out _; (with_reducible repeat (first | apply zE | apply zF | apply zG)); exact a9.out) hb); have n1_ := uZ (zO (g := a8) (o := .cells #[.int .i64 ((rd_T40 l0 a2).f0), .int .i64 ((rd_T40 l0 a2).f1), .int .i64 ((rd_T40 l0 a2).f2), .int .i64 ((rd_T40 l0 a2).f3), .int .u32 ((rd_T40 l0 a2).f4), .int .i64 ((rd_T40 l0 a2).f5), .slice A175_6 ((rd_T40 l0 a2).f6).length c175_6] 40 (0, 0)) (by (with_reducible repeat (first | apply zE | apply zF | apply zG)); refine zM (cs := #[.int .i64 ((rd_T40 l0 a2).f0), .int .i64 ((rd_T40 l0 a2).f1), .int .i64 ((rd_T40 l0 a2).f2), .int .i64 ((rd_T40 l0 a2).f3), .int .u32 ((rd_T40 l0 a2).f4), .int .i64 ((rd_T40 l0 a2).f5), .slice none 0 0]) ?_ 6 _ rfl; (with_reducible repeat (first | apply zE | apply zF | apply zG)); refine zM (cs := #[.int .i64 ((rd_T40 l0 a2).f0), .int .i64 ((rd_T40 l0 a2).f1), .int .i64 ((rd_T40 l0 a2).f2), .int .i64 ((rd_T40 l0 a2).f3), .int .u32 ((rd_T40 l0 a2).f4), .int .i64 0, .slice none 0 0]) ?_ 5 _ rfl; (with_reducible repeat (first | apply zE | apply zF | apply zG)); refine zM (cs := #[.int .i64 ((rd_T40 l0 a2).f0), .int .i64 ((rd_T40 l0 a2).f1), .int .i64 ((rd_T40 l0 a2).f2), .int .i64 ((rd_T40 l0 a2).f3), .int .u32 0, .int .i64 0, .slice none 0 0]) ?_ 4 _ rfl; (with_reducible repeat (first | apply zE | apply zF | apply zG)); refine zM (cs := #[.int .i64 ((rd_T40 l0 a2).f0), .int .i64 ((rd_T40 l0 a2).f1), .int .i64 ((rd_T40 l0 a2).f2), .int .i64 0, .int .u32 0, .int .i64 0, .slice none 0 0]) ?_ 3 _ rfl; (with_reducible repeat (first | apply zE | apply zF | apply zG)); refine zM (cs := #[.int .i64 ((rd_T40 l0 a2).f0), .int .i64 ((rd_T40 l0 a2).f1), .int .i64 0, .int .i64 0, .int .u32 0, .int .i64 0, .slice none 0 0]) ?_ 2 _ rfl; (with_reducible repeat (first | apply zE | apply zF | apply zG)); refine zM (cs := #[.int .i64 ((rd_T40 l0 a2).f0), .int .i64 0, .int .i64 0, .int .i64 0, .int .u32 0, .int .i64 0, .slice none 0 0]) ?_ 1 _ rfl; (with_reducible repeat (first | apply zE | apply zF | apply zG)); refine zM (cs := #[.int .i64 0, .int .i64 0, .int .i64 0, .int .i64 0, .int .u32 0, .int .i64 0, .slice none 0 0]) ?_ 0 _ rfl; (with_reducible repeat (first | apply zE | apply zF | apply zG)); exact a7.out) hb); have n2_ := uZ (zS (uD HB.out ak.out am.out) hb); clear a9; clear a7; clear HB; have a9 := n0_; have a7 := n1_; have HB := n2_; clear n0_ n1_ n2_; (try clear hb); (try clear hb2); (try clear hk); (try clear hi)) | ((with_reducible refine gate_dst (N := 11) rfl ?_); (try (refine gate_guard (by rfl) ?_; dsimp only)); refine box_event ?hg (N := 11) ?hd (cs := #[.int .i64 0, .int .i64 0, .int .i64 0, .int .i64 0]) (t := 44) ?hr ?_; (case hd => rfl); (case hg => rfl); (case hr => first | (go_simp; done) | (go_simp; rfl)); intro af hg w257 hbox hb; have n0_ := uZ (zO (g := ac) (o := .cells #[.slice A1_0 l1_0.length c1_0, .slice A1_1 l1_1.length c1_1, .slice A1_2 l1_2.length c1_2, .int .i64 a1_3] 27 (0, 0)) (uK a9.out) hb); have n1_ := uZ (zO (g := a8) (o := .cells #[.int .i64 ((rd_T40 l0 a2).f0), .int .i64 ((rd_T40 l0 a2).f1), .int .i64 ((rd_T40 l0 a2).f2), .int .i64 ((rd_T40 l0 a2).f3), .int .u32 ((rd_T40 l0 a2).f4), .int .i64 ((rd_T40 l0 a2).f5), .slice A175_6 ((rd_T40 l0 a2).f6).length c175_6] 40 (0, 0)) (uK a7.out) hb); have n2_ := uZ (zS (uD HB.out ak.out am.out) hb); have n3_ := uZ (hbox); have n4_ := uZ ((by rw [hg]; exact (zR (uD HB.out ak.out am.out)) : w.heap.size ≤ af)); have n5_ := uZ ((by rw [hg]; exact (zR (uD HB.out ak.out am.out)) : w.heap.size ≤ af)); have n6_ := uZ ((by rw [hg]; exact Nat.ne_of_lt (zP (g := ac) (o := .cells #[.slice A1_0 l1_0.length c1_0, .slice A1_1 l1_1.length c1_1, .slice A1_2 l1_2.length c1_2, .int .i64 a1_3] 27 (0, 0)) (uK a9.out)) : ac ≠ af)); have n7_ := uZ ((by rw [hg]; exact Nat.ne_of_gt (zP (g := ac) (o := .cells #[.slice A1_0 l1_0.length c1_0, .slice A1_1 l1_1.length c1_1, .slice A1_2 l1_2.length c1_2, .int .i64 a1_3] 27 (0, 0)) (uK a9.out)) : af ≠ ac)); have n8_ := uZ ((by rw [hg]; exact Nat.ne_of_lt (zP (g := a8) (o := .cells #[.int .i64 ((rd_T40 l0 a2).f0), .int .i64 ((rd_T40 l0 a2).f1), .int .i64 ((rd_T40 l0 a2).f2), .int .i64 ((rd_T40 l0 a2).f3), .int .u32 ((rd_T40 l0 a2).f4), .int .i64 ((rd_T40 l0 a2).f5), .slice A175_6 ((rd_T40 l0 a2).f6).length c175_6] 40 (0, 0)) (uK a7.out)) : a8 ≠ af)); have n9_ := uZ ((by rw [hg]; exact Nat.ne_of_gt (zP (g := a8) (o := .cells #[.int .i64 ((rd_T40 l0 a2).f0), .int .i64 ((rd_T40 l0 a2).f1), .int .i64 ((rd_T40 l0 a2).f2), .int .i64 ((rd_T40 l0 a2).f3), .int .u32 ((rd_T40 l0 a2).f4), .int .i64 ((rd_T40 l0 a2).f5), .slice A175_6 ((rd_T40 l0 a2).f6).length c175_6] 40 (0, 0)) (uK a7.out)) : af ≠ a8)); clear a9; clear a7; clear HB; have a9 := n0_; have a7 := n1_; have HB := n2_; have aa := n3_; have GW182 := n4_; have aq := n5_; have an := n6_; have a_ := n7_; have al := n8_; have ax := n9_; clear n0_ n1_ n2_ n3_ n4_ n5_ n6_ n7_ n8_ n9_; clear hb hbox hg; have hnb258 := a_.out; have hnc258 := an.out; have hnb259 := ax.out; have hnc259 := al.out; have hcz260_0 : w257.cell? ⟨af, 0, none⟩ = some (.int .i64 0) := (zL aa.out 0).trans rfl; have hcz260_1 : w257.cell? ⟨af, 1, none⟩ = some (.int .i64 0) := (zL aa.out 1).trans rfl; have hcz260_2 : w257.cell? ⟨af, 2, none⟩ = some (.int .i64 0) := (zL aa.out 2).trans rfl; have hcz260_3 : w257.cell? ⟨af, 3, none⟩ = some (.int .i64 0) := (zL aa.out 3).trans rfl; have hfz260_0 := zK aa.out 0; have hfz260_1 := zK aa.out 1; have hfz260_2 := zK aa.out 2; have hfz260_3 := zK aa.out 3))
   go_ret2
   exact ⟨by first | rfl | (simp [errW_none, errW_some] <;> rfl) | (simp [*, errW_none, errW_some] <;> rfl), by repeat (first | (with_reducible first | exact HB.out | apply zI | apply zH | apply zJ | refine zQ ?_ ak.out | refine zQ ?_ am.out | refine zQ ?_ aq.out) | exact HB.out)⟩
  rw [if_neg c6] at H
  exact absurd H (by simp)
 rw [if_neg c5] at H
 exact absurd H (by simp)

theorem switchbacklaw17_line.calls (k : Nat) (A0 : Option Addr) (c0 : Nat) (l0 : List (S40)) (A1_0 : Option Addr) (c1_0 : Nat) (l1_0 : List Int) (A1_1 : Option Addr) (c1_1 : Nat) (l1_1 : List Int) (A1_2 : Option Addr) (c1_2 : Nat) (l1_2 : List Int) (a1_3 : Int) (a2 : Int) (a3 : Int) (r1 : Int) (r2 : Bool) (w : World) (hr0 : Kd.C k40 w A0 l0.length l0) (hc0 : l0.length ≤ c0) (hr1_0 : Kd.C (Kd.int .u32) w A1_0 l1_0.length l1_0) (hc1_0 : l1_0.length ≤ c1_0) (hr1_1 : Kd.C (Kd.int .i64) w A1_1 l1_1.length l1_1) (hc1_1 : l1_1.length ≤ c1_1) (hr1_2 : Kd.C (Kd.int .i64) w A1_2 l1_2.length l1_2) (hc1_2 : l1_2.length ≤ c1_2) (hLaid_ : Aside0 (Laid w)) (h : switchbacklaw17_line.f k l0 l1_0 l1_1 l1_2 a1_3 a2 a3 = some (r1, r2)) :
    Calls Tryd.prog 29 #[.slice A0 l0.length c0, .agg #[.slice A1_0 l1_0.length c1_0, .slice A1_1 l1_1.length c1_1, .slice A1_2 l1_2.length c1_2, .int .i64 a1_3], .int .i64 a2, .int .i64 a3] w fun e w' => e = .returned (.tuple #[.int .i64 r1, .bool r2]) ∧ Below w.heap.size w w' := by
  unfold switchbacklaw17_line.f at h
  obtain ⟨⟨n1, b1⟩, h1, h2⟩ := Option.bind_eq_some_iff.mp h
  by_cases hb : b1 = true
  · simp only [if_pos hb, Option.some.injEq, Prod.mk.injEq] at h2
    obtain ⟨rfl, rfl⟩ := h2
    have hT : b1 = true := hb
    exact lineG.calls k A0 c0 l0 A1_0 c1_0 l1_0 A1_1 c1_1 l1_1 A1_2 c1_2 l1_2 a1_3 a2 a3 _ _ w hr0 hc0 hr1_0 hc1_0 hr1_1 hc1_1 hr1_2 hc1_2 hLaid_ ⟨hT⟩ h1
  · simp only [if_neg hb] at h2
    cases h2

end Go.Proofs.YtamimnaafiphcaaDoor.PR1C
