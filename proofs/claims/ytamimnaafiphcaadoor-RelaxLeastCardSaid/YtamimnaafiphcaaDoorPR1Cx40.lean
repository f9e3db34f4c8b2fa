-- Written by gp.py for this claim.
import Derived.Test.YtamimnaafiphcaaDoorPR1CZ
import Derived.Test.YtamimnaafiphcaaDoorPR1Cx39
import Derived.Test.YtamimnaafiphcaaDoorPR1Cd40
namespace Go.Proofs.YtamimnaafiphcaaDoor.PR1C
open Go.RowKit Go.Proofs.YtamimnaafiphcaaDoorW.PrintWords Go.Proofs.YtamimnaafiphcaaDoorW.PrintLast Go.Proofs.YtamimnaafiphcaaDoorW.PrintMore
attribute [local go_sem] max2_int min2_int max_two min_two max_three min_three max_four min_four   -- for this text's walks alone
set_option linter.unusedVariables false
set_option linter.unusedSimpArgs false

namespace q_switchbacklaw17_RelaxLeast
theorem uZ {p : Prop} (h : p) : Aside0 p := ⟨h⟩
theorem uR {p q : Prop} (h : p) (g : p → q := by intro h; (with_reducible repeat (first | apply Kd.R_alloc | apply Kd.R_drewN | apply Kd.R_drew)); exact h) : q := g h
theorem uK {p q : Prop} (h : p) (g : p → q := by intro h; (with_reducible repeat (first | apply blk_drewN | apply blk_drew | apply blk_alloc)); exact h) : q := g h
theorem uB {p q : Prop} (h : p) (g : p → q := by intro h; repeat (first | (with_reducible first | exact h | apply below_alloc | apply pw_below_drewN | apply below_drew1) | exact h)) : q := g h
theorem uC {p q s : Prop} (h : p) (j : s) (g : p → s → q := by intro h j; repeat (first | (with_reducible first | exact h | apply below_alloc | apply pw_below_drewN | apply below_drew1 | refine below_set ?_ j) | exact h)) : q := g h j
theorem uD {p q s r : Prop} (h : p) (j : s) (k : r) (g : p → s → r → q := by intro h j k; repeat (first | (with_reducible first | exact h | apply below_alloc | apply pw_below_drewN | apply below_drew1 | refine below_set ?_ j | refine below_set ?_ k) | exact h)) : q := g h j k
theorem uA {p : Prop} [Decidable p] (h : decide p = true := by first | (with_reducible assumption) | assumption) : p := of_decide_eq_true h
theorem zA : type_of% @Kd.R_alloc := @Kd.R_alloc
theorem zB : type_of% @Kd.R_drewN := @Kd.R_drewN
theorem zC : type_of% @Kd.R_drew := @Kd.R_drew
theorem zD : type_of% @Kd.R_far := @Kd.R_far
theorem zE : type_of% @Kd.R_below := @Kd.R_below
theorem zF : type_of% @Kd.R_mono := @Kd.R_mono
theorem zG : type_of% @Kd.R_types := @Kd.R_types
theorem zH : type_of% @Kd.R_slice := @Kd.R_slice
theorem zI : type_of% @Kd.R_reads' := @Kd.R_reads'
theorem zJ : type_of% @Kd.C_alloc := @Kd.C_alloc
theorem zK : type_of% @Kd.C_drewN := @Kd.C_drewN
theorem zL : type_of% @Kd.C_drew := @Kd.C_drew
theorem zM : type_of% @Kd.own_blk := @Kd.own_blk
theorem zN : type_of% @Kd.R_ne := @Kd.R_ne
theorem zO : type_of% @blk_drewN := @blk_drewN
theorem zP : type_of% @blk_drew := @blk_drew
theorem zQ : type_of% @blk_alloc := @blk_alloc
theorem zR : type_of% @pw_below_drewN := @pw_below_drewN
theorem zS : type_of% @below_alloc := @below_alloc
theorem zT : type_of% @below_drew1 := @below_drew1
theorem zU : type_of% @blk_frozen := @blk_frozen
theorem zV : type_of% @blk_cell := @blk_cell
theorem zW : type_of% @blk_put := @blk_put
theorem zX : type_of% @blk_far := @blk_far
theorem zY : type_of% @blk_below := @blk_below
theorem zZ : type_of% @blk_lt := @blk_lt
theorem yA : type_of% @below_set := @below_set
theorem yB : type_of% @below_size := @below_size
theorem yC : type_of% @below_step := @below_step
theorem yD : type_of% @World.block_lt_of_cell? := @World.block_lt_of_cell?
theorem yE : type_of% @List.setIfInBounds_toArray := @List.setIfInBounds_toArray
theorem yF : type_of% @List.set_cons_zero := @List.set_cons_zero
theorem yG : type_of% @List.set_cons_succ := @List.set_cons_succ
theorem yH : type_of% @cell_far := @cell_far
theorem yI : type_of% @any_of := @any_of
theorem yJ : type_of% @List.map_toArray := @List.map_toArray
theorem yK : type_of% @List.length_drop := @List.length_drop
theorem yL : type_of% @List.length_take := @List.length_take
end q_switchbacklaw17_RelaxLeast
open q_switchbacklaw17_RelaxLeast

def switchbacklaw17_RelaxLeast.T13 : Bool × List (List Nat × List Nat) := (true, [([], []), ([], []), ([0, 1], [0, 1]), ([2], [2]), ([3], [3]), ([4, 4], [4]), ([5], [5]), ([5], [5]), ([6, 7, 5], [5, 6, 7]), ([8, 5], [5, 8]), ([9, 5], [5, 9]), ([5, 10], [5, 10]), ([11, 5], [11]), ([12], [12]), ([12], [12]), ([12], [12]), ([14, 15, 12], [12, 14, 15]), ([16, 12], [12, 16]), ([17, 12], [12, 17]), ([13, 18, 12], [12, 13, 18]), ([19, 12], [12, 19]), ([12], [12]), ([12], [12]), ([21, 22, 12], [12, 21, 22]), ([23, 12], [12, 23]), ([20, 24, 12], [12, 20, 24]), ([25, 12], [12, 25]), ([26, 12, 12], [12, 26]), ([27, 12], [12, 27]), ([12, 28], [12, 28])])
def switchbacklaw17_RelaxLeast.B13 : List Nat := [0, 0, 3, 7, 15, 31, 63, 63, 255, 511, 1023, 2047, 4095, 8191, 8191, 8191, 57343, 122879, 253951, 524287, 1048575, 8191, 8191, 6299647, 14688255, 33554431, 67108863, 134217727, 268435455, 536870911]
theorem switchbacklaw17_RelaxLeast.tab13 : rtab .any (opsOf Tryd.f8 13) = switchbacklaw17_RelaxLeast.T13 := by kernel_rfl
theorem switchbacklaw17_RelaxLeast.bits13 : waitsOk switchbacklaw17_RelaxLeast.T13.2 switchbacklaw17_RelaxLeast.B13 = true := by kernel_rfl
def switchbacklaw17_RelaxLeast.T19 : Bool × List (List Nat × List Nat) := (true, [([], []), ([], []), ([1], [1]), ([], []), ([2, 3], [2, 3]), ([4], [4]), ([0, 5], [0, 5]), ([6], [6]), ([7], [7]), ([7], [7]), ([], []), ([10, 8, 6, 0, 1, 2, 3, 4, 5, 6, 7, 8, 10], [8, 10]), ([9, 11, 0, 1, 2, 3, 4, 5, 6, 7, 8, 9, 10, 11], [9])])
def switchbacklaw17_RelaxLeast.B19 : List Nat := [0, 0, 2, 0, 14, 30, 63, 127, 255, 255, 0, 1535, 4095]
theorem switchbacklaw17_RelaxLeast.tab19 : rtab .any (opsOf Tryd.f8 19) = switchbacklaw17_RelaxLeast.T19 := by kernel_rfl
theorem switchbacklaw17_RelaxLeast.bits19 : waitsOk switchbacklaw17_RelaxLeast.T19.2 switchbacklaw17_RelaxLeast.B19 = true := by kernel_rfl
def switchbacklaw17_RelaxLeast.T20 : Bool × List (List Nat × List Nat) := (true, [([], []), ([0], [0]), ([1], [1]), ([2], [2]), ([3, 2], [2, 3]), ([2], [2]), ([2], [2]), ([5, 6, 2], [2, 5, 6]), ([7, 2], [2, 7]), ([8, 2], [2, 8]), ([4, 9, 2], [2, 4, 9]), ([2, 10], [2, 10])])
def switchbacklaw17_RelaxLeast.B20 : List Nat := [0, 1, 3, 7, 15, 7, 7, 103, 231, 487, 1023, 2047]
theorem switchbacklaw17_RelaxLeast.tab20 : rtab .any (opsOf Tryd.f8 20) = switchbacklaw17_RelaxLeast.T20 := by kernel_rfl
theorem switchbacklaw17_RelaxLeast.bits20 : waitsOk switchbacklaw17_RelaxLeast.T20.2 switchbacklaw17_RelaxLeast.B20 = true := by kernel_rfl
set_option maxHeartbeats 8000000 in
set_option maxRecDepth 100000 in
theorem switchbacklaw17_RelaxLeast.calls (k : Nat) (A0 : Option Addr) (c0 : Nat) (l0 : List (S40)) (A1 : Option Addr) (c1 : Nat) (l1 : List Bool) (r : Bool) (w : World) (hr0 : Kd.C k40 w A0 l0.length l0) (hc0 : l0.length ≤ c0) (hr1 : Kd.C Kd.bool w A1 l1.length l1) (hc1 : l1.length ≤ c1) (hLaid_ : Aside0 (Laid w)) (h : switchbacklaw17_RelaxLeast.f k l0 l1 = some r) :
    Calls Tryd.prog 8 #[.slice A0 l0.length c0, .slice A1 l1.length c1] w fun e w' => e = .returned (.bool r) ∧ Below w.heap.size w w' := by
 have hu27 := Tryd.underlying27
 have hu40 := Tryd.underlying40
 have hu44 := Tryd.underlying44
 have HR0 := uZ hr0
 have HC0 := uZ hc0
 clear hr0 hc0
 have HR1 := uZ hr1
 have HC1 := uZ hc1
 clear hr1 hc1
 have HB := uZ (Below.refl w.heap.size w)
 have H : ((relax_Assemble.f l0).bind fun bz => (if bz.2.2.2.2.2 = 0 then (switchbacklaw17_RelaxLeast.j0 k l0 l1 ((bz.2.2.1.length : Int) != (l0.length : Int)) bz.1 bz.2.1 bz.2.2.1 bz.2.2.2.1) else (switchbacklaw17_RelaxLeast.j0 k l0 l1 true bz.1 bz.2.1 bz.2.2.1 bz.2.2.2.1))) = some r := h
 clear h
 replace H := Option.bind_eq_some_iff.mp H
 obtain ⟨⟨ae, ad, ac, ah, t319, t320⟩, A30, H⟩ := H
 replace H : (if t320 = 0 then (switchbacklaw17_RelaxLeast.j0 k l0 l1 ((ac.length : Int) != (l0.length : Int)) ae ad ac ah) else (switchbacklaw17_RelaxLeast.j0 k l0 l1 true ae ad ac ah)) = some r := H
 have A3 := uZ A30
 clear A30
 have HC4 := uZ H
 clear H
 go_enter Tryd.func8, Tryd.ntmps8
 go_upto_region 2 with (first | ((with_reducible refine gate_callee (f := 19) rfl ?_); refine goesL_ (some 19) rfl rfl Tryd.func19 (by kernel_rfl) rfl #[.slice A0 l0.length c0] rfl (by (try simp only [yJ, List.map_cons, List.map_nil]); first | done | rfl | (simp only [yK, yL]; rfl)) ?_; (with_reducible refine (relax_Assemble.calls _ _ l0 ae ad ac ah t319 t320 _ ?side1 ?side2 (uZ (hLaid_.out.below (by repeat (first | (with_reducible first | exact HB.out | apply zS | apply zR | apply zT) | refine yA ?_ (Aside0.out (by assumption)) | exact HB.out)))) A3.out).mono ?_); (case side1 => repeat (first | exact HR0.out | (with_reducible refine zJ ?_ _) | (with_reducible refine zK ?_ _) | (with_reducible refine zL ?_))); (case side2 => exact HC0.out); rintro e w5 ⟨v310, v313, v316, rfl, ho0, ho1, ho2, hb⟩; refine ⟨_, rfl, ?_⟩; have n0_ := uZ (Kd.R_lower ho0 (yB (uB HB.out))); have n1_ := uZ (Kd.R_lower ho1 (yB (uB HB.out))); have n2_ := uZ (Kd.R_lower ho2 (yB (uB HB.out))); have n3_ := uZ (yC (uB HB.out) hb); clear HB; have HO311 := n0_; have HO314 := n1_; have HO317 := n2_; have HB := n3_; clear n0_ n1_ n2_ n3_; (try clear hb); (try clear hb2); (try clear hk); (try clear hi); (try clear ho0); (try clear ho1); (try clear ho2)) | ((with_reducible refine gate_dst (N := 5) rfl ?_); (try (refine gate_guard (by rfl) ?_; dsimp only)); refine box_event ?hg (N := 5) ?hd (cs := #[.slice none 0 0, .slice none 0 0, .slice none 0 0, .int .i64 0]) (t := 27) ?hr ?_; (case hd => rfl); (case hg => rfl); (case hr => first | (go_simp; done) | (go_simp; rfl)); intro aa hg w6 hbox hb; have n0_ := uZ (zE (uR HO311.out) hb); have n1_ := uZ (zE (uR HO314.out) hb); have n2_ := uZ (zE (uR HO317.out) hb); have n3_ := uZ (yC (uB HB.out) hb); have n4_ := uZ (hbox); have n5_ := uZ ((by rw [hg]; exact (yB (uB HB.out)) : w.heap.size ≤ aa)); have n6_ := uZ ((by rw [hg]; exact (yB (uB HB.out)) : w.heap.size ≤ aa)); clear HO311; clear HO314; clear HO317; clear HB; have HO311 := n0_; have HO314 := n1_; have HO317 := n2_; have HB := n3_; have a6 := n4_; have GW321 := n5_; have ak := n6_; clear n0_ n1_ n2_ n3_ n4_ n5_ n6_; clear hb hbox hg; obtain ⟨b0, co7, eo7⟩ := zH HO311.out; subst eo7; have hcz8_0 : w6.cell? ⟨aa, 0, none⟩ = some (.slice none 0 0) := (zV a6.out 0).trans rfl; have hcz8_1 : w6.cell? ⟨aa, 1, none⟩ = some (.slice none 0 0) := (zV a6.out 1).trans rfl; have hcz8_2 : w6.cell? ⟨aa, 2, none⟩ = some (.slice none 0 0) := (zV a6.out 2).trans rfl; have hcz8_3 : w6.cell? ⟨aa, 3, none⟩ = some (.int .i64 0) := (zV a6.out 3).trans rfl; have hfz8_0 := zU a6.out 0; have hfz8_1 := zU a6.out 1; have hfz8_2 := zU a6.out 2; have hfz8_3 := zU a6.out 3; obtain ⟨aq, co9, eo9⟩ := zH HO314.out; subst eo9; obtain ⟨b3, ai, eo10⟩ := zH HO317.out; subst eo10))
 (try simp only [Act.put, yE, yF, yG])
 go_cut [32] (fun v32 wc => ∃ (kq : Nat) (x32_3 : Bool), v32 = .bool x32_3 ∧ Aside0 (switchbacklaw17_RelaxLeast.j0 kq l0 l1 x32_3 ae ad ac ah = some r) ∧ Aside0 (kq ≤ k) ∧ Aside0 (Kd.R (Kd.int .u32) 38 wc w.heap.size (fun _ => True) (.slice b0 ae.length co7) ae) ∧ Aside0 (Kd.R (Kd.int .i64) 3 wc w.heap.size (fun k_ => some k_ ≠ ((.slice b3 ac.length ai) : Value).ownBlock) (.slice aq ad.length co9) ad) ∧ Aside0 (Kd.R (Kd.int .i64) 3 wc w.heap.size (fun k_ => some k_ ≠ ((.slice aq ad.length co9) : Value).ownBlock) (.slice b3 ac.length ai) ac) ∧ Aside0 (wc.heap[aa]? = some (.cells #[(.slice b0 ae.length co7), (.slice aq ad.length co9), (.slice b3 ac.length ai), .int .i64 ah] 27 (0, 0))) ∧ Aside0 (Below w.heap.size w wc))
 case first =>
  have H := HC4.out
  clear HC4
  by_cases c11 : t320 = 0
  ·rw [if_pos c11] at H
   have c11b0 : (t320 == 0) = true := beq_iff_eq.mpr c11
   have c11b1 : (t320 != 0) = false := bne_eq_false_iff_eq.mpr c11
   clear c11
   (first | rw [c11b0] | (simp only [i64_w, i32_w]; rw [c11b0]) | skip)
   have H' := uZ H
   clear H
   have hcz12_0 : w6.cell? ⟨aa, 0, none⟩ = some (.slice none 0 0) := (zV a6.out 0).trans rfl
   have hcz12_1 : w6.cell? ⟨aa, 1, none⟩ = some (.slice none 0 0) := (zV a6.out 1).trans rfl
   have hcz12_2 : w6.cell? ⟨aa, 2, none⟩ = some (.slice none 0 0) := (zV a6.out 2).trans rfl
   have hcz12_3 : w6.cell? ⟨aa, 3, none⟩ = some (.int .i64 0) := (zV a6.out 3).trans rfl
   have hfz12_0 := zU a6.out 0
   have hfz12_1 := zU a6.out 1
   have hfz12_2 := zU a6.out 2
   have hfz12_3 := zU a6.out 3
   go_wp2
   go_meet
   case rel => exact ⟨_, (((ac.length : Int) != (l0.length : Int))), (by first | rfl | (simp; done) | (simp [*]; done)), H', ⟨by first | omega | exact Nat.le_refl _⟩, ⟨by (with_reducible repeat (first | apply zA | apply zB | apply zC)); exact zF (zD (p := ⟨aa, 3, none⟩) (zD (p := ⟨aa, 2, none⟩) (zD (p := ⟨aa, 1, none⟩) (zD (p := ⟨aa, 0, none⟩) (zG HO311.out a6.out (by decide)) (fun _ hk => hk.2) (.slice b0 ae.length co7)) (fun _ hk => hk.2) (.slice aq ad.length co9)) (fun _ hk => hk.2) (.slice b3 ac.length ai)) (fun _ hk => hk.2) (.int .i64 ah)) (fun _ hk => trivial)⟩, ⟨by (with_reducible repeat (first | apply zA | apply zB | apply zC)); exact zF (zD (p := ⟨aa, 3, none⟩) (zD (p := ⟨aa, 2, none⟩) (zD (p := ⟨aa, 1, none⟩) (zD (p := ⟨aa, 0, none⟩) (zG HO314.out a6.out (by decide)) (fun _ hk => hk.2) (.slice b0 ae.length co7)) (fun _ hk => hk.2) (.slice aq ad.length co9)) (fun _ hk => hk.2) (.slice b3 ac.length ai)) (fun _ hk => hk.2) (.int .i64 ah)) (fun _ hk => hk.1)⟩, ⟨by (with_reducible repeat (first | apply zA | apply zB | apply zC)); exact zF (zD (p := ⟨aa, 3, none⟩) (zD (p := ⟨aa, 2, none⟩) (zD (p := ⟨aa, 1, none⟩) (zD (p := ⟨aa, 0, none⟩) (zG HO317.out a6.out (by decide)) (fun _ hk => hk.2) (.slice b0 ae.length co7)) (fun _ hk => hk.2) (.slice aq ad.length co9)) (fun _ hk => hk.2) (.slice b3 ac.length ai)) (fun _ hk => hk.2) (.int .i64 ah)) (fun _ hk => hk.1)⟩, ⟨by (with_reducible repeat (first | apply zO | apply zP | apply zQ)); refine zW (cs := #[.slice b0 ae.length co7, .slice aq ad.length co9, .slice b3 ac.length ai, .int .i64 0]) ?_ 3 _ rfl; (with_reducible repeat (first | apply zO | apply zP | apply zQ)); refine zW (cs := #[.slice b0 ae.length co7, .slice aq ad.length co9, .slice none 0 0, .int .i64 0]) ?_ 2 _ rfl; (with_reducible repeat (first | apply zO | apply zP | apply zQ)); refine zW (cs := #[.slice b0 ae.length co7, .slice none 0 0, .slice none 0 0, .int .i64 0]) ?_ 1 _ rfl; (with_reducible repeat (first | apply zO | apply zP | apply zQ)); refine zW (cs := #[.slice none 0 0, .slice none 0 0, .slice none 0 0, .int .i64 0]) ?_ 0 _ rfl; (with_reducible repeat (first | apply zO | apply zP | apply zQ)); exact a6.out⟩, ⟨uC HB.out ak.out⟩⟩
  rw [if_neg c11] at H
  have c11b0 : (t320 == 0) = false := beq_eq_false_iff_ne.mpr c11
  have c11b1 : (t320 != 0) = true := bne_iff_ne.mpr c11
  (first | rw [c11b0] | (simp only [i64_w, i32_w]; rw [c11b0]) | skip)
  have H' := uZ H
  clear H
  go_wp2
  go_meet
  case rel => exact ⟨_, (true), (by first | rfl | (simp; done) | (simp [*]; done)), H', ⟨by first | omega | exact Nat.le_refl _⟩, ⟨by (with_reducible repeat (first | apply zA | apply zB | apply zC)); exact zF (zD (p := ⟨aa, 3, none⟩) (zD (p := ⟨aa, 2, none⟩) (zD (p := ⟨aa, 1, none⟩) (zD (p := ⟨aa, 0, none⟩) (zG HO311.out a6.out (by decide)) (fun _ hk => hk.2) (.slice b0 ae.length co7)) (fun _ hk => hk.2) (.slice aq ad.length co9)) (fun _ hk => hk.2) (.slice b3 ac.length ai)) (fun _ hk => hk.2) (.int .i64 ah)) (fun _ hk => trivial)⟩, ⟨by (with_reducible repeat (first | apply zA | apply zB | apply zC)); exact zF (zD (p := ⟨aa, 3, none⟩) (zD (p := ⟨aa, 2, none⟩) (zD (p := ⟨aa, 1, none⟩) (zD (p := ⟨aa, 0, none⟩) (zG HO314.out a6.out (by decide)) (fun _ hk => hk.2) (.slice b0 ae.length co7)) (fun _ hk => hk.2) (.slice aq ad.length co9)) (fun _ hk => hk.2) (.slice b3 ac.length ai)) (fun _ hk => hk.2) (.int .i64 ah)) (fun _ hk => hk.1)⟩, ⟨by (with_reducible repeat (first | apply zA | apply zB | apply zC)); exact zF (zD (p := ⟨aa, 3, none⟩) (zD (p := ⟨aa, 2, none⟩) (zD (p := ⟨aa, 1, none⟩) (zD (p := ⟨aa, 0, none⟩) (zG HO317.out a6.out (by decide)) (fun _ hk => hk.2) (.slice b0 ae.length co7)) (fun _ hk => hk.2) (.slice aq ad.length co9)) (fun _ hk => hk.2) (.slice b3 ac.length ai)) (fun _ hk => hk.2) (.int .i64 ah)) (fun _ hk => hk.1)⟩, ⟨by (with_reducible repeat (first | apply zO | apply zP | apply zQ)); refine zW (cs := #[.slice b0 ae.length co7, .slice aq ad.length co9, .slice b3 ac.length ai, .int .i64 0]) ?_ 3 _ rfl; (with_reducible repeat (first | apply zO | apply zP | apply zQ)); refine zW (cs := #[.slice b0 ae.length co7, .slice aq ad.length co9, .slice none 0 0, .int .i64 0]) ?_ 2 _ rfl; (with_reducible repeat (first | apply zO | apply zP | apply zQ)); refine zW (cs := #[.slice b0 ae.length co7, .slice none 0 0, .slice none 0 0, .int .i64 0]) ?_ 1 _ rfl; (with_reducible repeat (first | apply zO | apply zP | apply zQ)); refine zW (cs := #[.slice none 0 0, .slice none 0 0, .slice none 0 0, .int .i64 0]) ?_ 0 _ rfl; (with_reducible repeat (first | apply zO | apply zP | apply zQ)); exact a6.out⟩, ⟨uC HB.out ak.out⟩⟩
 case rest =>
  clear HC4
  try clear c1
  try clear p2
  try clear c8
  try clear c11
  try clear c11b0
  try clear c11b1
  try clear hcz12_0
  try clear hcz12_1
  try clear hcz12_2
  try clear hcz12_3
  try clear hcz8_0
  try clear hcz8_1
  try clear hcz8_2
  try clear hcz8_3
  try clear hfz12_0
  try clear hfz12_1
  try clear hfz12_2
  try clear hfz12_3
  try clear hfz8_0
  try clear hfz8_1
  try clear hfz8_2
  try clear hfz8_3
  obtain ⟨kq, x32_3, rfl, HA, HJ3, a4, a3, a2, a6, HB⟩ := hcut
  cases kq with
  | zero => exact absurd HA.out (by simp [switchbacklaw17_RelaxLeast.j0])
  | succ kj3 =>
   have H := HA.out
   clear HA
   simp only [switchbacklaw17_RelaxLeast.j0] at H
   by_cases c13 : x32_3 = true
   ·subst c13
    have H1 : ((switchbacklaw17_live.f).bind fun t322 => (if t322 = true then (some ((ac.length : Int) == 0)) else (some false))) = some r := by rw [if_pos rfl] at H; exact H
    clear H
    have H := H1
    clear H1
    replace H := Option.bind_eq_some_iff.mp H
    obtain ⟨t322, A140, H⟩ := H
    replace H : (if t322 = true then (some ((ac.length : Int) == 0)) else (some false)) = some r := H
    have A14 := uZ A140
    clear A140
    by_cases c15 : t322 = true
    ·subst c15
     have H1 : (some ((ac.length : Int) == 0)) = some r := by rw [if_pos rfl] at H; exact H
     clear H
     have H := H1
     clear H1
     obtain rfl := Option.some.inj H
     go_wp2_with (first | ((with_reducible refine gate_callee (f := 21) rfl ?_); refine goesL_ (some 33) rfl rfl Tryd.func21 (by kernel_rfl) rfl #[] rfl (by (try simp only [yJ, List.map_cons, List.map_nil]); first | done | rfl | (simp only [yK, yL]; rfl)) ?_; (with_reducible refine (switchbacklaw17_live.calls  true _ (uZ (hLaid_.out.below (by repeat (first | (with_reducible first | exact HB.out | apply zS | apply zR | apply zT) | refine yA ?_ (Aside0.out (by assumption)) | exact HB.out)))) A14.out).mono ?_); rintro e w16 ⟨rfl, hb⟩; refine ⟨_, rfl, ?_⟩; have n0_ := uZ (zE (uR a4.out) hb); have n1_ := uZ (zE (uR a3.out) hb); have n2_ := uZ (zE (uR a2.out) hb); have n3_ := uZ (zY (g := aa) (o := .cells #[.slice b0 ae.length co7, .slice aq ad.length co9, .slice b3 ac.length ai, .int .i64 ah] 27 (0, 0)) (uK a6.out) hb); have n4_ := uZ (yC (uC HB.out ak.out) hb); clear a4; clear a3; clear a2; clear a6; clear HB; have a4 := n0_; have a3 := n1_; have a2 := n2_; have a6 := n3_; have HB := n4_; clear n0_ n1_ n2_ n3_ n4_; (try clear hb); (try clear hb2); (try clear hk); (try clear hi); have hcz17_0 : w16.cell? ⟨aa, 0, none⟩ = some (.slice b0 ae.length co7) := (zV a6.out 0).trans rfl; have hcz17_1 : w16.cell? ⟨aa, 1, none⟩ = some (.slice aq ad.length co9) := (zV a6.out 1).trans rfl; have hcz17_2 : w16.cell? ⟨aa, 2, none⟩ = some (.slice b3 ac.length ai) := (zV a6.out 2).trans rfl; have hcz17_3 : w16.cell? ⟨aa, 3, none⟩ = some (.int .i64 ah) := (zV a6.out 3).trans rfl; have hfz17_0 := zU a6.out 0; have hfz17_1 := zU a6.out 1; have hfz17_2 := zU a6.out 2; have hfz17_3 := zU a6.out 3))
     go_ret
     exact ⟨by first | rfl | (simp [errW_none, errW_some] <;> rfl) | (simp [*, errW_none, errW_some] <;> rfl), by repeat (first | (with_reducible first | exact HB.out | apply zS | apply zR | apply zT | refine yA ?_ ak.out) | exact HB.out)⟩
    replace c15 := Bool.eq_false_iff.mpr c15
    subst c15
    have H1 : (some false) = some r := by rw [if_neg (show ¬ (false = true) by decide)] at H; exact H
    clear H
    have H := H1
    clear H1
    obtain rfl := Option.some.inj H
    go_wp2_with (first | ((with_reducible refine gate_callee (f := 21) rfl ?_); refine goesL_ (some 33) rfl rfl Tryd.func21 (by kernel_rfl) rfl #[] rfl (by (try simp only [yJ, List.map_cons, List.map_nil]); first | done | rfl | (simp only [yK, yL]; rfl)) ?_; (with_reducible refine (switchbacklaw17_live.calls  false _ (uZ (hLaid_.out.below (by repeat (first | (with_reducible first | exact HB.out | apply zS | apply zR | apply zT) | refine yA ?_ (Aside0.out (by assumption)) | exact HB.out)))) A14.out).mono ?_); rintro e w18 ⟨rfl, hb⟩; refine ⟨_, rfl, ?_⟩; have n0_ := uZ (zE (uR a4.out) hb); have n1_ := uZ (zE (uR a3.out) hb); have n2_ := uZ (zE (uR a2.out) hb); have n3_ := uZ (zY (g := aa) (o := .cells #[.slice b0 ae.length co7, .slice aq ad.length co9, .slice b3 ac.length ai, .int .i64 ah] 27 (0, 0)) (uK a6.out) hb); have n4_ := uZ (yC (uC HB.out ak.out) hb); clear a4; clear a3; clear a2; clear a6; clear HB; have a4 := n0_; have a3 := n1_; have a2 := n2_; have a6 := n3_; have HB := n4_; clear n0_ n1_ n2_ n3_ n4_; (try clear hb); (try clear hb2); (try clear hk); (try clear hi)))
    go_ret
    exact ⟨by first | rfl | (simp [errW_none, errW_some] <;> rfl) | (simp [*, errW_none, errW_some] <;> rfl), by repeat (first | (with_reducible first | exact HB.out | apply zS | apply zR | apply zT | refine yA ?_ ak.out) | exact HB.out)⟩
   replace c13 := Bool.eq_false_iff.mpr c13
   subst c13
   have H1 : (if 0 ≤ (l0.length : Int) then (if ((l0.length : Int) : Int).toNat ≤ 281474976710656 then (switchbacklaw17_RelaxLeast.l0 kj3 l0 l1 (List.replicate ((l0.length : Int) : Int).toNat false) 0 ae ad ac ah) else (none)) else (none)) = some r := by rw [if_neg (show ¬ (false = true) by decide)] at H; exact H
   clear H
   have H := H1
   clear H1
   by_cases c19 : 0 ≤ (l0.length : Int)
   ·rw [if_pos c19] at H
    have c19b0 := eq_true c19
    have c19b1 : decide (0 ≤ (l0.length : Int)) = true := decide_eq_true c19
    clear c19
    by_cases c20 : ((l0.length : Int) : Int).toNat ≤ 281474976710656
    ·rw [if_pos c20] at H
     have c20b0 := eq_true c20
     have c20b1 : decide (((l0.length : Int) : Int).toNat ≤ 281474976710656) = true := decide_eq_true c20
     clear c20
     obtain ⟨y323, hy323⟩ : ∃ y_ : List Bool, y_ = (List.replicate ((l0.length : Int) : Int).toNat false) := ⟨_, rfl⟩
     replace H : (switchbacklaw17_RelaxLeast.l0 kj3 l0 l1 y323 0 ae ad ac ah) = some r := by first | (rw [hy323]; with_reducible exact H) | (have H2_ := (Option.bind_some _ _).symm.trans H; rw [hy323]; with_reducible exact H2_) | (have H2_ := (Option.bind_some _ _).symm.trans H; with_reducible exact H2_) | with_reducible exact H | (rw [hy323]; exact H) | exact H
     have Ny323 := uZ hy323
     clear hy323
     have HC21 := uZ H
     clear H
     go_upto_block 0 with (first | ((with_reducible refine gate_dst (N := 42) rfl ?_); (try (refine gate_guard (by rfl) ?_; dsimp only)); refine Kd.R_make Kd.bool _ 4 rfl (N := 42) rfl 46 _ _ rfl (l0.length : Int) rfl rfl Tryd.underlying46 (.bool false) 1 info4 rfl (by decide) (by omega) false (ok := fun _ => True) (okp := fun _ => True) rfl (fun _ hk => hk) trivial (uA) (Nat.le_trans (Nat.mul_le_mul_right _ (uA : (l0.length : Int).toNat ≤ 281474976710656)) (by omega)) (Below.refl _ _) (Nat.le_refl _) ?_; intro v324 w22 ho23 hb hg_ hnew_; clear hg_ hnew_; (first | rw [← Ny323.out] at ho23 | (simp only [Int.reduceToNat] at ho23; rw [← Ny323.out] at ho23)); have n0_ := uZ (zE (uR a4.out) hb); have n1_ := uZ (zE (uR a3.out) hb); have n2_ := uZ (zE (uR a2.out) hb); have n3_ := uZ (Kd.R_lower ho23 (yB (uC HB.out ak.out))); have n4_ := uZ (zY (g := aa) (o := .cells #[.slice b0 ae.length co7, .slice aq ad.length co9, .slice b3 ac.length ai, .int .i64 ah] 27 (0, 0)) (uK a6.out) hb); have n5_ := uZ (yC (uC HB.out ak.out) hb); clear a4; clear a3; clear a2; clear a6; clear HB; have a4 := n0_; have a3 := n1_; have a2 := n2_; have HO325 := n3_; have a6 := n4_; have HB := n5_; clear n0_ n1_ n2_ n3_ n4_ n5_; clear hb ho23))
     (try simp only [Act.put, yE, yF, yG])
     go_cut [] (fun wc => ∃ (kq : Nat) (aj : List Bool), Aside0 (switchbacklaw17_RelaxLeast.j2 kq l0 aj ae ad ac ah = some r) ∧ Aside0 (kq ≤ kj3) ∧ Aside0 (Kd.R Kd.bool 4 wc w.heap.size (fun _ => True) v324 aj) ∧ Aside0 (Kd.R (Kd.int .u32) 38 wc w.heap.size (fun _ => True) (.slice b0 ae.length co7) ae) ∧ Aside0 (Kd.R (Kd.int .i64) 3 wc w.heap.size (fun k_ => some k_ ≠ ((.slice b3 ac.length ai) : Value).ownBlock) (.slice aq ad.length co9) ad) ∧ Aside0 (Kd.R (Kd.int .i64) 3 wc w.heap.size (fun k_ => some k_ ≠ ((.slice aq ad.length co9) : Value).ownBlock) (.slice b3 ac.length ai) ac) ∧ Aside0 (wc.heap[aa]? = some (.cells #[(.slice b0 ae.length co7), (.slice aq ad.length co9), (.slice b3 ac.length ai), .int .i64 ah] 27 (0, 0))) ∧ Aside0 (Below w.heap.size w wc))
     case first =>
      have H := HC21.out
      clear HC21
      have H' := uZ H
      clear H
      go_wp2
      go_loopg [9] kj3 (fun kq v9 w' => ∃ (x8_2 : List Bool) (bf : Int), v9 = .int .i64 bf ∧ Aside0 (switchbacklaw17_RelaxLeast.l0 kq l0 l1 x8_2 bf ae ad ac ah = some r) ∧ Aside0 (kq ≤ kj3) ∧ Aside0 (Kd.R Kd.bool 4 w' w.heap.size (fun _ => True) v324 x8_2) ∧ Aside0 (Kd.R (Kd.int .u32) 38 w' w.heap.size (fun _ => True) (.slice b0 ae.length co7) ae) ∧ Aside0 (Kd.R (Kd.int .i64) 3 w' w.heap.size (fun k_ => some k_ ≠ ((.slice b3 ac.length ai) : Value).ownBlock) (.slice aq ad.length co9) ad) ∧ Aside0 (Kd.R (Kd.int .i64) 3 w' w.heap.size (fun k_ => some k_ ≠ ((.slice aq ad.length co9) : Value).ownBlock) (.slice b3 ac.length ai) ac) ∧ Aside0 (w'.heap[aa]? = some (.cells #[(.slice b0 ae.length co7), (.slice aq ad.length co9), (.slice b3 ac.length ai), .int .i64 ah] 27 (0, 0))) ∧ Aside0 (Below w.heap.size w w'))
      case atStart => exact ⟨(y323), (0), (by first | rfl | (simp; done) | (simp [*]; done)), H', ⟨Nat.le_refl _⟩, ⟨uR HO325.out⟩, ⟨uR a4.out⟩, ⟨uR a3.out⟩, ⟨uR a2.out⟩, ⟨uK a6.out⟩, ⟨uC HB.out ak.out⟩⟩
      case round =>
       clear H'
       try clear c1
       try clear c2
       try clear p2
       try clear c8
       try clear c11
       try clear c11b0
       try clear c11b1
       try clear c13
       try clear c15
       try clear c19
       try clear c19b0
       try clear c19b1
       try clear c20
       try clear c20b0
       try clear c20b1
       try clear c21
       try clear hcz12_0
       try clear hcz12_1
       try clear hcz12_2
       try clear hcz12_3
       try clear hcz17_0
       try clear hcz17_1
       try clear hcz17_2
       try clear hcz17_3
       try clear hcz8_0
       try clear hcz8_1
       try clear hcz8_2
       try clear hcz8_3
       try clear hfz12_0
       try clear hfz12_1
       try clear hfz12_2
       try clear hfz12_3
       try clear hfz17_0
       try clear hfz17_1
       try clear hfz17_2
       try clear hfz17_3
       try clear hfz8_0
       try clear hfz8_1
       try clear hfz8_2
       try clear hfz8_3
       try clear p2
       obtain ⟨x8_2, bf, rfl, HA, HK2, af, a4, a3, a2, a6, HB⟩ := hrel
       cases gk with
       | zero => exact absurd HA.out (by simp [switchbacklaw17_RelaxLeast.l0])
       | succ k2 =>
        have H := HA.out
        clear HA
        simp only [switchbacklaw17_RelaxLeast.l0] at H
        by_cases c24 : bf < (l0.length : Int)
        ·rw [if_pos c24] at H
         have c24b0 : decide (bf < (l0.length : Int)) = true := decide_eq_true c24
         clear c24
         (first | rw [c24b0] | (simp only [i64_w, i32_w]; rw [c24b0]) | skip)
         by_cases c25 : bf < (l1.length : Int)
         ·rw [if_pos c25] at H
          have c25b0 : decide (bf < (l1.length : Int)) = true := decide_eq_true c25
          clear c25
          by_cases c26 : 0 ≤ bf
          ·rw [if_pos c26] at H
           have c26b0 : decide (0 ≤ bf) = true := decide_eq_true c26
           clear c26
           by_cases c27 : bf < (x8_2.length : Int)
           ·rw [if_pos c27] at H
            have c27b0 : decide (bf < (x8_2.length : Int)) = true := decide_eq_true c27
            clear c27
            obtain ⟨y327, hy327⟩ : ∃ y_ : List Bool, y_ = (x8_2.set (bf : Int).toNat (rdOf false l1 bf)) := ⟨_, rfl⟩
            replace H : (switchbacklaw17_RelaxLeast.l0 k2 l0 l1 y327 (wrap64 (bf + 1)) ae ad ac ah) = some r := by first | (rw [hy327]; with_reducible exact H) | (have H2_ := (Option.bind_some _ _).symm.trans H; rw [hy327]; with_reducible exact H2_) | (have H2_ := (Option.bind_some _ _).symm.trans H; with_reducible exact H2_) | with_reducible exact H | (rw [hy327]; exact H) | exact H
            have Ny327 := uZ hy327
            clear hy327
            have H' := uZ H
            clear H
            have p326 : 0 ≤ (bf : Int) := uA
            have q326 : bf < (l1.length : Int) := uA
            obtain ⟨ad326, e326, c7⟩ := Kd.at_bool HR1.out bf p326 q326
            cases e326
            replace c7 := (HB.out.cell (yD w _ c7)).trans c7
            replace p326 := eq_true p326
            replace q326 := eq_true q326
            have p28 : 0 ≤ (bf : Int) := uA
            have q28 : (bf : Int) < ((x8_2.length : Int) : Int) := uA
            obtain ⟨go28, co28, eo28, gb28, gl28, cl28, HG28⟩ := Kd.R_form af.out (by omega)
            (first | cases eo28 | (injection eo28 with ea_ en_ ec_; (first | subst ea_ | (injection ea_ with ea_; subst ea_)); subst ec_; clear en_))
            have GB28 := uZ gb28
            have GG28 := uZ HG28
            clear gb28 gl28 HG28
            obtain ⟨hx28_0, hf28_0⟩ := Kd.R_celln false af.out (bf : Int) p28 q28
            replace p28 := eq_true p28
            replace q28 := eq_true q28
            have HP29 := Kd.R_putg af.out (bf : Int) (rdOf false l1 bf)
            go_wp2_with (first | ((with_reducible refine gate_store (t := 4) (p := 61) rfl ?_); refine store_event (t := 4) (p := 61) (v := ?vo_w30) (w1 := (wr.setCell ⟨go28, (bf : Int).toNat, none⟩ (.bool (rdOf false l1 bf)))) ?hg ?ho ?hn ?hr ?_; (case ho => rfl); (case hg => rfl); (case hn => rfl); (case hr => first | (go_simp; done) | (go_simp; rfl)); intro w30 hw; have hg : wr.grownBy w30 (some go28) := (by rw [hw]; exact HP29.2); have hp_ : Kd.R Kd.bool 4 w30 w.heap.size (fun _ => True) (.slice (some ⟨go28, 0, none⟩) x8_2.length co28) y327 := (by rw [hw, Ny327.out]; exact HP29.1); clear HP29; have n0_ := uZ (hp_); have n1_ := uZ (Kd.R_over' (v := (.slice (some ⟨go28, 0, none⟩) x8_2.length co28)) (uR a4.out) (Kd.R_typed af.out) (by decide) hg); have n2_ := uZ (Kd.R_over' (v := (.slice (some ⟨go28, 0, none⟩) x8_2.length co28)) (uR a3.out) (Kd.R_typed af.out) (by decide) hg); have n3_ := uZ (Kd.R_over' (v := (.slice (some ⟨go28, 0, none⟩) x8_2.length co28)) (uR a2.out) (Kd.R_typed af.out) (by decide) hg); have n4_ := uZ (blk_grown (g := aa) (o := .cells #[.slice b0 ae.length co7, .slice aq ad.length co9, .slice b3 ac.length ai, .int .i64 ah] 27 (0, 0)) (uK a6.out) hg (zN af.out a6.out (by decide))); have n5_ := uZ ((by rw [hw]; exact yA (HB.out) GB28.out : Below w.heap.size w w30)); clear af; clear a4; clear a3; clear a2; clear a6; clear HB; have af := n0_; have a4 := n1_; have a3 := n2_; have a2 := n3_; have a6 := n4_; have HB := n5_; clear n0_ n1_ n2_ n3_ n4_ n5_; clear hg hw hp_))
            go_roundg k2
            case measure => have := HJ3.out; have := HK2.out; omega
            case rel => exact ⟨(y327), (wrap64 (bf + 1)), (by first | rfl | (simp; done) | (simp [*]; done)), H', ⟨by have := HJ3.out; have := HK2.out; omega⟩, ⟨uR af.out⟩, ⟨uR a4.out⟩, ⟨uR a3.out⟩, ⟨uR a2.out⟩, ⟨uK a6.out⟩, ⟨uC HB.out ak.out⟩⟩
           rw [if_neg c27] at H
           exact absurd H (by simp)
          rw [if_neg c26] at H
          exact absurd H (by simp)
         rw [if_neg c25] at H
         have c25b0 : decide (bf < (l1.length : Int)) = false := decide_eq_false c25
         clear c25
         have H' := uZ H
         clear H
         go_wp2
         go_meet
         case rel => exact ⟨_, (x8_2), H', ⟨by have := HJ3.out; have := HK2.out; first | omega | exact Nat.le_refl _⟩, ⟨uR af.out⟩, ⟨uR a4.out⟩, ⟨uR a3.out⟩, ⟨uR a2.out⟩, ⟨uK a6.out⟩, ⟨uC HB.out ak.out⟩⟩
        rw [if_neg c24] at H
        have c24b0 : decide (bf < (l0.length : Int)) = false := decide_eq_false c24
        clear c24
        (first | rw [c24b0] | (simp only [i64_w, i32_w]; rw [c24b0]) | skip)
        have H' := uZ H
        clear H
        go_wp2
        go_meet
        case rel => exact ⟨_, (x8_2), H', ⟨by have := HJ3.out; have := HK2.out; first | omega | exact Nat.le_refl _⟩, ⟨uR af.out⟩, ⟨uR a4.out⟩, ⟨uR a3.out⟩, ⟨uR a2.out⟩, ⟨uK a6.out⟩, ⟨uC HB.out ak.out⟩⟩
     case rest =>
      clear HC21
      try clear c1
      try clear c2
      try clear p2
      try clear q2
      try clear hx2
      try clear hf2
      try clear p3
      try clear q3
      try clear hx3
      try clear p6
      try clear c8
      try clear c11
      try clear c11b0
      try clear c11b1
      try clear c13
      try clear c15
      try clear c19
      try clear c19b0
      try clear c19b1
      try clear c20
      try clear c20b0
      try clear c20b1
      try clear c21
      try clear c24
      try clear c24b0
      try clear c25
      try clear c25b0
      try clear c26
      try clear c26b0
      try clear c27
      try clear c27b0
      try clear p28
      try clear q28
      try clear hx28
      try clear hf28
      try clear hcz12_0
      try clear hcz12_1
      try clear hcz12_2
      try clear hcz12_3
      try clear hcz17_0
      try clear hcz17_1
      try clear hcz17_2
      try clear hcz17_3
      try clear hcz8_0
      try clear hcz8_1
      try clear hcz8_2
      try clear hcz8_3
      try clear hfz12_0
      try clear hfz12_1
      try clear hfz12_2
      try clear hfz12_3
      try clear hfz17_0
      try clear hfz17_1
      try clear hfz17_2
      try clear hfz17_3
      try clear hfz8_0
      try clear hfz8_1
      try clear hfz8_2
      try clear hfz8_3
      try clear hx28_0
      try clear c7
      try clear p2
      try clear p28
      try clear p326
      try clear q28
      try clear q326
      obtain ⟨kq, aj, HA, HJ20, af, a4, a3, a2, a6, HB⟩ := hcut
      cases kq with
      | zero => exact absurd HA.out (by simp [switchbacklaw17_RelaxLeast.j2])
      | succ kj20 =>
       have H := HA.out
       clear HA
       simp only [switchbacklaw17_RelaxLeast.j2] at H
       replace H := Option.bind_eq_some_iff.mp H
       obtain ⟨⟨b6, t329, b7⟩, A310, H⟩ := H
       replace H : (switchbacklaw17_RelaxLeast.l1 kj20 l0 aj b6 b7 0 ae ad ac ah) = some r := H
       have A31 := uZ A310
       clear A310
       have H' := uZ H
       clear H
       obtain ⟨c9, ca, eo32⟩ := zH af.out
       subst eo32
       go_wp2_with (first | ((with_reducible refine gate_callee (f := 30) rfl ?_); refine goesL_ (some 65) rfl rfl Tryd.func30 (by kernel_rfl) rfl #[.slice A0 l0.length c0, .slice c9 aj.length ca] rfl (by (try simp only [yJ, List.map_cons, List.map_nil]); first | done | rfl | (simp only [yK, yL]; rfl)) ?_; (with_reducible refine (switchbackref17_Places.calls kj20 _ _ l0 _ _ aj b6 t329 b7 _ ?side1 ?side2 ?side3 ?side4 A31.out).mono ?_); (case side1 => repeat (first | exact (Kd.C_below HR0.out HB.out) | (with_reducible refine zJ ?_ _) | (with_reducible refine zK ?_ _) | (with_reducible refine zL ?_))); (case side2 => exact HC0.out); (case side3 => repeat (first | exact (zI af.out).2.2 | (with_reducible refine zJ ?_ _) | (with_reducible refine zK ?_ _) | (with_reducible refine zL ?_))); (case side4 => exact (zI af.out).2.1); rintro e w33 ⟨v331, v333, rfl, ho0, ho1, hb⟩; obtain ⟨Ap_, cAp_, rfl⟩ := zH ho0; obtain ⟨Aq_, cAq_, rfl⟩ := zH ho1; refine ⟨_, rfl, ?_⟩; have n0_ := uZ (zE (uR af.out) hb); have n1_ := uZ (zE (uR a4.out) hb); have n2_ := uZ (zF (Kd.R_told (Kd.R_told (Kd.R_old (uR a3.out) hb) (Kd.R_base ho0)) (Kd.R_base ho1)) (fun _ h_ => h_.1)); have n3_ := uZ (zF (Kd.R_told (Kd.R_told (Kd.R_old (uR a2.out) hb) (Kd.R_base ho0)) (Kd.R_base ho1)) (fun _ h_ => h_.1)); have n4_ := uZ (Kd.R_lower (Kd.R_new' (Kd.R_new' ho0 (Kd.R_lt (uR a3.out))) (Kd.R_lt (uR a2.out))) (yB (uC HB.out ak.out))); have n5_ := uZ (Kd.R_lower (Kd.R_new' (Kd.R_new' ho1 (Kd.R_lt (uR a3.out))) (Kd.R_lt (uR a2.out))) (yB (uC HB.out ak.out))); have n6_ := uZ (zY (g := aa) (o := .cells #[.slice b0 ae.length co7, .slice aq ad.length co9, .slice b3 ac.length ai, .int .i64 ah] 27 (0, 0)) (uK a6.out) hb); have n7_ := uZ (yC (uC HB.out ak.out) hb); clear af; clear a4; clear a3; clear a2; clear a6; clear HB; have af := n0_; have a4 := n1_; have a3 := n2_; have a2 := n3_; have HO332 := n4_; have HO334 := n5_; have a6 := n6_; have HB := n7_; clear n0_ n1_ n2_ n3_ n4_ n5_ n6_ n7_; (try clear hb); (try clear hb2); (try clear hk); (try clear hi); (try clear ho0); (try clear ho1)))
       go_loopg [13] kj20 (fun kq v13 w' => ∃ (a7 : Int), v13 = .int .i64 a7 ∧ Aside0 (switchbacklaw17_RelaxLeast.l1 kq l0 aj b6 b7 a7 ae ad ac ah = some r) ∧ Aside0 (kq ≤ kj20) ∧ Aside0 (Kd.R Kd.bool 4 w' w.heap.size (fun _ => True) (.slice c9 aj.length ca) aj) ∧ Aside0 (Kd.R (Kd.int .i64) 3 w' w.heap.size (fun k_ => some k_ ≠ (.slice Aq_ b7.length cAq_ : Value).ownBlock ∧ some k_ ≠ ((.slice aq ad.length co9) : Value).ownBlock ∧ some k_ ≠ ((.slice b3 ac.length ai) : Value).ownBlock) (.slice Ap_ b6.length cAp_ : Value) b6) ∧ Aside0 (Kd.R (Kd.int .i64) 3 w' w.heap.size (fun k_ => some k_ ≠ (.slice Ap_ b6.length cAp_ : Value).ownBlock ∧ some k_ ≠ ((.slice aq ad.length co9) : Value).ownBlock ∧ some k_ ≠ ((.slice b3 ac.length ai) : Value).ownBlock) (.slice Aq_ b7.length cAq_ : Value) b7) ∧ Aside0 (Kd.R (Kd.int .u32) 38 w' w.heap.size (fun _ => True) (.slice b0 ae.length co7) ae) ∧ Aside0 (Kd.R (Kd.int .i64) 3 w' w.heap.size (fun k_ => some k_ ≠ (.slice Ap_ b6.length cAp_ : Value).ownBlock ∧ some k_ ≠ (.slice Aq_ b7.length cAq_ : Value).ownBlock ∧ some k_ ≠ ((.slice b3 ac.length ai) : Value).ownBlock) (.slice aq ad.length co9) ad) ∧ Aside0 (Kd.R (Kd.int .i64) 3 w' w.heap.size (fun k_ => some k_ ≠ (.slice Ap_ b6.length cAp_ : Value).ownBlock ∧ some k_ ≠ (.slice Aq_ b7.length cAq_ : Value).ownBlock ∧ some k_ ≠ ((.slice aq ad.length co9) : Value).ownBlock) (.slice b3 ac.length ai) ac) ∧ Aside0 (w'.heap[aa]? = some (.cells #[(.slice b0 ae.length co7), (.slice aq ad.length co9), (.slice b3 ac.length ai), .int .i64 ah] 27 (0, 0))) ∧ Aside0 (Below w.heap.size w w'))
       case atStart => exact ⟨(0), (by first | rfl | (simp; done) | (simp [*]; done)), H', ⟨Nat.le_refl _⟩, ⟨uR af.out⟩, ⟨by (with_reducible repeat (first | apply zA | apply zB | apply zC)); exact zF HO332.out (fun _ hk => ⟨hk.1.1, ⟨hk.1.2, hk.2⟩⟩)⟩, ⟨by (with_reducible repeat (first | apply zA | apply zB | apply zC)); exact zF HO334.out (fun _ hk => ⟨hk.1.1, ⟨hk.1.2, hk.2⟩⟩)⟩, ⟨uR a4.out⟩, ⟨by (with_reducible repeat (first | apply zA | apply zB | apply zC)); exact zF a3.out (fun _ hk => ⟨hk.1.2, ⟨hk.2, hk.1.1⟩⟩)⟩, ⟨by (with_reducible repeat (first | apply zA | apply zB | apply zC)); exact zF a2.out (fun _ hk => ⟨hk.1.2, ⟨hk.2, hk.1.1⟩⟩)⟩, ⟨uK a6.out⟩, ⟨uC HB.out ak.out⟩⟩
       case round =>
        clear H'
        try clear c1
        try clear c2
        try clear p2
        try clear q2
        try clear hx2
        try clear hf2
        try clear c3
        try clear p3
        try clear q3
        try clear hx3
        try clear p6
        try clear c8
        try clear c11
        try clear c11b0
        try clear c11b1
        try clear c13
        try clear c15
        try clear c19
        try clear c19b0
        try clear c19b1
        try clear c20
        try clear c20b0
        try clear c20b1
        try clear c21
        try clear c24
        try clear c24b0
        try clear c25
        try clear c25b0
        try clear c26
        try clear c26b0
        try clear c27
        try clear c27b0
        try clear p28
        try clear q28
        try clear hx28
        try clear hf28
        try clear c30
        try clear p32
        try clear q32
        try clear hx32
        try clear hcz12_0
        try clear hcz12_1
        try clear hcz12_2
        try clear hcz12_3
        try clear hcz17_0
        try clear hcz17_1
        try clear hcz17_2
        try clear hcz17_3
        try clear hcz8_0
        try clear hcz8_1
        try clear hcz8_2
        try clear hcz8_3
        try clear hfz12_0
        try clear hfz12_1
        try clear hfz12_2
        try clear hfz12_3
        try clear hfz17_0
        try clear hfz17_1
        try clear hfz17_2
        try clear hfz17_3
        try clear hfz8_0
        try clear hfz8_1
        try clear hfz8_2
        try clear hfz8_3
        try clear hx28_0
        try clear c7
        try clear p2
        try clear p28
        try clear p3
        try clear p326
        try clear p6
        try clear q2
        try clear q28
        try clear q3
        try clear q326
        obtain ⟨a7, rfl, HA, HK3, af, b1, b2, a4, a3, a2, a6, HB⟩ := hrel
        cases gk with
        | zero => exact absurd HA.out (by simp [switchbacklaw17_RelaxLeast.l1])
        | succ k3 =>
         have H := HA.out
         clear HA
         simp only [switchbacklaw17_RelaxLeast.l1] at H
         by_cases c34 : a7 < (l0.length : Int)
         ·rw [if_pos c34] at H
          have c34b0 : decide (a7 < (l0.length : Int)) = true := decide_eq_true c34
          clear c34
          have HC35 := uZ H
          clear H
          go_upto_region 13 with (fail)
          go_cut [104] (fun v104 wc => ∃ (kq : Nat) (x104_34 : Bool), v104 = .bool x104_34 ∧ Aside0 (switchbacklaw17_RelaxLeast.j4 kq l0 aj b6 b7 a7 x104_34 ae ad ac ah = some r) ∧ Aside0 (kq ≤ k3) ∧ Aside0 (Kd.R Kd.bool 4 wc w.heap.size (fun _ => True) (.slice c9 aj.length ca) aj) ∧ Aside0 (Kd.R (Kd.int .i64) 3 wc w.heap.size (fun k_ => some k_ ≠ (.slice Aq_ b7.length cAq_ : Value).ownBlock ∧ some k_ ≠ ((.slice aq ad.length co9) : Value).ownBlock ∧ some k_ ≠ ((.slice b3 ac.length ai) : Value).ownBlock) (.slice Ap_ b6.length cAp_ : Value) b6) ∧ Aside0 (Kd.R (Kd.int .i64) 3 wc w.heap.size (fun k_ => some k_ ≠ (.slice Ap_ b6.length cAp_ : Value).ownBlock ∧ some k_ ≠ ((.slice aq ad.length co9) : Value).ownBlock ∧ some k_ ≠ ((.slice b3 ac.length ai) : Value).ownBlock) (.slice Aq_ b7.length cAq_ : Value) b7) ∧ Aside0 (Kd.R (Kd.int .u32) 38 wc w.heap.size (fun _ => True) (.slice b0 ae.length co7) ae) ∧ Aside0 (Kd.R (Kd.int .i64) 3 wc w.heap.size (fun k_ => some k_ ≠ (.slice Ap_ b6.length cAp_ : Value).ownBlock ∧ some k_ ≠ (.slice Aq_ b7.length cAq_ : Value).ownBlock ∧ some k_ ≠ ((.slice b3 ac.length ai) : Value).ownBlock) (.slice aq ad.length co9) ad) ∧ Aside0 (Kd.R (Kd.int .i64) 3 wc w.heap.size (fun k_ => some k_ ≠ (.slice Ap_ b6.length cAp_ : Value).ownBlock ∧ some k_ ≠ (.slice Aq_ b7.length cAq_ : Value).ownBlock ∧ some k_ ≠ ((.slice aq ad.length co9) : Value).ownBlock) (.slice b3 ac.length ai) ac) ∧ Aside0 (wc.heap[aa]? = some (.cells #[(.slice b0 ae.length co7), (.slice aq ad.length co9), (.slice b3 ac.length ai), .int .i64 ah] 27 (0, 0))) ∧ Aside0 (Below w.heap.size w wc))
          case first =>
           have H := HC35.out
           clear HC35
           by_cases c36 : 0 ≤ a7
           ·rw [if_pos c36] at H
            have c36b0 : decide (0 ≤ a7) = true := decide_eq_true c36
            clear c36
            (first | rw [c36b0] | (simp only [i64_w, i32_w]; rw [c36b0]) | skip)
            replace H := Option.bind_eq_some_iff.mp H
            obtain ⟨t336, A370, H⟩ := H
            replace H : (if t336 = true then (if a7 < (aj.length : Int) then (if rdOf false aj a7 = true then (switchbacklaw17_RelaxLeast.j4 k3 l0 aj b6 b7 a7 false ae ad ac ah) else (if 0 ≤ ((rd_T40 l0 a7).f5) then (if ((rd_T40 l0 a7).f5) < (b7.length : Int) then (if a7 < (b6.length : Int) then ((switchbackref17_Near.f (wrap64 ((wrap64 ((rd b7 ((rd_T40 l0 a7).f5)) - (rd b6 a7))) - 1))).bind fun t341 => (switchbacklaw17_RelaxLeast.j4 k3 l0 aj b6 b7 a7 (!t341) ae ad ac ah)) else (none)) else (none)) else (none))) else (none)) else (switchbacklaw17_RelaxLeast.j4 k3 l0 aj b6 b7 a7 false ae ad ac ah)) = some r := H
            have A37 := uZ A370
            clear A370
            by_cases c38 : t336 = true
            ·subst c38
             have H1 : (if a7 < (aj.length : Int) then (if rdOf false aj a7 = true then (switchbacklaw17_RelaxLeast.j4 k3 l0 aj b6 b7 a7 false ae ad ac ah) else (if 0 ≤ ((rd_T40 l0 a7).f5) then (if ((rd_T40 l0 a7).f5) < (b7.length : Int) then (if a7 < (b6.length : Int) then ((switchbackref17_Near.f (wrap64 ((wrap64 ((rd b7 ((rd_T40 l0 a7).f5)) - (rd b6 a7))) - 1))).bind fun t341 => (switchbacklaw17_RelaxLeast.j4 k3 l0 aj b6 b7 a7 (!t341) ae ad ac ah)) else (none)) else (none)) else (none))) else (none)) = some r := by rw [if_pos rfl] at H; exact H
             clear H
             have H := H1
             clear H1
             by_cases c39 : a7 < (aj.length : Int)
             ·rw [if_pos c39] at H
              have c39b0 : decide (a7 < (aj.length : Int)) = true := decide_eq_true c39
              clear c39
              obtain ⟨bq40, hbq40⟩ : ∃ b_ : Bool, b_ = (rdOf false aj a7) := ⟨_, rfl⟩
              replace H : (if bq40 = true then (switchbacklaw17_RelaxLeast.j4 k3 l0 aj b6 b7 a7 false ae ad ac ah) else (if 0 ≤ ((rd_T40 l0 a7).f5) then (if ((rd_T40 l0 a7).f5) < (b7.length : Int) then (if a7 < (b6.length : Int) then ((switchbackref17_Near.f (wrap64 ((wrap64 ((rd b7 ((rd_T40 l0 a7).f5)) - (rd b6 a7))) - 1))).bind fun t341 => (switchbacklaw17_RelaxLeast.j4 k3 l0 aj b6 b7 a7 (!t341) ae ad ac ah)) else (none)) else (none)) else (none))) = some r := by rw [← hbq40] at H; exact H
              have Nbq40 := uZ hbq40
              clear hbq40
              by_cases c41 : bq40 = true
              ·subst c41
               have H1 : (switchbacklaw17_RelaxLeast.j4 k3 l0 aj b6 b7 a7 false ae ad ac ah) = some r := by rw [if_pos rfl] at H; exact H
               clear H
               have H := H1
               clear H1
               have H' := uZ H
               clear H
               try go_wp2
               have n0_ := uZ (zC af.out)
               have n1_ := uZ (zC b1.out)
               have n2_ := uZ (zC b2.out)
               have n3_ := uZ (zC a4.out)
               have n4_ := uZ (zC a3.out)
               have n5_ := uZ (zC a2.out)
               have n6_ := uZ (zP a6.out)
               have n7_ := uZ (zT HB.out)
               clear af
               clear b1
               clear b2
               clear a4
               clear a3
               clear a2
               clear a6
               clear HB
               have af := n0_
               have b1 := n1_
               have b2 := n2_
               have a4 := n3_
               have a3 := n4_
               have a2 := n5_
               have a6 := n6_
               have HB := n7_
               clear n0_ n1_ n2_ n3_ n4_ n5_ n6_ n7_
               have cb : 0 ≤ (a7 : Int) := uA
               have cc : a7 < (l0.length : Int) := uA
               obtain ⟨am, A335_6, c335_6, e335, au, av, aw, ax, ay, az, a_, hl335_6, hi335_6⟩ := at_T40 HR0.out a7 cb cc
               have hw335_6 := a_
               have hw335_5 := az
               have hw335_4 := ay
               have hw335_3 := ax
               have hw335_2 := aw
               have hw335_1 := av
               have hw335_0 := au
               cases e335
               replace au := (HB.out.cell (yD w _ au)).trans au
               replace av := (HB.out.cell (yD w _ av)).trans av
               replace aw := (HB.out.cell (yD w _ aw)).trans aw
               replace ax := (HB.out.cell (yD w _ ax)).trans ax
               replace ay := (HB.out.cell (yD w _ ay)).trans ay
               replace az := (HB.out.cell (yD w _ az)).trans az
               replace a_ := (HB.out.cell (yD w _ a_)).trans a_
               have bh := uZ hi335_6
               have cd := uZ hl335_6
               clear hi335_6 hl335_6
               replace cb := eq_true cb
               replace cc := eq_true cc
               have p337 : 0 ≤ (a7 : Int) := uA
               have q337 : a7 < (aj.length : Int) := uA
               obtain ⟨ad337, e337, bg⟩ := Kd.at_bool (zI af.out).2.2 a7 p337 q337
               (try rw [← Nbq40.out] at bg)
               cases e337
               replace p337 := eq_true p337
               replace q337 := eq_true q337
               refine start_ (n := 30) (S := fun w' => w'.cell? (am.add ((a7).toNat * 7)) = some (.int .i64 ((rd_T40 l0 a7).f0)) ∧ w'.cell? ⟨(am.add ((a7).toNat * 7)).block, (am.add ((a7).toNat * 7)).off + 1, none⟩ = some (.int .i64 ((rd_T40 l0 a7).f1)) ∧ w'.cell? ⟨(am.add ((a7).toNat * 7)).block, (am.add ((a7).toNat * 7)).off + 2, none⟩ = some (.int .i64 ((rd_T40 l0 a7).f2)) ∧ w'.cell? ⟨(am.add ((a7).toNat * 7)).block, (am.add ((a7).toNat * 7)).off + 3, none⟩ = some (.int .i64 ((rd_T40 l0 a7).f3)) ∧ w'.cell? ⟨(am.add ((a7).toNat * 7)).block, (am.add ((a7).toNat * 7)).off + 4, none⟩ = some (.int .u32 ((rd_T40 l0 a7).f4)) ∧ w'.cell? ⟨(am.add ((a7).toNat * 7)).block, (am.add ((a7).toNat * 7)).off + 5, none⟩ = some (.int .i64 ((rd_T40 l0 a7).f5)) ∧ w'.cell? ⟨(am.add ((a7).toNat * 7)).block, (am.add ((a7).toNat * 7)).off + 6, none⟩ = some (.slice A335_6 ((rd_T40 l0 a7).f6).length c335_6) ∧ w'.cell? (ad337.add (a7).toNat) = some (.bool true)) (ds := []) #[false, false, false, false, false, false, false, false, false, false, false, false, false, false, false, false, false, false, false, false, false, false, false, false, false, false, false, false, false, false] (by kernel_rfl) rfl rfl ⟨((HB.out.cell (yD w _ hw335_0)).trans hw335_0), ((HB.out.cell (yD w _ hw335_1)).trans hw335_1), ((HB.out.cell (yD w _ hw335_2)).trans hw335_2), ((HB.out.cell (yD w _ hw335_3)).trans hw335_3), ((HB.out.cell (yD w _ hw335_4)).trans hw335_4), ((HB.out.cell (yD w _ hw335_5)).trans hw335_5), ((HB.out.cell (yD w _ hw335_6)).trans hw335_6), bg⟩ (fun hHeld => ?_); refine with_tabW switchbacklaw17_RelaxLeast.tab13 switchbacklaw17_RelaxLeast.bits13 (fun HT_ HW_ => ?_)
               generalize wr.drew = w42 at af b1 b2 a4 a3 a2 a6 HB bh au av aw ax ay az a_ bg hHeld ⊢
               refine pure_ (i := 0) (N := some 75) (v := ?_) (a' := ?_) #[true, false, false, false, false, false, false, false, false, false, false, false, false, false, false, false, false, false, false, false, false, false, false, false, false, false, false, false, false, false] rfl rfl (yI HT_.out (by kernel_rfl)) (fun _ _ _ h => h) (Or.inl ⟨by rfl, ?_⟩) ?_ ?_
               rotate_left
               ·intro w'
                go_simp
                with_reducible rfl
               rotate_left
               ·simp only [Act.put, yE, yF, yG, i64_w, i32_w]
                rfl
               refine pure_ (i := 1) (N := some 76) (v := ?_) (a' := ?_) #[true, true, false, false, false, false, false, false, false, false, false, false, false, false, false, false, false, false, false, false, false, false, false, false, false, false, false, false, false, false] rfl rfl (yI HT_.out (by kernel_rfl)) (fun _ _ _ h => h) (Or.inl ⟨by rfl, ?_⟩) ?_ ?_
               rotate_left
               ·intro w'
                go_simp
                with_reducible rfl
               rotate_left
               ·simp only [Act.put, yE, yF, yG, i64_w, i32_w]
                rfl
               refine pure_ (i := 2) (N := some 77) (v := ?_) (a' := ?_) #[true, true, true, false, false, false, false, false, false, false, false, false, false, false, false, false, false, false, false, false, false, false, false, false, false, false, false, false, false, false] rfl rfl (yI HT_.out (by kernel_rfl)) (fun _ _ _ h => h) (Or.inl ⟨by rfl, ?_⟩) ?_ ?_
               rotate_left
               ·intro w'
                go_simp
                with_reducible rfl
               rotate_left
               ·simp only [Act.put, yE, yF, yG, i64_w, i32_w]
                rfl
               refine take_ (i := 3) (N := some 78) (v := ?_) (a' := ?_) #[true, true, true, true, false, false, false, false, false, false, false, false, false, false, false, false, false, false, false, false, false, false, false, false, false, false, false, false, false, false] rfl rfl (take_ofW HT_.out HW_.out (by kernel_rfl)) (fun _ _ _ h => h) (Or.inl ⟨by rfl, ?_⟩) hHeld ?_ ?_
               rotate_left
               ·rintro w' ⟨s0, s1, s2, s3, s4, s5, s6, s7⟩
                go_simp
                with_reducible rfl
               rotate_left
               ·simp only [Act.put, yE, yF, yG, i64_w, i32_w]
                rfl
               refine one_ (i := 4) (N := some 79) #[true, true, true, true, true, false, false, false, false, false, false, false, false, false, false, false, false, false, false, false, false, false, false, false, false, false, false, false, false, false] rfl rfl (one_of HT_.out (by kernel_rfl)) (by decide) (fun K hK => ?_)
               refine goes_ Tryd.func31 (by kernel_rfl) rfl #[.agg #[.int .i64 ((rd_T40 l0 a7).f0), .int .i64 ((rd_T40 l0 a7).f1), .int .i64 ((rd_T40 l0 a7).f2), .int .i64 ((rd_T40 l0 a7).f3), .int .u32 ((rd_T40 l0 a7).f4), .int .i64 ((rd_T40 l0 a7).f5), .slice A335_6 ((rd_T40 l0 a7).f6).length c335_6]] (by rfl) rfl rfl (by (try simp only [yJ, List.map_cons, List.map_nil]); first | done | rfl | (simp only [yK, yL]; rfl)) ?_
               with_reducible refine (switchbackref17_Branch.calls ((rd_T40 l0 a7).f0) ((rd_T40 l0 a7).f1) ((rd_T40 l0 a7).f2) ((rd_T40 l0 a7).f3) ((rd_T40 l0 a7).f4) ((rd_T40 l0 a7).f5) _ _ ((rd_T40 l0 a7).f6) true _ ?side1 ?side2 A37.out).mono ?_
               (case side1 => repeat (first | exact (Kd.C_below bh.out HB.out) | (with_reducible refine zJ ?_ _) | (with_reducible refine zK ?_ _) | (with_reducible refine zL ?_)))
               (case side2 => exact cd.out)
               rintro e w43 ⟨rfl, hb⟩
               have HS7_ := (hb.cell (yD _ _ (hHeld.2.2.2.2.2.2.2))).trans (hHeld.2.2.2.2.2.2.2)
               refine ⟨_, rfl, ?_⟩
               have n0_ := uZ (zE (uR af.out) hb)
               have n1_ := uZ (zE (uR b1.out) hb)
               have n2_ := uZ (zE (uR b2.out) hb)
               have n3_ := uZ (zE (uR a4.out) hb)
               have n4_ := uZ (zE (uR a3.out) hb)
               have n5_ := uZ (zE (uR a2.out) hb)
               have n6_ := uZ (zY (g := aa) (o := .cells #[.slice b0 ae.length co7, .slice aq ad.length co9, .slice b3 ac.length ai, .int .i64 ah] 27 (0, 0)) (uK a6.out) hb)
               have n7_ := uZ (yC (uC HB.out ak.out) hb)
               clear af
               clear b1
               clear b2
               clear a4
               clear a3
               clear a2
               clear a6
               clear HB
               have af := n0_
               have b1 := n1_
               have b2 := n2_
               have a4 := n3_
               have a3 := n4_
               have a2 := n5_
               have a6 := n6_
               have HB := n7_
               clear n0_ n1_ n2_ n3_ n4_ n5_ n6_ n7_
               (try clear hb)
               (try clear hb2)
               (try clear hk)
               (try clear hi)
               refine hK.out _ _ ⟨((HB.out.cell (yD w _ hw335_0)).trans hw335_0), ((HB.out.cell (yD w _ hw335_1)).trans hw335_1), ((HB.out.cell (yD w _ hw335_2)).trans hw335_2), ((HB.out.cell (yD w _ hw335_3)).trans hw335_3), ((HB.out.cell (yD w _ hw335_4)).trans hw335_4), ((HB.out.cell (yD w _ hw335_5)).trans hw335_5), ((HB.out.cell (yD w _ hw335_6)).trans hw335_6), HS7_⟩ (fun hHeld => ?_)
               clear hK K
               refine norm_ (a' := ?_) ?_ ?_
               rotate_left
               ·show Act.put _ (some 79) _ = _
                simp only [Act.put, yE, yF, yG, i64_w, i32_w]
                rfl
               refine pure_ (i := 5) (N := some 80) (v := ?_) (a' := ?_) #[true, true, true, true, true, true, false, false, false, false, false, false, false, false, false, false, false, false, false, false, false, false, false, false, false, false, false, false, false, false] rfl rfl (yI HT_.out (by kernel_rfl)) (fun _ _ _ h => h) (Or.inl ⟨by rfl, ?_⟩) ?_ ?_
               rotate_left
               ·intro w'
                go_simp
                with_reducible rfl
               rotate_left
               ·simp only [Act.put, yE, yF, yG, i64_w, i32_w]
                rfl
               refine pure_ (i := 6) (N := some 81) (v := ?_) (a' := ?_) #[true, true, true, true, true, true, true, false, false, false, false, false, false, false, false, false, false, false, false, false, false, false, false, false, false, false, false, false, false, false] rfl rfl (yI HT_.out (by kernel_rfl)) (fun _ _ _ h => h) (Or.inl ⟨by rfl, ?_⟩) ?_ ?_
               rotate_left
               ·intro w'
                go_simp
                with_reducible rfl
               rotate_left
               ·simp only [Act.put, yE, yF, yG, i64_w, i32_w]
                rfl
               refine pure_ (i := 7) (N := some 82) (v := ?_) (a' := ?_) #[true, true, true, true, true, true, true, true, false, false, false, false, false, false, false, false, false, false, false, false, false, false, false, false, false, false, false, false, false, false] rfl rfl (yI HT_.out (by kernel_rfl)) (fun _ _ _ h => h) (Or.inl ⟨by rfl, ?_⟩) ?_ ?_
               rotate_left
               ·intro w'
                go_simp
                with_reducible rfl
               rotate_left
               ·simp only [Act.put, yE, yF, yG, i64_w, i32_w]
                rfl
               refine pure_ (i := 8) (N := some 83) (v := ?_) (a' := ?_) #[true, true, true, true, true, true, true, true, true, false, false, false, false, false, false, false, false, false, false, false, false, false, false, false, false, false, false, false, false, false] rfl rfl (yI HT_.out (by kernel_rfl)) (fun _ _ _ h => h) (Or.inl ⟨by rfl, ?_⟩) ?_ ?_
               rotate_left
               ·intro w'
                go_simp
                with_reducible rfl
               rotate_left
               ·simp only [Act.put, yE, yF, yG, i64_w, i32_w]
                rfl
               refine take_ (i := 9) (N := some 84) (v := ?_) (a' := ?_) #[true, true, true, true, true, true, true, true, true, true, false, false, false, false, false, false, false, false, false, false, false, false, false, false, false, false, false, false, false, false] rfl rfl (take_ofW HT_.out HW_.out (by kernel_rfl)) (fun _ _ _ h => h) (Or.inl ⟨by rfl, ?_⟩) hHeld ?_ ?_
               rotate_left
               ·rintro w' ⟨s0, s1, s2, s3, s4, s5, s6, s7⟩
                go_simp
                with_reducible rfl
               rotate_left
               ·simp only [Act.put, yE, yF, yG, i64_w, i32_w]
                rfl
               refine pure_ (i := 10) (N := some 85) (v := ?_) (a' := ?_) #[true, true, true, true, true, true, true, true, true, true, true, false, false, false, false, false, false, false, false, false, false, false, false, false, false, false, false, false, false, false] rfl rfl (yI HT_.out (by kernel_rfl)) (fun _ _ _ h => h) (Or.inl ⟨by rfl, ?_⟩) ?_ ?_
               rotate_left
               ·intro w'
                go_simp
                with_reducible rfl
               rotate_left
               ·simp only [Act.put, yE, yF, yG, i64_w, i32_w]
                rfl
               refine pure_ (i := 11) (N := some 86) (v := ?_) (a' := ?_) #[true, true, true, true, true, true, true, true, true, true, true, true, false, false, false, false, false, false, false, false, false, false, false, false, false, false, false, false, false, false] rfl rfl (yI HT_.out (by kernel_rfl)) (fun _ _ _ h => h) (Or.inl ⟨by rfl, ?_⟩) ?_ ?_
               rotate_left
               ·intro w'
                go_simp
                with_reducible rfl
               rotate_left
               ·simp only [Act.put, yE, yF, yG, i64_w, i32_w]
                rfl
               refine pure_ (i := 12) (N := some 87) (v := ?_) (a' := ?_) #[true, true, true, true, true, true, true, true, true, true, true, true, true, false, false, false, false, false, false, false, false, false, false, false, false, false, false, false, false, false] rfl rfl (yI HT_.out (by kernel_rfl)) (fun _ _ _ h => h) (Or.inl ⟨by rfl, ?_⟩) ?_ ?_
               rotate_left
               ·intro w'
                go_simp
                with_reducible rfl
               rotate_left
               ·simp only [Act.put, yE, yF, yG, i64_w, i32_w]
                rfl
               refine pure_ (i := 13) (N := some 88) (v := undef) (a' := ?_) #[true, true, true, true, true, true, true, true, true, true, true, true, true, true, false, false, false, false, false, false, false, false, false, false, false, false, false, false, false, false] rfl rfl (yI HT_.out (by kernel_rfl)) (fun _ _ _ h => h) (Or.inr ⟨by rfl, rfl⟩) ?_ ?_
               rotate_left
               ·simp only [Act.put, yE, yF, yG, i64_w, i32_w]
                rfl
               refine pure_ (i := 14) (N := some 89) (v := undef) (a' := ?_) #[true, true, true, true, true, true, true, true, true, true, true, true, true, true, true, false, false, false, false, false, false, false, false, false, false, false, false, false, false, false] rfl rfl (yI HT_.out (by kernel_rfl)) (fun _ _ _ h => h) (Or.inr ⟨by rfl, rfl⟩) ?_ ?_
               rotate_left
               ·simp only [Act.put, yE, yF, yG, i64_w, i32_w]
                rfl
               refine pure_ (i := 15) (N := some 90) (v := undef) (a' := ?_) #[true, true, true, true, true, true, true, true, true, true, true, true, true, true, true, true, false, false, false, false, false, false, false, false, false, false, false, false, false, false] rfl rfl (yI HT_.out (by kernel_rfl)) (fun _ _ _ h => h) (Or.inr ⟨by rfl, rfl⟩) ?_ ?_
               rotate_left
               ·simp only [Act.put, yE, yF, yG, i64_w, i32_w]
                rfl
               refine pure_ (i := 16) (N := some 91) (v := undef) (a' := ?_) #[true, true, true, true, true, true, true, true, true, true, true, true, true, true, true, true, true, false, false, false, false, false, false, false, false, false, false, false, false, false] rfl rfl (yI HT_.out (by kernel_rfl)) (fun _ _ _ h => h) (Or.inr ⟨by rfl, rfl⟩) ?_ ?_
               rotate_left
               ·simp only [Act.put, yE, yF, yG, i64_w, i32_w]
                rfl
               refine pure_ (i := 17) (N := some 92) (v := undef) (a' := ?_) #[true, true, true, true, true, true, true, true, true, true, true, true, true, true, true, true, true, true, false, false, false, false, false, false, false, false, false, false, false, false] rfl rfl (yI HT_.out (by kernel_rfl)) (fun _ _ _ h => h) (Or.inr ⟨by rfl, rfl⟩) ?_ ?_
               rotate_left
               ·simp only [Act.put, yE, yF, yG, i64_w, i32_w]
                rfl
               refine pure_ (i := 18) (N := some 93) (v := undef) (a' := ?_) #[true, true, true, true, true, true, true, true, true, true, true, true, true, true, true, true, true, true, true, false, false, false, false, false, false, false, false, false, false, false] rfl rfl (yI HT_.out (by kernel_rfl)) (fun _ _ _ h => h) (Or.inr ⟨by rfl, rfl⟩) ?_ ?_
               rotate_left
               ·simp only [Act.put, yE, yF, yG, i64_w, i32_w]
                rfl
               refine pure_ (i := 19) (N := some 94) (v := undef) (a' := ?_) #[true, true, true, true, true, true, true, true, true, true, true, true, true, true, true, true, true, true, true, true, false, false, false, false, false, false, false, false, false, false] rfl rfl (yI HT_.out (by kernel_rfl)) (fun _ _ _ h => h) (Or.inr ⟨by rfl, rfl⟩) ?_ ?_
               rotate_left
               ·simp only [Act.put, yE, yF, yG, i64_w, i32_w]
                rfl
               refine pure_ (i := 20) (N := some 95) (v := undef) (a' := ?_) #[true, true, true, true, true, true, true, true, true, true, true, true, true, true, true, true, true, true, true, true, true, false, false, false, false, false, false, false, false, false] rfl rfl (yI HT_.out (by kernel_rfl)) (fun _ _ _ h => h) (Or.inr ⟨by rfl, rfl⟩) ?_ ?_
               rotate_left
               ·simp only [Act.put, yE, yF, yG, i64_w, i32_w]
                rfl
               refine pure_ (i := 21) (N := some 96) (v := undef) (a' := ?_) #[true, true, true, true, true, true, true, true, true, true, true, true, true, true, true, true, true, true, true, true, true, true, false, false, false, false, false, false, false, false] rfl rfl (yI HT_.out (by kernel_rfl)) (fun _ _ _ h => h) (Or.inr ⟨by rfl, rfl⟩) ?_ ?_
               rotate_left
               ·simp only [Act.put, yE, yF, yG, i64_w, i32_w]
                rfl
               refine pure_ (i := 22) (N := some 97) (v := undef) (a' := ?_) #[true, true, true, true, true, true, true, true, true, true, true, true, true, true, true, true, true, true, true, true, true, true, true, false, false, false, false, false, false, false] rfl rfl (yI HT_.out (by kernel_rfl)) (fun _ _ _ h => h) (Or.inr ⟨by rfl, rfl⟩) ?_ ?_
               rotate_left
               ·simp only [Act.put, yE, yF, yG, i64_w, i32_w]
                rfl
               refine pure_ (i := 23) (N := some 98) (v := undef) (a' := ?_) #[true, true, true, true, true, true, true, true, true, true, true, true, true, true, true, true, true, true, true, true, true, true, true, true, false, false, false, false, false, false] rfl rfl (yI HT_.out (by kernel_rfl)) (fun _ _ _ h => h) (Or.inr ⟨by rfl, rfl⟩) ?_ ?_
               rotate_left
               ·simp only [Act.put, yE, yF, yG, i64_w, i32_w]
                rfl
               refine pure_ (i := 24) (N := some 99) (v := undef) (a' := ?_) #[true, true, true, true, true, true, true, true, true, true, true, true, true, true, true, true, true, true, true, true, true, true, true, true, true, false, false, false, false, false] rfl rfl (yI HT_.out (by kernel_rfl)) (fun _ _ _ h => h) (Or.inr ⟨by rfl, rfl⟩) ?_ ?_
               rotate_left
               ·simp only [Act.put, yE, yF, yG, i64_w, i32_w]
                rfl
               refine pure_ (i := 25) (N := some 100) (v := undef) (a' := ?_) #[true, true, true, true, true, true, true, true, true, true, true, true, true, true, true, true, true, true, true, true, true, true, true, true, true, true, false, false, false, false] rfl rfl (yI HT_.out (by kernel_rfl)) (fun _ _ _ h => h) (Or.inr ⟨by rfl, rfl⟩) ?_ ?_
               rotate_left
               ·simp only [Act.put, yE, yF, yG, i64_w, i32_w]
                rfl
               refine pure_ (i := 26) (N := some 101) (v := undef) (a' := ?_) #[true, true, true, true, true, true, true, true, true, true, true, true, true, true, true, true, true, true, true, true, true, true, true, true, true, true, true, false, false, false] rfl rfl (yI HT_.out (by kernel_rfl)) (fun _ _ _ h => h) (Or.inr ⟨by rfl, rfl⟩) ?_ ?_
               rotate_left
               ·simp only [Act.put, yE, yF, yG, i64_w, i32_w]
                rfl
               refine pure_ (i := 27) (N := some 102) (v := undef) (a' := ?_) #[true, true, true, true, true, true, true, true, true, true, true, true, true, true, true, true, true, true, true, true, true, true, true, true, true, true, true, true, false, false] rfl rfl (yI HT_.out (by kernel_rfl)) (fun _ _ _ h => h) (Or.inr ⟨by rfl, rfl⟩) ?_ ?_
               rotate_left
               ·simp only [Act.put, yE, yF, yG, i64_w, i32_w]
                rfl
               refine pure_ (i := 28) (N := some 103) (v := undef) (a' := ?_) #[true, true, true, true, true, true, true, true, true, true, true, true, true, true, true, true, true, true, true, true, true, true, true, true, true, true, true, true, true, false] rfl rfl (yI HT_.out (by kernel_rfl)) (fun _ _ _ h => h) (Or.inr ⟨by rfl, rfl⟩) ?_ ?_
               rotate_left
               ·simp only [Act.put, yE, yF, yG, i64_w, i32_w]
                rfl
               refine pure_ (i := 29) (N := some 104) (v := ?_) (a' := ?_) #[true, true, true, true, true, true, true, true, true, true, true, true, true, true, true, true, true, true, true, true, true, true, true, true, true, true, true, true, true, true] rfl rfl (yI HT_.out (by kernel_rfl)) (fun _ _ _ h => h) (Or.inl ⟨by rfl, ?_⟩) ?_ ?_
               rotate_left
               ·intro w'
                go_simp
                with_reducible rfl
               rotate_left
               ·simp only [Act.put, yE, yF, yG, i64_w, i32_w]
                rfl
               refine done_ (done_of HT_.out (by kernel_rfl)) ?_
               try go_wp2
               go_meet
               case rel => exact ⟨_, (false), (by first | rfl | (simp; done) | (simp [*]; done)), H', ⟨by have := HJ3.out; have := HJ20.out; have := HK3.out; first | omega | exact Nat.le_refl _⟩, ⟨uR af.out⟩, ⟨uR b1.out⟩, ⟨uR b2.out⟩, ⟨uR a4.out⟩, ⟨uR a3.out⟩, ⟨uR a2.out⟩, ⟨uK a6.out⟩, ⟨uC HB.out ak.out⟩⟩
              replace c41 := Bool.eq_false_iff.mpr c41
              subst c41
              have H1 : (if 0 ≤ ((rd_T40 l0 a7).f5) then (if ((rd_T40 l0 a7).f5) < (b7.length : Int) then (if a7 < (b6.length : Int) then ((switchbackref17_Near.f (wrap64 ((wrap64 ((rd b7 ((rd_T40 l0 a7).f5)) - (rd b6 a7))) - 1))).bind fun t341 => (switchbacklaw17_RelaxLeast.j4 k3 l0 aj b6 b7 a7 (!t341) ae ad ac ah)) else (none)) else (none)) else (none)) = some r := by rw [if_neg (show ¬ (false = true) by decide)] at H; exact H
              clear H
              have H := H1
              clear H1
              by_cases c44 : 0 ≤ ((rd_T40 l0 a7).f5)
              ·rw [if_pos c44] at H
               have c44b0 : decide (0 ≤ ((rd_T40 l0 a7).f5)) = true := decide_eq_true c44
               clear c44
               by_cases c45 : ((rd_T40 l0 a7).f5) < (b7.length : Int)
               ·rw [if_pos c45] at H
                have c45b0 : decide (((rd_T40 l0 a7).f5) < (b7.length : Int)) = true := decide_eq_true c45
                clear c45
                by_cases c46 : a7 < (b6.length : Int)
                ·rw [if_pos c46] at H
                 have c46b0 : decide (a7 < (b6.length : Int)) = true := decide_eq_true c46
                 clear c46
                 replace H := Option.bind_eq_some_iff.mp H
                 obtain ⟨t341, A470, H⟩ := H
                 replace H : (switchbacklaw17_RelaxLeast.j4 k3 l0 aj b6 b7 a7 (!t341) ae ad ac ah) = some r := H
                 have A47 := uZ A470
                 clear A470
                 have H' := uZ H
                 clear H
                 try go_wp2
                 have n0_ := uZ (zC af.out)
                 have n1_ := uZ (zC b1.out)
                 have n2_ := uZ (zC b2.out)
                 have n3_ := uZ (zC a4.out)
                 have n4_ := uZ (zC a3.out)
                 have n5_ := uZ (zC a2.out)
                 have n6_ := uZ (zP a6.out)
                 have n7_ := uZ (zT HB.out)
                 clear af
                 clear b1
                 clear b2
                 clear a4
                 clear a3
                 clear a2
                 clear a6
                 clear HB
                 have af := n0_
                 have b1 := n1_
                 have b2 := n2_
                 have a4 := n3_
                 have a3 := n4_
                 have a2 := n5_
                 have a6 := n6_
                 have HB := n7_
                 clear n0_ n1_ n2_ n3_ n4_ n5_ n6_ n7_
                 have cb : 0 ≤ (a7 : Int) := uA
                 have cc : a7 < (l0.length : Int) := uA
                 obtain ⟨am, A335_6, c335_6, e335, au, av, aw, ax, ay, az, a_, hl335_6, hi335_6⟩ := at_T40 HR0.out a7 cb cc
                 have hw335_6 := a_
                 have hw335_5 := az
                 have hw335_4 := ay
                 have hw335_3 := ax
                 have hw335_2 := aw
                 have hw335_1 := av
                 have hw335_0 := au
                 cases e335
                 replace au := (HB.out.cell (yD w _ au)).trans au
                 replace av := (HB.out.cell (yD w _ av)).trans av
                 replace aw := (HB.out.cell (yD w _ aw)).trans aw
                 replace ax := (HB.out.cell (yD w _ ax)).trans ax
                 replace ay := (HB.out.cell (yD w _ ay)).trans ay
                 replace az := (HB.out.cell (yD w _ az)).trans az
                 replace a_ := (HB.out.cell (yD w _ a_)).trans a_
                 have bh := uZ hi335_6
                 have cd := uZ hl335_6
                 clear hi335_6 hl335_6
                 replace cb := eq_true cb
                 replace cc := eq_true cc
                 have p337 : 0 ≤ (a7 : Int) := uA
                 have q337 : a7 < (aj.length : Int) := uA
                 obtain ⟨ad337, e337, bg⟩ := Kd.at_bool (zI af.out).2.2 a7 p337 q337
                 (try rw [← Nbq40.out] at bg)
                 cases e337
                 replace p337 := eq_true p337
                 replace q337 := eq_true q337
                 have p338 : 0 ≤ (a7 : Int) := uA
                 have q338 : a7 < (l0.length : Int) := uA
                 obtain ⟨ad338, A338_6, c338_6, e338, bi, bj, bk, bl, bm, bn, bo, hl338_6, hi338_6⟩ := at_T40 HR0.out a7 p338 q338
                 have hw338_6 := bo
                 have hw338_5 := bn
                 have hw338_4 := bm
                 have hw338_3 := bl
                 have hw338_2 := bk
                 have hw338_1 := bj
                 have hw338_0 := bi
                 obtain rfl : am = ad338 := (by injection e338)
                 replace bi := (HB.out.cell (yD w _ bi)).trans bi
                 replace bj := (HB.out.cell (yD w _ bj)).trans bj
                 replace bk := (HB.out.cell (yD w _ bk)).trans bk
                 replace bl := (HB.out.cell (yD w _ bl)).trans bl
                 replace bm := (HB.out.cell (yD w _ bm)).trans bm
                 replace bn := (HB.out.cell (yD w _ bn)).trans bn
                 replace bo := (HB.out.cell (yD w _ bo)).trans bo
                 have HR338_6 := uZ hi338_6
                 have HC338_6 := uZ hl338_6
                 clear hi338_6 hl338_6
                 replace p338 := eq_true p338
                 replace q338 := eq_true q338
                 have p339 : 0 ≤ (((rd_T40 l0 a7).f5) : Int) := uA
                 have q339 : ((rd_T40 l0 a7).f5) < (b7.length : Int) := uA
                 obtain ⟨ad339, e339, ce⟩ := Kd.at_int (zI b2.out).2.2 ((rd_T40 l0 a7).f5) p339 q339
                 cases e339
                 replace p339 := eq_true p339
                 replace q339 := eq_true q339
                 have p340 : 0 ≤ (a7 : Int) := uA
                 have q340 : a7 < (b6.length : Int) := uA
                 obtain ⟨ad340, e340, cf⟩ := Kd.at_int (zI b1.out).2.2 a7 p340 q340
                 cases e340
                 replace p340 := eq_true p340
                 replace q340 := eq_true q340
                 refine start_ (n := 30) (S := fun w' => w'.cell? (am.add ((a7).toNat * 7)) = some (.int .i64 ((rd_T40 l0 a7).f0)) ∧ w'.cell? ⟨(am.add ((a7).toNat * 7)).block, (am.add ((a7).toNat * 7)).off + 1, none⟩ = some (.int .i64 ((rd_T40 l0 a7).f1)) ∧ w'.cell? ⟨(am.add ((a7).toNat * 7)).block, (am.add ((a7).toNat * 7)).off + 2, none⟩ = some (.int .i64 ((rd_T40 l0 a7).f2)) ∧ w'.cell? ⟨(am.add ((a7).toNat * 7)).block, (am.add ((a7).toNat * 7)).off + 3, none⟩ = some (.int .i64 ((rd_T40 l0 a7).f3)) ∧ w'.cell? ⟨(am.add ((a7).toNat * 7)).block, (am.add ((a7).toNat * 7)).off + 4, none⟩ = some (.int .u32 ((rd_T40 l0 a7).f4)) ∧ w'.cell? ⟨(am.add ((a7).toNat * 7)).block, (am.add ((a7).toNat * 7)).off + 5, none⟩ = some (.int .i64 ((rd_T40 l0 a7).f5)) ∧ w'.cell? ⟨(am.add ((a7).toNat * 7)).block, (am.add ((a7).toNat * 7)).off + 6, none⟩ = some (.slice A335_6 ((rd_T40 l0 a7).f6).length c335_6) ∧ w'.cell? (ad337.add (a7).toNat) = some (.bool false) ∧ w'.cell? (am.add ((a7).toNat * 7)) = some (.int .i64 ((rd_T40 l0 a7).f0)) ∧ w'.cell? ⟨(am.add ((a7).toNat * 7)).block, (am.add ((a7).toNat * 7)).off + 1, none⟩ = some (.int .i64 ((rd_T40 l0 a7).f1)) ∧ w'.cell? ⟨(am.add ((a7).toNat * 7)).block, (am.add ((a7).toNat * 7)).off + 2, none⟩ = some (.int .i64 ((rd_T40 l0 a7).f2)) ∧ w'.cell? ⟨(am.add ((a7).toNat * 7)).block, (am.add ((a7).toNat * 7)).off + 3, none⟩ = some (.int .i64 ((rd_T40 l0 a7).f3)) ∧ w'.cell? ⟨(am.add ((a7).toNat * 7)).block, (am.add ((a7).toNat * 7)).off + 4, none⟩ = some (.int .u32 ((rd_T40 l0 a7).f4)) ∧ w'.cell? ⟨(am.add ((a7).toNat * 7)).block, (am.add ((a7).toNat * 7)).off + 5, none⟩ = some (.int .i64 ((rd_T40 l0 a7).f5)) ∧ w'.cell? ⟨(am.add ((a7).toNat * 7)).block, (am.add ((a7).toNat * 7)).off + 6, none⟩ = some (.slice A338_6 ((rd_T40 l0 a7).f6).length c338_6) ∧ w'.cell? (ad339.add (((rd_T40 l0 a7).f5)).toNat) = some (.int .i64 (rd b7 ((rd_T40 l0 a7).f5))) ∧ w'.cell? (ad340.add (a7).toNat) = some (.int .i64 (rd b6 a7))) (ds := []) #[false, false, false, false, false, false, false, false, false, false, false, false, false, false, false, false, false, false, false, false, false, false, false, false, false, false, false, false, false, false] (by kernel_rfl) rfl rfl ⟨((HB.out.cell (yD w _ hw335_0)).trans hw335_0), ((HB.out.cell (yD w _ hw335_1)).trans hw335_1), ((HB.out.cell (yD w _ hw335_2)).trans hw335_2), ((HB.out.cell (yD w _ hw335_3)).trans hw335_3), ((HB.out.cell (yD w _ hw335_4)).trans hw335_4), ((HB.out.cell (yD w _ hw335_5)).trans hw335_5), ((HB.out.cell (yD w _ hw335_6)).trans hw335_6), bg, ((HB.out.cell (yD w _ hw338_0)).trans hw338_0), ((HB.out.cell (yD w _ hw338_1)).trans hw338_1), ((HB.out.cell (yD w _ hw338_2)).trans hw338_2), ((HB.out.cell (yD w _ hw338_3)).trans hw338_3), ((HB.out.cell (yD w _ hw338_4)).trans hw338_4), ((HB.out.cell (yD w _ hw338_5)).trans hw338_5), ((HB.out.cell (yD w _ hw338_6)).trans hw338_6), ce, cf⟩ (fun hHeld => ?_); refine with_tabW switchbacklaw17_RelaxLeast.tab13 switchbacklaw17_RelaxLeast.bits13 (fun HT_ HW_ => ?_)
                 generalize wr.drew = w48 at af b1 b2 a4 a3 a2 a6 HB bh HR338_6 au av aw ax ay az a_ bg bi bj bk bl bm bn bo ce cf hHeld ⊢
                 refine pure_ (i := 0) (N := some 75) (v := ?_) (a' := ?_) #[true, false, false, false, false, false, false, false, false, false, false, false, false, false, false, false, false, false, false, false, false, false, false, false, false, false, false, false, false, false] rfl rfl (yI HT_.out (by kernel_rfl)) (fun _ _ _ h => h) (Or.inl ⟨by rfl, ?_⟩) ?_ ?_
                 rotate_left
                 ·intro w'
                  go_simp
                  with_reducible rfl
                 rotate_left
                 ·simp only [Act.put, yE, yF, yG, i64_w, i32_w]
                  rfl
                 refine pure_ (i := 1) (N := some 76) (v := ?_) (a' := ?_) #[true, true, false, false, false, false, false, false, false, false, false, false, false, false, false, false, false, false, false, false, false, false, false, false, false, false, false, false, false, false] rfl rfl (yI HT_.out (by kernel_rfl)) (fun _ _ _ h => h) (Or.inl ⟨by rfl, ?_⟩) ?_ ?_
                 rotate_left
                 ·intro w'
                  go_simp
                  with_reducible rfl
                 rotate_left
                 ·simp only [Act.put, yE, yF, yG, i64_w, i32_w]
                  rfl
                 refine pure_ (i := 2) (N := some 77) (v := ?_) (a' := ?_) #[true, true, true, false, false, false, false, false, false, false, false, false, false, false, false, false, false, false, false, false, false, false, false, false, false, false, false, false, false, false] rfl rfl (yI HT_.out (by kernel_rfl)) (fun _ _ _ h => h) (Or.inl ⟨by rfl, ?_⟩) ?_ ?_
                 rotate_left
                 ·intro w'
                  go_simp
                  with_reducible rfl
                 rotate_left
                 ·simp only [Act.put, yE, yF, yG, i64_w, i32_w]
                  rfl
                 refine take_ (i := 3) (N := some 78) (v := ?_) (a' := ?_) #[true, true, true, true, false, false, false, false, false, false, false, false, false, false, false, false, false, false, false, false, false, false, false, false, false, false, false, false, false, false] rfl rfl (take_ofW HT_.out HW_.out (by kernel_rfl)) (fun _ _ _ h => h) (Or.inl ⟨by rfl, ?_⟩) hHeld ?_ ?_
                 rotate_left
                 ·rintro w' ⟨s0, s1, s2, s3, s4, s5, s6, s7, s8, s9, s10, s11, s12, s13, s14, s15, s16⟩
                  go_simp
                  with_reducible rfl
                 rotate_left
                 ·simp only [Act.put, yE, yF, yG, i64_w, i32_w]
                  rfl
                 refine one_ (i := 4) (N := some 79) #[true, true, true, true, true, false, false, false, false, false, false, false, false, false, false, false, false, false, false, false, false, false, false, false, false, false, false, false, false, false] rfl rfl (one_of HT_.out (by kernel_rfl)) (by decide) (fun K hK => ?_)
                 refine goes_ Tryd.func31 (by kernel_rfl) rfl #[.agg #[.int .i64 ((rd_T40 l0 a7).f0), .int .i64 ((rd_T40 l0 a7).f1), .int .i64 ((rd_T40 l0 a7).f2), .int .i64 ((rd_T40 l0 a7).f3), .int .u32 ((rd_T40 l0 a7).f4), .int .i64 ((rd_T40 l0 a7).f5), .slice A335_6 ((rd_T40 l0 a7).f6).length c335_6]] (by rfl) rfl rfl (by (try simp only [yJ, List.map_cons, List.map_nil]); first | done | rfl | (simp only [yK, yL]; rfl)) ?_
                 with_reducible refine (switchbackref17_Branch.calls ((rd_T40 l0 a7).f0) ((rd_T40 l0 a7).f1) ((rd_T40 l0 a7).f2) ((rd_T40 l0 a7).f3) ((rd_T40 l0 a7).f4) ((rd_T40 l0 a7).f5) _ _ ((rd_T40 l0 a7).f6) true _ ?side1 ?side2 A37.out).mono ?_
                 (case side1 => repeat (first | exact (Kd.C_below bh.out HB.out) | (with_reducible refine zJ ?_ _) | (with_reducible refine zK ?_ _) | (with_reducible refine zL ?_)))
                 (case side2 => exact cd.out)
                 rintro e w49 ⟨rfl, hb⟩
                 have HS7_ := (hb.cell (yD _ _ (hHeld.2.2.2.2.2.2.2.1))).trans (hHeld.2.2.2.2.2.2.2.1)
                 have HS15_ := (hb.cell (yD _ _ (hHeld.2.2.2.2.2.2.2.2.2.2.2.2.2.2.2.1))).trans (hHeld.2.2.2.2.2.2.2.2.2.2.2.2.2.2.2.1)
                 have HS16_ := (hb.cell (yD _ _ (hHeld.2.2.2.2.2.2.2.2.2.2.2.2.2.2.2.2))).trans (hHeld.2.2.2.2.2.2.2.2.2.2.2.2.2.2.2.2)
                 refine ⟨_, rfl, ?_⟩
                 have n0_ := uZ (zE (uR af.out) hb)
                 have n1_ := uZ (zE (uR b1.out) hb)
                 have n2_ := uZ (zE (uR b2.out) hb)
                 have n3_ := uZ (zE (uR a4.out) hb)
                 have n4_ := uZ (zE (uR a3.out) hb)
                 have n5_ := uZ (zE (uR a2.out) hb)
                 have n6_ := uZ (zY (g := aa) (o := .cells #[.slice b0 ae.length co7, .slice aq ad.length co9, .slice b3 ac.length ai, .int .i64 ah] 27 (0, 0)) (uK a6.out) hb)
                 have n7_ := uZ (yC (uC HB.out ak.out) hb)
                 clear af
                 clear b1
                 clear b2
                 clear a4
                 clear a3
                 clear a2
                 clear a6
                 clear HB
                 have af := n0_
                 have b1 := n1_
                 have b2 := n2_
                 have a4 := n3_
                 have a3 := n4_
                 have a2 := n5_
                 have a6 := n6_
                 have HB := n7_
                 clear n0_ n1_ n2_ n3_ n4_ n5_ n6_ n7_
                 (try clear hb)
                 (try clear hb2)
                 (try clear hk)
                 (try clear hi)
                 obtain ⟨Ao50, co50, eo50⟩ := zH b2.out
                 (first | subst eo50 | (injection eo50 with f1_ f2_ f3_; have f4_ := f1_.symm; have f5_ := f3_.symm; clear f1_ f2_ f3_; subst f4_; subst f5_))
                 obtain ⟨Ao51, co51, eo51⟩ := zH b1.out
                 (first | subst eo51 | (injection eo51 with f1_ f2_ f3_; have f4_ := f1_.symm; have f5_ := f3_.symm; clear f1_ f2_ f3_; subst f4_; subst f5_))
                 refine hK.out _ _ ⟨((HB.out.cell (yD w _ hw335_0)).trans hw335_0), ((HB.out.cell (yD w _ hw335_1)).trans hw335_1), ((HB.out.cell (yD w _ hw335_2)).trans hw335_2), ((HB.out.cell (yD w _ hw335_3)).trans hw335_3), ((HB.out.cell (yD w _ hw335_4)).trans hw335_4), ((HB.out.cell (yD w _ hw335_5)).trans hw335_5), ((HB.out.cell (yD w _ hw335_6)).trans hw335_6), HS7_, ((HB.out.cell (yD w _ hw338_0)).trans hw338_0), ((HB.out.cell (yD w _ hw338_1)).trans hw338_1), ((HB.out.cell (yD w _ hw338_2)).trans hw338_2), ((HB.out.cell (yD w _ hw338_3)).trans hw338_3), ((HB.out.cell (yD w _ hw338_4)).trans hw338_4), ((HB.out.cell (yD w _ hw338_5)).trans hw338_5), ((HB.out.cell (yD w _ hw338_6)).trans hw338_6), HS15_, HS16_⟩ (fun hHeld => ?_)
                 clear hK K
                 refine norm_ (a' := ?_) ?_ ?_
                 rotate_left
                 ·show Act.put _ (some 79) _ = _
                  simp only [Act.put, yE, yF, yG, i64_w, i32_w]
                  rfl
                 refine pure_ (i := 5) (N := some 80) (v := ?_) (a' := ?_) #[true, true, true, true, true, true, false, false, false, false, false, false, false, false, false, false, false, false, false, false, false, false, false, false, false, false, false, false, false, false] rfl rfl (yI HT_.out (by kernel_rfl)) (fun _ _ _ h => h) (Or.inl ⟨by rfl, ?_⟩) ?_ ?_
                 rotate_left
                 ·intro w'
                  go_simp
                  with_reducible rfl
                 rotate_left
                 ·simp only [Act.put, yE, yF, yG, i64_w, i32_w]
                  rfl
                 refine pure_ (i := 6) (N := some 81) (v := ?_) (a' := ?_) #[true, true, true, true, true, true, true, false, false, false, false, false, false, false, false, false, false, false, false, false, false, false, false, false, false, false, false, false, false, false] rfl rfl (yI HT_.out (by kernel_rfl)) (fun _ _ _ h => h) (Or.inl ⟨by rfl, ?_⟩) ?_ ?_
                 rotate_left
                 ·intro w'
                  go_simp
                  with_reducible rfl
                 rotate_left
                 ·simp only [Act.put, yE, yF, yG, i64_w, i32_w]
                  rfl
                 refine pure_ (i := 7) (N := some 82) (v := ?_) (a' := ?_) #[true, true, true, true, true, true, true, true, false, false, false, false, false, false, false, false, false, false, false, false, false, false, false, false, false, false, false, false, false, false] rfl rfl (yI HT_.out (by kernel_rfl)) (fun _ _ _ h => h) (Or.inl ⟨by rfl, ?_⟩) ?_ ?_
                 rotate_left
                 ·intro w'
                  go_simp
                  with_reducible rfl
                 rotate_left
                 ·simp only [Act.put, yE, yF, yG, i64_w, i32_w]
                  rfl
                 refine pure_ (i := 8) (N := some 83) (v := ?_) (a' := ?_) #[true, true, true, true, true, true, true, true, true, false, false, false, false, false, false, false, false, false, false, false, false, false, false, false, false, false, false, false, false, false] rfl rfl (yI HT_.out (by kernel_rfl)) (fun _ _ _ h => h) (Or.inl ⟨by rfl, ?_⟩) ?_ ?_
                 rotate_left
                 ·intro w'
                  go_simp
                  with_reducible rfl
                 rotate_left
                 ·simp only [Act.put, yE, yF, yG, i64_w, i32_w]
                  rfl
                 refine take_ (i := 9) (N := some 84) (v := ?_) (a' := ?_) #[true, true, true, true, true, true, true, true, true, true, false, false, false, false, false, false, false, false, false, false, false, false, false, false, false, false, false, false, false, false] rfl rfl (take_ofW HT_.out HW_.out (by kernel_rfl)) (fun _ _ _ h => h) (Or.inl ⟨by rfl, ?_⟩) hHeld ?_ ?_
                 rotate_left
                 ·rintro w' ⟨s0, s1, s2, s3, s4, s5, s6, s7, s8, s9, s10, s11, s12, s13, s14, s15, s16⟩
                  go_simp
                  with_reducible rfl
                 rotate_left
                 ·simp only [Act.put, yE, yF, yG, i64_w, i32_w]
                  rfl
                 refine pure_ (i := 10) (N := some 85) (v := ?_) (a' := ?_) #[true, true, true, true, true, true, true, true, true, true, true, false, false, false, false, false, false, false, false, false, false, false, false, false, false, false, false, false, false, false] rfl rfl (yI HT_.out (by kernel_rfl)) (fun _ _ _ h => h) (Or.inl ⟨by rfl, ?_⟩) ?_ ?_
                 rotate_left
                 ·intro w'
                  go_simp
                  with_reducible rfl
                 rotate_left
                 ·simp only [Act.put, yE, yF, yG, i64_w, i32_w]
                  rfl
                 refine pure_ (i := 11) (N := some 86) (v := ?_) (a' := ?_) #[true, true, true, true, true, true, true, true, true, true, true, true, false, false, false, false, false, false, false, false, false, false, false, false, false, false, false, false, false, false] rfl rfl (yI HT_.out (by kernel_rfl)) (fun _ _ _ h => h) (Or.inl ⟨by rfl, ?_⟩) ?_ ?_
                 rotate_left
                 ·intro w'
                  go_simp
                  with_reducible rfl
                 rotate_left
                 ·simp only [Act.put, yE, yF, yG, i64_w, i32_w]
                  rfl
                 refine pure_ (i := 12) (N := some 87) (v := ?_) (a' := ?_) #[true, true, true, true, true, true, true, true, true, true, true, true, true, false, false, false, false, false, false, false, false, false, false, false, false, false, false, false, false, false] rfl rfl (yI HT_.out (by kernel_rfl)) (fun _ _ _ h => h) (Or.inl ⟨by rfl, ?_⟩) ?_ ?_
                 rotate_left
                 ·intro w'
                  go_simp
                  with_reducible rfl
                 rotate_left
                 ·simp only [Act.put, yE, yF, yG, i64_w, i32_w]
                  rfl
                 refine pure_ (i := 13) (N := some 88) (v := ?_) (a' := ?_) #[true, true, true, true, true, true, true, true, true, true, true, true, true, true, false, false, false, false, false, false, false, false, false, false, false, false, false, false, false, false] rfl rfl (yI HT_.out (by kernel_rfl)) (fun _ _ _ h => h) (Or.inl ⟨by rfl, ?_⟩) ?_ ?_
                 rotate_left
                 ·intro w'
                  go_simp
                  with_reducible rfl
                 rotate_left
                 ·simp only [Act.put, yE, yF, yG, i64_w, i32_w]
                  rfl
                 refine pure_ (i := 14) (N := some 89) (v := ?_) (a' := ?_) #[true, true, true, true, true, true, true, true, true, true, true, true, true, true, true, false, false, false, false, false, false, false, false, false, false, false, false, false, false, false] rfl rfl (yI HT_.out (by kernel_rfl)) (fun _ _ _ h => h) (Or.inl ⟨by rfl, ?_⟩) ?_ ?_
                 rotate_left
                 ·intro w'
                  go_simp
                  with_reducible rfl
                 rotate_left
                 ·simp only [Act.put, yE, yF, yG, i64_w, i32_w]
                  rfl
                 refine pure_ (i := 15) (N := some 90) (v := ?_) (a' := ?_) #[true, true, true, true, true, true, true, true, true, true, true, true, true, true, true, true, false, false, false, false, false, false, false, false, false, false, false, false, false, false] rfl rfl (yI HT_.out (by kernel_rfl)) (fun _ _ _ h => h) (Or.inl ⟨by rfl, ?_⟩) ?_ ?_
                 rotate_left
                 ·intro w'
                  go_simp
                  with_reducible rfl
                 rotate_left
                 ·simp only [Act.put, yE, yF, yG, i64_w, i32_w]
                  rfl
                 refine pure_ (i := 16) (N := some 91) (v := ?_) (a' := ?_) #[true, true, true, true, true, true, true, true, true, true, true, true, true, true, true, true, true, false, false, false, false, false, false, false, false, false, false, false, false, false] rfl rfl (yI HT_.out (by kernel_rfl)) (fun _ _ _ h => h) (Or.inl ⟨by rfl, ?_⟩) ?_ ?_
                 rotate_left
                 ·intro w'
                  go_simp
                  with_reducible rfl
                 rotate_left
                 ·simp only [Act.put, yE, yF, yG, i64_w, i32_w]
                  rfl
                 refine pure_ (i := 17) (N := some 92) (v := ?_) (a' := ?_) #[true, true, true, true, true, true, true, true, true, true, true, true, true, true, true, true, true, true, false, false, false, false, false, false, false, false, false, false, false, false] rfl rfl (yI HT_.out (by kernel_rfl)) (fun _ _ _ h => h) (Or.inl ⟨by rfl, ?_⟩) ?_ ?_
                 rotate_left
                 ·intro w'
                  go_simp
                  with_reducible rfl
                 rotate_left
                 ·simp only [Act.put, yE, yF, yG, i64_w, i32_w]
                  rfl
                 refine pure_ (i := 21) (N := some 96) (v := ?_) (a' := ?_) #[true, true, true, true, true, true, true, true, true, true, true, true, true, true, true, true, true, true, false, false, false, true, false, false, false, false, false, false, false, false] rfl rfl (yI HT_.out (by kernel_rfl)) (fun _ _ _ h => h) (Or.inl ⟨by rfl, ?_⟩) ?_ ?_
                 rotate_left
                 ·intro w'
                  go_simp
                  with_reducible rfl
                 rotate_left
                 ·simp only [Act.put, yE, yF, yG, i64_w, i32_w]
                  rfl
                 refine pure_ (i := 22) (N := some 97) (v := ?_) (a' := ?_) #[true, true, true, true, true, true, true, true, true, true, true, true, true, true, true, true, true, true, false, false, false, true, true, false, false, false, false, false, false, false] rfl rfl (yI HT_.out (by kernel_rfl)) (fun _ _ _ h => h) (Or.inl ⟨by rfl, ?_⟩) ?_ ?_
                 rotate_left
                 ·intro w'
                  go_simp
                  with_reducible rfl
                 rotate_left
                 ·simp only [Act.put, yE, yF, yG, i64_w, i32_w]
                  rfl
                 refine pure_ (i := 23) (N := some 98) (v := ?_) (a' := ?_) #[true, true, true, true, true, true, true, true, true, true, true, true, true, true, true, true, true, true, false, false, false, true, true, true, false, false, false, false, false, false] rfl rfl (yI HT_.out (by kernel_rfl)) (fun _ _ _ h => h) (Or.inl ⟨by rfl, ?_⟩) ?_ ?_
                 rotate_left
                 ·intro w'
                  go_simp
                  with_reducible rfl
                 rotate_left
                 ·simp only [Act.put, yE, yF, yG, i64_w, i32_w]
                  rfl
                 refine take_ (i := 18) (N := some 93) (v := ?_) (a' := ?_) #[true, true, true, true, true, true, true, true, true, true, true, true, true, true, true, true, true, true, true, false, false, true, true, true, false, false, false, false, false, false] rfl rfl (take_ofW HT_.out HW_.out (by kernel_rfl)) (fun _ _ _ h => h) (Or.inl ⟨by rfl, ?_⟩) hHeld ?_ ?_
                 rotate_left
                 ·rintro w' ⟨s0, s1, s2, s3, s4, s5, s6, s7, s8, s9, s10, s11, s12, s13, s14, s15, s16⟩
                  go_simp
                  with_reducible rfl
                 rotate_left
                 ·simp only [Act.put, yE, yF, yG, i64_w, i32_w]
                  rfl
                 refine pure_ (i := 19) (N := some 94) (v := ?_) (a' := ?_) #[true, true, true, true, true, true, true, true, true, true, true, true, true, true, true, true, true, true, true, true, false, true, true, true, false, false, false, false, false, false] rfl rfl (yI HT_.out (by kernel_rfl)) (fun _ _ _ h => h) (Or.inl ⟨by rfl, ?_⟩) ?_ ?_
                 rotate_left
                 ·intro w'
                  go_simp
                  with_reducible rfl
                 rotate_left
                 ·simp only [Act.put, yE, yF, yG, i64_w, i32_w]
                  rfl
                 refine take_ (i := 20) (N := some 95) (v := ?_) (a' := ?_) #[true, true, true, true, true, true, true, true, true, true, true, true, true, true, true, true, true, true, true, true, true, true, true, true, false, false, false, false, false, false] rfl rfl (take_ofW HT_.out HW_.out (by kernel_rfl)) (fun _ _ _ h => h) (Or.inl ⟨by rfl, ?_⟩) hHeld ?_ ?_
                 rotate_left
                 ·rintro w' ⟨s0, s1, s2, s3, s4, s5, s6, s7, s8, s9, s10, s11, s12, s13, s14, s15, s16⟩
                  go_simp
                  with_reducible rfl
                 rotate_left
                 ·simp only [Act.put, yE, yF, yG, i64_w, i32_w]
                  rfl
                 refine take_ (i := 24) (N := some 99) (v := ?_) (a' := ?_) #[true, true, true, true, true, true, true, true, true, true, true, true, true, true, true, true, true, true, true, true, true, true, true, true, true, false, false, false, false, false] rfl rfl (take_ofW HT_.out HW_.out (by kernel_rfl)) (fun _ _ _ h => h) (Or.inl ⟨by rfl, ?_⟩) hHeld ?_ ?_
                 rotate_left
                 ·rintro w' ⟨s0, s1, s2, s3, s4, s5, s6, s7, s8, s9, s10, s11, s12, s13, s14, s15, s16⟩
                  go_simp
                  with_reducible rfl
                 rotate_left
                 ·simp only [Act.put, yE, yF, yG, i64_w, i32_w]
                  rfl
                 refine pure_ (i := 25) (N := some 100) (v := ?_) (a' := ?_) #[true, true, true, true, true, true, true, true, true, true, true, true, true, true, true, true, true, true, true, true, true, true, true, true, true, true, false, false, false, false] rfl rfl (yI HT_.out (by kernel_rfl)) (fun _ _ _ h => h) (Or.inl ⟨by rfl, ?_⟩) ?_ ?_
                 rotate_left
                 ·intro w'
                  go_simp
                  with_reducible rfl
                 rotate_left
                 ·simp only [Act.put, yE, yF, yG, i64_w, i32_w]
                  rfl
                 refine pure_ (i := 26) (N := some 101) (v := ?_) (a' := ?_) #[true, true, true, true, true, true, true, true, true, true, true, true, true, true, true, true, true, true, true, true, true, true, true, true, true, true, true, false, false, false] rfl rfl (yI HT_.out (by kernel_rfl)) (fun _ _ _ h => h) (Or.inl ⟨by rfl, ?_⟩) ?_ ?_
                 rotate_left
                 ·intro w'
                  go_simp
                  with_reducible rfl
                 rotate_left
                 ·simp only [Act.put, yE, yF, yG, i64_w, i32_w]
                  rfl
                 refine one_ (i := 27) (N := some 102) #[true, true, true, true, true, true, true, true, true, true, true, true, true, true, true, true, true, true, true, true, true, true, true, true, true, true, true, true, false, false] rfl rfl (one_of HT_.out (by kernel_rfl)) (by decide) (fun K hK => ?_)
                 refine goes_ Tryd.func32 (by kernel_rfl) rfl #[.int .i64 (wrap64 ((wrap64 ((rd b7 ((rd_T40 l0 a7).f5)) - (rd b6 a7))) - 1))] (by rfl) rfl rfl (by (try simp only [yJ, List.map_cons, List.map_nil]); first | done | rfl | (simp only [yK, yL]; rfl)) ?_
                 with_reducible refine (switchbackref17_Near.calls (wrap64 ((wrap64 ((rd b7 ((rd_T40 l0 a7).f5)) - (rd b6 a7))) - 1)) t341 _ A47.out).mono ?_
                 rintro e w' ⟨rfl, ⟨nd, rfl⟩⟩
                 refine ⟨_, rfl, ?_⟩
                 refine hK.out _ _ ⟨((HB.out.cell (yD w _ hw335_0)).trans hw335_0), ((HB.out.cell (yD w _ hw335_1)).trans hw335_1), ((HB.out.cell (yD w _ hw335_2)).trans hw335_2), ((HB.out.cell (yD w _ hw335_3)).trans hw335_3), ((HB.out.cell (yD w _ hw335_4)).trans hw335_4), ((HB.out.cell (yD w _ hw335_5)).trans hw335_5), ((HB.out.cell (yD w _ hw335_6)).trans hw335_6), hHeld.2.2.2.2.2.2.2.1, ((HB.out.cell (yD w _ hw338_0)).trans hw338_0), ((HB.out.cell (yD w _ hw338_1)).trans hw338_1), ((HB.out.cell (yD w _ hw338_2)).trans hw338_2), ((HB.out.cell (yD w _ hw338_3)).trans hw338_3), ((HB.out.cell (yD w _ hw338_4)).trans hw338_4), ((HB.out.cell (yD w _ hw338_5)).trans hw338_5), ((HB.out.cell (yD w _ hw338_6)).trans hw338_6), hHeld.2.2.2.2.2.2.2.2.2.2.2.2.2.2.2.1, hHeld.2.2.2.2.2.2.2.2.2.2.2.2.2.2.2.2⟩ (fun hHeld => ?_)
                 clear hK K
                 refine norm_ (a' := ?_) ?_ ?_
                 rotate_left
                 ·show Act.put _ (some 102) _ = _
                  simp only [Act.put, yE, yF, yG, i64_w, i32_w]
                  rfl
                 refine pure_ (i := 28) (N := some 103) (v := ?_) (a' := ?_) #[true, true, true, true, true, true, true, true, true, true, true, true, true, true, true, true, true, true, true, true, true, true, true, true, true, true, true, true, true, false] rfl rfl (yI HT_.out (by kernel_rfl)) (fun _ _ _ h => h) (Or.inl ⟨by rfl, ?_⟩) ?_ ?_
                 rotate_left
                 ·intro w'
                  go_simp
                  with_reducible rfl
                 rotate_left
                 ·simp only [Act.put, yE, yF, yG, i64_w, i32_w]
                  rfl
                 refine pure_ (i := 29) (N := some 104) (v := ?_) (a' := ?_) #[true, true, true, true, true, true, true, true, true, true, true, true, true, true, true, true, true, true, true, true, true, true, true, true, true, true, true, true, true, true] rfl rfl (yI HT_.out (by kernel_rfl)) (fun _ _ _ h => h) (Or.inl ⟨by rfl, ?_⟩) ?_ ?_
                 rotate_left
                 ·intro w'
                  go_simp
                  with_reducible rfl
                 rotate_left
                 ·simp only [Act.put, yE, yF, yG, i64_w, i32_w]
                  rfl
                 refine done_ (done_of HT_.out (by kernel_rfl)) ?_
                 try go_wp2
                 go_meet
                 case rel => exact ⟨_, (!t341), (by first | rfl | (simp; done) | (simp [*]; done)), H', ⟨by have := HJ3.out; have := HJ20.out; have := HK3.out; first | omega | exact Nat.le_refl _⟩, ⟨uR af.out⟩, ⟨uR b1.out⟩, ⟨uR b2.out⟩, ⟨uR a4.out⟩, ⟨uR a3.out⟩, ⟨uR a2.out⟩, ⟨uK a6.out⟩, ⟨uC HB.out ak.out⟩⟩
                rw [if_neg c46] at H
                exact absurd H (by simp)
               rw [if_neg c45] at H
               exact absurd H (by simp)
              rw [if_neg c44] at H
              exact absurd H (by simp)
             rw [if_neg c39] at H
             exact absurd H (by simp)
            replace c38 := Bool.eq_false_iff.mpr c38
            subst c38
            have H1 : (switchbacklaw17_RelaxLeast.j4 k3 l0 aj b6 b7 a7 false ae ad ac ah) = some r := by rw [if_neg (show ¬ (false = true) by decide)] at H; exact H
            clear H
            have H := H1
            clear H1
            have H' := uZ H
            clear H
            try go_wp2
            have n0_ := uZ (zC af.out)
            have n1_ := uZ (zC b1.out)
            have n2_ := uZ (zC b2.out)
            have n3_ := uZ (zC a4.out)
            have n4_ := uZ (zC a3.out)
            have n5_ := uZ (zC a2.out)
            have n6_ := uZ (zP a6.out)
            have n7_ := uZ (zT HB.out)
            clear af
            clear b1
            clear b2
            clear a4
            clear a3
            clear a2
            clear a6
            clear HB
            have af := n0_
            have b1 := n1_
            have b2 := n2_
            have a4 := n3_
            have a3 := n4_
            have a2 := n5_
            have a6 := n6_
            have HB := n7_
            clear n0_ n1_ n2_ n3_ n4_ n5_ n6_ n7_
            have cb : 0 ≤ (a7 : Int) := uA
            have cc : a7 < (l0.length : Int) := uA
            obtain ⟨am, A335_6, c335_6, e335, au, av, aw, ax, ay, az, a_, hl335_6, hi335_6⟩ := at_T40 HR0.out a7 cb cc
            have hw335_6 := a_
            have hw335_5 := az
            have hw335_4 := ay
            have hw335_3 := ax
            have hw335_2 := aw
            have hw335_1 := av
            have hw335_0 := au
            cases e335
            replace au := (HB.out.cell (yD w _ au)).trans au
            replace av := (HB.out.cell (yD w _ av)).trans av
            replace aw := (HB.out.cell (yD w _ aw)).trans aw
            replace ax := (HB.out.cell (yD w _ ax)).trans ax
            replace ay := (HB.out.cell (yD w _ ay)).trans ay
            replace az := (HB.out.cell (yD w _ az)).trans az
            replace a_ := (HB.out.cell (yD w _ a_)).trans a_
            have bh := uZ hi335_6
            have cd := uZ hl335_6
            clear hi335_6 hl335_6
            replace cb := eq_true cb
            replace cc := eq_true cc
            refine start_ (n := 30) (S := fun w' => w'.cell? (am.add ((a7).toNat * 7)) = some (.int .i64 ((rd_T40 l0 a7).f0)) ∧ w'.cell? ⟨(am.add ((a7).toNat * 7)).block, (am.add ((a7).toNat * 7)).off + 1, none⟩ = some (.int .i64 ((rd_T40 l0 a7).f1)) ∧ w'.cell? ⟨(am.add ((a7).toNat * 7)).block, (am.add ((a7).toNat * 7)).off + 2, none⟩ = some (.int .i64 ((rd_T40 l0 a7).f2)) ∧ w'.cell? ⟨(am.add ((a7).toNat * 7)).block, (am.add ((a7).toNat * 7)).off + 3, none⟩ = some (.int .i64 ((rd_T40 l0 a7).f3)) ∧ w'.cell? ⟨(am.add ((a7).toNat * 7)).block, (am.add ((a7).toNat * 7)).off + 4, none⟩ = some (.int .u32 ((rd_T40 l0 a7).f4)) ∧ w'.cell? ⟨(am.add ((a7).toNat * 7)).block, (am.add ((a7).toNat * 7)).off + 5, none⟩ = some (.int .i64 ((rd_T40 l0 a7).f5)) ∧ w'.cell? ⟨(am.add ((a7).toNat * 7)).block, (am.add ((a7).toNat * 7)).off + 6, none⟩ = some (.slice A335_6 ((rd_T40 l0 a7).f6).length c335_6)) (ds := []) #[false, false, false, false, false, false, false, false, false, false, false, false, false, false, false, false, false, false, false, false, false, false, false, false, false, false, false, false, false, false] (by kernel_rfl) rfl rfl ⟨((HB.out.cell (yD w _ hw335_0)).trans hw335_0), ((HB.out.cell (yD w _ hw335_1)).trans hw335_1), ((HB.out.cell (yD w _ hw335_2)).trans hw335_2), ((HB.out.cell (yD w _ hw335_3)).trans hw335_3), ((HB.out.cell (yD w _ hw335_4)).trans hw335_4), ((HB.out.cell (yD w _ hw335_5)).trans hw335_5), ((HB.out.cell (yD w _ hw335_6)).trans hw335_6)⟩ (fun hHeld => ?_); refine with_tabW switchbacklaw17_RelaxLeast.tab13 switchbacklaw17_RelaxLeast.bits13 (fun HT_ HW_ => ?_)
            generalize wr.drew = w52 at af b1 b2 a4 a3 a2 a6 HB bh au av aw ax ay az a_ hHeld ⊢
            refine pure_ (i := 0) (N := some 75) (v := ?_) (a' := ?_) #[true, false, false, false, false, false, false, false, false, false, false, false, false, false, false, false, false, false, false, false, false, false, false, false, false, false, false, false, false, false] rfl rfl (yI HT_.out (by kernel_rfl)) (fun _ _ _ h => h) (Or.inl ⟨by rfl, ?_⟩) ?_ ?_
            rotate_left
            ·intro w'
             go_simp
             with_reducible rfl
            rotate_left
            ·simp only [Act.put, yE, yF, yG, i64_w, i32_w]
             rfl
            refine pure_ (i := 1) (N := some 76) (v := ?_) (a' := ?_) #[true, true, false, false, false, false, false, false, false, false, false, false, false, false, false, false, false, false, false, false, false, false, false, false, false, false, false, false, false, false] rfl rfl (yI HT_.out (by kernel_rfl)) (fun _ _ _ h => h) (Or.inl ⟨by rfl, ?_⟩) ?_ ?_
            rotate_left
            ·intro w'
             go_simp
             with_reducible rfl
            rotate_left
            ·simp only [Act.put, yE, yF, yG, i64_w, i32_w]
             rfl
            refine pure_ (i := 2) (N := some 77) (v := ?_) (a' := ?_) #[true, true, true, false, false, false, false, false, false, false, false, false, false, false, false, false, false, false, false, false, false, false, false, false, false, false, false, false, false, false] rfl rfl (yI HT_.out (by kernel_rfl)) (fun _ _ _ h => h) (Or.inl ⟨by rfl, ?_⟩) ?_ ?_
            rotate_left
            ·intro w'
             go_simp
             with_reducible rfl
            rotate_left
            ·simp only [Act.put, yE, yF, yG, i64_w, i32_w]
             rfl
            refine take_ (i := 3) (N := some 78) (v := ?_) (a' := ?_) #[true, true, true, true, false, false, false, false, false, false, false, false, false, false, false, false, false, false, false, false, false, false, false, false, false, false, false, false, false, false] rfl rfl (take_ofW HT_.out HW_.out (by kernel_rfl)) (fun _ _ _ h => h) (Or.inl ⟨by rfl, ?_⟩) hHeld ?_ ?_
            rotate_left
            ·rintro w' ⟨s0, s1, s2, s3, s4, s5, s6⟩
             go_simp
             with_reducible rfl
            rotate_left
            ·simp only [Act.put, yE, yF, yG, i64_w, i32_w]
             rfl
            refine one_ (i := 4) (N := some 79) #[true, true, true, true, true, false, false, false, false, false, false, false, false, false, false, false, false, false, false, false, false, false, false, false, false, false, false, false, false, false] rfl rfl (one_of HT_.out (by kernel_rfl)) (by decide) (fun K hK => ?_)
            refine goes_ Tryd.func31 (by kernel_rfl) rfl #[.agg #[.int .i64 ((rd_T40 l0 a7).f0), .int .i64 ((rd_T40 l0 a7).f1), .int .i64 ((rd_T40 l0 a7).f2), .int .i64 ((rd_T40 l0 a7).f3), .int .u32 ((rd_T40 l0 a7).f4), .int .i64 ((rd_T40 l0 a7).f5), .slice A335_6 ((rd_T40 l0 a7).f6).length c335_6]] (by rfl) rfl rfl (by (try simp only [yJ, List.map_cons, List.map_nil]); first | done | rfl | (simp only [yK, yL]; rfl)) ?_
            with_reducible refine (switchbackref17_Branch.calls ((rd_T40 l0 a7).f0) ((rd_T40 l0 a7).f1) ((rd_T40 l0 a7).f2) ((rd_T40 l0 a7).f3) ((rd_T40 l0 a7).f4) ((rd_T40 l0 a7).f5) _ _ ((rd_T40 l0 a7).f6) false _ ?side1 ?side2 A37.out).mono ?_
            (case side1 => repeat (first | exact (Kd.C_below bh.out HB.out) | (with_reducible refine zJ ?_ _) | (with_reducible refine zK ?_ _) | (with_reducible refine zL ?_)))
            (case side2 => exact cd.out)
            rintro e w53 ⟨rfl, hb⟩
            refine ⟨_, rfl, ?_⟩
            have n0_ := uZ (zE (uR af.out) hb)
            have n1_ := uZ (zE (uR b1.out) hb)
            have n2_ := uZ (zE (uR b2.out) hb)
            have n3_ := uZ (zE (uR a4.out) hb)
            have n4_ := uZ (zE (uR a3.out) hb)
            have n5_ := uZ (zE (uR a2.out) hb)
            have n6_ := uZ (zY (g := aa) (o := .cells #[.slice b0 ae.length co7, .slice aq ad.length co9, .slice b3 ac.length ai, .int .i64 ah] 27 (0, 0)) (uK a6.out) hb)
            have n7_ := uZ (yC (uC HB.out ak.out) hb)
            clear af
            clear b1
            clear b2
            clear a4
            clear a3
            clear a2
            clear a6
            clear HB
            have af := n0_
            have b1 := n1_
            have b2 := n2_
            have a4 := n3_
            have a3 := n4_
            have a2 := n5_
            have a6 := n6_
            have HB := n7_
            clear n0_ n1_ n2_ n3_ n4_ n5_ n6_ n7_
            (try clear hb)
            (try clear hb2)
            (try clear hk)
            (try clear hi)
            refine hK.out _ _ ⟨((HB.out.cell (yD w _ hw335_0)).trans hw335_0), ((HB.out.cell (yD w _ hw335_1)).trans hw335_1), ((HB.out.cell (yD w _ hw335_2)).trans hw335_2), ((HB.out.cell (yD w _ hw335_3)).trans hw335_3), ((HB.out.cell (yD w _ hw335_4)).trans hw335_4), ((HB.out.cell (yD w _ hw335_5)).trans hw335_5), ((HB.out.cell (yD w _ hw335_6)).trans hw335_6)⟩ (fun hHeld => ?_)
            clear hK K
            refine norm_ (a' := ?_) ?_ ?_
            rotate_left
            ·show Act.put _ (some 79) _ = _
             simp only [Act.put, yE, yF, yG, i64_w, i32_w]
             rfl
            refine pure_ (i := 5) (N := some 80) (v := ?_) (a' := ?_) #[true, true, true, true, true, true, false, false, false, false, false, false, false, false, false, false, false, false, false, false, false, false, false, false, false, false, false, false, false, false] rfl rfl (yI HT_.out (by kernel_rfl)) (fun _ _ _ h => h) (Or.inl ⟨by rfl, ?_⟩) ?_ ?_
            rotate_left
            ·intro w'
             go_simp
             with_reducible rfl
            rotate_left
            ·simp only [Act.put, yE, yF, yG, i64_w, i32_w]
             rfl
            refine pure_ (i := 6) (N := some 81) (v := undef) (a' := ?_) #[true, true, true, true, true, true, true, false, false, false, false, false, false, false, false, false, false, false, false, false, false, false, false, false, false, false, false, false, false, false] rfl rfl (yI HT_.out (by kernel_rfl)) (fun _ _ _ h => h) (Or.inr ⟨by rfl, rfl⟩) ?_ ?_
            rotate_left
            ·simp only [Act.put, yE, yF, yG, i64_w, i32_w]
             rfl
            refine pure_ (i := 7) (N := some 82) (v := undef) (a' := ?_) #[true, true, true, true, true, true, true, true, false, false, false, false, false, false, false, false, false, false, false, false, false, false, false, false, false, false, false, false, false, false] rfl rfl (yI HT_.out (by kernel_rfl)) (fun _ _ _ h => h) (Or.inr ⟨by rfl, rfl⟩) ?_ ?_
            rotate_left
            ·simp only [Act.put, yE, yF, yG, i64_w, i32_w]
             rfl
            refine pure_ (i := 8) (N := some 83) (v := undef) (a' := ?_) #[true, true, true, true, true, true, true, true, true, false, false, false, false, false, false, false, false, false, false, false, false, false, false, false, false, false, false, false, false, false] rfl rfl (yI HT_.out (by kernel_rfl)) (fun _ _ _ h => h) (Or.inr ⟨by rfl, rfl⟩) ?_ ?_
            rotate_left
            ·simp only [Act.put, yE, yF, yG, i64_w, i32_w]
             rfl
            refine pure_ (i := 9) (N := some 84) (v := undef) (a' := ?_) #[true, true, true, true, true, true, true, true, true, true, false, false, false, false, false, false, false, false, false, false, false, false, false, false, false, false, false, false, false, false] rfl rfl (yI HT_.out (by kernel_rfl)) (fun _ _ _ h => h) (Or.inr ⟨by rfl, rfl⟩) ?_ ?_
            rotate_left
            ·simp only [Act.put, yE, yF, yG, i64_w, i32_w]
             rfl
            refine pure_ (i := 10) (N := some 85) (v := undef) (a' := ?_) #[true, true, true, true, true, true, true, true, true, true, true, false, false, false, false, false, false, false, false, false, false, false, false, false, false, false, false, false, false, false] rfl rfl (yI HT_.out (by kernel_rfl)) (fun _ _ _ h => h) (Or.inr ⟨by rfl, rfl⟩) ?_ ?_
            rotate_left
            ·simp only [Act.put, yE, yF, yG, i64_w, i32_w]
             rfl
            refine pure_ (i := 11) (N := some 86) (v := ?_) (a' := ?_) #[true, true, true, true, true, true, true, true, true, true, true, true, false, false, false, false, false, false, false, false, false, false, false, false, false, false, false, false, false, false] rfl rfl (yI HT_.out (by kernel_rfl)) (fun _ _ _ h => h) (Or.inl ⟨by rfl, ?_⟩) ?_ ?_
            rotate_left
            ·intro w'
             go_simp
             with_reducible rfl
            rotate_left
            ·simp only [Act.put, yE, yF, yG, i64_w, i32_w]
             rfl
            refine pure_ (i := 12) (N := some 87) (v := ?_) (a' := ?_) #[true, true, true, true, true, true, true, true, true, true, true, true, true, false, false, false, false, false, false, false, false, false, false, false, false, false, false, false, false, false] rfl rfl (yI HT_.out (by kernel_rfl)) (fun _ _ _ h => h) (Or.inl ⟨by rfl, ?_⟩) ?_ ?_
            rotate_left
            ·intro w'
             go_simp
             with_reducible rfl
            rotate_left
            ·simp only [Act.put, yE, yF, yG, i64_w, i32_w]
             rfl
            refine pure_ (i := 13) (N := some 88) (v := undef) (a' := ?_) #[true, true, true, true, true, true, true, true, true, true, true, true, true, true, false, false, false, false, false, false, false, false, false, false, false, false, false, false, false, false] rfl rfl (yI HT_.out (by kernel_rfl)) (fun _ _ _ h => h) (Or.inr ⟨by rfl, rfl⟩) ?_ ?_
            rotate_left
            ·simp only [Act.put, yE, yF, yG, i64_w, i32_w]
             rfl
            refine pure_ (i := 14) (N := some 89) (v := undef) (a' := ?_) #[true, true, true, true, true, true, true, true, true, true, true, true, true, true, true, false, false, false, false, false, false, false, false, false, false, false, false, false, false, false] rfl rfl (yI HT_.out (by kernel_rfl)) (fun _ _ _ h => h) (Or.inr ⟨by rfl, rfl⟩) ?_ ?_
            rotate_left
            ·simp only [Act.put, yE, yF, yG, i64_w, i32_w]
             rfl
            refine pure_ (i := 15) (N := some 90) (v := undef) (a' := ?_) #[true, true, true, true, true, true, true, true, true, true, true, true, true, true, true, true, false, false, false, false, false, false, false, false, false, false, false, false, false, false] rfl rfl (yI HT_.out (by kernel_rfl)) (fun _ _ _ h => h) (Or.inr ⟨by rfl, rfl⟩) ?_ ?_
            rotate_left
            ·simp only [Act.put, yE, yF, yG, i64_w, i32_w]
             rfl
            refine pure_ (i := 16) (N := some 91) (v := undef) (a' := ?_) #[true, true, true, true, true, true, true, true, true, true, true, true, true, true, true, true, true, false, false, false, false, false, false, false, false, false, false, false, false, false] rfl rfl (yI HT_.out (by kernel_rfl)) (fun _ _ _ h => h) (Or.inr ⟨by rfl, rfl⟩) ?_ ?_
            rotate_left
            ·simp only [Act.put, yE, yF, yG, i64_w, i32_w]
             rfl
            refine pure_ (i := 17) (N := some 92) (v := undef) (a' := ?_) #[true, true, true, true, true, true, true, true, true, true, true, true, true, true, true, true, true, true, false, false, false, false, false, false, false, false, false, false, false, false] rfl rfl (yI HT_.out (by kernel_rfl)) (fun _ _ _ h => h) (Or.inr ⟨by rfl, rfl⟩) ?_ ?_
            rotate_left
            ·simp only [Act.put, yE, yF, yG, i64_w, i32_w]
             rfl
            refine pure_ (i := 18) (N := some 93) (v := undef) (a' := ?_) #[true, true, true, true, true, true, true, true, true, true, true, true, true, true, true, true, true, true, true, false, false, false, false, false, false, false, false, false, false, false] rfl rfl (yI HT_.out (by kernel_rfl)) (fun _ _ _ h => h) (Or.inr ⟨by rfl, rfl⟩) ?_ ?_
            rotate_left
            ·simp only [Act.put, yE, yF, yG, i64_w, i32_w]
             rfl
            refine pure_ (i := 19) (N := some 94) (v := undef) (a' := ?_) #[true, true, true, true, true, true, true, true, true, true, true, true, true, true, true, true, true, true, true, true, false, false, false, false, false, false, false, false, false, false] rfl rfl (yI HT_.out (by kernel_rfl)) (fun _ _ _ h => h) (Or.inr ⟨by rfl, rfl⟩) ?_ ?_
            rotate_left
            ·simp only [Act.put, yE, yF, yG, i64_w, i32_w]
             rfl
            refine pure_ (i := 20) (N := some 95) (v := undef) (a' := ?_) #[true, true, true, true, true, true, true, true, true, true, true, true, true, true, true, true, true, true, true, true, true, false, false, false, false, false, false, false, false, false] rfl rfl (yI HT_.out (by kernel_rfl)) (fun _ _ _ h => h) (Or.inr ⟨by rfl, rfl⟩) ?_ ?_
            rotate_left
            ·simp only [Act.put, yE, yF, yG, i64_w, i32_w]
             rfl
            refine pure_ (i := 21) (N := some 96) (v := undef) (a' := ?_) #[true, true, true, true, true, true, true, true, true, true, true, true, true, true, true, true, true, true, true, true, true, true, false, false, false, false, false, false, false, false] rfl rfl (yI HT_.out (by kernel_rfl)) (fun _ _ _ h => h) (Or.inr ⟨by rfl, rfl⟩) ?_ ?_
            rotate_left
            ·simp only [Act.put, yE, yF, yG, i64_w, i32_w]
             rfl
            refine pure_ (i := 22) (N := some 97) (v := undef) (a' := ?_) #[true, true, true, true, true, true, true, true, true, true, true, true, true, true, true, true, true, true, true, true, true, true, true, false, false, false, false, false, false, false] rfl rfl (yI HT_.out (by kernel_rfl)) (fun _ _ _ h => h) (Or.inr ⟨by rfl, rfl⟩) ?_ ?_
            rotate_left
            ·simp only [Act.put, yE, yF, yG, i64_w, i32_w]
             rfl
            refine pure_ (i := 23) (N := some 98) (v := undef) (a' := ?_) #[true, true, true, true, true, true, true, true, true, true, true, true, true, true, true, true, true, true, true, true, true, true, true, true, false, false, false, false, false, false] rfl rfl (yI HT_.out (by kernel_rfl)) (fun _ _ _ h => h) (Or.inr ⟨by rfl, rfl⟩) ?_ ?_
            rotate_left
            ·simp only [Act.put, yE, yF, yG, i64_w, i32_w]
             rfl
            refine pure_ (i := 24) (N := some 99) (v := undef) (a' := ?_) #[true, true, true, true, true, true, true, true, true, true, true, true, true, true, true, true, true, true, true, true, true, true, true, true, true, false, false, false, false, false] rfl rfl (yI HT_.out (by kernel_rfl)) (fun _ _ _ h => h) (Or.inr ⟨by rfl, rfl⟩) ?_ ?_
            rotate_left
            ·simp only [Act.put, yE, yF, yG, i64_w, i32_w]
             rfl
            refine pure_ (i := 25) (N := some 100) (v := undef) (a' := ?_) #[true, true, true, true, true, true, true, true, true, true, true, true, true, true, true, true, true, true, true, true, true, true, true, true, true, true, false, false, false, false] rfl rfl (yI HT_.out (by kernel_rfl)) (fun _ _ _ h => h) (Or.inr ⟨by rfl, rfl⟩) ?_ ?_
            rotate_left
            ·simp only [Act.put, yE, yF, yG, i64_w, i32_w]
             rfl
            refine pure_ (i := 26) (N := some 101) (v := undef) (a' := ?_) #[true, true, true, true, true, true, true, true, true, true, true, true, true, true, true, true, true, true, true, true, true, true, true, true, true, true, true, false, false, false] rfl rfl (yI HT_.out (by kernel_rfl)) (fun _ _ _ h => h) (Or.inr ⟨by rfl, rfl⟩) ?_ ?_
            rotate_left
            ·simp only [Act.put, yE, yF, yG, i64_w, i32_w]
             rfl
            refine pure_ (i := 27) (N := some 102) (v := undef) (a' := ?_) #[true, true, true, true, true, true, true, true, true, true, true, true, true, true, true, true, true, true, true, true, true, true, true, true, true, true, true, true, false, false] rfl rfl (yI HT_.out (by kernel_rfl)) (fun _ _ _ h => h) (Or.inr ⟨by rfl, rfl⟩) ?_ ?_
            rotate_left
            ·simp only [Act.put, yE, yF, yG, i64_w, i32_w]
             rfl
            refine pure_ (i := 28) (N := some 103) (v := undef) (a' := ?_) #[true, true, true, true, true, true, true, true, true, true, true, true, true, true, true, true, true, true, true, true, true, true, true, true, true, true, true, true, true, false] rfl rfl (yI HT_.out (by kernel_rfl)) (fun _ _ _ h => h) (Or.inr ⟨by rfl, rfl⟩) ?_ ?_
            rotate_left
            ·simp only [Act.put, yE, yF, yG, i64_w, i32_w]
             rfl
            refine pure_ (i := 29) (N := some 104) (v := ?_) (a' := ?_) #[true, true, true, true, true, true, true, true, true, true, true, true, true, true, true, true, true, true, true, true, true, true, true, true, true, true, true, true, true, true] rfl rfl (yI HT_.out (by kernel_rfl)) (fun _ _ _ h => h) (Or.inl ⟨by rfl, ?_⟩) ?_ ?_
            rotate_left
            ·intro w'
             go_simp
             with_reducible rfl
            rotate_left
            ·simp only [Act.put, yE, yF, yG, i64_w, i32_w]
             rfl
            refine done_ (done_of HT_.out (by kernel_rfl)) ?_
            try go_wp2
            go_meet
            case rel => exact ⟨_, (false), (by first | rfl | (simp; done) | (simp [*]; done)), H', ⟨by have := HJ3.out; have := HJ20.out; have := HK3.out; first | omega | exact Nat.le_refl _⟩, ⟨uR af.out⟩, ⟨uR b1.out⟩, ⟨uR b2.out⟩, ⟨uR a4.out⟩, ⟨uR a3.out⟩, ⟨uR a2.out⟩, ⟨uK a6.out⟩, ⟨uC HB.out ak.out⟩⟩
           rw [if_neg c36] at H
           exact absurd H (by simp)
          case rest =>
           clear HC35
           try clear p2
           try clear c3
           try clear p3
           try clear q3
           try clear hx3
           try clear c4
           try clear q4
           try clear p6
           try clear c31
           try clear c32
           try clear c33
           try clear p33
           try clear q33
           try clear hx33
           try clear p34
           try clear q34
           try clear hx34
           try clear c36
           try clear c38
           try clear c39
           try clear q40
           try clear c44
           try clear c45
           try clear c46
           try clear au
           try clear av
           try clear aw
           try clear ax
           try clear ay
           try clear az
           try clear a_
           try clear bg
           try clear bi
           try clear bj
           try clear bk
           try clear bl
           try clear bm
           try clear bn
           try clear bo
           try clear ce
           try clear cf
           try clear cb
           try clear p337
           try clear p338
           try clear p339
           try clear p340
           try clear cc
           try clear q337
           try clear q338
           try clear q339
           try clear q340
           obtain ⟨kq, x104_34, rfl, HA, HJ34, af, b1, b2, a4, a3, a2, a6, HB⟩ := hcut
           cases kq with
           | zero => exact absurd HA.out (by simp [switchbacklaw17_RelaxLeast.j4])
           | succ kj34 =>
            have H := HA.out
            clear HA
            simp only [switchbacklaw17_RelaxLeast.j4] at H
            by_cases c54 : x104_34 = true
            ·subst c54
             have H1 : ((switchbacklaw17_live.f).bind fun t342 => (some t342)) = some r := by rw [if_pos rfl] at H; exact H
             clear H
             have H := H1
             clear H1
             replace H := Option.bind_eq_some_iff.mp H
             obtain ⟨t342, A550, H⟩ := H
             replace H : (some t342) = some r := H
             have A55 := uZ A550
             clear A550
             obtain rfl := Option.some.inj H
             go_wp2_with (first | ((with_reducible refine gate_callee (f := 21) rfl ?_); refine goesL_ (some 105) rfl rfl Tryd.func21 (by kernel_rfl) rfl #[] rfl (by (try simp only [yJ, List.map_cons, List.map_nil]); first | done | rfl | (simp only [yK, yL]; rfl)) ?_; (with_reducible refine (switchbacklaw17_live.calls  t342 _ (uZ (hLaid_.out.below (by repeat (first | (with_reducible first | exact HB.out | apply zS | apply zR | apply zT) | refine yA ?_ (Aside0.out (by assumption)) | exact HB.out)))) A55.out).mono ?_); rintro e w56 ⟨rfl, hb⟩; refine ⟨_, rfl, ?_⟩; have n0_ := uZ (zE (uR af.out) hb); have n1_ := uZ (zE (uR b1.out) hb); have n2_ := uZ (zE (uR b2.out) hb); have n3_ := uZ (zE (uR a4.out) hb); have n4_ := uZ (zE (uR a3.out) hb); have n5_ := uZ (zE (uR a2.out) hb); have n6_ := uZ (zY (g := aa) (o := .cells #[.slice b0 ae.length co7, .slice aq ad.length co9, .slice b3 ac.length ai, .int .i64 ah] 27 (0, 0)) (uK a6.out) hb); have n7_ := uZ (yC (uC HB.out ak.out) hb); clear af; clear b1; clear b2; clear a4; clear a3; clear a2; clear a6; clear HB; have af := n0_; have b1 := n1_; have b2 := n2_; have a4 := n3_; have a3 := n4_; have a2 := n5_; have a6 := n6_; have HB := n7_; clear n0_ n1_ n2_ n3_ n4_ n5_ n6_ n7_; (try clear hb); (try clear hb2); (try clear hk); (try clear hi)))
             go_ret
             exact ⟨by first | rfl | (simp [errW_none, errW_some] <;> rfl) | (simp [*, errW_none, errW_some] <;> rfl), by repeat (first | (with_reducible first | exact HB.out | apply zS | apply zR | apply zT | refine yA ?_ ak.out) | exact HB.out)⟩
            replace c54 := Bool.eq_false_iff.mpr c54
            subst c54
            have H1 : (switchbacklaw17_RelaxLeast.l1 kj34 l0 aj b6 b7 (wrap64 (a7 + 1)) ae ad ac ah) = some r := by rw [if_neg (show ¬ (false = true) by decide)] at H; exact H
            clear H
            have H := H1
            clear H1
            have H' := uZ H
            clear H
            go_wp2
            go_roundg kj34
            case measure => have := HJ3.out; have := HJ20.out; have := HK3.out; have := HJ34.out; omega
            case rel => exact ⟨(wrap64 (a7 + 1)), (by first | rfl | (simp; done) | (simp [*]; done)), H', ⟨by have := HJ3.out; have := HJ20.out; have := HK3.out; have := HJ34.out; omega⟩, ⟨uR af.out⟩, ⟨uR b1.out⟩, ⟨uR b2.out⟩, ⟨uR a4.out⟩, ⟨uR a3.out⟩, ⟨uR a2.out⟩, ⟨uK a6.out⟩, ⟨uC HB.out ak.out⟩⟩
         rw [if_neg c34] at H
         have c34b0 : decide (a7 < (l0.length : Int)) = false := decide_eq_false c34
         clear c34
         have H' := uZ H
         clear H
         go_wp2
         go_loopg [14] k3 (fun kq v14 w' => ∃ (a9 : Int), v14 = .int .i64 a9 ∧ Aside0 (switchbacklaw17_RelaxLeast.l2 kq l0 aj a9 ae ad ac ah = some r) ∧ Aside0 (kq ≤ k3) ∧ Aside0 (Kd.R Kd.bool 4 w' w.heap.size (fun _ => True) (.slice c9 aj.length ca) aj) ∧ Aside0 (Kd.R (Kd.int .u32) 38 w' w.heap.size (fun _ => True) (.slice b0 ae.length co7) ae) ∧ Aside0 (Kd.R (Kd.int .i64) 3 w' w.heap.size (fun k_ => some k_ ≠ ((.slice b3 ac.length ai) : Value).ownBlock) (.slice aq ad.length co9) ad) ∧ Aside0 (Kd.R (Kd.int .i64) 3 w' w.heap.size (fun k_ => some k_ ≠ ((.slice aq ad.length co9) : Value).ownBlock) (.slice b3 ac.length ai) ac) ∧ Aside0 (w'.heap[aa]? = some (.cells #[(.slice b0 ae.length co7), (.slice aq ad.length co9), (.slice b3 ac.length ai), .int .i64 ah] 27 (0, 0))) ∧ Aside0 (Below w.heap.size w w'))
         case atStart => exact ⟨(0), (by first | rfl | (simp; done) | (simp [*]; done)), H', ⟨Nat.le_refl _⟩, ⟨uR af.out⟩, ⟨uR a4.out⟩, ⟨by (with_reducible repeat (first | apply zA | apply zB | apply zC)); exact zF a3.out (fun _ hk => hk.2.2)⟩, ⟨by (with_reducible repeat (first | apply zA | apply zB | apply zC)); exact zF a2.out (fun _ hk => hk.2.2)⟩, ⟨uK a6.out⟩, ⟨uC HB.out ak.out⟩⟩
         case round =>
          clear H'
          try clear c2
          try clear p2
          try clear c3
          try clear p3
          try clear q3
          try clear hx3
          try clear c4
          try clear q4
          try clear c5
          try clear p6
          try clear c21
          try clear c31
          try clear c32
          try clear c33
          try clear p33
          try clear q33
          try clear hx33
          try clear c34
          try clear c34b0
          try clear p34
          try clear q34
          try clear hx34
          try clear c36
          try clear c38
          try clear c39
          try clear q40
          try clear c44
          try clear c45
          try clear c46
          try clear c54
          try clear au
          try clear av
          try clear aw
          try clear ax
          try clear ay
          try clear az
          try clear a_
          try clear bg
          try clear bi
          try clear bj
          try clear bk
          try clear bl
          try clear bm
          try clear bn
          try clear bo
          try clear ce
          try clear cf
          try clear p2
          try clear p3
          try clear p33
          try clear cb
          try clear p337
          try clear p338
          try clear p339
          try clear p34
          try clear p340
          try clear p6
          try clear q3
          try clear q33
          try clear cc
          try clear q337
          try clear q338
          try clear q339
          try clear q34
          try clear q340
          try clear q4
          try clear q40
          obtain ⟨a9, rfl, HA, HK4, af, a4, a3, a2, a6, HB⟩ := hrel
          cases gk with
          | zero => exact absurd HA.out (by simp [switchbacklaw17_RelaxLeast.l2])
          | succ k4 =>
           have H := HA.out
           clear HA
           simp only [switchbacklaw17_RelaxLeast.l2] at H
           by_cases c57 : a9 < (l0.length : Int)
           ·rw [if_pos c57] at H
            have c57b0 : decide (a9 < (l0.length : Int)) = true := decide_eq_true c57
            clear c57
            have HC58 := uZ H
            clear H
            go_upto_region 18 with (fail)
            go_cut [123] (fun v123 wc => ∃ (kq : Nat) (x123_57 : Bool), v123 = .bool x123_57 ∧ Aside0 (switchbacklaw17_RelaxLeast.j6 kq l0 aj a9 x123_57 ae ad ac ah = some r) ∧ Aside0 (kq ≤ k4) ∧ Aside0 (Kd.R Kd.bool 4 wc w.heap.size (fun _ => True) (.slice c9 aj.length ca) aj) ∧ Aside0 (Kd.R (Kd.int .u32) 38 wc w.heap.size (fun _ => True) (.slice b0 ae.length co7) ae) ∧ Aside0 (Kd.R (Kd.int .i64) 3 wc w.heap.size (fun k_ => some k_ ≠ ((.slice b3 ac.length ai) : Value).ownBlock) (.slice aq ad.length co9) ad) ∧ Aside0 (Kd.R (Kd.int .i64) 3 wc w.heap.size (fun k_ => some k_ ≠ ((.slice aq ad.length co9) : Value).ownBlock) (.slice b3 ac.length ai) ac) ∧ Aside0 (wc.heap[aa]? = some (.cells #[(.slice b0 ae.length co7), (.slice aq ad.length co9), (.slice b3 ac.length ai), .int .i64 ah] 27 (0, 0))) ∧ Aside0 (Below w.heap.size w wc))
            case first =>
             have H := HC58.out
             clear HC58
             by_cases c59 : 0 ≤ a9
             ·rw [if_pos c59] at H
              have c59b0 : decide (0 ≤ a9) = true := decide_eq_true c59
              clear c59
              (first | rw [c59b0] | (simp only [i64_w, i32_w]; rw [c59b0]) | skip)
              replace H := Option.bind_eq_some_iff.mp H
              obtain ⟨t344, A600, H⟩ := H
              replace H : (if t344 = true then (if a9 < (aj.length : Int) then (switchbacklaw17_RelaxLeast.j6 k4 l0 aj a9 (rdOf false aj a9) ae ad ac ah) else (none)) else (switchbacklaw17_RelaxLeast.j6 k4 l0 aj a9 true ae ad ac ah)) = some r := H
              have A60 := uZ A600
              clear A600
              by_cases c61 : t344 = true
              ·subst c61
               have H1 : (if a9 < (aj.length : Int) then (switchbacklaw17_RelaxLeast.j6 k4 l0 aj a9 (rdOf false aj a9) ae ad ac ah) else (none)) = some r := by rw [if_pos rfl] at H; exact H
               clear H
               have H := H1
               clear H1
               by_cases c62 : a9 < (aj.length : Int)
               ·rw [if_pos c62] at H
                have c62b0 : decide (a9 < (aj.length : Int)) = true := decide_eq_true c62
                clear c62
                have H' := uZ H
                clear H
                have p343 : 0 ≤ (a9 : Int) := uA
                have q343 : a9 < (l0.length : Int) := uA
                obtain ⟨ad343, A343_6, c343_6, e343, bp, bq, br, bs, bt, bu, bv, hl343_6, hi343_6⟩ := at_T40 HR0.out a9 p343 q343
                cases e343
                replace bp := (HB.out.cell (yD w _ bp)).trans bp
                replace bq := (HB.out.cell (yD w _ bq)).trans bq
                replace br := (HB.out.cell (yD w _ br)).trans br
                replace bs := (HB.out.cell (yD w _ bs)).trans bs
                replace bt := (HB.out.cell (yD w _ bt)).trans bt
                replace bu := (HB.out.cell (yD w _ bu)).trans bu
                replace bv := (HB.out.cell (yD w _ bv)).trans bv
                have HR343_6 := uZ hi343_6
                have HC343_6 := uZ hl343_6
                clear hi343_6 hl343_6
                replace p343 := eq_true p343
                replace q343 := eq_true q343
                go_wp2_with (first | ((with_reducible refine gate_callee (f := 31) rfl ?_); refine goesL_ (some 116) rfl rfl Tryd.func31 (by kernel_rfl) rfl #[.agg #[.int .i64 ((rd_T40 l0 a9).f0), .int .i64 ((rd_T40 l0 a9).f1), .int .i64 ((rd_T40 l0 a9).f2), .int .i64 ((rd_T40 l0 a9).f3), .int .u32 ((rd_T40 l0 a9).f4), .int .i64 ((rd_T40 l0 a9).f5), .slice A343_6 ((rd_T40 l0 a9).f6).length c343_6]] rfl (by (try simp only [yJ, List.map_cons, List.map_nil]); first | done | rfl | (simp only [yK, yL]; rfl)) ?_; (with_reducible refine (switchbackref17_Branch.calls ((rd_T40 l0 a9).f0) ((rd_T40 l0 a9).f1) ((rd_T40 l0 a9).f2) ((rd_T40 l0 a9).f3) ((rd_T40 l0 a9).f4) ((rd_T40 l0 a9).f5) _ _ ((rd_T40 l0 a9).f6) true _ ?side1 ?side2 A60.out).mono ?_); (case side1 => repeat (first | exact (Kd.C_below HR343_6.out HB.out) | (with_reducible refine zJ ?_ _) | (with_reducible refine zK ?_ _) | (with_reducible refine zL ?_))); (case side2 => exact HC343_6.out); rintro e w63 ⟨rfl, hb⟩; refine ⟨_, rfl, ?_⟩; have n0_ := uZ (zE (uR af.out) hb); have n1_ := uZ (zE (uR a4.out) hb); have n2_ := uZ (zE (uR a3.out) hb); have n3_ := uZ (zE (uR a2.out) hb); have n4_ := uZ (zY (g := aa) (o := .cells #[.slice b0 ae.length co7, .slice aq ad.length co9, .slice b3 ac.length ai, .int .i64 ah] 27 (0, 0)) (uK a6.out) hb); have n5_ := uZ (yC (uC HB.out ak.out) hb); clear af; clear a4; clear a3; clear a2; clear a6; clear HB; have af := n0_; have a4 := n1_; have a3 := n2_; have a2 := n3_; have a6 := n4_; have HB := n5_; clear n0_ n1_ n2_ n3_ n4_ n5_; (try clear hb); (try clear hb2); (try clear hk); (try clear hi); have p345 : 0 ≤ (a9 : Int) := uA; have q345 : a9 < (aj.length : Int) := uA; obtain ⟨ad345, e345, hx345_0⟩ := Kd.at_bool (zI af.out).2.2 a9 p345 q345; cases e345; replace p345 := eq_true p345; replace q345 := eq_true q345))
                go_meet
                case rel => exact ⟨_, (rdOf false aj a9), (by first | rfl | (simp; done) | (simp [*]; done)), H', ⟨by have := HJ3.out; have := HJ20.out; have := HK3.out; have := HK4.out; first | omega | exact Nat.le_refl _⟩, ⟨uR af.out⟩, ⟨uR a4.out⟩, ⟨uR a3.out⟩, ⟨uR a2.out⟩, ⟨uK a6.out⟩, ⟨uC HB.out ak.out⟩⟩
               rw [if_neg c62] at H
               exact absurd H (by simp)
              replace c61 := Bool.eq_false_iff.mpr c61
              subst c61
              have H1 : (switchbacklaw17_RelaxLeast.j6 k4 l0 aj a9 true ae ad ac ah) = some r := by rw [if_neg (show ¬ (false = true) by decide)] at H; exact H
              clear H
              have H := H1
              clear H1
              have H' := uZ H
              clear H
              have p343 : 0 ≤ (a9 : Int) := uA
              have q343 : a9 < (l0.length : Int) := uA
              obtain ⟨ad343, A343_6, c343_6, e343, bp, bq, br, bs, bt, bu, bv, hl343_6, hi343_6⟩ := at_T40 HR0.out a9 p343 q343
              cases e343
              replace bp := (HB.out.cell (yD w _ bp)).trans bp
              replace bq := (HB.out.cell (yD w _ bq)).trans bq
              replace br := (HB.out.cell (yD w _ br)).trans br
              replace bs := (HB.out.cell (yD w _ bs)).trans bs
              replace bt := (HB.out.cell (yD w _ bt)).trans bt
              replace bu := (HB.out.cell (yD w _ bu)).trans bu
              replace bv := (HB.out.cell (yD w _ bv)).trans bv
              have HR343_6 := uZ hi343_6
              have HC343_6 := uZ hl343_6
              clear hi343_6 hl343_6
              replace p343 := eq_true p343
              replace q343 := eq_true q343
              go_wp2_with (first | ((with_reducible refine gate_callee (f := 31) rfl ?_); refine goesL_ (some 116) rfl rfl Tryd.func31 (by kernel_rfl) rfl #[.agg #[.int .i64 ((rd_T40 l0 a9).f0), .int .i64 ((rd_T40 l0 a9).f1), .int .i64 ((rd_T40 l0 a9).f2), .int .i64 ((rd_T40 l0 a9).f3), .int .u32 ((rd_T40 l0 a9).f4), .int .i64 ((rd_T40 l0 a9).f5), .slice A343_6 ((rd_T40 l0 a9).f6).length c343_6]] rfl (by (try simp only [yJ, List.map_cons, List.map_nil]); first | done | rfl | (simp only [yK, yL]; rfl)) ?_; (with_reducible refine (switchbackref17_Branch.calls ((rd_T40 l0 a9).f0) ((rd_T40 l0 a9).f1) ((rd_T40 l0 a9).f2) ((rd_T40 l0 a9).f3) ((rd_T40 l0 a9).f4) ((rd_T40 l0 a9).f5) _ _ ((rd_T40 l0 a9).f6) false _ ?side1 ?side2 A60.out).mono ?_); (case side1 => repeat (first | exact (Kd.C_below HR343_6.out HB.out) | (with_reducible refine zJ ?_ _) | (with_reducible refine zK ?_ _) | (with_reducible refine zL ?_))); (case side2 => exact HC343_6.out); rintro e w64 ⟨rfl, hb⟩; refine ⟨_, rfl, ?_⟩; have n0_ := uZ (zE (uR af.out) hb); have n1_ := uZ (zE (uR a4.out) hb); have n2_ := uZ (zE (uR a3.out) hb); have n3_ := uZ (zE (uR a2.out) hb); have n4_ := uZ (zY (g := aa) (o := .cells #[.slice b0 ae.length co7, .slice aq ad.length co9, .slice b3 ac.length ai, .int .i64 ah] 27 (0, 0)) (uK a6.out) hb); have n5_ := uZ (yC (uC HB.out ak.out) hb); clear af; clear a4; clear a3; clear a2; clear a6; clear HB; have af := n0_; have a4 := n1_; have a3 := n2_; have a2 := n3_; have a6 := n4_; have HB := n5_; clear n0_ n1_ n2_ n3_ n4_ n5_; (try clear hb); (try clear hb2); (try clear hk); (try clear hi)))
              go_meet
              case rel => exact ⟨_, (true), (by first | rfl | (simp; done) | (simp [*]; done)), H', ⟨by have := HJ3.out; have := HJ20.out; have := HK3.out; have := HK4.out; first | omega | exact Nat.le_refl _⟩, ⟨uR af.out⟩, ⟨uR a4.out⟩, ⟨uR a3.out⟩, ⟨uR a2.out⟩, ⟨uK a6.out⟩, ⟨uC HB.out ak.out⟩⟩
             rw [if_neg c59] at H
             exact absurd H (by simp)
            case rest =>
             clear HC58
             try clear c2
             try clear p2
             try clear c3
             try clear p3
             try clear q3
             try clear hx3
             try clear c4
             try clear q4
             try clear c5
             try clear c6
             try clear p6
             try clear c21
             try clear c31
             try clear c32
             try clear c33
             try clear p33
             try clear q33
             try clear hx33
             try clear c34
             try clear c34b0
             try clear p34
             try clear q34
             try clear hx34
             try clear c36
             try clear c38
             try clear c39
             try clear q40
             try clear c44
             try clear c45
             try clear c46
             try clear c54
             try clear c57
             try clear c57b0
             try clear c59
             try clear c59b0
             try clear c61
             try clear c62
             try clear c62b0
             try clear p64
             try clear au
             try clear av
             try clear aw
             try clear ax
             try clear ay
             try clear az
             try clear a_
             try clear bg
             try clear bi
             try clear bj
             try clear bk
             try clear bl
             try clear bm
             try clear bn
             try clear bo
             try clear ce
             try clear cf
             try clear bp
             try clear bq
             try clear br
             try clear bs
             try clear bt
             try clear bu
             try clear bv
             try clear hx345_0
             try clear p2
             try clear p3
             try clear p33
             try clear cb
             try clear p337
             try clear p338
             try clear p339
             try clear p34
             try clear p340
             try clear p343
             try clear p345
             try clear p6
             try clear q3
             try clear q33
             try clear cc
             try clear q337
             try clear q338
             try clear q339
             try clear q34
             try clear q340
             try clear q343
             try clear q345
             try clear q4
             try clear q40
             obtain ⟨kq, x123_57, rfl, HA, HJ57, af, a4, a3, a2, a6, HB⟩ := hcut
             cases kq with
             | zero => exact absurd HA.out (by simp [switchbacklaw17_RelaxLeast.j6])
             | succ kj57 =>
              have H := HA.out
              clear HA
              simp only [switchbacklaw17_RelaxLeast.j6] at H
              by_cases c65 : x123_57 = true
              ·subst c65
               have H1 : (switchbacklaw17_RelaxLeast.l2 kj57 l0 aj (wrap64 (a9 + 1)) ae ad ac ah) = some r := by rw [if_pos rfl] at H; exact H
               clear H
               have H := H1
               clear H1
               have H' := uZ H
               clear H
               go_wp2
               go_roundg kj57
               case measure => have := HJ3.out; have := HJ20.out; have := HK3.out; have := HK4.out; have := HJ57.out; omega
               case rel => exact ⟨(wrap64 (a9 + 1)), (by first | rfl | (simp; done) | (simp [*]; done)), H', ⟨by have := HJ3.out; have := HJ20.out; have := HK3.out; have := HK4.out; have := HJ57.out; omega⟩, ⟨uR af.out⟩, ⟨uR a4.out⟩, ⟨uR a3.out⟩, ⟨uR a2.out⟩, ⟨uK a6.out⟩, ⟨uC HB.out ak.out⟩⟩
              replace c65 := Bool.eq_false_iff.mpr c65
              subst c65
              have H1 : (if 0 ≤ a9 then (if a9 < (ac.length : Int) then ((switchbacklaw17_code.f kj57 ae ad ac ah (rd ac a9)).bind fun bt347 => (if bt347.2.2.2.2 = true then (if a9 < (l0.length : Int) then (if bt347.1 = ((rd_T40 l0 a9).f0) then (switchbacklaw17_RelaxLeast.l2 kj57 l0 aj (wrap64 (a9 + 1)) ae ad ac ah) else (some false)) else (none)) else (some false))) else (none)) else (none)) = some r := by rw [if_neg (show ¬ (false = true) by decide)] at H; exact H
              clear H
              have H := H1
              clear H1
              by_cases c66 : 0 ≤ a9
              ·rw [if_pos c66] at H
               have c66b0 : decide (0 ≤ a9) = true := decide_eq_true c66
               clear c66
               by_cases c67 : a9 < (ac.length : Int)
               ·rw [if_pos c67] at H
                have c67b0 : decide (a9 < (ac.length : Int)) = true := decide_eq_true c67
                clear c67
                replace H := Option.bind_eq_some_iff.mp H
                obtain ⟨⟨an, ao, ap, ar, t351⟩, A680, H⟩ := H
                replace H : (if t351 = true then (if a9 < (l0.length : Int) then (if an = ((rd_T40 l0 a9).f0) then (switchbacklaw17_RelaxLeast.l2 kj57 l0 aj (wrap64 (a9 + 1)) ae ad ac ah) else (some false)) else (none)) else (some false)) = some r := H
                have A68 := uZ A680
                clear A680
                by_cases c69 : t351 = true
                ·subst c69
                 have H1 : (if a9 < (l0.length : Int) then (if an = ((rd_T40 l0 a9).f0) then (switchbacklaw17_RelaxLeast.l2 kj57 l0 aj (wrap64 (a9 + 1)) ae ad ac ah) else (some false)) else (none)) = some r := by rw [if_pos rfl] at H; exact H
                 clear H
                 have H := H1
                 clear H1
                 by_cases c70 : a9 < (l0.length : Int)
                 ·rw [if_pos c70] at H
                  have c70b0 : decide (a9 < (l0.length : Int)) = true := decide_eq_true c70
                  clear c70
                  by_cases c71 : an = ((rd_T40 l0 a9).f0)
                  ·rw [if_pos c71] at H
                   have c71b0 : (an == ((rd_T40 l0 a9).f0)) = true := beq_iff_eq.mpr c71
                   have c71b1 : (an != ((rd_T40 l0 a9).f0)) = false := bne_eq_false_iff_eq.mpr c71
                   clear c71
                   have H' := uZ H
                   clear H
                   try go_wp2
                   have n0_ := uZ (zC af.out)
                   have n1_ := uZ (zC a4.out)
                   have n2_ := uZ (zC a3.out)
                   have n3_ := uZ (zC a2.out)
                   have n4_ := uZ (zP a6.out)
                   have n5_ := uZ (zT HB.out)
                   clear af
                   clear a4
                   clear a3
                   clear a2
                   clear a6
                   clear HB
                   have af := n0_
                   have a4 := n1_
                   have a3 := n2_
                   have a2 := n3_
                   have a6 := n4_
                   have HB := n5_
                   clear n0_ n1_ n2_ n3_ n4_ n5_
                   have p346 : 0 ≤ (a9 : Int) := uA
                   have q346 : a9 < (ac.length : Int) := uA
                   obtain ⟨ag, e346, bw⟩ := Kd.at_int (zI a2.out).2.2 a9 p346 q346
                   cases e346
                   replace p346 := eq_true p346
                   replace q346 := eq_true q346
                   refine start_ (n := 13) (S := fun w' => w'.cell? ⟨aa, 0, none⟩ = some (.slice b0 ae.length co7) ∧ w'.cell? ⟨aa, 1, none⟩ = some (.slice aq ad.length co9) ∧ w'.cell? ⟨aa, 2, none⟩ = some (.slice (some ag) ac.length ai) ∧ w'.cell? ⟨aa, 3, none⟩ = some (.int .i64 ah) ∧ w'.cell? (ag.add (a9).toNat) = some (.int .i64 (rd ac a9))) (ds := []) #[false, false, false, false, false, false, false, false, false, false, false, false, false] (by kernel_rfl) rfl rfl ⟨(zV a6.out 0).trans rfl, (zV a6.out 1).trans rfl, (zV a6.out 2).trans rfl, (zV a6.out 3).trans rfl, bw⟩ (fun hHeld => ?_); refine with_tabW switchbacklaw17_RelaxLeast.tab19 switchbacklaw17_RelaxLeast.bits19 (fun HT_ HW_ => ?_)
                   generalize wc.drew = w72 at af a4 a3 a2 a6 HB bw hHeld ⊢
                   refine pure_ (i := 1) (N := some 126) (v := ?_) (a' := ?_) #[false, true, false, false, false, false, false, false, false, false, false, false, false] rfl rfl (yI HT_.out (by kernel_rfl)) (fun _ _ _ h => h) (Or.inl ⟨by rfl, ?_⟩) ?_ ?_
                   rotate_left
                   ·intro w'
                    go_simp
                    with_reducible rfl
                   rotate_left
                   ·simp only [Act.put, yE, yF, yG, i64_w, i32_w]
                    rfl
                   refine pure_ (i := 3) (N := some 128) (v := ?_) (a' := ?_) #[false, true, false, true, false, false, false, false, false, false, false, false, false] rfl rfl (yI HT_.out (by kernel_rfl)) (fun _ _ _ h => h) (Or.inl ⟨by rfl, ?_⟩) ?_ ?_
                   rotate_left
                   ·intro w'
                    go_simp
                    with_reducible rfl
                   rotate_left
                   ·simp only [Act.put, yE, yF, yG, i64_w, i32_w]
                    rfl
                   refine take_ (i := 0) (N := some 125) (v := ?_) (a' := ?_) #[true, true, false, true, false, false, false, false, false, false, false, false, false] rfl rfl (take_ofW HT_.out HW_.out (by kernel_rfl)) (fun _ _ _ h => h) (Or.inl ⟨by rfl, ?_⟩) hHeld ?_ ?_
                   rotate_left
                   ·rintro w' ⟨s0, s1, s2, s3, s4⟩
                    go_simp
                    with_reducible rfl
                   rotate_left
                   ·simp only [Act.put, yE, yF, yG, i64_w, i32_w]
                    rfl
                   refine take_ (i := 2) (N := some 127) (v := ?_) (a' := ?_) #[true, true, true, true, false, false, false, false, false, false, false, false, false] rfl rfl (take_ofW HT_.out HW_.out (by kernel_rfl)) (fun _ _ _ h => h) (Or.inl ⟨by rfl, ?_⟩) hHeld ?_ ?_
                   rotate_left
                   ·rintro w' ⟨s0, s1, s2, s3, s4⟩
                    go_simp
                    with_reducible rfl
                   rotate_left
                   ·simp only [Act.put, yE, yF, yG, i64_w, i32_w]
                    rfl
                   refine pure_ (i := 4) (N := some 129) (v := ?_) (a' := ?_) #[true, true, true, true, true, false, false, false, false, false, false, false, false] rfl rfl (yI HT_.out (by kernel_rfl)) (fun _ _ _ h => h) (Or.inl ⟨by rfl, ?_⟩) ?_ ?_
                   rotate_left
                   ·intro w'
                    go_simp
                    with_reducible rfl
                   rotate_left
                   ·simp only [Act.put, yE, yF, yG, i64_w, i32_w]
                    rfl
                   refine take_ (i := 5) (N := some 130) (v := ?_) (a' := ?_) #[true, true, true, true, true, true, false, false, false, false, false, false, false] rfl rfl (take_ofW HT_.out HW_.out (by kernel_rfl)) (fun _ _ _ h => h) (Or.inl ⟨by rfl, ?_⟩) hHeld ?_ ?_
                   rotate_left
                   ·rintro w' ⟨s0, s1, s2, s3, s4⟩
                    go_simp
                    with_reducible rfl
                   rotate_left
                   ·simp only [Act.put, yE, yF, yG, i64_w, i32_w]
                    rfl
                   refine join_ (σ := Nat) 2 #[true, true, true, true, true, true, true, true, true, true, true, false, false] (fun s_ => [(131, .tuple #[.agg #[.int .i64 an, .int .i64 ao, .int .i64 ap, .int .i64 ar], .bool true]), (15, .pointer (some ⟨s_, 0, none⟩)), (124, .tuple #[.agg #[.int .i64 an, .int .i64 ao, .int .i64 ap, .int .i64 ar], .bool true]), (132, .agg #[.int .i64 an, .int .i64 ao, .int .i64 ap, .int .i64 ar]), (133, .bool true)]) (fun s_ w' => (w'.cell? ⟨aa, 0, none⟩ = some (.slice b0 ae.length co7) ∧ w'.cell? ⟨aa, 1, none⟩ = some (.slice aq ad.length co9) ∧ w'.cell? ⟨aa, 2, none⟩ = some (.slice (some ag) ac.length ai) ∧ w'.cell? ⟨aa, 3, none⟩ = some (.int .i64 ah) ∧ w'.cell? (ag.add (a9).toNat) = some (.int .i64 (rd ac a9))) ∧ (Kd.R (Kd.int .u32) 38 w' w.heap.size (fun _ => True) (.slice b0 ae.length co7) ae) ∧ (Kd.R (Kd.int .i64) 3 w' w.heap.size (fun k_ => some k_ ≠ (.slice (some ag) ac.length ai : Value).ownBlock) (.slice aq ad.length co9) ad) ∧ (Kd.R (Kd.int .i64) 3 w' w.heap.size (fun k_ => some k_ ≠ (.slice aq ad.length co9 : Value).ownBlock) (.slice (some ag) ac.length ai) ac) ∧ (Kd.R Kd.bool 4 w' w.heap.size (fun _ => True) (.slice c9 aj.length ca) aj) ∧ (w'.heap[aa]? = some (.cells #[.slice b0 ae.length co7, .slice aq ad.length co9, .slice (some ag) ac.length ai, .int .i64 ah] 27 (0, 0))) ∧ (w'.heap[s_]? = some (.cells #[.int .i64 0, .int .i64 0, .int .i64 0, .int .i64 0] 44 (0, 0))) ∧ (w.heap.size ≤ s_) ∧ (w.heap.size ≤ s_) ∧ (aa ≠ s_) ∧ (s_ ≠ aa) ∧ (Below w.heap.size w w')) ?_ ?_
                   rotate_left
                   ·intro hCont
                    refine two_ (i := 6) (j := 10) (Ni := some 131) (Nj := some 15) #[true, true, true, true, true, true, true, false, false, false, false, false, false] #[true, true, true, true, true, true, false, false, false, false, true, false, false] rfl rfl rfl rfl (two_of HT_.out (by kernel_rfl)) (by decide) (by decide) (fun K hK => ?_) (fun K hK => ?_)
                    ·skip
                     refine goes_ Tryd.func33 (by kernel_rfl) rfl #[.agg #[.slice b0 ae.length co7, .slice aq ad.length co9, .slice (some ag) ac.length ai, .int .i64 ah], .int .i64 (rd ac a9)] (by rfl) rfl rfl (by (try simp only [yJ, List.map_cons, List.map_nil]); first | done | rfl | (simp only [yK, yL]; rfl)) ?_
                     with_reducible refine (switchbacklaw17_code.calls kj57 _ _ ae _ _ ad _ _ ac ah (rd ac a9) an ao ap ar true _ ?side1 ?side2 ?side3 ?side4 ?side5 ?side6 (uZ (hLaid_.out.below (by repeat (first | (with_reducible first | exact HB.out | apply zS | apply zR | apply zT) | refine yA ?_ (Aside0.out (by assumption)) | exact HB.out)))) A68.out).mono ?_
                     (case side1 => repeat (first | exact (zI a4.out).2.2 | (with_reducible refine zJ ?_ _) | (with_reducible refine zK ?_ _) | (with_reducible refine zL ?_)))
                     (case side2 => exact (zI a4.out).2.1)
                     (case side3 => repeat (first | exact (zI a3.out).2.2 | (with_reducible refine zJ ?_ _) | (with_reducible refine zK ?_ _) | (with_reducible refine zL ?_)))
                     (case side4 => exact (zI a3.out).2.1)
                     (case side5 => repeat (first | exact (zI a2.out).2.2 | (with_reducible refine zJ ?_ _) | (with_reducible refine zK ?_ _) | (with_reducible refine zL ?_)))
                     (case side6 => exact (zI a2.out).2.1)
                     rintro e w73 ⟨rfl, hb⟩
                     have HS4_ := (hb.cell (yD _ _ (hHeld.2.2.2.2))).trans (hHeld.2.2.2.2)
                     refine ⟨_, rfl, ?_⟩
                     have n0_ := uZ (zE (uR af.out) hb)
                     have n1_ := uZ (zE (uR a4.out) hb)
                     have n2_ := uZ (zE (uR a3.out) hb)
                     have n3_ := uZ (zE (uR a2.out) hb)
                     have n4_ := uZ (zY (g := aa) (o := .cells #[.slice b0 ae.length co7, .slice aq ad.length co9, .slice (some ag) ac.length ai, .int .i64 ah] 27 (0, 0)) (uK a6.out) hb)
                     have n5_ := uZ (yC (uC HB.out ak.out) hb)
                     clear af
                     clear a4
                     clear a3
                     clear a2
                     clear a6
                     clear HB
                     have af := n0_
                     have a4 := n1_
                     have a3 := n2_
                     have a2 := n3_
                     have a6 := n4_
                     have HB := n5_
                     clear n0_ n1_ n2_ n3_ n4_ n5_
                     (try clear hb)
                     (try clear hb2)
                     (try clear hk)
                     (try clear hi)
                     refine hK.out _ _ ⟨(zV a6.out 0).trans rfl, (zV a6.out 1).trans rfl, (zV a6.out 2).trans rfl, (zV a6.out 3).trans rfl, HS4_⟩ (fun hHeld => ?_)
                     clear hK K
                     refine norm_ (a' := ?_) ?_ ?_
                     rotate_left
                     ·show Act.put _ (some 131) _ = _
                      simp only [Act.put, yE, yF, yG, i64_w, i32_w]
                      rfl
                     refine pure_ (i := 7) (N := some 124) (v := ?_) (a' := ?_) #[true, true, true, true, true, true, true, true, false, false, false, false, false] rfl rfl (yI HT_.out (by kernel_rfl)) (fun _ _ _ h => h) (Or.inl ⟨by rfl, ?_⟩) ?_ ?_
                     rotate_left
                     ·intro w'
                      go_simp
                      with_reducible rfl
                     rotate_left
                     ·simp only [Act.put, yE, yF, yG, i64_w, i32_w]
                      rfl
                     refine pure_ (i := 8) (N := some 132) (v := ?_) (a' := ?_) #[true, true, true, true, true, true, true, true, true, false, false, false, false] rfl rfl (yI HT_.out (by kernel_rfl)) (fun _ _ _ h => h) (Or.inl ⟨by rfl, ?_⟩) ?_ ?_
                     rotate_left
                     ·intro w'
                      go_simp
                      with_reducible rfl
                     rotate_left
                     ·simp only [Act.put, yE, yF, yG, i64_w, i32_w]
                      rfl
                     refine pure_ (i := 9) (N := some 133) (v := ?_) (a' := ?_) #[true, true, true, true, true, true, true, true, true, true, false, false, false] rfl rfl (yI HT_.out (by kernel_rfl)) (fun _ _ _ h => h) (Or.inl ⟨by rfl, ?_⟩) ?_ ?_
                     rotate_left
                     ·intro w'
                      go_simp
                      with_reducible rfl
                     rotate_left
                     ·simp only [Act.put, yE, yF, yG, i64_w, i32_w]
                      rfl
                     refine one_ (i := 10) (N := some 15) #[true, true, true, true, true, true, true, true, true, true, true, false, false] rfl rfl (one_of HT_.out (by kernel_rfl)) (by decide) (fun K hK => ?_)
                     refine box_step ?hg (N := 15) ?hd (cs := #[.int .i64 0, .int .i64 0, .int .i64 0, .int .i64 0]) (t := 44) ?hr ?_; (case hd => rfl); (case hg => rfl); (case hr => first | (go_simp; done) | (go_simp; rfl))
                     intro a5 hg w74 hbox hb
                     have HS4_ := (hb.cell (yD _ _ (hHeld.2.2.2.2))).trans (hHeld.2.2.2.2)
                     have n0_ := uZ (zE (uR af.out) hb)
                     have n1_ := uZ (zE (uR a4.out) hb)
                     have n2_ := uZ (zE (uR a3.out) hb)
                     have n3_ := uZ (zE (uR a2.out) hb)
                     have n4_ := uZ (zY (g := aa) (o := .cells #[.slice b0 ae.length co7, .slice aq ad.length co9, .slice (some ag) ac.length ai, .int .i64 ah] 27 (0, 0)) (uK a6.out) hb)
                     have n5_ := uZ (yC (uC HB.out ak.out) hb)
                     have n6_ := uZ (hbox)
                     have n7_ := uZ ((by rw [hg]; exact (yB (uC HB.out ak.out)) : w.heap.size ≤ a5))
                     have n8_ := uZ ((by rw [hg]; exact (yB (uC HB.out ak.out)) : w.heap.size ≤ a5))
                     have n9_ := uZ ((by rw [hg]; exact Nat.ne_of_lt (zZ (g := aa) (o := .cells #[.slice b0 ae.length co7, .slice aq ad.length co9, .slice (some ag) ac.length ai, .int .i64 ah] 27 (0, 0)) (uK a6.out)) : aa ≠ a5))
                     have n10_ := uZ ((by rw [hg]; exact Nat.ne_of_gt (zZ (g := aa) (o := .cells #[.slice b0 ae.length co7, .slice aq ad.length co9, .slice (some ag) ac.length ai, .int .i64 ah] 27 (0, 0)) (uK a6.out)) : a5 ≠ aa))
                     clear af
                     clear a4
                     clear a3
                     clear a2
                     clear a6
                     clear HB
                     have af := n0_
                     have a4 := n1_
                     have a3 := n2_
                     have a2 := n3_
                     have a6 := n4_
                     have HB := n5_
                     have ab := n6_
                     have bx := n7_
                     have b4 := n8_
                     have a8 := n9_
                     have al := n10_
                     clear n0_ n1_ n2_ n3_ n4_ n5_ n6_ n7_ n8_ n9_ n10_
                     clear hb hbox hg
                     refine hK.out _ _ ⟨(zV a6.out 0).trans rfl, (zV a6.out 1).trans rfl, (zV a6.out 2).trans rfl, (zV a6.out 3).trans rfl, HS4_⟩ (fun hHeld => ?_)
                     clear hK K
                     refine norm_ (a' := ?_) ?_ ?_
                     rotate_left
                     ·show Act.put _ (some 15) _ = _
                      simp only [Act.put, yE, yF, yG, i64_w, i32_w]
                      rfl
                     exact norm_ (by simp only [putAll, Act.put, yE, yF, yG]) (hCont (a5) _ ⟨hHeld, (uR a4.out), (uR a3.out), (uR a2.out), (uR af.out), (uK a6.out), (uK ab.out), bx.out, b4.out, a8.out, al.out, (uD HB.out ak.out b4.out)⟩)
                    skip
                    refine box_step ?hg (N := 15) ?hd (cs := #[.int .i64 0, .int .i64 0, .int .i64 0, .int .i64 0]) (t := 44) ?hr ?_; (case hd => rfl); (case hg => rfl); (case hr => first | (go_simp; done) | (go_simp; rfl))
                    intro a5 hg w73 hbox hb
                    have HS4_ := (hb.cell (yD _ _ (hHeld.2.2.2.2))).trans (hHeld.2.2.2.2)
                    have n0_ := uZ (zE (uR af.out) hb)
                    have n1_ := uZ (zE (uR a4.out) hb)
                    have n2_ := uZ (zE (uR a3.out) hb)
                    have n3_ := uZ (zE (uR a2.out) hb)
                    have n4_ := uZ (zY (g := aa) (o := .cells #[.slice b0 ae.length co7, .slice aq ad.length co9, .slice (some ag) ac.length ai, .int .i64 ah] 27 (0, 0)) (uK a6.out) hb)
                    have n5_ := uZ (yC (uC HB.out ak.out) hb)
                    have n6_ := uZ (hbox)
                    have n7_ := uZ ((by rw [hg]; exact (yB (uC HB.out ak.out)) : w.heap.size ≤ a5))
                    have n8_ := uZ ((by rw [hg]; exact (yB (uC HB.out ak.out)) : w.heap.size ≤ a5))
                    have n9_ := uZ ((by rw [hg]; exact Nat.ne_of_lt (zZ (g := aa) (o := .cells #[.slice b0 ae.length co7, .slice aq ad.length co9, .slice (some ag) ac.length ai, .int .i64 ah] 27 (0, 0)) (uK a6.out)) : aa ≠ a5))
                    have n10_ := uZ ((by rw [hg]; exact Nat.ne_of_gt (zZ (g := aa) (o := .cells #[.slice b0 ae.length co7, .slice aq ad.length co9, .slice (some ag) ac.length ai, .int .i64 ah] 27 (0, 0)) (uK a6.out)) : a5 ≠ aa))
                    clear af
                    clear a4
                    clear a3
                    clear a2
                    clear a6
                    clear HB
                    have af := n0_
                    have a4 := n1_
                    have a3 := n2_
                    have a2 := n3_
                    have a6 := n4_
                    have HB := n5_
                    have ab := n6_
                    have bx := n7_
                    have b4 := n8_
                    have a8 := n9_
                    have al := n10_
                    clear n0_ n1_ n2_ n3_ n4_ n5_ n6_ n7_ n8_ n9_ n10_
                    clear hb hbox hg
                    refine hK.out _ _ ⟨(zV a6.out 0).trans rfl, (zV a6.out 1).trans rfl, (zV a6.out 2).trans rfl, (zV a6.out 3).trans rfl, HS4_⟩ (fun hHeld => ?_)
                    clear hK K
                    refine norm_ (a' := ?_) ?_ ?_
                    rotate_left
                    ·show Act.put _ (some 15) _ = _
                     simp only [Act.put, yE, yF, yG, i64_w, i32_w]
                     rfl
                    refine one_ (i := 6) (N := some 131) #[true, true, true, true, true, true, true, false, false, false, true, false, false] rfl rfl (one_of HT_.out (by kernel_rfl)) (by decide) (fun K hK => ?_)
                    refine goes_ Tryd.func33 (by kernel_rfl) rfl #[.agg #[.slice b0 ae.length co7, .slice aq ad.length co9, .slice (some ag) ac.length ai, .int .i64 ah], .int .i64 (rd ac a9)] (by rfl) rfl rfl (by (try simp only [yJ, List.map_cons, List.map_nil]); first | done | rfl | (simp only [yK, yL]; rfl)) ?_
                    with_reducible refine (switchbacklaw17_code.calls kj57 _ _ ae _ _ ad _ _ ac ah (rd ac a9) an ao ap ar true _ ?side1 ?side2 ?side3 ?side4 ?side5 ?side6 (uZ (hLaid_.out.below (by repeat (first | (with_reducible first | exact HB.out | apply zS | apply zR | apply zT) | refine yA ?_ (Aside0.out (by assumption)) | exact HB.out)))) A68.out).mono ?_
                    (case side1 => repeat (first | exact (zI a4.out).2.2 | (with_reducible refine zJ ?_ _) | (with_reducible refine zK ?_ _) | (with_reducible refine zL ?_)))
                    (case side2 => exact (zI a4.out).2.1)
                    (case side3 => repeat (first | exact (zI a3.out).2.2 | (with_reducible refine zJ ?_ _) | (with_reducible refine zK ?_ _) | (with_reducible refine zL ?_)))
                    (case side4 => exact (zI a3.out).2.1)
                    (case side5 => repeat (first | exact (zI a2.out).2.2 | (with_reducible refine zJ ?_ _) | (with_reducible refine zK ?_ _) | (with_reducible refine zL ?_)))
                    (case side6 => exact (zI a2.out).2.1)
                    rintro e w74 ⟨rfl, hb⟩
                    have HS4_ := (hb.cell (yD _ _ (hHeld.2.2.2.2))).trans (hHeld.2.2.2.2)
                    refine ⟨_, rfl, ?_⟩
                    have n0_ := uZ (zE (uR af.out) hb)
                    have n1_ := uZ (zE (uR a4.out) hb)
                    have n2_ := uZ (zE (uR a3.out) hb)
                    have n3_ := uZ (zE (uR a2.out) hb)
                    have n4_ := uZ (zY (g := aa) (o := .cells #[.slice b0 ae.length co7, .slice aq ad.length co9, .slice (some ag) ac.length ai, .int .i64 ah] 27 (0, 0)) (uK a6.out) hb)
                    have n5_ := uZ (zY (g := a5) (o := .cells #[.int .i64 0, .int .i64 0, .int .i64 0, .int .i64 0] 44 (0, 0)) (uK ab.out) hb)
                    have n6_ := uZ (yC (uD HB.out ak.out b4.out) hb)
                    clear af
                    clear a4
                    clear a3
                    clear a2
                    clear a6
                    clear ab
                    clear HB
                    have af := n0_
                    have a4 := n1_
                    have a3 := n2_
                    have a2 := n3_
                    have a6 := n4_
                    have ab := n5_
                    have HB := n6_
                    clear n0_ n1_ n2_ n3_ n4_ n5_ n6_
                    (try clear hb)
                    (try clear hb2)
                    (try clear hk)
                    (try clear hi)
                    refine hK.out _ _ ⟨(zV a6.out 0).trans rfl, (zV a6.out 1).trans rfl, (zV a6.out 2).trans rfl, (zV a6.out 3).trans rfl, HS4_⟩ (fun hHeld => ?_)
                    clear hK K
                    refine norm_ (a' := ?_) ?_ ?_
                    rotate_left
                    ·show Act.put _ (some 131) _ = _
                     simp only [Act.put, yE, yF, yG, i64_w, i32_w]
                     rfl
                    refine pure_ (i := 7) (N := some 124) (v := ?_) (a' := ?_) #[true, true, true, true, true, true, true, true, false, false, true, false, false] rfl rfl (yI HT_.out (by kernel_rfl)) (fun _ _ _ h => h) (Or.inl ⟨by rfl, ?_⟩) ?_ ?_
                    rotate_left
                    ·intro w'
                     go_simp
                     with_reducible rfl
                    rotate_left
                    ·simp only [Act.put, yE, yF, yG, i64_w, i32_w]
                     rfl
                    refine pure_ (i := 8) (N := some 132) (v := ?_) (a' := ?_) #[true, true, true, true, true, true, true, true, true, false, true, false, false] rfl rfl (yI HT_.out (by kernel_rfl)) (fun _ _ _ h => h) (Or.inl ⟨by rfl, ?_⟩) ?_ ?_
                    rotate_left
                    ·intro w'
                     go_simp
                     with_reducible rfl
                    rotate_left
                    ·simp only [Act.put, yE, yF, yG, i64_w, i32_w]
                     rfl
                    refine pure_ (i := 9) (N := some 133) (v := ?_) (a' := ?_) #[true, true, true, true, true, true, true, true, true, true, true, false, false] rfl rfl (yI HT_.out (by kernel_rfl)) (fun _ _ _ h => h) (Or.inl ⟨by rfl, ?_⟩) ?_ ?_
                    rotate_left
                    ·intro w'
                     go_simp
                     with_reducible rfl
                    rotate_left
                    ·simp only [Act.put, yE, yF, yG, i64_w, i32_w]
                     rfl
                    exact norm_ (by simp only [putAll, Act.put, yE, yF, yG]) (hCont (a5) _ ⟨hHeld, (uR a4.out), (uR a3.out), (uR a2.out), (uR af.out), (uK a6.out), (uK ab.out), bx.out, b4.out, a8.out, al.out, (uD HB.out ak.out b4.out)⟩)
                   rintro a5 w75 ⟨hS_, h0_, h1_, h2_, h3_, h4_, h5_, h6_, h7_, h8_, h9_, h10_⟩
                   have n0_ : Aside0 (Kd.R (Kd.int .u32) 38 w75 w.heap.size (fun _ => True) (.slice b0 ae.length co7) ae) := ⟨h0_⟩
                   have n1_ : Aside0 (Kd.R (Kd.int .i64) 3 w75 w.heap.size (fun k_ => some k_ ≠ (.slice (some ag) ac.length ai : Value).ownBlock) (.slice aq ad.length co9) ad) := ⟨h1_⟩
                   have n2_ : Aside0 (Kd.R (Kd.int .i64) 3 w75 w.heap.size (fun k_ => some k_ ≠ (.slice aq ad.length co9 : Value).ownBlock) (.slice (some ag) ac.length ai) ac) := ⟨h2_⟩
                   have n3_ : Aside0 (Kd.R Kd.bool 4 w75 w.heap.size (fun _ => True) (.slice c9 aj.length ca) aj) := ⟨h3_⟩
                   have n4_ : Aside0 (w75.heap[aa]? = some (.cells #[.slice b0 ae.length co7, .slice aq ad.length co9, .slice (some ag) ac.length ai, .int .i64 ah] 27 (0, 0))) := ⟨h4_⟩
                   have n5_ : Aside0 (w75.heap[a5]? = some (.cells #[.int .i64 0, .int .i64 0, .int .i64 0, .int .i64 0] 44 (0, 0))) := ⟨h5_⟩
                   have n6_ : Aside0 (w.heap.size ≤ a5) := ⟨h6_⟩
                   have n7_ : Aside0 (w.heap.size ≤ a5) := ⟨h7_⟩
                   have n8_ : Aside0 (aa ≠ a5) := ⟨h8_⟩
                   have n9_ : Aside0 (a5 ≠ aa) := ⟨h9_⟩
                   have n10_ : Aside0 (Below w.heap.size w w75) := ⟨h10_⟩
                   clear af
                   clear a4
                   clear a3
                   clear a2
                   clear a6
                   clear HB
                   clear h0_ h1_ h2_ h3_ h4_ h5_ h6_ h7_ h8_ h9_ h10_
                   have a4 := n0_
                   have a3 := n1_
                   have a2 := n2_
                   have af := n3_
                   have a6 := n4_
                   have ab := n5_
                   have bx := n6_
                   have b4 := n7_
                   have a8 := n8_
                   have al := n9_
                   have HB := n10_
                   clear n0_ n1_ n2_ n3_ n4_ n5_ n6_ n7_ n8_ n9_ n10_
                   have hHeld : w75.cell? ⟨aa, 0, none⟩ = some (.slice b0 ae.length co7) ∧ w75.cell? ⟨aa, 1, none⟩ = some (.slice aq ad.length co9) ∧ w75.cell? ⟨aa, 2, none⟩ = some (.slice (some ag) ac.length ai) ∧ w75.cell? ⟨aa, 3, none⟩ = some (.int .i64 ah) ∧ w75.cell? (ag.add (a9).toNat) = some (.int .i64 (rd ac a9)) := hS_
                   refine norm_ (a' := ?_) ?_ ?_
                   rotate_left
                   ·simp only [putAll, Act.put, yE, yF, yG]
                    rfl
                   refine one_ (i := 11) (N := none) #[true, true, true, true, true, true, true, true, true, true, true, true, false] rfl rfl (one_of HT_.out (by kernel_rfl)) (by decide) (fun K hK => ?_)
                   have hs76 : w75.cell? ⟨a5, 0, none⟩ = some (.int .i64 0) := (zV ab.out 0).trans rfl
                   have hfs76 := zU ab.out 0
                   have hns76_0 := a8.out
                   have hms76_0 := al.out
                   have hs77 : w75.cell? ⟨a5, 1, none⟩ = some (.int .i64 0) := (zV ab.out 1).trans rfl
                   have hfs77 := zU ab.out 1
                   have hns77_0 := a8.out
                   have hms77_0 := al.out
                   have hs78 : w75.cell? ⟨a5, 2, none⟩ = some (.int .i64 0) := (zV ab.out 2).trans rfl
                   have hfs78 := zU ab.out 2
                   have hns78_0 := a8.out
                   have hms78_0 := al.out
                   have hs79 : w75.cell? ⟨a5, 3, none⟩ = some (.int .i64 0) := (zV ab.out 3).trans rfl
                   have hfs79 := zU ab.out 3
                   have hns79_0 := a8.out
                   have hms79_0 := al.out
                   refine skip_ (w1 := ?_) (by rfl) rfl ?_ ?_
                   rotate_left
                   ·go_simp
                    rfl
                   refine hK.out _ _ ⟨((yH (p := ⟨a5, _, none⟩) a8.out _).trans (((yH (p := ⟨a5, _, none⟩) a8.out _).trans (((yH (p := ⟨a5, _, none⟩) a8.out _).trans (((yH (p := ⟨a5, _, none⟩) a8.out _).trans (hHeld.1)))))))), ((yH (p := ⟨a5, _, none⟩) a8.out _).trans (((yH (p := ⟨a5, _, none⟩) a8.out _).trans (((yH (p := ⟨a5, _, none⟩) a8.out _).trans (((yH (p := ⟨a5, _, none⟩) a8.out _).trans (hHeld.2.1)))))))), ((yH (p := ⟨a5, _, none⟩) a8.out _).trans (((yH (p := ⟨a5, _, none⟩) a8.out _).trans (((yH (p := ⟨a5, _, none⟩) a8.out _).trans (((yH (p := ⟨a5, _, none⟩) a8.out _).trans (hHeld.2.2.1)))))))), ((yH (p := ⟨a5, _, none⟩) a8.out _).trans (((yH (p := ⟨a5, _, none⟩) a8.out _).trans (((yH (p := ⟨a5, _, none⟩) a8.out _).trans (((yH (p := ⟨a5, _, none⟩) a8.out _).trans (hHeld.2.2.2.1)))))))), ((yH (p := ⟨a5, _, none⟩) (by first | exact zM (zN a2.out ab.out (by decide)) | (rw [add_block]; exact zM (zN a2.out ab.out (by decide))) | (show (Addr.add _ _).block ≠ _; rw [add_block]; exact zM (zN a2.out ab.out (by decide))) | (dsimp only; exact zM (zN a2.out ab.out (by decide)))) _).trans (((yH (p := ⟨a5, _, none⟩) (by first | exact zM (zN a2.out ab.out (by decide)) | (rw [add_block]; exact zM (zN a2.out ab.out (by decide))) | (show (Addr.add _ _).block ≠ _; rw [add_block]; exact zM (zN a2.out ab.out (by decide))) | (dsimp only; exact zM (zN a2.out ab.out (by decide)))) _).trans (((yH (p := ⟨a5, _, none⟩) (by first | exact zM (zN a2.out ab.out (by decide)) | (rw [add_block]; exact zM (zN a2.out ab.out (by decide))) | (show (Addr.add _ _).block ≠ _; rw [add_block]; exact zM (zN a2.out ab.out (by decide))) | (dsimp only; exact zM (zN a2.out ab.out (by decide)))) _).trans (((yH (p := ⟨a5, _, none⟩) (by first | exact zM (zN a2.out ab.out (by decide)) | (rw [add_block]; exact zM (zN a2.out ab.out (by decide))) | (show (Addr.add _ _).block ≠ _; rw [add_block]; exact zM (zN a2.out ab.out (by decide))) | (dsimp only; exact zM (zN a2.out ab.out (by decide)))) _).trans (hHeld.2.2.2.2))))))))⟩ (fun hHeld => ?_)
                   clear hK K
                   refine pure_ (i := 12) (N := some 16) (v := ?_) (a' := ?_) #[true, true, true, true, true, true, true, true, true, true, true, true, true] rfl rfl (yI HT_.out (by kernel_rfl)) (fun _ _ _ h => h) (Or.inl ⟨by rfl, ?_⟩) ?_ ?_
                   rotate_left
                   ·intro w'
                    go_simp
                    with_reducible rfl
                   rotate_left
                   ·simp only [Act.put, yE, yF, yG, i64_w, i32_w]
                    rfl
                   refine done_ (done_of HT_.out (by kernel_rfl)) ?_
                   try go_wp2
                   have n0_ : Aside0 (Kd.R Kd.bool 4 ((((w75.setCell ⟨a5, 0, none⟩ (.int .i64 an)).setCell ⟨a5, 1, none⟩ (.int .i64 ao)).setCell ⟨a5, 2, none⟩ (.int .i64 ap)).setCell ⟨a5, 3, none⟩ (.int .i64 ar)) w.heap.size (fun _ => True) (.slice c9 aj.length ca) aj) := ⟨by (with_reducible repeat (first | apply zA | apply zB | apply zC)); exact zF (zD (p := ⟨a5, 3, none⟩) (zD (p := ⟨a5, 2, none⟩) (zD (p := ⟨a5, 1, none⟩) (zD (p := ⟨a5, 0, none⟩) (zG af.out ab.out (by decide)) (fun _ hk => hk.2) (.int .i64 an)) (fun _ hk => hk.2) (.int .i64 ao)) (fun _ hk => hk.2) (.int .i64 ap)) (fun _ hk => hk.2) (.int .i64 ar)) (fun _ hk => trivial)⟩
                   have n1_ : Aside0 (Kd.R (Kd.int .u32) 38 ((((w75.setCell ⟨a5, 0, none⟩ (.int .i64 an)).setCell ⟨a5, 1, none⟩ (.int .i64 ao)).setCell ⟨a5, 2, none⟩ (.int .i64 ap)).setCell ⟨a5, 3, none⟩ (.int .i64 ar)) w.heap.size (fun _ => True) (.slice b0 ae.length co7) ae) := ⟨by (with_reducible repeat (first | apply zA | apply zB | apply zC)); exact zF (zD (p := ⟨a5, 3, none⟩) (zD (p := ⟨a5, 2, none⟩) (zD (p := ⟨a5, 1, none⟩) (zD (p := ⟨a5, 0, none⟩) (zG a4.out ab.out (by decide)) (fun _ hk => hk.2) (.int .i64 an)) (fun _ hk => hk.2) (.int .i64 ao)) (fun _ hk => hk.2) (.int .i64 ap)) (fun _ hk => hk.2) (.int .i64 ar)) (fun _ hk => trivial)⟩
                   have n2_ : Aside0 (Kd.R (Kd.int .i64) 3 ((((w75.setCell ⟨a5, 0, none⟩ (.int .i64 an)).setCell ⟨a5, 1, none⟩ (.int .i64 ao)).setCell ⟨a5, 2, none⟩ (.int .i64 ap)).setCell ⟨a5, 3, none⟩ (.int .i64 ar)) w.heap.size (fun k_ => some k_ ≠ (.slice (some ag) ac.length ai : Value).ownBlock) (.slice aq ad.length co9) ad) := ⟨by (with_reducible repeat (first | apply zA | apply zB | apply zC)); exact zF (zD (p := ⟨a5, 3, none⟩) (zD (p := ⟨a5, 2, none⟩) (zD (p := ⟨a5, 1, none⟩) (zD (p := ⟨a5, 0, none⟩) (zG a3.out ab.out (by decide)) (fun _ hk => hk.2) (.int .i64 an)) (fun _ hk => hk.2) (.int .i64 ao)) (fun _ hk => hk.2) (.int .i64 ap)) (fun _ hk => hk.2) (.int .i64 ar)) (fun _ hk => hk.1)⟩
                   have n3_ : Aside0 (Kd.R (Kd.int .i64) 3 ((((w75.setCell ⟨a5, 0, none⟩ (.int .i64 an)).setCell ⟨a5, 1, none⟩ (.int .i64 ao)).setCell ⟨a5, 2, none⟩ (.int .i64 ap)).setCell ⟨a5, 3, none⟩ (.int .i64 ar)) w.heap.size (fun k_ => some k_ ≠ (.slice aq ad.length co9 : Value).ownBlock) (.slice (some ag) ac.length ai) ac) := ⟨by (with_reducible repeat (first | apply zA | apply zB | apply zC)); exact zF (zD (p := ⟨a5, 3, none⟩) (zD (p := ⟨a5, 2, none⟩) (zD (p := ⟨a5, 1, none⟩) (zD (p := ⟨a5, 0, none⟩) (zG a2.out ab.out (by decide)) (fun _ hk => hk.2) (.int .i64 an)) (fun _ hk => hk.2) (.int .i64 ao)) (fun _ hk => hk.2) (.int .i64 ap)) (fun _ hk => hk.2) (.int .i64 ar)) (fun _ hk => hk.1)⟩
                   have n4_ : Aside0 (((((w75.setCell ⟨a5, 0, none⟩ (.int .i64 an)).setCell ⟨a5, 1, none⟩ (.int .i64 ao)).setCell ⟨a5, 2, none⟩ (.int .i64 ap)).setCell ⟨a5, 3, none⟩ (.int .i64 ar)).heap[aa]? = some (.cells #[.slice b0 ae.length co7, .slice aq ad.length co9, .slice (some ag) ac.length ai, .int .i64 ah] 27 (0, 0))) := ⟨by (with_reducible repeat (first | apply zO | apply zP | apply zQ)); refine zX ?_ a8.out _; (with_reducible repeat (first | apply zO | apply zP | apply zQ)); refine zX ?_ a8.out _; (with_reducible repeat (first | apply zO | apply zP | apply zQ)); refine zX ?_ a8.out _; (with_reducible repeat (first | apply zO | apply zP | apply zQ)); refine zX ?_ a8.out _; (with_reducible repeat (first | apply zO | apply zP | apply zQ)); exact a6.out⟩
                   have n5_ : Aside0 (((((w75.setCell ⟨a5, 0, none⟩ (.int .i64 an)).setCell ⟨a5, 1, none⟩ (.int .i64 ao)).setCell ⟨a5, 2, none⟩ (.int .i64 ap)).setCell ⟨a5, 3, none⟩ (.int .i64 ar)).heap[a5]? = some (.cells #[.int .i64 an, .int .i64 ao, .int .i64 ap, .int .i64 ar] 44 (0, 0))) := ⟨by (with_reducible repeat (first | apply zO | apply zP | apply zQ)); refine zW (cs := #[.int .i64 an, .int .i64 ao, .int .i64 ap, .int .i64 0]) ?_ 3 _ rfl; (with_reducible repeat (first | apply zO | apply zP | apply zQ)); refine zW (cs := #[.int .i64 an, .int .i64 ao, .int .i64 0, .int .i64 0]) ?_ 2 _ rfl; (with_reducible repeat (first | apply zO | apply zP | apply zQ)); refine zW (cs := #[.int .i64 an, .int .i64 0, .int .i64 0, .int .i64 0]) ?_ 1 _ rfl; (with_reducible repeat (first | apply zO | apply zP | apply zQ)); refine zW (cs := #[.int .i64 0, .int .i64 0, .int .i64 0, .int .i64 0]) ?_ 0 _ rfl; (with_reducible repeat (first | apply zO | apply zP | apply zQ)); exact ab.out⟩
                   have n6_ : Aside0 (Below w.heap.size w ((((w75.setCell ⟨a5, 0, none⟩ (.int .i64 an)).setCell ⟨a5, 1, none⟩ (.int .i64 ao)).setCell ⟨a5, 2, none⟩ (.int .i64 ap)).setCell ⟨a5, 3, none⟩ (.int .i64 ar))) := ⟨uD HB.out ak.out b4.out⟩
                   (try clear af)
                   (try clear a4)
                   (try clear a3)
                   (try clear a2)
                   (try clear a6)
                   (try clear ab)
                   (try clear HB)
                   generalize ((((w75.setCell ⟨a5, 0, none⟩ (.int .i64 an)).setCell ⟨a5, 1, none⟩ (.int .i64 ao)).setCell ⟨a5, 2, none⟩ (.int .i64 ap)).setCell ⟨a5, 3, none⟩ (.int .i64 ar)) = w80 at n0_ n1_ n2_ n3_ n4_ n5_ n6_ ⊢
                   have af := n0_
                   have a4 := n1_
                   have a3 := n2_
                   have a2 := n3_
                   have a6 := n4_
                   have ab := n5_
                   have HB := n6_
                   clear n0_ n1_ n2_ n3_ n4_ n5_ n6_
                   have n0_ := uZ (zC af.out)
                   have n1_ := uZ (zC a4.out)
                   have n2_ := uZ (zC a3.out)
                   have n3_ := uZ (zC a2.out)
                   have n4_ := uZ (zP a6.out)
                   have n5_ := uZ (zP ab.out)
                   have n6_ := uZ (zT HB.out)
                   clear af
                   clear a4
                   clear a3
                   clear a2
                   clear a6
                   clear ab
                   clear HB
                   have af := n0_
                   have a4 := n1_
                   have a3 := n2_
                   have a2 := n3_
                   have a6 := n4_
                   have ab := n5_
                   have HB := n6_
                   clear n0_ n1_ n2_ n3_ n4_ n5_ n6_
                   have p353 : 0 ≤ (a9 : Int) := uA
                   have q353 : a9 < (l0.length : Int) := uA
                   obtain ⟨b5, A353_6, c353_6, e353, b8, b9, ba, bb, bc, bd, be, hl353_6, hi353_6⟩ := at_T40 HR0.out a9 p353 q353
                   have hw353_6 := be
                   have hw353_5 := bd
                   have hw353_4 := bc
                   have hw353_3 := bb
                   have hw353_2 := ba
                   have hw353_1 := b9
                   have hw353_0 := b8
                   cases e353
                   replace b8 := (HB.out.cell (yD w _ b8)).trans b8
                   replace b9 := (HB.out.cell (yD w _ b9)).trans b9
                   replace ba := (HB.out.cell (yD w _ ba)).trans ba
                   replace bb := (HB.out.cell (yD w _ bb)).trans bb
                   replace bc := (HB.out.cell (yD w _ bc)).trans bc
                   replace bd := (HB.out.cell (yD w _ bd)).trans bd
                   replace be := (HB.out.cell (yD w _ be)).trans be
                   have HR353_6 := uZ hi353_6
                   have HC353_6 := uZ hl353_6
                   clear hi353_6 hl353_6
                   replace p353 := eq_true p353
                   replace q353 := eq_true q353
                   refine start_ (n := 12) (S := fun w' => w'.cell? ⟨a5, 0, none⟩ = some (.int .i64 an) ∧ w'.cell? ⟨a5, 1, none⟩ = some (.int .i64 ao) ∧ w'.cell? ⟨a5, 2, none⟩ = some (.int .i64 ap) ∧ w'.cell? ⟨a5, 3, none⟩ = some (.int .i64 ar) ∧ w'.cell? (b5.add ((a9).toNat * 7)) = some (.int .i64 ((rd_T40 l0 a9).f0)) ∧ w'.cell? ⟨(b5.add ((a9).toNat * 7)).block, (b5.add ((a9).toNat * 7)).off + 1, none⟩ = some (.int .i64 ((rd_T40 l0 a9).f1)) ∧ w'.cell? ⟨(b5.add ((a9).toNat * 7)).block, (b5.add ((a9).toNat * 7)).off + 2, none⟩ = some (.int .i64 ((rd_T40 l0 a9).f2)) ∧ w'.cell? ⟨(b5.add ((a9).toNat * 7)).block, (b5.add ((a9).toNat * 7)).off + 3, none⟩ = some (.int .i64 ((rd_T40 l0 a9).f3)) ∧ w'.cell? ⟨(b5.add ((a9).toNat * 7)).block, (b5.add ((a9).toNat * 7)).off + 4, none⟩ = some (.int .u32 ((rd_T40 l0 a9).f4)) ∧ w'.cell? ⟨(b5.add ((a9).toNat * 7)).block, (b5.add ((a9).toNat * 7)).off + 5, none⟩ = some (.int .i64 ((rd_T40 l0 a9).f5)) ∧ w'.cell? ⟨(b5.add ((a9).toNat * 7)).block, (b5.add ((a9).toNat * 7)).off + 6, none⟩ = some (.slice A353_6 ((rd_T40 l0 a9).f6).length c353_6)) (ds := []) #[false, false, false, false, false, false, false, false, false, false, false, false] (by kernel_rfl) rfl rfl ⟨(zV ab.out 0).trans rfl, (zV ab.out 1).trans rfl, (zV ab.out 2).trans rfl, (zV ab.out 3).trans rfl, ((HB.out.cell (yD w _ hw353_0)).trans hw353_0), ((HB.out.cell (yD w _ hw353_1)).trans hw353_1), ((HB.out.cell (yD w _ hw353_2)).trans hw353_2), ((HB.out.cell (yD w _ hw353_3)).trans hw353_3), ((HB.out.cell (yD w _ hw353_4)).trans hw353_4), ((HB.out.cell (yD w _ hw353_5)).trans hw353_5), ((HB.out.cell (yD w _ hw353_6)).trans hw353_6)⟩ (fun hHeld => ?_); refine with_tabW switchbacklaw17_RelaxLeast.tab20 switchbacklaw17_RelaxLeast.bits20 (fun HT_ HW_ => ?_)
                   generalize w80.drew = w81 at af a4 a3 a2 a6 ab HB HR353_6 b8 b9 ba bb bc bd be hHeld ⊢
                   refine pure_ (i := 0) (N := some 134) (v := ?_) (a' := ?_) #[true, false, false, false, false, false, false, false, false, false, false, false] rfl rfl (yI HT_.out (by kernel_rfl)) (fun _ _ _ h => h) (Or.inl ⟨by rfl, ?_⟩) ?_ ?_
                   rotate_left
                   ·intro w'
                    go_simp
                    with_reducible rfl
                   rotate_left
                   ·simp only [Act.put, yE, yF, yG, i64_w, i32_w]
                    rfl
                   refine pure_ (i := 1) (N := some 135) (v := ?_) (a' := ?_) #[true, true, false, false, false, false, false, false, false, false, false, false] rfl rfl (yI HT_.out (by kernel_rfl)) (fun _ _ _ h => h) (Or.inl ⟨by rfl, ?_⟩) ?_ ?_
                   rotate_left
                   ·intro w'
                    go_simp
                    with_reducible rfl
                   rotate_left
                   ·simp only [Act.put, yE, yF, yG, i64_w, i32_w]
                    rfl
                   refine pure_ (i := 2) (N := some 136) (v := ?_) (a' := ?_) #[true, true, true, false, false, false, false, false, false, false, false, false] rfl rfl (yI HT_.out (by kernel_rfl)) (fun _ _ _ h => h) (Or.inl ⟨by rfl, ?_⟩) ?_ ?_
                   rotate_left
                   ·intro w'
                    go_simp
                    with_reducible rfl
                   rotate_left
                   ·simp only [Act.put, yE, yF, yG, i64_w, i32_w]
                    rfl
                   refine pure_ (i := 3) (N := some 137) (v := ?_) (a' := ?_) #[true, true, true, true, false, false, false, false, false, false, false, false] rfl rfl (yI HT_.out (by kernel_rfl)) (fun _ _ _ h => h) (Or.inl ⟨by rfl, ?_⟩) ?_ ?_
                   rotate_left
                   ·intro w'
                    go_simp
                    with_reducible rfl
                   rotate_left
                   ·simp only [Act.put, yE, yF, yG, i64_w, i32_w]
                    rfl
                   refine pure_ (i := 5) (N := some 139) (v := ?_) (a' := ?_) #[true, true, true, true, false, true, false, false, false, false, false, false] rfl rfl (yI HT_.out (by kernel_rfl)) (fun _ _ _ h => h) (Or.inl ⟨by rfl, ?_⟩) ?_ ?_
                   rotate_left
                   ·intro w'
                    go_simp
                    with_reducible rfl
                   rotate_left
                   ·simp only [Act.put, yE, yF, yG, i64_w, i32_w]
                    rfl
                   refine pure_ (i := 6) (N := some 140) (v := ?_) (a' := ?_) #[true, true, true, true, false, true, true, false, false, false, false, false] rfl rfl (yI HT_.out (by kernel_rfl)) (fun _ _ _ h => h) (Or.inl ⟨by rfl, ?_⟩) ?_ ?_
                   rotate_left
                   ·intro w'
                    go_simp
                    with_reducible rfl
                   rotate_left
                   ·simp only [Act.put, yE, yF, yG, i64_w, i32_w]
                    rfl
                   refine pure_ (i := 7) (N := some 141) (v := ?_) (a' := ?_) #[true, true, true, true, false, true, true, true, false, false, false, false] rfl rfl (yI HT_.out (by kernel_rfl)) (fun _ _ _ h => h) (Or.inl ⟨by rfl, ?_⟩) ?_ ?_
                   rotate_left
                   ·intro w'
                    go_simp
                    with_reducible rfl
                   rotate_left
                   ·simp only [Act.put, yE, yF, yG, i64_w, i32_w]
                    rfl
                   refine pure_ (i := 8) (N := some 142) (v := ?_) (a' := ?_) #[true, true, true, true, false, true, true, true, true, false, false, false] rfl rfl (yI HT_.out (by kernel_rfl)) (fun _ _ _ h => h) (Or.inl ⟨by rfl, ?_⟩) ?_ ?_
                   rotate_left
                   ·intro w'
                    go_simp
                    with_reducible rfl
                   rotate_left
                   ·simp only [Act.put, yE, yF, yG, i64_w, i32_w]
                    rfl
                   refine take_ (i := 4) (N := some 138) (v := ?_) (a' := ?_) #[true, true, true, true, true, true, true, true, true, false, false, false] rfl rfl (take_ofW HT_.out HW_.out (by kernel_rfl)) (fun _ _ _ h => h) (Or.inl ⟨by rfl, ?_⟩) hHeld ?_ ?_
                   rotate_left
                   ·rintro w' ⟨s0, s1, s2, s3, s4, s5, s6, s7, s8, s9, s10⟩
                    go_simp
                    with_reducible rfl
                   rotate_left
                   ·simp only [Act.put, yE, yF, yG, i64_w, i32_w]
                    rfl
                   refine take_ (i := 9) (N := some 143) (v := ?_) (a' := ?_) #[true, true, true, true, true, true, true, true, true, true, false, false] rfl rfl (take_ofW HT_.out HW_.out (by kernel_rfl)) (fun _ _ _ h => h) (Or.inl ⟨by rfl, ?_⟩) hHeld ?_ ?_
                   rotate_left
                   ·rintro w' ⟨s0, s1, s2, s3, s4, s5, s6, s7, s8, s9, s10⟩
                    go_simp
                    with_reducible rfl
                   rotate_left
                   ·simp only [Act.put, yE, yF, yG, i64_w, i32_w]
                    rfl
                   refine pure_ (i := 10) (N := some 144) (v := ?_) (a' := ?_) #[true, true, true, true, true, true, true, true, true, true, true, false] rfl rfl (yI HT_.out (by kernel_rfl)) (fun _ _ _ h => h) (Or.inl ⟨by rfl, ?_⟩) ?_ ?_
                   rotate_left
                   ·intro w'
                    go_simp
                    with_reducible rfl
                   rotate_left
                   ·simp only [Act.put, yE, yF, yG, i64_w, i32_w]
                    rfl
                   refine pure_ (i := 11) (N := some 145) (v := ?_) (a' := ?_) #[true, true, true, true, true, true, true, true, true, true, true, true] rfl rfl (yI HT_.out (by kernel_rfl)) (fun _ _ _ h => h) (Or.inl ⟨by rfl, ?_⟩) ?_ ?_
                   rotate_left
                   ·intro w'
                    go_simp
                    with_reducible rfl
                   rotate_left
                   ·simp only [Act.put, yE, yF, yG, i64_w, i32_w]
                    rfl
                   refine done_ (done_of HT_.out (by kernel_rfl)) ?_
                   try go_wp2
                   go_roundg kj57
                   case measure => have := HJ3.out; have := HJ20.out; have := HK3.out; have := HK4.out; have := HJ57.out; omega
                   case rel => exact ⟨(wrap64 (a9 + 1)), (by first | rfl | (simp; done) | (simp [*]; done)), H', ⟨by have := HJ3.out; have := HJ20.out; have := HK3.out; have := HK4.out; have := HJ57.out; omega⟩, ⟨uR af.out⟩, ⟨uR a4.out⟩, ⟨uR a3.out⟩, ⟨uR a2.out⟩, ⟨uK a6.out⟩, ⟨uD HB.out ak.out b4.out⟩⟩
                  rw [if_neg c71] at H
                  have c71b0 : (an == ((rd_T40 l0 a9).f0)) = false := beq_eq_false_iff_ne.mpr c71
                  have c71b1 : (an != ((rd_T40 l0 a9).f0)) = true := bne_iff_ne.mpr c71
                  obtain rfl := Option.some.inj H
                  try go_wp2
                  have n0_ := uZ (zC af.out)
                  have n1_ := uZ (zC a4.out)
                  have n2_ := uZ (zC a3.out)
                  have n3_ := uZ (zC a2.out)
                  have n4_ := uZ (zP a6.out)
                  have n5_ := uZ (zT HB.out)
                  clear af
                  clear a4
                  clear a3
                  clear a2
                  clear a6
                  clear HB
                  have af := n0_
                  have a4 := n1_
                  have a3 := n2_
                  have a2 := n3_
                  have a6 := n4_
                  have HB := n5_
                  clear n0_ n1_ n2_ n3_ n4_ n5_
                  have p346 : 0 ≤ (a9 : Int) := uA
                  have q346 : a9 < (ac.length : Int) := uA
                  obtain ⟨ag, e346, bw⟩ := Kd.at_int (zI a2.out).2.2 a9 p346 q346
                  cases e346
                  replace p346 := eq_true p346
                  replace q346 := eq_true q346
                  refine start_ (n := 13) (S := fun w' => w'.cell? ⟨aa, 0, none⟩ = some (.slice b0 ae.length co7) ∧ w'.cell? ⟨aa, 1, none⟩ = some (.slice aq ad.length co9) ∧ w'.cell? ⟨aa, 2, none⟩ = some (.slice (some ag) ac.length ai) ∧ w'.cell? ⟨aa, 3, none⟩ = some (.int .i64 ah) ∧ w'.cell? (ag.add (a9).toNat) = some (.int .i64 (rd ac a9))) (ds := []) #[false, false, false, false, false, false, false, false, false, false, false, false, false] (by kernel_rfl) rfl rfl ⟨(zV a6.out 0).trans rfl, (zV a6.out 1).trans rfl, (zV a6.out 2).trans rfl, (zV a6.out 3).trans rfl, bw⟩ (fun hHeld => ?_); refine with_tabW switchbacklaw17_RelaxLeast.tab19 switchbacklaw17_RelaxLeast.bits19 (fun HT_ HW_ => ?_)
                  generalize wc.drew = w82 at af a4 a3 a2 a6 HB bw hHeld ⊢
                  refine pure_ (i := 1) (N := some 126) (v := ?_) (a' := ?_) #[false, true, false, false, false, false, false, false, false, false, false, false, false] rfl rfl (yI HT_.out (by kernel_rfl)) (fun _ _ _ h => h) (Or.inl ⟨by rfl, ?_⟩) ?_ ?_
                  rotate_left
                  ·intro w'
                   go_simp
                   with_reducible rfl
                  rotate_left
                  ·simp only [Act.put, yE, yF, yG, i64_w, i32_w]
                   rfl
                  refine pure_ (i := 3) (N := some 128) (v := ?_) (a' := ?_) #[false, true, false, true, false, false, false, false, false, false, false, false, false] rfl rfl (yI HT_.out (by kernel_rfl)) (fun _ _ _ h => h) (Or.inl ⟨by rfl, ?_⟩) ?_ ?_
                  rotate_left
                  ·intro w'
                   go_simp
                   with_reducible rfl
                  rotate_left
                  ·simp only [Act.put, yE, yF, yG, i64_w, i32_w]
                   rfl
                  refine take_ (i := 0) (N := some 125) (v := ?_) (a' := ?_) #[true, true, false, true, false, false, false, false, false, false, false, false, false] rfl rfl (take_ofW HT_.out HW_.out (by kernel_rfl)) (fun _ _ _ h => h) (Or.inl ⟨by rfl, ?_⟩) hHeld ?_ ?_
                  rotate_left
                  ·rintro w' ⟨s0, s1, s2, s3, s4⟩
                   go_simp
                   with_reducible rfl
                  rotate_left
                  ·simp only [Act.put, yE, yF, yG, i64_w, i32_w]
                   rfl
                  refine take_ (i := 2) (N := some 127) (v := ?_) (a' := ?_) #[true, true, true, true, false, false, false, false, false, false, false, false, false] rfl rfl (take_ofW HT_.out HW_.out (by kernel_rfl)) (fun _ _ _ h => h) (Or.inl ⟨by rfl, ?_⟩) hHeld ?_ ?_
                  rotate_left
                  ·rintro w' ⟨s0, s1, s2, s3, s4⟩
                   go_simp
                   with_reducible rfl
                  rotate_left
                  ·simp only [Act.put, yE, yF, yG, i64_w, i32_w]
                   rfl
                  refine pure_ (i := 4) (N := some 129) (v := ?_) (a' := ?_) #[true, true, true, true, true, false, false, false, false, false, false, false, false] rfl rfl (yI HT_.out (by kernel_rfl)) (fun _ _ _ h => h) (Or.inl ⟨by rfl, ?_⟩) ?_ ?_
                  rotate_left
                  ·intro w'
                   go_simp
                   with_reducible rfl
                  rotate_left
                  ·simp only [Act.put, yE, yF, yG, i64_w, i32_w]
                   rfl
                  refine take_ (i := 5) (N := some 130) (v := ?_) (a' := ?_) #[true, true, true, true, true, true, false, false, false, false, false, false, false] rfl rfl (take_ofW HT_.out HW_.out (by kernel_rfl)) (fun _ _ _ h => h) (Or.inl ⟨by rfl, ?_⟩) hHeld ?_ ?_
                  rotate_left
                  ·rintro w' ⟨s0, s1, s2, s3, s4⟩
                   go_simp
                   with_reducible rfl
                  rotate_left
                  ·simp only [Act.put, yE, yF, yG, i64_w, i32_w]
                   rfl
                  refine join_ (σ := Nat) 2 #[true, true, true, true, true, true, true, true, true, true, true, false, false] (fun s_ => [(131, .tuple #[.agg #[.int .i64 an, .int .i64 ao, .int .i64 ap, .int .i64 ar], .bool true]), (15, .pointer (some ⟨s_, 0, none⟩)), (124, .tuple #[.agg #[.int .i64 an, .int .i64 ao, .int .i64 ap, .int .i64 ar], .bool true]), (132, .agg #[.int .i64 an, .int .i64 ao, .int .i64 ap, .int .i64 ar]), (133, .bool true)]) (fun s_ w' => (w'.cell? ⟨aa, 0, none⟩ = some (.slice b0 ae.length co7) ∧ w'.cell? ⟨aa, 1, none⟩ = some (.slice aq ad.length co9) ∧ w'.cell? ⟨aa, 2, none⟩ = some (.slice (some ag) ac.length ai) ∧ w'.cell? ⟨aa, 3, none⟩ = some (.int .i64 ah) ∧ w'.cell? (ag.add (a9).toNat) = some (.int .i64 (rd ac a9))) ∧ (Kd.R (Kd.int .u32) 38 w' w.heap.size (fun _ => True) (.slice b0 ae.length co7) ae) ∧ (Kd.R (Kd.int .i64) 3 w' w.heap.size (fun k_ => some k_ ≠ (.slice (some ag) ac.length ai : Value).ownBlock) (.slice aq ad.length co9) ad) ∧ (Kd.R (Kd.int .i64) 3 w' w.heap.size (fun k_ => some k_ ≠ (.slice aq ad.length co9 : Value).ownBlock) (.slice (some ag) ac.length ai) ac) ∧ (Kd.R Kd.bool 4 w' w.heap.size (fun _ => True) (.slice c9 aj.length ca) aj) ∧ (w'.heap[aa]? = some (.cells #[.slice b0 ae.length co7, .slice aq ad.length co9, .slice (some ag) ac.length ai, .int .i64 ah] 27 (0, 0))) ∧ (w'.heap[s_]? = some (.cells #[.int .i64 0, .int .i64 0, .int .i64 0, .int .i64 0] 44 (0, 0))) ∧ (w.heap.size ≤ s_) ∧ (w.heap.size ≤ s_) ∧ (aa ≠ s_) ∧ (s_ ≠ aa) ∧ (Below w.heap.size w w')) ?_ ?_
                  rotate_left
                  ·intro hCont
                   refine two_ (i := 6) (j := 10) (Ni := some 131) (Nj := some 15) #[true, true, true, true, true, true, true, false, false, false, false, false, false] #[true, true, true, true, true, true, false, false, false, false, true, false, false] rfl rfl rfl rfl (two_of HT_.out (by kernel_rfl)) (by decide) (by decide) (fun K hK => ?_) (fun K hK => ?_)
                   ·skip
                    refine goes_ Tryd.func33 (by kernel_rfl) rfl #[.agg #[.slice b0 ae.length co7, .slice aq ad.length co9, .slice (some ag) ac.length ai, .int .i64 ah], .int .i64 (rd ac a9)] (by rfl) rfl rfl (by (try simp only [yJ, List.map_cons, List.map_nil]); first | done | rfl | (simp only [yK, yL]; rfl)) ?_
                    with_reducible refine (switchbacklaw17_code.calls kj57 _ _ ae _ _ ad _ _ ac ah (rd ac a9) an ao ap ar true _ ?side1 ?side2 ?side3 ?side4 ?side5 ?side6 (uZ (hLaid_.out.below (by repeat (first | (with_reducible first | exact HB.out | apply zS | apply zR | apply zT) | refine yA ?_ (Aside0.out (by assumption)) | exact HB.out)))) A68.out).mono ?_
                    (case side1 => repeat (first | exact (zI a4.out).2.2 | (with_reducible refine zJ ?_ _) | (with_reducible refine zK ?_ _) | (with_reducible refine zL ?_)))
                    (case side2 => exact (zI a4.out).2.1)
                    (case side3 => repeat (first | exact (zI a3.out).2.2 | (with_reducible refine zJ ?_ _) | (with_reducible refine zK ?_ _) | (with_reducible refine zL ?_)))
                    (case side4 => exact (zI a3.out).2.1)
                    (case side5 => repeat (first | exact (zI a2.out).2.2 | (with_reducible refine zJ ?_ _) | (with_reducible refine zK ?_ _) | (with_reducible refine zL ?_)))
                    (case side6 => exact (zI a2.out).2.1)
                    rintro e w83 ⟨rfl, hb⟩
                    have HS4_ := (hb.cell (yD _ _ (hHeld.2.2.2.2))).trans (hHeld.2.2.2.2)
                    refine ⟨_, rfl, ?_⟩
                    have n0_ := uZ (zE (uR af.out) hb)
                    have n1_ := uZ (zE (uR a4.out) hb)
                    have n2_ := uZ (zE (uR a3.out) hb)
                    have n3_ := uZ (zE (uR a2.out) hb)
                    have n4_ := uZ (zY (g := aa) (o := .cells #[.slice b0 ae.length co7, .slice aq ad.length co9, .slice (some ag) ac.length ai, .int .i64 ah] 27 (0, 0)) (uK a6.out) hb)
                    have n5_ := uZ (yC (uC HB.out ak.out) hb)
                    clear af
                    clear a4
                    clear a3
                    clear a2
                    clear a6
                    clear HB
                    have af := n0_
                    have a4 := n1_
                    have a3 := n2_
                    have a2 := n3_
                    have a6 := n4_
                    have HB := n5_
                    clear n0_ n1_ n2_ n3_ n4_ n5_
                    (try clear hb)
                    (try clear hb2)
                    (try clear hk)
                    (try clear hi)
                    refine hK.out _ _ ⟨(zV a6.out 0).trans rfl, (zV a6.out 1).trans rfl, (zV a6.out 2).trans rfl, (zV a6.out 3).trans rfl, HS4_⟩ (fun hHeld => ?_)
                    clear hK K
                    refine norm_ (a' := ?_) ?_ ?_
                    rotate_left
                    ·show Act.put _ (some 131) _ = _
                     simp only [Act.put, yE, yF, yG, i64_w, i32_w]
                     rfl
                    refine pure_ (i := 7) (N := some 124) (v := ?_) (a' := ?_) #[true, true, true, true, true, true, true, true, false, false, false, false, false] rfl rfl (yI HT_.out (by kernel_rfl)) (fun _ _ _ h => h) (Or.inl ⟨by rfl, ?_⟩) ?_ ?_
                    rotate_left
                    ·intro w'
                     go_simp
                     with_reducible rfl
                    rotate_left
                    ·simp only [Act.put, yE, yF, yG, i64_w, i32_w]
                     rfl
                    refine pure_ (i := 8) (N := some 132) (v := ?_) (a' := ?_) #[true, true, true, true, true, true, true, true, true, false, false, false, false] rfl rfl (yI HT_.out (by kernel_rfl)) (fun _ _ _ h => h) (Or.inl ⟨by rfl, ?_⟩) ?_ ?_
                    rotate_left
                    ·intro w'
                     go_simp
                     with_reducible rfl
                    rotate_left
                    ·simp only [Act.put, yE, yF, yG, i64_w, i32_w]
                     rfl
                    refine pure_ (i := 9) (N := some 133) (v := ?_) (a' := ?_) #[true, true, true, true, true, true, true, true, true, true, false, false, false] rfl rfl (yI HT_.out (by kernel_rfl)) (fun _ _ _ h => h) (Or.inl ⟨by rfl, ?_⟩) ?_ ?_
                    rotate_left
                    ·intro w'
                     go_simp
                     with_reducible rfl
                    rotate_left
                    ·simp only [Act.put, yE, yF, yG, i64_w, i32_w]
                     rfl
                    refine one_ (i := 10) (N := some 15) #[true, true, true, true, true, true, true, true, true, true, true, false, false] rfl rfl (one_of HT_.out (by kernel_rfl)) (by decide) (fun K hK => ?_)
                    refine box_step ?hg (N := 15) ?hd (cs := #[.int .i64 0, .int .i64 0, .int .i64 0, .int .i64 0]) (t := 44) ?hr ?_; (case hd => rfl); (case hg => rfl); (case hr => first | (go_simp; done) | (go_simp; rfl))
                    intro a5 hg w84 hbox hb
                    have HS4_ := (hb.cell (yD _ _ (hHeld.2.2.2.2))).trans (hHeld.2.2.2.2)
                    have n0_ := uZ (zE (uR af.out) hb)
                    have n1_ := uZ (zE (uR a4.out) hb)
                    have n2_ := uZ (zE (uR a3.out) hb)
                    have n3_ := uZ (zE (uR a2.out) hb)
                    have n4_ := uZ (zY (g := aa) (o := .cells #[.slice b0 ae.length co7, .slice aq ad.length co9, .slice (some ag) ac.length ai, .int .i64 ah] 27 (0, 0)) (uK a6.out) hb)
                    have n5_ := uZ (yC (uC HB.out ak.out) hb)
                    have n6_ := uZ (hbox)
                    have n7_ := uZ ((by rw [hg]; exact (yB (uC HB.out ak.out)) : w.heap.size ≤ a5))
                    have n8_ := uZ ((by rw [hg]; exact (yB (uC HB.out ak.out)) : w.heap.size ≤ a5))
                    have n9_ := uZ ((by rw [hg]; exact Nat.ne_of_lt (zZ (g := aa) (o := .cells #[.slice b0 ae.length co7, .slice aq ad.length co9, .slice (some ag) ac.length ai, .int .i64 ah] 27 (0, 0)) (uK a6.out)) : aa ≠ a5))
                    have n10_ := uZ ((by rw [hg]; exact Nat.ne_of_gt (zZ (g := aa) (o := .cells #[.slice b0 ae.length co7, .slice aq ad.length co9, .slice (some ag) ac.length ai, .int .i64 ah] 27 (0, 0)) (uK a6.out)) : a5 ≠ aa))
                    clear af
                    clear a4
                    clear a3
                    clear a2
                    clear a6
                    clear HB
                    have af := n0_
                    have a4 := n1_
                    have a3 := n2_
                    have a2 := n3_
                    have a6 := n4_
                    have HB := n5_
                    have ab := n6_
                    have bx := n7_
                    have b4 := n8_
                    have a8 := n9_
                    have al := n10_
                    clear n0_ n1_ n2_ n3_ n4_ n5_ n6_ n7_ n8_ n9_ n10_
                    clear hb hbox hg
                    refine hK.out _ _ ⟨(zV a6.out 0).trans rfl, (zV a6.out 1).trans rfl, (zV a6.out 2).trans rfl, (zV a6.out 3).trans rfl, HS4_⟩ (fun hHeld => ?_)
                    clear hK K
                    refine norm_ (a' := ?_) ?_ ?_
                    rotate_left
                    ·show Act.put _ (some 15) _ = _
                     simp only [Act.put, yE, yF, yG, i64_w, i32_w]
                     rfl
                    exact norm_ (by simp only [putAll, Act.put, yE, yF, yG]) (hCont (a5) _ ⟨hHeld, (uR a4.out), (uR a3.out), (uR a2.out), (uR af.out), (uK a6.out), (uK ab.out), bx.out, b4.out, a8.out, al.out, (uD HB.out ak.out b4.out)⟩)
                   skip
                   refine box_step ?hg (N := 15) ?hd (cs := #[.int .i64 0, .int .i64 0, .int .i64 0, .int .i64 0]) (t := 44) ?hr ?_; (case hd => rfl); (case hg => rfl); (case hr => first | (go_simp; done) | (go_simp; rfl))
                   intro a5 hg w83 hbox hb
                   have HS4_ := (hb.cell (yD _ _ (hHeld.2.2.2.2))).trans (hHeld.2.2.2.2)
                   have n0_ := uZ (zE (uR af.out) hb)
                   have n1_ := uZ (zE (uR a4.out) hb)
                   have n2_ := uZ (zE (uR a3.out) hb)
                   have n3_ := uZ (zE (uR a2.out) hb)
                   have n4_ := uZ (zY (g := aa) (o := .cells #[.slice b0 ae.length co7, .slice aq ad.length co9, .slice (some ag) ac.length ai, .int .i64 ah] 27 (0, 0)) (uK a6.out) hb)
                   have n5_ := uZ (yC (uC HB.out ak.out) hb)
                   have n6_ := uZ (hbox)
                   have n7_ := uZ ((by rw [hg]; exact (yB (uC HB.out ak.out)) : w.heap.size ≤ a5))
                   have n8_ := uZ ((by rw [hg]; exact (yB (uC HB.out ak.out)) : w.heap.size ≤ a5))
                   have n9_ := uZ ((by rw [hg]; exact Nat.ne_of_lt (zZ (g := aa) (o := .cells #[.slice b0 ae.length co7, .slice aq ad.length co9, .slice (some ag) ac.length ai, .int .i64 ah] 27 (0, 0)) (uK a6.out)) : aa ≠ a5))
                   have n10_ := uZ ((by rw [hg]; exact Nat.ne_of_gt (zZ (g := aa) (o := .cells #[.slice b0 ae.length co7, .slice aq ad.length co9, .slice (some ag) ac.length ai, .int .i64 ah] 27 (0, 0)) (uK a6.out)) : a5 ≠ aa))
                   clear af
                   clear a4
                   clear a3
                   clear a2
                   clear a6
                   clear HB
                   have af := n0_
                   have a4 := n1_
                   have a3 := n2_
                   have a2 := n3_
                   have a6 := n4_
                   have HB := n5_
                   have ab := n6_
                   have bx := n7_
                   have b4 := n8_
                   have a8 := n9_
                   have al := n10_
                   clear n0_ n1_ n2_ n3_ n4_ n5_ n6_ n7_ n8_ n9_ n10_
                   clear hb hbox hg
                   refine hK.out _ _ ⟨(zV a6.out 0).trans rfl, (zV a6.out 1).trans rfl, (zV a6.out 2).trans rfl, (zV a6.out 3).trans rfl, HS4_⟩ (fun hHeld => ?_)
                   clear hK K
                   refine norm_ (a' := ?_) ?_ ?_
                   rotate_left
                   ·show Act.put _ (some 15) _ = _
                    simp only [Act.put, yE, yF, yG, i64_w, i32_w]
                    rfl
                   refine one_ (i := 6) (N := some 131) #[true, true, true, true, true, true, true, false, false, false, true, false, false] rfl rfl (one_of HT_.out (by kernel_rfl)) (by decide) (fun K hK => ?_)
                   refine goes_ Tryd.func33 (by kernel_rfl) rfl #[.agg #[.slice b0 ae.length co7, .slice aq ad.length co9, .slice (some ag) ac.length ai, .int .i64 ah], .int .i64 (rd ac a9)] (by rfl) rfl rfl (by (try simp only [yJ, List.map_cons, List.map_nil]); first | done | rfl | (simp only [yK, yL]; rfl)) ?_
                   with_reducible refine (switchbacklaw17_code.calls kj57 _ _ ae _ _ ad _ _ ac ah (rd ac a9) an ao ap ar true _ ?side1 ?side2 ?side3 ?side4 ?side5 ?side6 (uZ (hLaid_.out.below (by repeat (first | (with_reducible first | exact HB.out | apply zS | apply zR | apply zT) | refine yA ?_ (Aside0.out (by assumption)) | exact HB.out)))) A68.out).mono ?_
                   (case side1 => repeat (first | exact (zI a4.out).2.2 | (with_reducible refine zJ ?_ _) | (with_reducible refine zK ?_ _) | (with_reducible refine zL ?_)))
                   (case side2 => exact (zI a4.out).2.1)
                   (case side3 => repeat (first | exact (zI a3.out).2.2 | (with_reducible refine zJ ?_ _) | (with_reducible refine zK ?_ _) | (with_reducible refine zL ?_)))
                   (case side4 => exact (zI a3.out).2.1)
                   (case side5 => repeat (first | exact (zI a2.out).2.2 | (with_reducible refine zJ ?_ _) | (with_reducible refine zK ?_ _) | (with_reducible refine zL ?_)))
                   (case side6 => exact (zI a2.out).2.1)
                   rintro e w84 ⟨rfl, hb⟩
                   have HS4_ := (hb.cell (yD _ _ (hHeld.2.2.2.2))).trans (hHeld.2.2.2.2)
                   refine ⟨_, rfl, ?_⟩
                   have n0_ := uZ (zE (uR af.out) hb)
                   have n1_ := uZ (zE (uR a4.out) hb)
                   have n2_ := uZ (zE (uR a3.out) hb)
                   have n3_ := uZ (zE (uR a2.out) hb)
                   have n4_ := uZ (zY (g := aa) (o := .cells #[.slice b0 ae.length co7, .slice aq ad.length co9, .slice (some ag) ac.length ai, .int .i64 ah] 27 (0, 0)) (uK a6.out) hb)
                   have n5_ := uZ (zY (g := a5) (o := .cells #[.int .i64 0, .int .i64 0, .int .i64 0, .int .i64 0] 44 (0, 0)) (uK ab.out) hb)
                   have n6_ := uZ (yC (uD HB.out ak.out b4.out) hb)
                   clear af
                   clear a4
                   clear a3
                   clear a2
                   clear a6
                   clear ab
                   clear HB
                   have af := n0_
                   have a4 := n1_
                   have a3 := n2_
                   have a2 := n3_
                   have a6 := n4_
                   have ab := n5_
                   have HB := n6_
                   clear n0_ n1_ n2_ n3_ n4_ n5_ n6_
                   (try clear hb)
                   (try clear hb2)
                   (try clear hk)
                   (try clear hi)
                   refine hK.out _ _ ⟨(zV a6.out 0).trans rfl, (zV a6.out 1).trans rfl, (zV a6.out 2).trans rfl, (zV a6.out 3).trans rfl, HS4_⟩ (fun hHeld => ?_)
                   clear hK K
                   refine norm_ (a' := ?_) ?_ ?_
                   rotate_left
                   ·show Act.put _ (some 131) _ = _
                    simp only [Act.put, yE, yF, yG, i64_w, i32_w]
                    rfl
                   refine pure_ (i := 7) (N := some 124) (v := ?_) (a' := ?_) #[true, true, true, true, true, true, true, true, false, false, true, false, false] rfl rfl (yI HT_.out (by kernel_rfl)) (fun _ _ _ h => h) (Or.inl ⟨by rfl, ?_⟩) ?_ ?_
                   rotate_left
                   ·intro w'
                    go_simp
                    with_reducible rfl
                   rotate_left
                   ·simp only [Act.put, yE, yF, yG, i64_w, i32_w]
                    rfl
                   refine pure_ (i := 8) (N := some 132) (v := ?_) (a' := ?_) #[true, true, true, true, true, true, true, true, true, false, true, false, false] rfl rfl (yI HT_.out (by kernel_rfl)) (fun _ _ _ h => h) (Or.inl ⟨by rfl, ?_⟩) ?_ ?_
                   rotate_left
                   ·intro w'
                    go_simp
                    with_reducible rfl
                   rotate_left
                   ·simp only [Act.put, yE, yF, yG, i64_w, i32_w]
                    rfl
                   refine pure_ (i := 9) (N := some 133) (v := ?_) (a' := ?_) #[true, true, true, true, true, true, true, true, true, true, true, false, false] rfl rfl (yI HT_.out (by kernel_rfl)) (fun _ _ _ h => h) (Or.inl ⟨by rfl, ?_⟩) ?_ ?_
                   rotate_left
                   ·intro w'
                    go_simp
                    with_reducible rfl
                   rotate_left
                   ·simp only [Act.put, yE, yF, yG, i64_w, i32_w]
                    rfl
                   exact norm_ (by simp only [putAll, Act.put, yE, yF, yG]) (hCont (a5) _ ⟨hHeld, (uR a4.out), (uR a3.out), (uR a2.out), (uR af.out), (uK a6.out), (uK ab.out), bx.out, b4.out, a8.out, al.out, (uD HB.out ak.out b4.out)⟩)
                  rintro a5 w85 ⟨hS_, h0_, h1_, h2_, h3_, h4_, h5_, h6_, h7_, h8_, h9_, h10_⟩
                  have n0_ : Aside0 (Kd.R (Kd.int .u32) 38 w85 w.heap.size (fun _ => True) (.slice b0 ae.length co7) ae) := ⟨h0_⟩
                  have n1_ : Aside0 (Kd.R (Kd.int .i64) 3 w85 w.heap.size (fun k_ => some k_ ≠ (.slice (some ag) ac.length ai : Value).ownBlock) (.slice aq ad.length co9) ad) := ⟨h1_⟩
                  have n2_ : Aside0 (Kd.R (Kd.int .i64) 3 w85 w.heap.size (fun k_ => some k_ ≠ (.slice aq ad.length co9 : Value).ownBlock) (.slice (some ag) ac.length ai) ac) := ⟨h2_⟩
                  have n3_ : Aside0 (Kd.R Kd.bool 4 w85 w.heap.size (fun _ => True) (.slice c9 aj.length ca) aj) := ⟨h3_⟩
                  have n4_ : Aside0 (w85.heap[aa]? = some (.cells #[.slice b0 ae.length co7, .slice aq ad.length co9, .slice (some ag) ac.length ai, .int .i64 ah] 27 (0, 0))) := ⟨h4_⟩
                  have n5_ : Aside0 (w85.heap[a5]? = some (.cells #[.int .i64 0, .int .i64 0, .int .i64 0, .int .i64 0] 44 (0, 0))) := ⟨h5_⟩
                  have n6_ : Aside0 (w.heap.size ≤ a5) := ⟨h6_⟩
                  have n7_ : Aside0 (w.heap.size ≤ a5) := ⟨h7_⟩
                  have n8_ : Aside0 (aa ≠ a5) := ⟨h8_⟩
                  have n9_ : Aside0 (a5 ≠ aa) := ⟨h9_⟩
                  have n10_ : Aside0 (Below w.heap.size w w85) := ⟨h10_⟩
                  clear af
                  clear a4
                  clear a3
                  clear a2
                  clear a6
                  clear HB
                  clear h0_ h1_ h2_ h3_ h4_ h5_ h6_ h7_ h8_ h9_ h10_
                  have a4 := n0_
                  have a3 := n1_
                  have a2 := n2_
                  have af := n3_
                  have a6 := n4_
                  have ab := n5_
                  have bx := n6_
                  have b4 := n7_
                  have a8 := n8_
                  have al := n9_
                  have HB := n10_
                  clear n0_ n1_ n2_ n3_ n4_ n5_ n6_ n7_ n8_ n9_ n10_
                  have hHeld : w85.cell? ⟨aa, 0, none⟩ = some (.slice b0 ae.length co7) ∧ w85.cell? ⟨aa, 1, none⟩ = some (.slice aq ad.length co9) ∧ w85.cell? ⟨aa, 2, none⟩ = some (.slice (some ag) ac.length ai) ∧ w85.cell? ⟨aa, 3, none⟩ = some (.int .i64 ah) ∧ w85.cell? (ag.add (a9).toNat) = some (.int .i64 (rd ac a9)) := hS_
                  refine norm_ (a' := ?_) ?_ ?_
                  rotate_left
                  ·simp only [putAll, Act.put, yE, yF, yG]
                   rfl
                  refine one_ (i := 11) (N := none) #[true, true, true, true, true, true, true, true, true, true, true, true, false] rfl rfl (one_of HT_.out (by kernel_rfl)) (by decide) (fun K hK => ?_)
                  have hs86 : w85.cell? ⟨a5, 0, none⟩ = some (.int .i64 0) := (zV ab.out 0).trans rfl
                  have hfs86 := zU ab.out 0
                  have hns86_0 := a8.out
                  have hms86_0 := al.out
                  have hs87 : w85.cell? ⟨a5, 1, none⟩ = some (.int .i64 0) := (zV ab.out 1).trans rfl
                  have hfs87 := zU ab.out 1
                  have hns87_0 := a8.out
                  have hms87_0 := al.out
                  have hs88 : w85.cell? ⟨a5, 2, none⟩ = some (.int .i64 0) := (zV ab.out 2).trans rfl
                  have hfs88 := zU ab.out 2
                  have hns88_0 := a8.out
                  have hms88_0 := al.out
                  have hs89 : w85.cell? ⟨a5, 3, none⟩ = some (.int .i64 0) := (zV ab.out 3).trans rfl
                  have hfs89 := zU ab.out 3
                  have hns89_0 := a8.out
                  have hms89_0 := al.out
                  refine skip_ (w1 := ?_) (by rfl) rfl ?_ ?_
                  rotate_left
                  ·go_simp
                   rfl
                  refine hK.out _ _ ⟨((yH (p := ⟨a5, _, none⟩) a8.out _).trans (((yH (p := ⟨a5, _, none⟩) a8.out _).trans (((yH (p := ⟨a5, _, none⟩) a8.out _).trans (((yH (p := ⟨a5, _, none⟩) a8.out _).trans (hHeld.1)))))))), ((yH (p := ⟨a5, _, none⟩) a8.out _).trans (((yH (p := ⟨a5, _, none⟩) a8.out _).trans (((yH (p := ⟨a5, _, none⟩) a8.out _).trans (((yH (p := ⟨a5, _, none⟩) a8.out _).trans (hHeld.2.1)))))))), ((yH (p := ⟨a5, _, none⟩) a8.out _).trans (((yH (p := ⟨a5, _, none⟩) a8.out _).trans (((yH (p := ⟨a5, _, none⟩) a8.out _).trans (((yH (p := ⟨a5, _, none⟩) a8.out _).trans (hHeld.2.2.1)))))))), ((yH (p := ⟨a5, _, none⟩) a8.out _).trans (((yH (p := ⟨a5, _, none⟩) a8.out _).trans (((yH (p := ⟨a5, _, none⟩) a8.out _).trans (((yH (p := ⟨a5, _, none⟩) a8.out _).trans (hHeld.2.2.2.1)))))))), ((yH (p := ⟨a5, _, none⟩) (by first | exact zM (zN a2.out ab.out (by decide)) | (rw [add_block]; exact zM (zN a2.out ab.out (by decide))) | (show (Addr.add _ _).block ≠ _; rw [add_block]; exact zM (zN a2.out ab.out (by decide))) | (dsimp only; exact zM (zN a2.out ab.out (by decide)))) _).trans (((yH (p := ⟨a5, _, none⟩) (by first | exact zM (zN a2.out ab.out (by decide)) | (rw [add_block]; exact zM (zN a2.out ab.out (by decide))) | (show (Addr.add _ _).block ≠ _; rw [add_block]; exact zM (zN a2.out ab.out (by decide))) | (dsimp only; exact zM (zN a2.out ab.out (by decide)))) _).trans (((yH (p := ⟨a5, _, none⟩) (by first | exact zM (zN a2.out ab.out (by decide)) | (rw [add_block]; exact zM (zN a2.out ab.out (by decide))) | (show (Addr.add _ _).block ≠ _; rw [add_block]; exact zM (zN a2.out ab.out (by decide))) | (dsimp only; exact zM (zN a2.out ab.out (by decide)))) _).trans (((yH (p := ⟨a5, _, none⟩) (by first | exact zM (zN a2.out ab.out (by decide)) | (rw [add_block]; exact zM (zN a2.out ab.out (by decide))) | (show (Addr.add _ _).block ≠ _; rw [add_block]; exact zM (zN a2.out ab.out (by decide))) | (dsimp only; exact zM (zN a2.out ab.out (by decide)))) _).trans (hHeld.2.2.2.2))))))))⟩ (fun hHeld => ?_)
                  clear hK K
                  refine pure_ (i := 12) (N := some 16) (v := ?_) (a' := ?_) #[true, true, true, true, true, true, true, true, true, true, true, true, true] rfl rfl (yI HT_.out (by kernel_rfl)) (fun _ _ _ h => h) (Or.inl ⟨by rfl, ?_⟩) ?_ ?_
                  rotate_left
                  ·intro w'
                   go_simp
                   with_reducible rfl
                  rotate_left
                  ·simp only [Act.put, yE, yF, yG, i64_w, i32_w]
                   rfl
                  refine done_ (done_of HT_.out (by kernel_rfl)) ?_
                  try go_wp2
                  have n0_ : Aside0 (Kd.R Kd.bool 4 ((((w85.setCell ⟨a5, 0, none⟩ (.int .i64 an)).setCell ⟨a5, 1, none⟩ (.int .i64 ao)).setCell ⟨a5, 2, none⟩ (.int .i64 ap)).setCell ⟨a5, 3, none⟩ (.int .i64 ar)) w.heap.size (fun _ => True) (.slice c9 aj.length ca) aj) := ⟨by (with_reducible repeat (first | apply zA | apply zB | apply zC)); exact zF (zD (p := ⟨a5, 3, none⟩) (zD (p := ⟨a5, 2, none⟩) (zD (p := ⟨a5, 1, none⟩) (zD (p := ⟨a5, 0, none⟩) (zG af.out ab.out (by decide)) (fun _ hk => hk.2) (.int .i64 an)) (fun _ hk => hk.2) (.int .i64 ao)) (fun _ hk => hk.2) (.int .i64 ap)) (fun _ hk => hk.2) (.int .i64 ar)) (fun _ hk => trivial)⟩
                  have n1_ : Aside0 (Kd.R (Kd.int .u32) 38 ((((w85.setCell ⟨a5, 0, none⟩ (.int .i64 an)).setCell ⟨a5, 1, none⟩ (.int .i64 ao)).setCell ⟨a5, 2, none⟩ (.int .i64 ap)).setCell ⟨a5, 3, none⟩ (.int .i64 ar)) w.heap.size (fun _ => True) (.slice b0 ae.length co7) ae) := ⟨by (with_reducible repeat (first | apply zA | apply zB | apply zC)); exact zF (zD (p := ⟨a5, 3, none⟩) (zD (p := ⟨a5, 2, none⟩) (zD (p := ⟨a5, 1, none⟩) (zD (p := ⟨a5, 0, none⟩) (zG a4.out ab.out (by decide)) (fun _ hk => hk.2) (.int .i64 an)) (fun _ hk => hk.2) (.int .i64 ao)) (fun _ hk => hk.2) (.int .i64 ap)) (fun _ hk => hk.2) (.int .i64 ar)) (fun _ hk => trivial)⟩
                  have n2_ : Aside0 (Kd.R (Kd.int .i64) 3 ((((w85.setCell ⟨a5, 0, none⟩ (.int .i64 an)).setCell ⟨a5, 1, none⟩ (.int .i64 ao)).setCell ⟨a5, 2, none⟩ (.int .i64 ap)).setCell ⟨a5, 3, none⟩ (.int .i64 ar)) w.heap.size (fun k_ => some k_ ≠ (.slice (some ag) ac.length ai : Value).ownBlock) (.slice aq ad.length co9) ad) := ⟨by (with_reducible repeat (first | apply zA | apply zB | apply zC)); exact zF (zD (p := ⟨a5, 3, none⟩) (zD (p := ⟨a5, 2, none⟩) (zD (p := ⟨a5, 1, none⟩) (zD (p := ⟨a5, 0, none⟩) (zG a3.out ab.out (by decide)) (fun _ hk => hk.2) (.int .i64 an)) (fun _ hk => hk.2) (.int .i64 ao)) (fun _ hk => hk.2) (.int .i64 ap)) (fun _ hk => hk.2) (.int .i64 ar)) (fun _ hk => hk.1)⟩
                  have n3_ : Aside0 (Kd.R (Kd.int .i64) 3 ((((w85.setCell ⟨a5, 0, none⟩ (.int .i64 an)).setCell ⟨a5, 1, none⟩ (.int .i64 ao)).setCell ⟨a5, 2, none⟩ (.int .i64 ap)).setCell ⟨a5, 3, none⟩ (.int .i64 ar)) w.heap.size (fun k_ => some k_ ≠ (.slice aq ad.length co9 : Value).ownBlock) (.slice (some ag) ac.length ai) ac) := ⟨by (with_reducible repeat (first | apply zA | apply zB | apply zC)); exact zF (zD (p := ⟨a5, 3, none⟩) (zD (p := ⟨a5, 2, none⟩) (zD (p := ⟨a5, 1, none⟩) (zD (p := ⟨a5, 0, none⟩) (zG a2.out ab.out (by decide)) (fun _ hk => hk.2) (.int .i64 an)) (fun _ hk => hk.2) (.int .i64 ao)) (fun _ hk => hk.2) (.int .i64 ap)) (fun _ hk => hk.2) (.int .i64 ar)) (fun _ hk => hk.1)⟩
                  have n4_ : Aside0 (((((w85.setCell ⟨a5, 0, none⟩ (.int .i64 an)).setCell ⟨a5, 1, none⟩ (.int .i64 ao)).setCell ⟨a5, 2, none⟩ (.int .i64 ap)).setCell ⟨a5, 3, none⟩ (.int .i64 ar)).heap[aa]? = some (.cells #[.slice b0 ae.length co7, .slice aq ad.length co9, .slice (some ag) ac.length ai, .int .i64 ah] 27 (0, 0))) := ⟨by (with_reducible repeat (first | apply zO | apply zP | apply zQ)); refine zX ?_ a8.out _; (with_reducible repeat (first | apply zO | apply zP | apply zQ)); refine zX ?_ a8.out _; (with_reducible repeat (first | apply zO | apply zP | apply zQ)); refine zX ?_ a8.out _; (with_reducible repeat (first | apply zO | apply zP | apply zQ)); refine zX ?_ a8.out _; (with_reducible repeat (first | apply zO | apply zP | apply zQ)); exact a6.out⟩
                  have n5_ : Aside0 (((((w85.setCell ⟨a5, 0, none⟩ (.int .i64 an)).setCell ⟨a5, 1, none⟩ (.int .i64 ao)).setCell ⟨a5, 2, none⟩ (.int .i64 ap)).setCell ⟨a5, 3, none⟩ (.int .i64 ar)).heap[a5]? = some (.cells #[.int .i64 an, .int .i64 ao, .int .i64 ap, .int .i64 ar] 44 (0, 0))) := ⟨by (with_reducible repeat (first | apply zO | apply zP | apply zQ)); refine zW (cs := #[.int .i64 an, .int .i64 ao, .int .i64 ap, .int .i64 0]) ?_ 3 _ rfl; (with_reducible repeat (first | apply zO | apply zP | apply zQ)); refine zW (cs := #[.int .i64 an, .int .i64 ao, .int .i64 0, .int .i64 0]) ?_ 2 _ rfl; (with_reducible repeat (first | apply zO | apply zP | apply zQ)); refine zW (cs := #[.int .i64 an, .int .i64 0, .int .i64 0, .int .i64 0]) ?_ 1 _ rfl; (with_reducible repeat (first | apply zO | apply zP | apply zQ)); refine zW (cs := #[.int .i64 0, .int .i64 0, .int .i64 0, .int .i64 0]) ?_ 0 _ rfl; (with_reducible repeat (first | apply zO | apply zP | apply zQ)); exact ab.out⟩
                  have n6_ : Aside0 (Below w.heap.size w ((((w85.setCell ⟨a5, 0, none⟩ (.int .i64 an)).setCell ⟨a5, 1, none⟩ (.int .i64 ao)).setCell ⟨a5, 2, none⟩ (.int .i64 ap)).setCell ⟨a5, 3, none⟩ (.int .i64 ar))) := ⟨uD HB.out ak.out b4.out⟩
                  (try clear af)
                  (try clear a4)
                  (try clear a3)
                  (try clear a2)
                  (try clear a6)
                  (try clear ab)
                  (try clear HB)
                  generalize ((((w85.setCell ⟨a5, 0, none⟩ (.int .i64 an)).setCell ⟨a5, 1, none⟩ (.int .i64 ao)).setCell ⟨a5, 2, none⟩ (.int .i64 ap)).setCell ⟨a5, 3, none⟩ (.int .i64 ar)) = w90 at n0_ n1_ n2_ n3_ n4_ n5_ n6_ ⊢
                  have af := n0_
                  have a4 := n1_
                  have a3 := n2_
                  have a2 := n3_
                  have a6 := n4_
                  have ab := n5_
                  have HB := n6_
                  clear n0_ n1_ n2_ n3_ n4_ n5_ n6_
                  have n0_ := uZ (zC af.out)
                  have n1_ := uZ (zC a4.out)
                  have n2_ := uZ (zC a3.out)
                  have n3_ := uZ (zC a2.out)
                  have n4_ := uZ (zP a6.out)
                  have n5_ := uZ (zP ab.out)
                  have n6_ := uZ (zT HB.out)
                  clear af
                  clear a4
                  clear a3
                  clear a2
                  clear a6
                  clear ab
                  clear HB
                  have af := n0_
                  have a4 := n1_
                  have a3 := n2_
                  have a2 := n3_
                  have a6 := n4_
                  have ab := n5_
                  have HB := n6_
                  clear n0_ n1_ n2_ n3_ n4_ n5_ n6_
                  have p353 : 0 ≤ (a9 : Int) := uA
                  have q353 : a9 < (l0.length : Int) := uA
                  obtain ⟨b5, A353_6, c353_6, e353, b8, b9, ba, bb, bc, bd, be, hl353_6, hi353_6⟩ := at_T40 HR0.out a9 p353 q353
                  have hw353_6 := be
                  have hw353_5 := bd
                  have hw353_4 := bc
                  have hw353_3 := bb
                  have hw353_2 := ba
                  have hw353_1 := b9
                  have hw353_0 := b8
                  cases e353
                  replace b8 := (HB.out.cell (yD w _ b8)).trans b8
                  replace b9 := (HB.out.cell (yD w _ b9)).trans b9
                  replace ba := (HB.out.cell (yD w _ ba)).trans ba
                  replace bb := (HB.out.cell (yD w _ bb)).trans bb
                  replace bc := (HB.out.cell (yD w _ bc)).trans bc
                  replace bd := (HB.out.cell (yD w _ bd)).trans bd
                  replace be := (HB.out.cell (yD w _ be)).trans be
                  have HR353_6 := uZ hi353_6
                  have HC353_6 := uZ hl353_6
                  clear hi353_6 hl353_6
                  replace p353 := eq_true p353
                  replace q353 := eq_true q353
                  refine start_ (n := 12) (S := fun w' => w'.cell? ⟨a5, 0, none⟩ = some (.int .i64 an) ∧ w'.cell? ⟨a5, 1, none⟩ = some (.int .i64 ao) ∧ w'.cell? ⟨a5, 2, none⟩ = some (.int .i64 ap) ∧ w'.cell? ⟨a5, 3, none⟩ = some (.int .i64 ar) ∧ w'.cell? (b5.add ((a9).toNat * 7)) = some (.int .i64 ((rd_T40 l0 a9).f0)) ∧ w'.cell? ⟨(b5.add ((a9).toNat * 7)).block, (b5.add ((a9).toNat * 7)).off + 1, none⟩ = some (.int .i64 ((rd_T40 l0 a9).f1)) ∧ w'.cell? ⟨(b5.add ((a9).toNat * 7)).block, (b5.add ((a9).toNat * 7)).off + 2, none⟩ = some (.int .i64 ((rd_T40 l0 a9).f2)) ∧ w'.cell? ⟨(b5.add ((a9).toNat * 7)).block, (b5.add ((a9).toNat * 7)).off + 3, none⟩ = some (.int .i64 ((rd_T40 l0 a9).f3)) ∧ w'.cell? ⟨(b5.add ((a9).toNat * 7)).block, (b5.add ((a9).toNat * 7)).off + 4, none⟩ = some (.int .u32 ((rd_T40 l0 a9).f4)) ∧ w'.cell? ⟨(b5.add ((a9).toNat * 7)).block, (b5.add ((a9).toNat * 7)).off + 5, none⟩ = some (.int .i64 ((rd_T40 l0 a9).f5)) ∧ w'.cell? ⟨(b5.add ((a9).toNat * 7)).block, (b5.add ((a9).toNat * 7)).off + 6, none⟩ = some (.slice A353_6 ((rd_T40 l0 a9).f6).length c353_6)) (ds := []) #[false, false, false, false, false, false, false, false, false, false, false, false] (by kernel_rfl) rfl rfl ⟨(zV ab.out 0).trans rfl, (zV ab.out 1).trans rfl, (zV ab.out 2).trans rfl, (zV ab.out 3).trans rfl, ((HB.out.cell (yD w _ hw353_0)).trans hw353_0), ((HB.out.cell (yD w _ hw353_1)).trans hw353_1), ((HB.out.cell (yD w _ hw353_2)).trans hw353_2), ((HB.out.cell (yD w _ hw353_3)).trans hw353_3), ((HB.out.cell (yD w _ hw353_4)).trans hw353_4), ((HB.out.cell (yD w _ hw353_5)).trans hw353_5), ((HB.out.cell (yD w _ hw353_6)).trans hw353_6)⟩ (fun hHeld => ?_); refine with_tabW switchbacklaw17_RelaxLeast.tab20 switchbacklaw17_RelaxLeast.bits20 (fun HT_ HW_ => ?_)
                  generalize w90.drew = w91 at af a4 a3 a2 a6 ab HB HR353_6 b8 b9 ba bb bc bd be hHeld ⊢
                  refine pure_ (i := 0) (N := some 134) (v := ?_) (a' := ?_) #[true, false, false, false, false, false, false, false, false, false, false, false] rfl rfl (yI HT_.out (by kernel_rfl)) (fun _ _ _ h => h) (Or.inl ⟨by rfl, ?_⟩) ?_ ?_
                  rotate_left
                  ·intro w'
                   go_simp
                   with_reducible rfl
                  rotate_left
                  ·simp only [Act.put, yE, yF, yG, i64_w, i32_w]
                   rfl
                  refine pure_ (i := 1) (N := some 135) (v := ?_) (a' := ?_) #[true, true, false, false, false, false, false, false, false, false, false, false] rfl rfl (yI HT_.out (by kernel_rfl)) (fun _ _ _ h => h) (Or.inl ⟨by rfl, ?_⟩) ?_ ?_
                  rotate_left
                  ·intro w'
                   go_simp
                   with_reducible rfl
                  rotate_left
                  ·simp only [Act.put, yE, yF, yG, i64_w, i32_w]
                   rfl
                  refine pure_ (i := 2) (N := some 136) (v := ?_) (a' := ?_) #[true, true, true, false, false, false, false, false, false, false, false, false] rfl rfl (yI HT_.out (by kernel_rfl)) (fun _ _ _ h => h) (Or.inl ⟨by rfl, ?_⟩) ?_ ?_
                  rotate_left
                  ·intro w'
                   go_simp
                   with_reducible rfl
                  rotate_left
                  ·simp only [Act.put, yE, yF, yG, i64_w, i32_w]
                   rfl
                  refine pure_ (i := 3) (N := some 137) (v := ?_) (a' := ?_) #[true, true, true, true, false, false, false, false, false, false, false, false] rfl rfl (yI HT_.out (by kernel_rfl)) (fun _ _ _ h => h) (Or.inl ⟨by rfl, ?_⟩) ?_ ?_
                  rotate_left
                  ·intro w'
                   go_simp
                   with_reducible rfl
                  rotate_left
                  ·simp only [Act.put, yE, yF, yG, i64_w, i32_w]
                   rfl
                  refine pure_ (i := 5) (N := some 139) (v := ?_) (a' := ?_) #[true, true, true, true, false, true, false, false, false, false, false, false] rfl rfl (yI HT_.out (by kernel_rfl)) (fun _ _ _ h => h) (Or.inl ⟨by rfl, ?_⟩) ?_ ?_
                  rotate_left
                  ·intro w'
                   go_simp
                   with_reducible rfl
                  rotate_left
                  ·simp only [Act.put, yE, yF, yG, i64_w, i32_w]
                   rfl
                  refine pure_ (i := 6) (N := some 140) (v := ?_) (a' := ?_) #[true, true, true, true, false, true, true, false, false, false, false, false] rfl rfl (yI HT_.out (by kernel_rfl)) (fun _ _ _ h => h) (Or.inl ⟨by rfl, ?_⟩) ?_ ?_
                  rotate_left
                  ·intro w'
                   go_simp
                   with_reducible rfl
                  rotate_left
                  ·simp only [Act.put, yE, yF, yG, i64_w, i32_w]
                   rfl
                  refine pure_ (i := 7) (N := some 141) (v := ?_) (a' := ?_) #[true, true, true, true, false, true, true, true, false, false, false, false] rfl rfl (yI HT_.out (by kernel_rfl)) (fun _ _ _ h => h) (Or.inl ⟨by rfl, ?_⟩) ?_ ?_
                  rotate_left
                  ·intro w'
                   go_simp
                   with_reducible rfl
                  rotate_left
                  ·simp only [Act.put, yE, yF, yG, i64_w, i32_w]
                   rfl
                  refine pure_ (i := 8) (N := some 142) (v := ?_) (a' := ?_) #[true, true, true, true, false, true, true, true, true, false, false, false] rfl rfl (yI HT_.out (by kernel_rfl)) (fun _ _ _ h => h) (Or.inl ⟨by rfl, ?_⟩) ?_ ?_
                  rotate_left
                  ·intro w'
                   go_simp
                   with_reducible rfl
                  rotate_left
                  ·simp only [Act.put, yE, yF, yG, i64_w, i32_w]
                   rfl
                  refine take_ (i := 4) (N := some 138) (v := ?_) (a' := ?_) #[true, true, true, true, true, true, true, true, true, false, false, false] rfl rfl (take_ofW HT_.out HW_.out (by kernel_rfl)) (fun _ _ _ h => h) (Or.inl ⟨by rfl, ?_⟩) hHeld ?_ ?_
                  rotate_left
                  ·rintro w' ⟨s0, s1, s2, s3, s4, s5, s6, s7, s8, s9, s10⟩
                   go_simp
                   with_reducible rfl
                  rotate_left
                  ·simp only [Act.put, yE, yF, yG, i64_w, i32_w]
                   rfl
                  refine take_ (i := 9) (N := some 143) (v := ?_) (a' := ?_) #[true, true, true, true, true, true, true, true, true, true, false, false] rfl rfl (take_ofW HT_.out HW_.out (by kernel_rfl)) (fun _ _ _ h => h) (Or.inl ⟨by rfl, ?_⟩) hHeld ?_ ?_
                  rotate_left
                  ·rintro w' ⟨s0, s1, s2, s3, s4, s5, s6, s7, s8, s9, s10⟩
                   go_simp
                   with_reducible rfl
                  rotate_left
                  ·simp only [Act.put, yE, yF, yG, i64_w, i32_w]
                   rfl
                  refine pure_ (i := 10) (N := some 144) (v := ?_) (a' := ?_) #[true, true, true, true, true, true, true, true, true, true, true, false] rfl rfl (yI HT_.out (by kernel_rfl)) (fun _ _ _ h => h) (Or.inl ⟨by rfl, ?_⟩) ?_ ?_
                  rotate_left
                  ·intro w'
                   go_simp
                   with_reducible rfl
                  rotate_left
                  ·simp only [Act.put, yE, yF, yG, i64_w, i32_w]
                   rfl
                  refine pure_ (i := 11) (N := some 145) (v := ?_) (a' := ?_) #[true, true, true, true, true, true, true, true, true, true, true, true] rfl rfl (yI HT_.out (by kernel_rfl)) (fun _ _ _ h => h) (Or.inl ⟨by rfl, ?_⟩) ?_ ?_
                  rotate_left
                  ·intro w'
                   go_simp
                   with_reducible rfl
                  rotate_left
                  ·simp only [Act.put, yE, yF, yG, i64_w, i32_w]
                   rfl
                  refine done_ (done_of HT_.out (by kernel_rfl)) ?_
                  try go_wp2
                  go_ret
                  exact ⟨by first | rfl | (simp [errW_none, errW_some] <;> rfl) | (simp [*, errW_none, errW_some] <;> rfl), by repeat (first | (with_reducible first | exact HB.out | apply zS | apply zR | apply zT | refine yA ?_ ak.out | refine yA ?_ b4.out) | exact HB.out)⟩
                 rw [if_neg c70] at H
                 exact absurd H (by simp)
                replace c69 := Bool.eq_false_iff.mpr c69
                subst c69
                have H1 : (some false) = some r := by rw [if_neg (show ¬ (false = true) by decide)] at H; exact H
                clear H
                have H := H1
                clear H1
                obtain rfl := Option.some.inj H
                try go_wp2
                have n0_ := uZ (zC af.out)
                have n1_ := uZ (zC a4.out)
                have n2_ := uZ (zC a3.out)
                have n3_ := uZ (zC a2.out)
                have n4_ := uZ (zP a6.out)
                have n5_ := uZ (zT HB.out)
                clear af
                clear a4
                clear a3
                clear a2
                clear a6
                clear HB
                have af := n0_
                have a4 := n1_
                have a3 := n2_
                have a2 := n3_
                have a6 := n4_
                have HB := n5_
                clear n0_ n1_ n2_ n3_ n4_ n5_
                have p346 : 0 ≤ (a9 : Int) := uA
                have q346 : a9 < (ac.length : Int) := uA
                obtain ⟨ag, e346, bw⟩ := Kd.at_int (zI a2.out).2.2 a9 p346 q346
                cases e346
                replace p346 := eq_true p346
                replace q346 := eq_true q346
                refine start_ (n := 13) (S := fun w' => w'.cell? ⟨aa, 0, none⟩ = some (.slice b0 ae.length co7) ∧ w'.cell? ⟨aa, 1, none⟩ = some (.slice aq ad.length co9) ∧ w'.cell? ⟨aa, 2, none⟩ = some (.slice (some ag) ac.length ai) ∧ w'.cell? ⟨aa, 3, none⟩ = some (.int .i64 ah) ∧ w'.cell? (ag.add (a9).toNat) = some (.int .i64 (rd ac a9))) (ds := []) #[false, false, false, false, false, false, false, false, false, false, false, false, false] (by kernel_rfl) rfl rfl ⟨(zV a6.out 0).trans rfl, (zV a6.out 1).trans rfl, (zV a6.out 2).trans rfl, (zV a6.out 3).trans rfl, bw⟩ (fun hHeld => ?_); refine with_tabW switchbacklaw17_RelaxLeast.tab19 switchbacklaw17_RelaxLeast.bits19 (fun HT_ HW_ => ?_)
                generalize wc.drew = w92 at af a4 a3 a2 a6 HB bw hHeld ⊢
                refine pure_ (i := 1) (N := some 126) (v := ?_) (a' := ?_) #[false, true, false, false, false, false, false, false, false, false, false, false, false] rfl rfl (yI HT_.out (by kernel_rfl)) (fun _ _ _ h => h) (Or.inl ⟨by rfl, ?_⟩) ?_ ?_
                rotate_left
                ·intro w'
                 go_simp
                 with_reducible rfl
                rotate_left
                ·simp only [Act.put, yE, yF, yG, i64_w, i32_w]
                 rfl
                refine pure_ (i := 3) (N := some 128) (v := ?_) (a' := ?_) #[false, true, false, true, false, false, false, false, false, false, false, false, false] rfl rfl (yI HT_.out (by kernel_rfl)) (fun _ _ _ h => h) (Or.inl ⟨by rfl, ?_⟩) ?_ ?_
                rotate_left
                ·intro w'
                 go_simp
                 with_reducible rfl
                rotate_left
                ·simp only [Act.put, yE, yF, yG, i64_w, i32_w]
                 rfl
                refine take_ (i := 0) (N := some 125) (v := ?_) (a' := ?_) #[true, true, false, true, false, false, false, false, false, false, false, false, false] rfl rfl (take_ofW HT_.out HW_.out (by kernel_rfl)) (fun _ _ _ h => h) (Or.inl ⟨by rfl, ?_⟩) hHeld ?_ ?_
                rotate_left
                ·rintro w' ⟨s0, s1, s2, s3, s4⟩
                 go_simp
                 with_reducible rfl
                rotate_left
                ·simp only [Act.put, yE, yF, yG, i64_w, i32_w]
                 rfl
                refine take_ (i := 2) (N := some 127) (v := ?_) (a' := ?_) #[true, true, true, true, false, false, false, false, false, false, false, false, false] rfl rfl (take_ofW HT_.out HW_.out (by kernel_rfl)) (fun _ _ _ h => h) (Or.inl ⟨by rfl, ?_⟩) hHeld ?_ ?_
                rotate_left
                ·rintro w' ⟨s0, s1, s2, s3, s4⟩
                 go_simp
                 with_reducible rfl
                rotate_left
                ·simp only [Act.put, yE, yF, yG, i64_w, i32_w]
                 rfl
                refine pure_ (i := 4) (N := some 129) (v := ?_) (a' := ?_) #[true, true, true, true, true, false, false, false, false, false, false, false, false] rfl rfl (yI HT_.out (by kernel_rfl)) (fun _ _ _ h => h) (Or.inl ⟨by rfl, ?_⟩) ?_ ?_
                rotate_left
                ·intro w'
                 go_simp
                 with_reducible rfl
                rotate_left
                ·simp only [Act.put, yE, yF, yG, i64_w, i32_w]
                 rfl
                refine take_ (i := 5) (N := some 130) (v := ?_) (a' := ?_) #[true, true, true, true, true, true, false, false, false, false, false, false, false] rfl rfl (take_ofW HT_.out HW_.out (by kernel_rfl)) (fun _ _ _ h => h) (Or.inl ⟨by rfl, ?_⟩) hHeld ?_ ?_
                rotate_left
                ·rintro w' ⟨s0, s1, s2, s3, s4⟩
                 go_simp
                 with_reducible rfl
                rotate_left
                ·simp only [Act.put, yE, yF, yG, i64_w, i32_w]
                 rfl
                refine join_ (σ := Nat) 2 #[true, true, true, true, true, true, true, true, true, true, true, false, false] (fun s_ => [(131, .tuple #[.agg #[.int .i64 an, .int .i64 ao, .int .i64 ap, .int .i64 ar], .bool false]), (15, .pointer (some ⟨s_, 0, none⟩)), (124, .tuple #[.agg #[.int .i64 an, .int .i64 ao, .int .i64 ap, .int .i64 ar], .bool false]), (132, .agg #[.int .i64 an, .int .i64 ao, .int .i64 ap, .int .i64 ar]), (133, .bool false)]) (fun s_ w' => (w'.cell? ⟨aa, 0, none⟩ = some (.slice b0 ae.length co7) ∧ w'.cell? ⟨aa, 1, none⟩ = some (.slice aq ad.length co9) ∧ w'.cell? ⟨aa, 2, none⟩ = some (.slice (some ag) ac.length ai) ∧ w'.cell? ⟨aa, 3, none⟩ = some (.int .i64 ah) ∧ w'.cell? (ag.add (a9).toNat) = some (.int .i64 (rd ac a9))) ∧ (Kd.R (Kd.int .u32) 38 w' w.heap.size (fun _ => True) (.slice b0 ae.length co7) ae) ∧ (Kd.R (Kd.int .i64) 3 w' w.heap.size (fun k_ => some k_ ≠ (.slice (some ag) ac.length ai : Value).ownBlock) (.slice aq ad.length co9) ad) ∧ (Kd.R (Kd.int .i64) 3 w' w.heap.size (fun k_ => some k_ ≠ (.slice aq ad.length co9 : Value).ownBlock) (.slice (some ag) ac.length ai) ac) ∧ (Kd.R Kd.bool 4 w' w.heap.size (fun _ => True) (.slice c9 aj.length ca) aj) ∧ (w'.heap[aa]? = some (.cells #[.slice b0 ae.length co7, .slice aq ad.length co9, .slice (some ag) ac.length ai, .int .i64 ah] 27 (0, 0))) ∧ (w'.heap[s_]? = some (.cells #[.int .i64 0, .int .i64 0, .int .i64 0, .int .i64 0] 44 (0, 0))) ∧ (w.heap.size ≤ s_) ∧ (w.heap.size ≤ s_) ∧ (aa ≠ s_) ∧ (s_ ≠ aa) ∧ (Below w.heap.size w w')) ?_ ?_
                rotate_left
                ·intro hCont
                 refine two_ (i := 6) (j := 10) (Ni := some 131) (Nj := some 15) #[true, true, true, true, true, true, true, false, false, false, false, false, false] #[true, true, true, true, true, true, false, false, false, false, true, false, false] rfl rfl rfl rfl (two_of HT_.out (by kernel_rfl)) (by decide) (by decide) (fun K hK => ?_) (fun K hK => ?_)
                 ·skip
                  refine goes_ Tryd.func33 (by kernel_rfl) rfl #[.agg #[.slice b0 ae.length co7, .slice aq ad.length co9, .slice (some ag) ac.length ai, .int .i64 ah], .int .i64 (rd ac a9)] (by rfl) rfl rfl (by (try simp only [yJ, List.map_cons, List.map_nil]); first | done | rfl | (simp only [yK, yL]; rfl)) ?_
                  with_reducible refine (switchbacklaw17_code.calls kj57 _ _ ae _ _ ad _ _ ac ah (rd ac a9) an ao ap ar false _ ?side1 ?side2 ?side3 ?side4 ?side5 ?side6 (uZ (hLaid_.out.below (by repeat (first | (with_reducible first | exact HB.out | apply zS | apply zR | apply zT) | refine yA ?_ (Aside0.out (by assumption)) | exact HB.out)))) A68.out).mono ?_
                  (case side1 => repeat (first | exact (zI a4.out).2.2 | (with_reducible refine zJ ?_ _) | (with_reducible refine zK ?_ _) | (with_reducible refine zL ?_)))
                  (case side2 => exact (zI a4.out).2.1)
                  (case side3 => repeat (first | exact (zI a3.out).2.2 | (with_reducible refine zJ ?_ _) | (with_reducible refine zK ?_ _) | (with_reducible refine zL ?_)))
                  (case side4 => exact (zI a3.out).2.1)
                  (case side5 => repeat (first | exact (zI a2.out).2.2 | (with_reducible refine zJ ?_ _) | (with_reducible refine zK ?_ _) | (with_reducible refine zL ?_)))
                  (case side6 => exact (zI a2.out).2.1)
                  rintro e w93 ⟨rfl, hb⟩
                  have HS4_ := (hb.cell (yD _ _ (hHeld.2.2.2.2))).trans (hHeld.2.2.2.2)
                  refine ⟨_, rfl, ?_⟩
                  have n0_ := uZ (zE (uR af.out) hb)
                  have n1_ := uZ (zE (uR a4.out) hb)
                  have n2_ := uZ (zE (uR a3.out) hb)
                  have n3_ := uZ (zE (uR a2.out) hb)
                  have n4_ := uZ (zY (g := aa) (o := .cells #[.slice b0 ae.length co7, .slice aq ad.length co9, .slice (some ag) ac.length ai, .int .i64 ah] 27 (0, 0)) (uK a6.out) hb)
                  have n5_ := uZ (yC (uC HB.out ak.out) hb)
                  clear af
                  clear a4
                  clear a3
                  clear a2
                  clear a6
                  clear HB
                  have af := n0_
                  have a4 := n1_
                  have a3 := n2_
                  have a2 := n3_
                  have a6 := n4_
                  have HB := n5_
                  clear n0_ n1_ n2_ n3_ n4_ n5_
                  (try clear hb)
                  (try clear hb2)
                  (try clear hk)
                  (try clear hi)
                  refine hK.out _ _ ⟨(zV a6.out 0).trans rfl, (zV a6.out 1).trans rfl, (zV a6.out 2).trans rfl, (zV a6.out 3).trans rfl, HS4_⟩ (fun hHeld => ?_)
                  clear hK K
                  refine norm_ (a' := ?_) ?_ ?_
                  rotate_left
                  ·show Act.put _ (some 131) _ = _
                   simp only [Act.put, yE, yF, yG, i64_w, i32_w]
                   rfl
                  refine pure_ (i := 7) (N := some 124) (v := ?_) (a' := ?_) #[true, true, true, true, true, true, true, true, false, false, false, false, false] rfl rfl (yI HT_.out (by kernel_rfl)) (fun _ _ _ h => h) (Or.inl ⟨by rfl, ?_⟩) ?_ ?_
                  rotate_left
                  ·intro w'
                   go_simp
                   with_reducible rfl
                  rotate_left
                  ·simp only [Act.put, yE, yF, yG, i64_w, i32_w]
                   rfl
                  refine pure_ (i := 8) (N := some 132) (v := ?_) (a' := ?_) #[true, true, true, true, true, true, true, true, true, false, false, false, false] rfl rfl (yI HT_.out (by kernel_rfl)) (fun _ _ _ h => h) (Or.inl ⟨by rfl, ?_⟩) ?_ ?_
                  rotate_left
                  ·intro w'
                   go_simp
                   with_reducible rfl
                  rotate_left
                  ·simp only [Act.put, yE, yF, yG, i64_w, i32_w]
                   rfl
                  refine pure_ (i := 9) (N := some 133) (v := ?_) (a' := ?_) #[true, true, true, true, true, true, true, true, true, true, false, false, false] rfl rfl (yI HT_.out (by kernel_rfl)) (fun _ _ _ h => h) (Or.inl ⟨by rfl, ?_⟩) ?_ ?_
                  rotate_left
                  ·intro w'
                   go_simp
                   with_reducible rfl
                  rotate_left
                  ·simp only [Act.put, yE, yF, yG, i64_w, i32_w]
                   rfl
                  refine one_ (i := 10) (N := some 15) #[true, true, true, true, true, true, true, true, true, true, true, false, false] rfl rfl (one_of HT_.out (by kernel_rfl)) (by decide) (fun K hK => ?_)
                  refine box_step ?hg (N := 15) ?hd (cs := #[.int .i64 0, .int .i64 0, .int .i64 0, .int .i64 0]) (t := 44) ?hr ?_; (case hd => rfl); (case hg => rfl); (case hr => first | (go_simp; done) | (go_simp; rfl))
                  intro a5 hg w94 hbox hb
                  have HS4_ := (hb.cell (yD _ _ (hHeld.2.2.2.2))).trans (hHeld.2.2.2.2)
                  have n0_ := uZ (zE (uR af.out) hb)
                  have n1_ := uZ (zE (uR a4.out) hb)
                  have n2_ := uZ (zE (uR a3.out) hb)
                  have n3_ := uZ (zE (uR a2.out) hb)
                  have n4_ := uZ (zY (g := aa) (o := .cells #[.slice b0 ae.length co7, .slice aq ad.length co9, .slice (some ag) ac.length ai, .int .i64 ah] 27 (0, 0)) (uK a6.out) hb)
                  have n5_ := uZ (yC (uC HB.out ak.out) hb)
                  have n6_ := uZ (hbox)
                  have n7_ := uZ ((by rw [hg]; exact (yB (uC HB.out ak.out)) : w.heap.size ≤ a5))
                  have n8_ := uZ ((by rw [hg]; exact (yB (uC HB.out ak.out)) : w.heap.size ≤ a5))
                  have n9_ := uZ ((by rw [hg]; exact Nat.ne_of_lt (zZ (g := aa) (o := .cells #[.slice b0 ae.length co7, .slice aq ad.length co9, .slice (some ag) ac.length ai, .int .i64 ah] 27 (0, 0)) (uK a6.out)) : aa ≠ a5))
                  have n10_ := uZ ((by rw [hg]; exact Nat.ne_of_gt (zZ (g := aa) (o := .cells #[.slice b0 ae.length co7, .slice aq ad.length co9, .slice (some ag) ac.length ai, .int .i64 ah] 27 (0, 0)) (uK a6.out)) : a5 ≠ aa))
                  clear af
                  clear a4
                  clear a3
                  clear a2
                  clear a6
                  clear HB
                  have af := n0_
                  have a4 := n1_
                  have a3 := n2_
                  have a2 := n3_
                  have a6 := n4_
                  have HB := n5_
                  have ab := n6_
                  have bx := n7_
                  have b4 := n8_
                  have a8 := n9_
                  have al := n10_
                  clear n0_ n1_ n2_ n3_ n4_ n5_ n6_ n7_ n8_ n9_ n10_
                  clear hb hbox hg
                  refine hK.out _ _ ⟨(zV a6.out 0).trans rfl, (zV a6.out 1).trans rfl, (zV a6.out 2).trans rfl, (zV a6.out 3).trans rfl, HS4_⟩ (fun hHeld => ?_)
                  clear hK K
                  refine norm_ (a' := ?_) ?_ ?_
                  rotate_left
                  ·show Act.put _ (some 15) _ = _
                   simp only [Act.put, yE, yF, yG, i64_w, i32_w]
                   rfl
                  exact norm_ (by simp only [putAll, Act.put, yE, yF, yG]) (hCont (a5) _ ⟨hHeld, (uR a4.out), (uR a3.out), (uR a2.out), (uR af.out), (uK a6.out), (uK ab.out), bx.out, b4.out, a8.out, al.out, (uD HB.out ak.out b4.out)⟩)
                 skip
                 refine box_step ?hg (N := 15) ?hd (cs := #[.int .i64 0, .int .i64 0, .int .i64 0, .int .i64 0]) (t := 44) ?hr ?_; (case hd => rfl); (case hg => rfl); (case hr => first | (go_simp; done) | (go_simp; rfl))
                 intro a5 hg w93 hbox hb
                 have HS4_ := (hb.cell (yD _ _ (hHeld.2.2.2.2))).trans (hHeld.2.2.2.2)
                 have n0_ := uZ (zE (uR af.out) hb)
                 have n1_ := uZ (zE (uR a4.out) hb)
                 have n2_ := uZ (zE (uR a3.out) hb)
                 have n3_ := uZ (zE (uR a2.out) hb)
                 have n4_ := uZ (zY (g := aa) (o := .cells #[.slice b0 ae.length co7, .slice aq ad.length co9, .slice (some ag) ac.length ai, .int .i64 ah] 27 (0, 0)) (uK a6.out) hb)
                 have n5_ := uZ (yC (uC HB.out ak.out) hb)
                 have n6_ := uZ (hbox)
                 have n7_ := uZ ((by rw [hg]; exact (yB (uC HB.out ak.out)) : w.heap.size ≤ a5))
                 have n8_ := uZ ((by rw [hg]; exact (yB (uC HB.out ak.out)) : w.heap.size ≤ a5))
                 have n9_ := uZ ((by rw [hg]; exact Nat.ne_of_lt (zZ (g := aa) (o := .cells #[.slice b0 ae.length co7, .slice aq ad.length co9, .slice (some ag) ac.length ai, .int .i64 ah] 27 (0, 0)) (uK a6.out)) : aa ≠ a5))
                 have n10_ := uZ ((by rw [hg]; exact Nat.ne_of_gt (zZ (g := aa) (o := .cells #[.slice b0 ae.length co7, .slice aq ad.length co9, .slice (some ag) ac.length ai, .int .i64 ah] 27 (0, 0)) (uK a6.out)) : a5 ≠ aa))
                 clear af
                 clear a4
                 clear a3
                 clear a2
                 clear a6
                 clear HB
                 have af := n0_
                 have a4 := n1_
                 have a3 := n2_
                 have a2 := n3_
                 have a6 := n4_
                 have HB := n5_
                 have ab := n6_
                 have bx := n7_
                 have b4 := n8_
                 have a8 := n9_
                 have al := n10_
                 clear n0_ n1_ n2_ n3_ n4_ n5_ n6_ n7_ n8_ n9_ n10_
                 clear hb hbox hg
                 refine hK.out _ _ ⟨(zV a6.out 0).trans rfl, (zV a6.out 1).trans rfl, (zV a6.out 2).trans rfl, (zV a6.out 3).trans rfl, HS4_⟩ (fun hHeld => ?_)
                 clear hK K
                 refine norm_ (a' := ?_) ?_ ?_
                 rotate_left
                 ·show Act.put _ (some 15) _ = _
                  simp only [Act.put, yE, yF, yG, i64_w, i32_w]
                  rfl
                 refine one_ (i := 6) (N := some 131) #[true, true, true, true, true, true, true, false, false, false, true, false, false] rfl rfl (one_of HT_.out (by kernel_rfl)) (by decide) (fun K hK => ?_)
                 refine goes_ Tryd.func33 (by kernel_rfl) rfl #[.agg #[.slice b0 ae.length co7, .slice aq ad.length co9, .slice (some ag) ac.length ai, .int .i64 ah], .int .i64 (rd ac a9)] (by rfl) rfl rfl (by (try simp only [yJ, List.map_cons, List.map_nil]); first | done | rfl | (simp only [yK, yL]; rfl)) ?_
                 with_reducible refine (switchbacklaw17_code.calls kj57 _ _ ae _ _ ad _ _ ac ah (rd ac a9) an ao ap ar false _ ?side1 ?side2 ?side3 ?side4 ?side5 ?side6 (uZ (hLaid_.out.below (by repeat (first | (with_reducible first | exact HB.out | apply zS | apply zR | apply zT) | refine yA ?_ (Aside0.out (by assumption)) | exact HB.out)))) A68.out).mono ?_
                 (case side1 => repeat (first | exact (zI a4.out).2.2 | (with_reducible refine zJ ?_ _) | (with_reducible refine zK ?_ _) | (with_reducible refine zL ?_)))
                 (case side2 => exact (zI a4.out).2.1)
                 (case side3 => repeat (first | exact (zI a3.out).2.2 | (with_reducible refine zJ ?_ _) | (with_reducible refine zK ?_ _) | (with_reducible refine zL ?_)))
                 (case side4 => exact (zI a3.out).2.1)
                 (case side5 => repeat (first | exact (zI a2.out).2.2 | (with_reducible refine zJ ?_ _) | (with_reducible refine zK ?_ _) | (with_reducible refine zL ?_)))
                 (case side6 => exact (zI a2.out).2.1)
                 rintro e w94 ⟨rfl, hb⟩
                 have HS4_ := (hb.cell (yD _ _ (hHeld.2.2.2.2))).trans (hHeld.2.2.2.2)
                 refine ⟨_, rfl, ?_⟩
                 have n0_ := uZ (zE (uR af.out) hb)
                 have n1_ := uZ (zE (uR a4.out) hb)
                 have n2_ := uZ (zE (uR a3.out) hb)
                 have n3_ := uZ (zE (uR a2.out) hb)
                 have n4_ := uZ (zY (g := aa) (o := .cells #[.slice b0 ae.length co7, .slice aq ad.length co9, .slice (some ag) ac.length ai, .int .i64 ah] 27 (0, 0)) (uK a6.out) hb)
                 have n5_ := uZ (zY (g := a5) (o := .cells #[.int .i64 0, .int .i64 0, .int .i64 0, .int .i64 0] 44 (0, 0)) (uK ab.out) hb)
                 have n6_ := uZ (yC (uD HB.out ak.out b4.out) hb)
                 clear af
                 clear a4
                 clear a3
                 clear a2
                 clear a6
                 clear ab
                 clear HB
                 have af := n0_
                 have a4 := n1_
                 have a3 := n2_
                 have a2 := n3_
                 have a6 := n4_
                 have ab := n5_
                 have HB := n6_
                 clear n0_ n1_ n2_ n3_ n4_ n5_ n6_
                 (try clear hb)
                 (try clear hb2)
                 (try clear hk)
                 (try clear hi)
                 refine hK.out _ _ ⟨(zV a6.out 0).trans rfl, (zV a6.out 1).trans rfl, (zV a6.out 2).trans rfl, (zV a6.out 3).trans rfl, HS4_⟩ (fun hHeld => ?_)
                 clear hK K
                 refine norm_ (a' := ?_) ?_ ?_
                 rotate_left
                 ·show Act.put _ (some 131) _ = _
                  simp only [Act.put, yE, yF, yG, i64_w, i32_w]
                  rfl
                 refine pure_ (i := 7) (N := some 124) (v := ?_) (a' := ?_) #[true, true, true, true, true, true, true, true, false, false, true, false, false] rfl rfl (yI HT_.out (by kernel_rfl)) (fun _ _ _ h => h) (Or.inl ⟨by rfl, ?_⟩) ?_ ?_
                 rotate_left
                 ·intro w'
                  go_simp
                  with_reducible rfl
                 rotate_left
                 ·simp only [Act.put, yE, yF, yG, i64_w, i32_w]
                  rfl
                 refine pure_ (i := 8) (N := some 132) (v := ?_) (a' := ?_) #[true, true, true, true, true, true, true, true, true, false, true, false, false] rfl rfl (yI HT_.out (by kernel_rfl)) (fun _ _ _ h => h) (Or.inl ⟨by rfl, ?_⟩) ?_ ?_
                 rotate_left
                 ·intro w'
                  go_simp
                  with_reducible rfl
                 rotate_left
                 ·simp only [Act.put, yE, yF, yG, i64_w, i32_w]
                  rfl
                 refine pure_ (i := 9) (N := some 133) (v := ?_) (a' := ?_) #[true, true, true, true, true, true, true, true, true, true, true, false, false] rfl rfl (yI HT_.out (by kernel_rfl)) (fun _ _ _ h => h) (Or.inl ⟨by rfl, ?_⟩) ?_ ?_
                 rotate_left
                 ·intro w'
                  go_simp
                  with_reducible rfl
                 rotate_left
                 ·simp only [Act.put, yE, yF, yG, i64_w, i32_w]
                  rfl
                 exact norm_ (by simp only [putAll, Act.put, yE, yF, yG]) (hCont (a5) _ ⟨hHeld, (uR a4.out), (uR a3.out), (uR a2.out), (uR af.out), (uK a6.out), (uK ab.out), bx.out, b4.out, a8.out, al.out, (uD HB.out ak.out b4.out)⟩)
                rintro a5 w95 ⟨hS_, h0_, h1_, h2_, h3_, h4_, h5_, h6_, h7_, h8_, h9_, h10_⟩
                have n0_ : Aside0 (Kd.R (Kd.int .u32) 38 w95 w.heap.size (fun _ => True) (.slice b0 ae.length co7) ae) := ⟨h0_⟩
                have n1_ : Aside0 (Kd.R (Kd.int .i64) 3 w95 w.heap.size (fun k_ => some k_ ≠ (.slice (some ag) ac.length ai : Value).ownBlock) (.slice aq ad.length co9) ad) := ⟨h1_⟩
                have n2_ : Aside0 (Kd.R (Kd.int .i64) 3 w95 w.heap.size (fun k_ => some k_ ≠ (.slice aq ad.length co9 : Value).ownBlock) (.slice (some ag) ac.length ai) ac) := ⟨h2_⟩
                have n3_ : Aside0 (Kd.R Kd.bool 4 w95 w.heap.size (fun _ => True) (.slice c9 aj.length ca) aj) := ⟨h3_⟩
                have n4_ : Aside0 (w95.heap[aa]? = some (.cells #[.slice b0 ae.length co7, .slice aq ad.length co9, .slice (some ag) ac.length ai, .int .i64 ah] 27 (0, 0))) := ⟨h4_⟩
                have n5_ : Aside0 (w95.heap[a5]? = some (.cells #[.int .i64 0, .int .i64 0, .int .i64 0, .int .i64 0] 44 (0, 0))) := ⟨h5_⟩
                have n6_ : Aside0 (w.heap.size ≤ a5) := ⟨h6_⟩
                have n7_ : Aside0 (w.heap.size ≤ a5) := ⟨h7_⟩
                have n8_ : Aside0 (aa ≠ a5) := ⟨h8_⟩
                have n9_ : Aside0 (a5 ≠ aa) := ⟨h9_⟩
                have n10_ : Aside0 (Below w.heap.size w w95) := ⟨h10_⟩
                clear af
                clear a4
                clear a3
                clear a2
                clear a6
                clear HB
                clear h0_ h1_ h2_ h3_ h4_ h5_ h6_ h7_ h8_ h9_ h10_
                have a4 := n0_
                have a3 := n1_
                have a2 := n2_
                have af := n3_
                have a6 := n4_
                have ab := n5_
                have bx := n6_
                have b4 := n7_
                have a8 := n8_
                have al := n9_
                have HB := n10_
                clear n0_ n1_ n2_ n3_ n4_ n5_ n6_ n7_ n8_ n9_ n10_
                have hHeld : w95.cell? ⟨aa, 0, none⟩ = some (.slice b0 ae.length co7) ∧ w95.cell? ⟨aa, 1, none⟩ = some (.slice aq ad.length co9) ∧ w95.cell? ⟨aa, 2, none⟩ = some (.slice (some ag) ac.length ai) ∧ w95.cell? ⟨aa, 3, none⟩ = some (.int .i64 ah) ∧ w95.cell? (ag.add (a9).toNat) = some (.int .i64 (rd ac a9)) := hS_
                refine norm_ (a' := ?_) ?_ ?_
                rotate_left
                ·simp only [putAll, Act.put, yE, yF, yG]
                 rfl
                refine one_ (i := 11) (N := none) #[true, true, true, true, true, true, true, true, true, true, true, true, false] rfl rfl (one_of HT_.out (by kernel_rfl)) (by decide) (fun K hK => ?_)
                have hs96 : w95.cell? ⟨a5, 0, none⟩ = some (.int .i64 0) := (zV ab.out 0).trans rfl
                have hfs96 := zU ab.out 0
                have hns96_0 := a8.out
                have hms96_0 := al.out
                have hs97 : w95.cell? ⟨a5, 1, none⟩ = some (.int .i64 0) := (zV ab.out 1).trans rfl
                have hfs97 := zU ab.out 1
                have hns97_0 := a8.out
                have hms97_0 := al.out
                have hs98 : w95.cell? ⟨a5, 2, none⟩ = some (.int .i64 0) := (zV ab.out 2).trans rfl
                have hfs98 := zU ab.out 2
                have hns98_0 := a8.out
                have hms98_0 := al.out
                have hs99 : w95.cell? ⟨a5, 3, none⟩ = some (.int .i64 0) := (zV ab.out 3).trans rfl
                have hfs99 := zU ab.out 3
                have hns99_0 := a8.out
                have hms99_0 := al.out
                refine skip_ (w1 := ?_) (by rfl) rfl ?_ ?_
                rotate_left
                ·go_simp
                 rfl
                refine hK.out _ _ ⟨((yH (p := ⟨a5, _, none⟩) a8.out _).trans (((yH (p := ⟨a5, _, none⟩) a8.out _).trans (((yH (p := ⟨a5, _, none⟩) a8.out _).trans (((yH (p := ⟨a5, _, none⟩) a8.out _).trans (hHeld.1)))))))), ((yH (p := ⟨a5, _, none⟩) a8.out _).trans (((yH (p := ⟨a5, _, none⟩) a8.out _).trans (((yH (p := ⟨a5, _, none⟩) a8.out _).trans (((yH (p := ⟨a5, _, none⟩) a8.out _).trans (hHeld.2.1)))))))), ((yH (p := ⟨a5, _, none⟩) a8.out _).trans (((yH (p := ⟨a5, _, none⟩) a8.out _).trans (((yH (p := ⟨a5, _, none⟩) a8.out _).trans (((yH (p := ⟨a5, _, none⟩) a8.out _).trans (hHeld.2.2.1)))))))), ((yH (p := ⟨a5, _, none⟩) a8.out _).trans (((yH (p := ⟨a5, _, none⟩) a8.out _).trans (((yH (p := ⟨a5, _, none⟩) a8.out _).trans (((yH (p := ⟨a5, _, none⟩) a8.out _).trans (hHeld.2.2.2.1)))))))), ((yH (p := ⟨a5, _, none⟩) (by first | exact zM (zN a2.out ab.out (by decide)) | (rw [add_block]; exact zM (zN a2.out ab.out (by decide))) | (show (Addr.add _ _).block ≠ _; rw [add_block]; exact zM (zN a2.out ab.out (by decide))) | (dsimp only; exact zM (zN a2.out ab.out (by decide)))) _).trans (((yH (p := ⟨a5, _, none⟩) (by first | exact zM (zN a2.out ab.out (by decide)) | (rw [add_block]; exact zM (zN a2.out ab.out (by decide))) | (show (Addr.add _ _).block ≠ _; rw [add_block]; exact zM (zN a2.out ab.out (by decide))) | (dsimp only; exact zM (zN a2.out ab.out (by decide)))) _).trans (((yH (p := ⟨a5, _, none⟩) (by first | exact zM (zN a2.out ab.out (by decide)) | (rw [add_block]; exact zM (zN a2.out ab.out (by decide))) | (show (Addr.add _ _).block ≠ _; rw [add_block]; exact zM (zN a2.out ab.out (by decide))) | (dsimp only; exact zM (zN a2.out ab.out (by decide)))) _).trans (((yH (p := ⟨a5, _, none⟩) (by first | exact zM (zN a2.out ab.out (by decide)) | (rw [add_block]; exact zM (zN a2.out ab.out (by decide))) | (show (Addr.add _ _).block ≠ _; rw [add_block]; exact zM (zN a2.out ab.out (by decide))) | (dsimp only; exact zM (zN a2.out ab.out (by decide)))) _).trans (hHeld.2.2.2.2))))))))⟩ (fun hHeld => ?_)
                clear hK K
                refine pure_ (i := 12) (N := some 16) (v := ?_) (a' := ?_) #[true, true, true, true, true, true, true, true, true, true, true, true, true] rfl rfl (yI HT_.out (by kernel_rfl)) (fun _ _ _ h => h) (Or.inl ⟨by rfl, ?_⟩) ?_ ?_
                rotate_left
                ·intro w'
                 go_simp
                 with_reducible rfl
                rotate_left
                ·simp only [Act.put, yE, yF, yG, i64_w, i32_w]
                 rfl
                refine done_ (done_of HT_.out (by kernel_rfl)) ?_
                try go_wp2
                have n0_ : Aside0 (Kd.R Kd.bool 4 ((((w95.setCell ⟨a5, 0, none⟩ (.int .i64 an)).setCell ⟨a5, 1, none⟩ (.int .i64 ao)).setCell ⟨a5, 2, none⟩ (.int .i64 ap)).setCell ⟨a5, 3, none⟩ (.int .i64 ar)) w.heap.size (fun _ => True) (.slice c9 aj.length ca) aj) := ⟨by (with_reducible repeat (first | apply zA | apply zB | apply zC)); exact zF (zD (p := ⟨a5, 3, none⟩) (zD (p := ⟨a5, 2, none⟩) (zD (p := ⟨a5, 1, none⟩) (zD (p := ⟨a5, 0, none⟩) (zG af.out ab.out (by decide)) (fun _ hk => hk.2) (.int .i64 an)) (fun _ hk => hk.2) (.int .i64 ao)) (fun _ hk => hk.2) (.int .i64 ap)) (fun _ hk => hk.2) (.int .i64 ar)) (fun _ hk => trivial)⟩
                have n1_ : Aside0 (Kd.R (Kd.int .u32) 38 ((((w95.setCell ⟨a5, 0, none⟩ (.int .i64 an)).setCell ⟨a5, 1, none⟩ (.int .i64 ao)).setCell ⟨a5, 2, none⟩ (.int .i64 ap)).setCell ⟨a5, 3, none⟩ (.int .i64 ar)) w.heap.size (fun _ => True) (.slice b0 ae.length co7) ae) := ⟨by (with_reducible repeat (first | apply zA | apply zB | apply zC)); exact zF (zD (p := ⟨a5, 3, none⟩) (zD (p := ⟨a5, 2, none⟩) (zD (p := ⟨a5, 1, none⟩) (zD (p := ⟨a5, 0, none⟩) (zG a4.out ab.out (by decide)) (fun _ hk => hk.2) (.int .i64 an)) (fun _ hk => hk.2) (.int .i64 ao)) (fun _ hk => hk.2) (.int .i64 ap)) (fun _ hk => hk.2) (.int .i64 ar)) (fun _ hk => trivial)⟩
                have n2_ : Aside0 (Kd.R (Kd.int .i64) 3 ((((w95.setCell ⟨a5, 0, none⟩ (.int .i64 an)).setCell ⟨a5, 1, none⟩ (.int .i64 ao)).setCell ⟨a5, 2, none⟩ (.int .i64 ap)).setCell ⟨a5, 3, none⟩ (.int .i64 ar)) w.heap.size (fun k_ => some k_ ≠ (.slice (some ag) ac.length ai : Value).ownBlock) (.slice aq ad.length co9) ad) := ⟨by (with_reducible repeat (first | apply zA | apply zB | apply zC)); exact zF (zD (p := ⟨a5, 3, none⟩) (zD (p := ⟨a5, 2, none⟩) (zD (p := ⟨a5, 1, none⟩) (zD (p := ⟨a5, 0, none⟩) (zG a3.out ab.out (by decide)) (fun _ hk => hk.2) (.int .i64 an)) (fun _ hk => hk.2) (.int .i64 ao)) (fun _ hk => hk.2) (.int .i64 ap)) (fun _ hk => hk.2) (.int .i64 ar)) (fun _ hk => hk.1)⟩
                have n3_ : Aside0 (Kd.R (Kd.int .i64) 3 ((((w95.setCell ⟨a5, 0, none⟩ (.int .i64 an)).setCell ⟨a5, 1, none⟩ (.int .i64 ao)).setCell ⟨a5, 2, none⟩ (.int .i64 ap)).setCell ⟨a5, 3, none⟩ (.int .i64 ar)) w.heap.size (fun k_ => some k_ ≠ (.slice aq ad.length co9 : Value).ownBlock) (.slice (some ag) ac.length ai) ac) := ⟨by (with_reducible repeat (first | apply zA | apply zB | apply zC)); exact zF (zD (p := ⟨a5, 3, none⟩) (zD (p := ⟨a5, 2, none⟩) (zD (p := ⟨a5, 1, none⟩) (zD (p := ⟨a5, 0, none⟩) (zG a2.out ab.out (by decide)) (fun _ hk => hk.2) (.int .i64 an)) (fun _ hk => hk.2) (.int .i64 ao)) (fun _ hk => hk.2) (.int .i64 ap)) (fun _ hk => hk.2) (.int .i64 ar)) (fun _ hk => hk.1)⟩
                have n4_ : Aside0 (((((w95.setCell ⟨a5, 0, none⟩ (.int .i64 an)).setCell ⟨a5, 1, none⟩ (.int .i64 ao)).setCell ⟨a5, 2, none⟩ (.int .i64 ap)).setCell ⟨a5, 3, none⟩ (.int .i64 ar)).heap[aa]? = some (.cells #[.slice b0 ae.length co7, .slice aq ad.length co9, .slice (some ag) ac.length ai, .int .i64 ah] 27 (0, 0))) := ⟨by (with_reducible repeat (first | apply zO | apply zP | apply zQ)); refine zX ?_ a8.out _; (with_reducible repeat (first | apply zO | apply zP | apply zQ)); refine zX ?_ a8.out _; (with_reducible repeat (first | apply zO | apply zP | apply zQ)); refine zX ?_ a8.out _; (with_reducible repeat (first | apply zO | apply zP | apply zQ)); refine zX ?_ a8.out _; (with_reducible repeat (first | apply zO | apply zP | apply zQ)); exact a6.out⟩
                have n5_ : Aside0 (((((w95.setCell ⟨a5, 0, none⟩ (.int .i64 an)).setCell ⟨a5, 1, none⟩ (.int .i64 ao)).setCell ⟨a5, 2, none⟩ (.int .i64 ap)).setCell ⟨a5, 3, none⟩ (.int .i64 ar)).heap[a5]? = some (.cells #[.int .i64 an, .int .i64 ao, .int .i64 ap, .int .i64 ar] 44 (0, 0))) := ⟨by (with_reducible repeat (first | apply zO | apply zP | apply zQ)); refine zW (cs := #[.int .i64 an, .int .i64 ao, .int .i64 ap, .int .i64 0]) ?_ 3 _ rfl; (with_reducible repeat (first | apply zO | apply zP | apply zQ)); refine zW (cs := #[.int .i64 an, .int .i64 ao, .int .i64 0, .int .i64 0]) ?_ 2 _ rfl; (with_reducible repeat (first | apply zO | apply zP | apply zQ)); refine zW (cs := #[.int .i64 an, .int .i64 0, .int .i64 0, .int .i64 0]) ?_ 1 _ rfl; (with_reducible repeat (first | apply zO | apply zP | apply zQ)); refine zW (cs := #[.int .i64 0, .int .i64 0, .int .i64 0, .int .i64 0]) ?_ 0 _ rfl; (with_reducible repeat (first | apply zO | apply zP | apply zQ)); exact ab.out⟩
                have n6_ : Aside0 (Below w.heap.size w ((((w95.setCell ⟨a5, 0, none⟩ (.int .i64 an)).setCell ⟨a5, 1, none⟩ (.int .i64 ao)).setCell ⟨a5, 2, none⟩ (.int .i64 ap)).setCell ⟨a5, 3, none⟩ (.int .i64 ar))) := ⟨uD HB.out ak.out b4.out⟩
                (try clear af)
                (try clear a4)
                (try clear a3)
                (try clear a2)
                (try clear a6)
                (try clear ab)
                (try clear HB)
                generalize ((((w95.setCell ⟨a5, 0, none⟩ (.int .i64 an)).setCell ⟨a5, 1, none⟩ (.int .i64 ao)).setCell ⟨a5, 2, none⟩ (.int .i64 ap)).setCell ⟨a5, 3, none⟩ (.int .i64 ar)) = w100 at n0_ n1_ n2_ n3_ n4_ n5_ n6_ ⊢
                have af := n0_
                have a4 := n1_
                have a3 := n2_
                have a2 := n3_
                have a6 := n4_
                have ab := n5_
                have HB := n6_
                clear n0_ n1_ n2_ n3_ n4_ n5_ n6_
                have n0_ := uZ (zC af.out)
                have n1_ := uZ (zC a4.out)
                have n2_ := uZ (zC a3.out)
                have n3_ := uZ (zC a2.out)
                have n4_ := uZ (zP a6.out)
                have n5_ := uZ (zP ab.out)
                have n6_ := uZ (zT HB.out)
                clear af
                clear a4
                clear a3
                clear a2
                clear a6
                clear ab
                clear HB
                have af := n0_
                have a4 := n1_
                have a3 := n2_
                have a2 := n3_
                have a6 := n4_
                have ab := n5_
                have HB := n6_
                clear n0_ n1_ n2_ n3_ n4_ n5_ n6_
                refine start_ (n := 12) (S := fun w' => True) (ds := []) #[false, false, false, false, false, false, false, false, false, false, false, false] (by kernel_rfl) rfl rfl trivial (fun hHeld => ?_); refine with_tabW switchbacklaw17_RelaxLeast.tab20 switchbacklaw17_RelaxLeast.bits20 (fun HT_ HW_ => ?_)
                generalize w100.drew = w101 at af a4 a3 a2 a6 ab HB hHeld ⊢
                refine pure_ (i := 0) (N := some 134) (v := ?_) (a' := ?_) #[true, false, false, false, false, false, false, false, false, false, false, false] rfl rfl (yI HT_.out (by kernel_rfl)) (fun _ _ _ h => h) (Or.inl ⟨by rfl, ?_⟩) ?_ ?_
                rotate_left
                ·intro w'
                 go_simp
                 with_reducible rfl
                rotate_left
                ·simp only [Act.put, yE, yF, yG, i64_w, i32_w]
                 rfl
                refine pure_ (i := 1) (N := some 135) (v := ?_) (a' := ?_) #[true, true, false, false, false, false, false, false, false, false, false, false] rfl rfl (yI HT_.out (by kernel_rfl)) (fun _ _ _ h => h) (Or.inl ⟨by rfl, ?_⟩) ?_ ?_
                rotate_left
                ·intro w'
                 go_simp
                 with_reducible rfl
                rotate_left
                ·simp only [Act.put, yE, yF, yG, i64_w, i32_w]
                 rfl
                refine pure_ (i := 2) (N := some 136) (v := ?_) (a' := ?_) #[true, true, true, false, false, false, false, false, false, false, false, false] rfl rfl (yI HT_.out (by kernel_rfl)) (fun _ _ _ h => h) (Or.inl ⟨by rfl, ?_⟩) ?_ ?_
                rotate_left
                ·intro w'
                 go_simp
                 with_reducible rfl
                rotate_left
                ·simp only [Act.put, yE, yF, yG, i64_w, i32_w]
                 rfl
                refine pure_ (i := 3) (N := some 137) (v := undef) (a' := ?_) #[true, true, true, true, false, false, false, false, false, false, false, false] rfl rfl (yI HT_.out (by kernel_rfl)) (fun _ _ _ h => h) (Or.inr ⟨by rfl, rfl⟩) ?_ ?_
                rotate_left
                ·simp only [Act.put, yE, yF, yG, i64_w, i32_w]
                 rfl
                refine pure_ (i := 4) (N := some 138) (v := undef) (a' := ?_) #[true, true, true, true, true, false, false, false, false, false, false, false] rfl rfl (yI HT_.out (by kernel_rfl)) (fun _ _ _ h => h) (Or.inr ⟨by rfl, rfl⟩) ?_ ?_
                rotate_left
                ·simp only [Act.put, yE, yF, yG, i64_w, i32_w]
                 rfl
                refine pure_ (i := 5) (N := some 139) (v := undef) (a' := ?_) #[true, true, true, true, true, true, false, false, false, false, false, false] rfl rfl (yI HT_.out (by kernel_rfl)) (fun _ _ _ h => h) (Or.inr ⟨by rfl, rfl⟩) ?_ ?_
                rotate_left
                ·simp only [Act.put, yE, yF, yG, i64_w, i32_w]
                 rfl
                refine pure_ (i := 6) (N := some 140) (v := undef) (a' := ?_) #[true, true, true, true, true, true, true, false, false, false, false, false] rfl rfl (yI HT_.out (by kernel_rfl)) (fun _ _ _ h => h) (Or.inr ⟨by rfl, rfl⟩) ?_ ?_
                rotate_left
                ·simp only [Act.put, yE, yF, yG, i64_w, i32_w]
                 rfl
                refine pure_ (i := 7) (N := some 141) (v := undef) (a' := ?_) #[true, true, true, true, true, true, true, true, false, false, false, false] rfl rfl (yI HT_.out (by kernel_rfl)) (fun _ _ _ h => h) (Or.inr ⟨by rfl, rfl⟩) ?_ ?_
                rotate_left
                ·simp only [Act.put, yE, yF, yG, i64_w, i32_w]
                 rfl
                refine pure_ (i := 8) (N := some 142) (v := undef) (a' := ?_) #[true, true, true, true, true, true, true, true, true, false, false, false] rfl rfl (yI HT_.out (by kernel_rfl)) (fun _ _ _ h => h) (Or.inr ⟨by rfl, rfl⟩) ?_ ?_
                rotate_left
                ·simp only [Act.put, yE, yF, yG, i64_w, i32_w]
                 rfl
                refine pure_ (i := 9) (N := some 143) (v := undef) (a' := ?_) #[true, true, true, true, true, true, true, true, true, true, false, false] rfl rfl (yI HT_.out (by kernel_rfl)) (fun _ _ _ h => h) (Or.inr ⟨by rfl, rfl⟩) ?_ ?_
                rotate_left
                ·simp only [Act.put, yE, yF, yG, i64_w, i32_w]
                 rfl
                refine pure_ (i := 10) (N := some 144) (v := undef) (a' := ?_) #[true, true, true, true, true, true, true, true, true, true, true, false] rfl rfl (yI HT_.out (by kernel_rfl)) (fun _ _ _ h => h) (Or.inr ⟨by rfl, rfl⟩) ?_ ?_
                rotate_left
                ·simp only [Act.put, yE, yF, yG, i64_w, i32_w]
                 rfl
                refine pure_ (i := 11) (N := some 145) (v := ?_) (a' := ?_) #[true, true, true, true, true, true, true, true, true, true, true, true] rfl rfl (yI HT_.out (by kernel_rfl)) (fun _ _ _ h => h) (Or.inl ⟨by rfl, ?_⟩) ?_ ?_
                rotate_left
                ·intro w'
                 go_simp
                 with_reducible rfl
                rotate_left
                ·simp only [Act.put, yE, yF, yG, i64_w, i32_w]
                 rfl
                refine done_ (done_of HT_.out (by kernel_rfl)) ?_
                try go_wp2
                go_ret
                exact ⟨by first | rfl | (simp [errW_none, errW_some] <;> rfl) | (simp [*, errW_none, errW_some] <;> rfl), by repeat (first | (with_reducible first | exact HB.out | apply zS | apply zR | apply zT | refine yA ?_ ak.out | refine yA ?_ b4.out) | exact HB.out)⟩
               rw [if_neg c67] at H
               exact absurd H (by simp)
              rw [if_neg c66] at H
              exact absurd H (by simp)
           rw [if_neg c57] at H
           have c57b0 : decide (a9 < (l0.length : Int)) = false := decide_eq_false c57
           clear c57
           replace H := Option.bind_eq_some_iff.mp H
           obtain ⟨t354, A1020, H⟩ := H
           replace H : (some t354) = some r := H
           have A102 := uZ A1020
           clear A1020
           obtain rfl := Option.some.inj H
           go_wp2_with (first | ((with_reducible refine gate_callee (f := 21) rfl ?_); refine goesL_ (some 146) rfl rfl Tryd.func21 (by kernel_rfl) rfl #[] rfl (by (try simp only [yJ, List.map_cons, List.map_nil]); first | done | rfl | (simp only [yK, yL]; rfl)) ?_; (with_reducible refine (switchbacklaw17_live.calls  t354 _ (uZ (hLaid_.out.below (by repeat (first | (with_reducible first | exact HB.out | apply zS | apply zR | apply zT) | refine yA ?_ (Aside0.out (by assumption)) | exact HB.out)))) A102.out).mono ?_); rintro e w103 ⟨rfl, hb⟩; refine ⟨_, rfl, ?_⟩; have n0_ := uZ (zE (uR af.out) hb); have n1_ := uZ (zE (uR a4.out) hb); have n2_ := uZ (zE (uR a3.out) hb); have n3_ := uZ (zE (uR a2.out) hb); have n4_ := uZ (zY (g := aa) (o := .cells #[.slice b0 ae.length co7, .slice aq ad.length co9, .slice b3 ac.length ai, .int .i64 ah] 27 (0, 0)) (uK a6.out) hb); have n5_ := uZ (yC (uC HB.out ak.out) hb); clear af; clear a4; clear a3; clear a2; clear a6; clear HB; have af := n0_; have a4 := n1_; have a3 := n2_; have a2 := n3_; have a6 := n4_; have HB := n5_; clear n0_ n1_ n2_ n3_ n4_ n5_; (try clear hb); (try clear hb2); (try clear hk); (try clear hi)))
           go_ret
           exact ⟨by first | rfl | (simp [errW_none, errW_some] <;> rfl) | (simp [*, errW_none, errW_some] <;> rfl), by repeat (first | (with_reducible first | exact HB.out | apply zS | apply zR | apply zT | refine yA ?_ ak.out) | exact HB.out)⟩
    rw [if_neg c20] at H
    exact absurd H (by simp)
   rw [if_neg c19] at H
   exact absurd H (by simp)

end Go.Proofs.YtamimnaafiphcaaDoor.PR1C
