-- Written by gp.py for this claim.
import Derived.Test.YtamimnaafiphcaaDoorPR1DZ
import Derived.Test.YtamimnaafiphcaaDoorPR1Dx33
import Derived.Test.YtamimnaafiphcaaDoorPR1Dx38
import Derived.Test.YtamimnaafiphcaaDoorPR1Dd39
namespace Go.Proofs.YtamimnaafiphcaaDoor.PR1D
open Go.RowKit Go.Proofs.YtamimnaafiphcaaDoorW.PrintWords Go.Proofs.YtamimnaafiphcaaDoorW.PrintLast Go.Proofs.YtamimnaafiphcaaDoorW.PrintMore
attribute [local go_sem] max2_int min2_int max_two min_two max_three min_three max_four min_four   -- for this text's walks alone
set_option linter.unusedVariables false
set_option linter.unusedSimpArgs false

namespace q_switchbackref17_Assemble
theorem uZ {p : Prop} (h : p) : Aside0 p := ⟨h⟩
theorem uR {p q : Prop} (h : p) (g : p → q := by intro h; (with_reducible repeat (first | apply Kd.R_alloc | apply Kd.R_drewN | apply Kd.R_drew)); exact h) : q := g h
theorem uK {p q : Prop} (h : p) (g : p → q := by intro h; (with_reducible repeat (first | apply blk_drewN | apply blk_drew | apply blk_alloc)); exact h) : q := g h
theorem uB {p q : Prop} (h : p) (g : p → q := by intro h; repeat (first | (with_reducible first | exact h | apply below_alloc | apply pw_below_drewN | apply below_drew1) | exact h)) : q := g h
theorem uC {p q s : Prop} (h : p) (j : s) (g : p → s → q := by intro h j; repeat (first | (with_reducible first | exact h | apply below_alloc | apply pw_below_drewN | apply below_drew1 | refine below_set ?_ j) | exact h)) : q := g h j
theorem uD {p q s r : Prop} (h : p) (j : s) (k : r) (g : p → s → r → q := by intro h j k; repeat (first | (with_reducible first | exact h | apply below_alloc | apply pw_below_drewN | apply below_drew1 | refine below_set ?_ j | refine below_set ?_ k) | exact h)) : q := g h j k
theorem uA {p : Prop} [Decidable p] (h : decide p = true := by first | (with_reducible assumption) | assumption) : p := of_decide_eq_true h
theorem zA : type_of% @Kd.R_alloc := @Kd.R_alloc
theorem zB : type_of% @Kd.R_drewN := @Kd.R_drewN
theorem zC : type_of% @Kd.R_drew := @Kd.R_drew
theorem zD : type_of% @Kd.R_far := @Kd.R_far
theorem zE : type_of% @Kd.R_below := @Kd.R_below
theorem zF : type_of% @Kd.R_mono := @Kd.R_mono
theorem zG : type_of% @Kd.R_types := @Kd.R_types
theorem zH : type_of% @Kd.R_lt := @Kd.R_lt
theorem zI : type_of% @Kd.R_over' := @Kd.R_over'
theorem zJ : type_of% @Kd.R_slice := @Kd.R_slice
theorem zK : type_of% @Kd.R_reads' := @Kd.R_reads'
theorem zL : type_of% @Kd.C_alloc := @Kd.C_alloc
theorem zM : type_of% @Kd.C_drewN := @Kd.C_drewN
theorem zN : type_of% @Kd.C_drew := @Kd.C_drew
theorem zO : type_of% @blk_drewN := @blk_drewN
theorem zP : type_of% @blk_drew := @blk_drew
theorem zQ : type_of% @blk_alloc := @blk_alloc
theorem zR : type_of% @below_drew1 := @below_drew1
theorem zS : type_of% @blk_frozen := @blk_frozen
theorem zT : type_of% @blk_cell := @blk_cell
theorem zU : type_of% @blk_put := @blk_put
theorem zV : type_of% @blk_below := @blk_below
theorem zW : type_of% @below_size := @below_size
theorem zX : type_of% @below_step := @below_step
theorem zY : type_of% @World.block_lt_of_cell? := @World.block_lt_of_cell?
theorem zZ : type_of% @List.setIfInBounds_toArray := @List.setIfInBounds_toArray
theorem yA : type_of% @List.set_cons_zero := @List.set_cons_zero
theorem yB : type_of% @List.set_cons_succ := @List.set_cons_succ
theorem yC : type_of% @any_of := @any_of
theorem yD : type_of% @List.map_toArray := @List.map_toArray
theorem yE : type_of% @List.length_drop := @List.length_drop
theorem yF : type_of% @List.length_take := @List.length_take
end q_switchbackref17_Assemble
open q_switchbackref17_Assemble

def switchbackref17_Assemble.T13 : Bool × List (List Nat × List Nat) := (true, [([], []), ([0], [0]), ([1], [1]), ([1], [1]), ([2, 3, 1], [1, 2, 3]), ([4, 1], [1, 4]), ([5, 1], [1, 5]), ([1, 6], [1, 6]), ([7, 1], [7]), ([8], [8]), ([8], [8]), ([8], [8]), ([10, 11, 8], [8, 10, 11]), ([12, 8], [8, 12]), ([13, 8], [8, 13]), ([9, 14, 8], [8, 9, 14]), ([15, 8], [8, 15]), ([8], [8]), ([8], [8]), ([17, 18, 8], [8, 17, 18]), ([19, 8], [8, 19]), ([16, 20, 8], [8, 16, 20]), ([21, 8], [8, 21]), ([22, 8, 8], [8, 22]), ([23, 8], [8, 23]), ([8, 24], [8, 24])])
def switchbackref17_Assemble.B13 : List Nat := [0, 1, 3, 3, 15, 31, 63, 127, 255, 511, 511, 511, 3583, 7679, 15871, 32767, 65535, 511, 511, 393727, 918015, 2097151, 4194303, 8388607, 16777215, 33554431]
theorem switchbackref17_Assemble.tab13 : rtab .any (opsOf Tryd.f20 13) = switchbackref17_Assemble.T13 := by kernel_rfl
theorem switchbackref17_Assemble.bits13 : waitsOk switchbackref17_Assemble.T13.2 switchbackref17_Assemble.B13 = true := by kernel_rfl
def switchbackref17_Assemble.T23 : Bool × List (List Nat × List Nat) := (true, [([], []), ([], []), ([0, 1], [0, 1]), ([2], [2]), ([], []), ([], []), ([4, 5], [4, 5]), ([6], [6]), ([], []), ([], []), ([8, 9], [8, 9]), ([10], [10]), ([], []), ([3, 7, 11, 12], [3, 7, 11, 12]), ([13], [13]), ([14], [14]), ([14], [14]), ([15, 13, 0, 1, 2, 3, 4, 5, 6, 7, 8, 9, 10, 11, 12, 13, 14, 15], [15]), ([16, 17, 0, 1, 2, 3, 4, 5, 6, 7, 8, 9, 10, 11, 12, 13, 14, 15, 16, 17], [16])])
def switchbackref17_Assemble.B23 : List Nat := [0, 0, 3, 7, 0, 0, 48, 112, 0, 0, 768, 1792, 0, 8191, 16383, 32767, 32767, 65535, 262143]
theorem switchbackref17_Assemble.tab23 : rtab .any (opsOf Tryd.f20 23) = switchbackref17_Assemble.T23 := by kernel_rfl
theorem switchbackref17_Assemble.bits23 : waitsOk switchbackref17_Assemble.T23.2 switchbackref17_Assemble.B23 = true := by kernel_rfl
set_option maxHeartbeats 8000000 in
set_option maxRecDepth 100000 in
theorem switchbackref17_Assemble.calls (k : Nat) (A0 : Option Addr) (c0 : Nat) (l0 : List (S40)) (r1 : List Int) (r2 : List Int) (r3 : List Int) (r4 : Int) (r5 : Int) (r6 : Int) (w : World) (hr0 : Kd.C k40 w A0 l0.length l0) (hc0 : l0.length ≤ c0) (h : switchbackref17_Assemble.f k l0 = some (r1, r2, r3, r4, r5, r6)) :
    Calls Tryd.prog 20 #[.slice A0 l0.length c0] w fun e w' => ∃ v0_ v1_ v2_ : Value, e = .returned (.tuple #[.agg #[v0_, v1_, v2_, .int .i64 r4], .int .i64 r5, .int .i64 r6]) ∧ Kd.R (Kd.int .u32) 38 w' w.heap.size (fun _ => True) v0_ r1 ∧ Kd.R (Kd.int .i64) 3 w' w.heap.size (fun k_ => some k_ ≠ (v2_ : Value).ownBlock) v1_ r2 ∧ Kd.R (Kd.int .i64) 3 w' w.heap.size (fun k_ => some k_ ≠ (v1_ : Value).ownBlock) v2_ r3 ∧ Below w.heap.size w w' := by
 have hu27 := Tryd.underlying27
 have hu40 := Tryd.underlying40
 have HR0 := uZ hr0
 have HC0 := uZ hc0
 clear hr0 hc0
 have HB := uZ (Below.refl w.heap.size w)
 have H : ((switchbackref17_refused.f k l0).bind fun bt259 => (if bt259.2 = 0 then (if 0 ≤ (l0.length : Int) then (if ((l0.length : Int) : Int).toNat ≤ 281474976710656 then (switchbackref17_Assemble.l0 k l0 (List.replicate ((l0.length : Int) : Int).toNat false) ([] : List Int) ([] : List Int) 0) else (none)) else (none)) else (some (([] : List Int), ([] : List Int), ([] : List Int), 0, bt259.1, bt259.2)))) = some (r1, r2, r3, r4, r5, r6) := h
 clear h
 replace H := Option.bind_eq_some_iff.mp H
 obtain ⟨⟨t259, t260⟩, A20, H⟩ := H
 replace H : (if t260 = 0 then (if 0 ≤ (l0.length : Int) then (if ((l0.length : Int) : Int).toNat ≤ 281474976710656 then (switchbackref17_Assemble.l0 k l0 (List.replicate ((l0.length : Int) : Int).toNat false) ([] : List Int) ([] : List Int) 0) else (none)) else (none)) else (some (([] : List Int), ([] : List Int), ([] : List Int), 0, t259, t260))) = some (r1, r2, r3, r4, r5, r6) := H
 have A2 := uZ A20
 clear A20
 by_cases c3 : t260 = 0
 ·rw [if_pos c3] at H
  have c3b0 : (t260 == 0) = true := beq_iff_eq.mpr c3
  have c3b1 : (t260 != 0) = false := bne_eq_false_iff_eq.mpr c3
  clear c3
  by_cases c4 : 0 ≤ (l0.length : Int)
  ·rw [if_pos c4] at H
   have c4b0 := eq_true c4
   have c4b1 : decide (0 ≤ (l0.length : Int)) = true := decide_eq_true c4
   clear c4
   by_cases c5 : ((l0.length : Int) : Int).toNat ≤ 281474976710656
   ·rw [if_pos c5] at H
    have c5b0 := eq_true c5
    have c5b1 : decide (((l0.length : Int) : Int).toNat ≤ 281474976710656) = true := decide_eq_true c5
    clear c5
    obtain ⟨y261, hy261⟩ : ∃ y_ : List Bool, y_ = (List.replicate ((l0.length : Int) : Int).toNat false) := ⟨_, rfl⟩
    replace H : (switchbackref17_Assemble.l0 k l0 y261 ([] : List Int) ([] : List Int) 0) = some (r1, r2, r3, r4, r5, r6) := by first | (rw [hy261]; with_reducible exact H) | (have H2_ := (Option.bind_some _ _).symm.trans H; rw [hy261]; with_reducible exact H2_) | (have H2_ := (Option.bind_some _ _).symm.trans H; with_reducible exact H2_) | with_reducible exact H | (rw [hy261]; exact H) | exact H
    have Ny261 := uZ hy261
    clear hy261
    have H' := uZ H
    clear H
    go_enter Tryd.func20, Tryd.ntmps20
    go_wp2_with (first | ((with_reducible refine gate_dst (N := 2) rfl ?_); refine box_event ?hg (N := 2) ?hd (cs := #[.slice none 0 0, .slice none 0 0, .slice none 0 0, .int .i64 0]) (t := 27) ?hr ?_; (case hd => rfl); (case hg => rfl); (case hr => first | (go_simp; done) | (go_simp; rfl)); intro ae hg w6 hbox hb; have n0_ := uZ (zX (uB HB.out) hb); have n1_ := uZ (hbox); have n2_ := uZ ((by rw [hg]; exact (zW (uB HB.out)) : w.heap.size ≤ ae)); have n3_ := uZ ((by rw [hg]; exact (zW (uB HB.out)) : w.heap.size ≤ ae)); clear HB; have HB := n0_; have a6 := n1_; have GW258 := n2_; have am := n3_; clear n0_ n1_ n2_ n3_; clear hb hbox hg) | ((with_reducible refine gate_callee (f := 48) rfl ?_); refine goesL_ (some 20) rfl rfl Tryd.func48 (by kernel_rfl) rfl #[.slice A0 l0.length c0] rfl (by (try simp only [yD, List.map_cons, List.map_nil]); first | done | rfl | (simp only [yE, yF]; rfl)) ?_; (with_reducible refine (switchbackref17_refused.calls k _ _ l0 t259 t260 _ ?side1 ?side2 A2.out).mono ?_); (case side1 => repeat (first | exact (Kd.C_below HR0.out HB.out) | (with_reducible refine zL ?_ _) | (with_reducible refine zM ?_ _) | (with_reducible refine zN ?_))); (case side2 => exact HC0.out); rintro e w7 ⟨rfl, hb⟩; refine ⟨_, rfl, ?_⟩; have n0_ := uZ (zV (g := ae) (o := .cells #[.slice none 0 0, .slice none 0 0, .slice none 0 0, .int .i64 0] 27 (0, 0)) (uK a6.out) hb); have n1_ := uZ (zX (uC HB.out am.out) hb); clear a6; clear HB; have a6 := n0_; have HB := n1_; clear n0_ n1_; (try clear hb); (try clear hb2); (try clear hk); (try clear hi)) | ((with_reducible refine gate_dst (N := 30) rfl ?_); refine Kd.R_make Kd.bool _ 4 rfl (N := 30) rfl 46 _ _ rfl (l0.length : Int) rfl rfl Tryd.underlying46 (.bool false) 1 info4 rfl (by decide) (by omega) false (ok := fun _ => True) (okp := fun _ => True) rfl (fun _ hk => hk) trivial (uA) (Nat.le_trans (Nat.mul_le_mul_right _ (uA : (l0.length : Int).toNat ≤ 281474976710656)) (by omega)) (Below.refl _ _) (Nat.le_refl _) ?_; intro v262 w8 ho9 hb hg_ hnew_; clear hg_ hnew_; (first | rw [← Ny261.out] at ho9 | (simp only [Int.reduceToNat] at ho9; rw [← Ny261.out] at ho9)); have n0_ := uZ (Kd.R_lower ho9 (zW (uC HB.out am.out))); have n1_ := uZ (zV (g := ae) (o := .cells #[.slice none 0 0, .slice none 0 0, .slice none 0 0, .int .i64 0] 27 (0, 0)) (uK a6.out) hb); have n2_ := uZ (zX (uC HB.out am.out) hb); clear a6; clear HB; have HO263 := n0_; have a6 := n1_; have HB := n2_; clear n0_ n1_ n2_; clear hb ho9) | ((with_reducible refine gate_dst (N := 8) rfl ?_); refine box_event ?hg (N := 8) ?hd (cs := #[.slice none 0 0, .slice none 0 0, .slice none 0 0, .int .i64 0]) (t := 27) ?hr ?_; (case hd => rfl); (case hg => rfl); (case hr => first | (go_simp; done) | (go_simp; rfl)); intro a7 hg w10 hbox hb; have n0_ := uZ (zE (uR HO263.out) hb); have n1_ := uZ (zV (g := ae) (o := .cells #[.slice none 0 0, .slice none 0 0, .slice none 0 0, .int .i64 0] 27 (0, 0)) (uK a6.out) hb); have n2_ := uZ (zX (uC HB.out am.out) hb); have n3_ := uZ (hbox); have n4_ := uZ ((by rw [hg]; exact (zW (uC HB.out am.out)) : w.heap.size ≤ a7)); have n5_ := uZ ((by rw [hg]; exact (zW (uC HB.out am.out)) : w.heap.size ≤ a7)); have n6_ := uZ ((by rw [hg]; exact Nat.ne_of_lt (blk_lt (g := ae) (o := .cells #[.slice none 0 0, .slice none 0 0, .slice none 0 0, .int .i64 0] 27 (0, 0)) (uK a6.out)) : ae ≠ a7)); have n7_ := uZ ((by rw [hg]; exact Nat.ne_of_gt (blk_lt (g := ae) (o := .cells #[.slice none 0 0, .slice none 0 0, .slice none 0 0, .int .i64 0] 27 (0, 0)) (uK a6.out)) : a7 ≠ ae)); clear HO263; clear a6; clear HB; have HO263 := n0_; have a6 := n1_; have HB := n2_; have a1 := n3_; have GW264 := n4_; have ap := n5_; have ar := n6_; have a_ := n7_; clear n0_ n1_ n2_ n3_ n4_ n5_ n6_ n7_; clear hb hbox hg))
    (try go_simp)
    go_loopg [] k (fun kq w' => ∃ (x7_1 : List Bool) (ad : Int) (aa : List Int) (ab : List Int) (a3 : Int) (ag : Value) (a9 : Value), Aside0 (switchbackref17_Assemble.l0 kq l0 x7_1 aa ab a3 = some (r1, r2, r3, r4, r5, r6)) ∧ Aside0 (kq ≤ k) ∧ Aside0 (Kd.R Kd.bool 4 w' w.heap.size (fun _ => True) v262 x7_1) ∧ Aside0 (Kd.R (Kd.int .u32) 38 w' w.heap.size (fun _ => True) ag aa) ∧ Aside0 (Kd.R (Kd.int .i64) 3 w' w.heap.size (fun _ => True) a9 ab) ∧ Aside0 (w'.heap[ae]? = some (.cells #[(.slice none 0 0), (.slice none 0 0), (.slice none 0 0), .int .i64 ad] 27 (0, 0))) ∧ Aside0 (w'.heap[a7]? = some (.cells #[ag, a9, (.slice none 0 0), .int .i64 a3] 27 (0, 0))) ∧ Aside0 (Below w.heap.size w w'))
    case atStart => exact ⟨(y261), (0), (([] : List Int)), (([] : List Int)), (0), (.slice none 0 0), (.slice none 0 0), H', ⟨Nat.le_refl _⟩, ⟨uR HO263.out⟩, ⟨by first | exact Kd.R_nil _ _ _ _ _ | exact Kd.N_nil _ _ _ _ _ | exact Kd.V_nil _ _ _ _ _ | exact Kd.Q_nil _ _ _ _ _ | exact Kd.S_nil _ _ _ _ _⟩, ⟨by first | exact Kd.R_nil _ _ _ _ _ | exact Kd.N_nil _ _ _ _ _ | exact Kd.V_nil _ _ _ _ _ | exact Kd.Q_nil _ _ _ _ _ | exact Kd.S_nil _ _ _ _ _⟩, ⟨uK a6.out⟩, ⟨uK a1.out⟩, ⟨uD HB.out am.out ap.out⟩⟩
    case round =>
     clear H'
     try clear c2
     try clear p2
     try clear c3
     try clear c3b0
     try clear c3b1
     try clear c4
     try clear c4b0
     try clear c4b1
     try clear c5
     try clear c5b0
     try clear c5b1
     obtain ⟨x7_1, ad, aa, ab, a3, ag, a9, HA, HK1, ah, a5, a4, a6, a1, HB⟩ := hrel
     cases gk with
     | zero => exact absurd HA.out (by simp [switchbackref17_Assemble.l0])
     | succ k1 =>
      have H := HA.out
      clear HA
      simp only [switchbackref17_Assemble.l0] at H
      replace H := Option.bind_eq_some_iff.mp H
      obtain ⟨⟨ac, ay, ao⟩, A110, H⟩ := H
      replace H : (switchbackref17_Assemble.l1 k1 l0 x7_1 ac ay ao false 0 aa ab (wrap64 (a3 + 1))) = some (r1, r2, r3, r4, r5, r6) := H
      have A11 := uZ A110
      clear A110
      have H' := uZ H
      clear H
      obtain ⟨Ao12, co12, eo12⟩ := zJ ah.out
      subst eo12
      go_wp2_with (first | ((with_reducible refine gate_callee (f := 30) rfl ?_); refine goesL_ (some 34) rfl rfl Tryd.func30 (by kernel_rfl) rfl #[.slice A0 l0.length c0, .slice Ao12 x7_1.length co12] rfl (by (try simp only [yD, List.map_cons, List.map_nil]); first | done | rfl | (simp only [yE, yF]; rfl)) ?_; (with_reducible refine (switchbackref17_Places.calls k1 _ _ l0 _ _ x7_1 ac ay ao _ ?side1 ?side2 ?side3 ?side4 A11.out).mono ?_); (case side1 => repeat (first | exact (Kd.C_below HR0.out HB.out) | (with_reducible refine zL ?_ _) | (with_reducible refine zM ?_ _) | (with_reducible refine zN ?_))); (case side2 => exact HC0.out); (case side3 => repeat (first | exact (zK ah.out).2.2 | (with_reducible refine zL ?_ _) | (with_reducible refine zM ?_ _) | (with_reducible refine zN ?_))); (case side4 => exact (zK ah.out).2.1); rintro e w13 ⟨v268, v270, rfl, ho0, ho1, hb⟩; refine ⟨_, rfl, ?_⟩; have n0_ := uZ (zE (uR ah.out) hb); have n1_ := uZ (zE (uR a5.out) hb); have n2_ := uZ (zF (Kd.R_told (Kd.R_told (Kd.R_old (uR a4.out) hb) (Kd.R_base ho0)) (Kd.R_base ho1)) (fun _ h_ => h_.1)); have n3_ := uZ (Kd.R_lower (Kd.R_new' ho0 (zH (uR a4.out))) (zW (uD HB.out am.out ap.out))); have n4_ := uZ (Kd.R_lower (Kd.R_new' ho1 (zH (uR a4.out))) (zW (uD HB.out am.out ap.out))); have n5_ := uZ (zV (g := ae) (o := .cells #[.slice none 0 0, .slice none 0 0, .slice none 0 0, .int .i64 ad] 27 (0, 0)) (uK a6.out) hb); have n6_ := uZ (zV (g := a7) (o := .cells #[ag, a9, .slice none 0 0, .int .i64 a3] 27 (0, 0)) (uK a1.out) hb); have n7_ := uZ (zX (uD HB.out am.out ap.out) hb); clear ah; clear a5; clear a4; clear a6; clear a1; clear HB; have ah := n0_; have a5 := n1_; have a4 := n2_; have HO269 := n3_; have HO271 := n4_; have a6 := n5_; have a1 := n6_; have HB := n7_; clear n0_ n1_ n2_ n3_ n4_ n5_ n6_ n7_; (try clear hb); (try clear hb2); (try clear hk); (try clear hi); (try clear ho0); (try clear ho1); have hnb14 := a_.out; have hnc14 := ar.out; have hcz15_0 : w13.cell? ⟨a7, 0, none⟩ = some (ag) := (zT a1.out 0).trans rfl; have hcz15_1 : w13.cell? ⟨a7, 1, none⟩ = some (a9) := (zT a1.out 1).trans rfl; have hcz15_2 : w13.cell? ⟨a7, 2, none⟩ = some (.slice none 0 0) := (zT a1.out 2).trans rfl; have hcz15_3 : w13.cell? ⟨a7, 3, none⟩ = some (.int .i64 a3) := (zT a1.out 3).trans rfl; have hfz15_0 := zS a1.out 0; have hfz15_1 := zS a1.out 1; have hfz15_2 := zS a1.out 2; have hfz15_3 := zS a1.out 3))
      go_loopg [12, 13] k1 (fun kq v12 v13 w' => ∃ (al : List Bool) (au : Bool) (a2 : Int), v12 = .bool au ∧ v13 = .int .i64 a2 ∧ Aside0 (switchbackref17_Assemble.l1 kq l0 al ac ay ao au a2 aa ab (wrap64 (a3 + 1)) = some (r1, r2, r3, r4, r5, r6)) ∧ Aside0 (kq ≤ k1) ∧ Aside0 (Kd.R Kd.bool 4 w' w.heap.size (fun _ => True) (.slice Ao12 x7_1.length co12) al) ∧ Aside0 (Kd.R (Kd.int .i64) 3 w' w.heap.size (fun k_ => some k_ ≠ (v270 : Value).ownBlock ∧ some k_ ≠ (a9 : Value).ownBlock) v268 ac) ∧ Aside0 (Kd.R (Kd.int .i64) 3 w' w.heap.size (fun k_ => some k_ ≠ (v268 : Value).ownBlock ∧ some k_ ≠ (a9 : Value).ownBlock) v270 ao) ∧ Aside0 (Kd.R (Kd.int .u32) 38 w' w.heap.size (fun _ => True) ag aa) ∧ Aside0 (Kd.R (Kd.int .i64) 3 w' w.heap.size (fun k_ => some k_ ≠ (v268 : Value).ownBlock ∧ some k_ ≠ (v270 : Value).ownBlock) a9 ab) ∧ Aside0 (w'.heap[ae]? = some (.cells #[(.slice none 0 0), (.slice none 0 0), (.slice none 0 0), .int .i64 ad] 27 (0, 0))) ∧ Aside0 (w'.heap[a7]? = some (.cells #[ag, a9, (.slice none 0 0), .int .i64 (wrap64 (a3 + 1))] 27 (0, 0))) ∧ Aside0 (Below w.heap.size w w'))
      case atStart => exact ⟨(x7_1), (false), (0), (by first | rfl | (simp; done) | (simp [*]; done)), (by first | rfl | (simp; done) | (simp [*]; done)), H', ⟨Nat.le_refl _⟩, ⟨by (with_reducible repeat (first | apply zA | apply zB | apply zC)); exact zF (zD (p := ⟨a7, 3, none⟩) (zG ah.out a1.out (by decide)) (fun _ hk => hk.2) (.int .i64 (wrap64 (a3 + 1)))) (fun _ hk => trivial)⟩, ⟨by (with_reducible repeat (first | apply zA | apply zB | apply zC)); exact zF (zD (p := ⟨a7, 3, none⟩) (zG HO269.out a1.out (by decide)) (fun _ hk => hk.2) (.int .i64 (wrap64 (a3 + 1)))) (fun _ hk => ⟨hk.1.1, hk.1.2⟩)⟩, ⟨by (with_reducible repeat (first | apply zA | apply zB | apply zC)); exact zF (zD (p := ⟨a7, 3, none⟩) (zG HO271.out a1.out (by decide)) (fun _ hk => hk.2) (.int .i64 (wrap64 (a3 + 1)))) (fun _ hk => ⟨hk.1.1, hk.1.2⟩)⟩, ⟨by (with_reducible repeat (first | apply zA | apply zB | apply zC)); exact zF (zD (p := ⟨a7, 3, none⟩) (zG a5.out a1.out (by decide)) (fun _ hk => hk.2) (.int .i64 (wrap64 (a3 + 1)))) (fun _ hk => trivial)⟩, ⟨by (with_reducible repeat (first | apply zA | apply zB | apply zC)); exact zF (zD (p := ⟨a7, 3, none⟩) (zG a4.out a1.out (by decide)) (fun _ hk => hk.2) (.int .i64 (wrap64 (a3 + 1)))) (fun _ hk => ⟨hk.1.1.2, hk.1.2⟩)⟩, ⟨by (with_reducible repeat (first | apply zO | apply zP | apply zQ)); refine blk_far ?_ ar.out _; (with_reducible repeat (first | apply zO | apply zP | apply zQ)); exact a6.out⟩, ⟨by (with_reducible repeat (first | apply zO | apply zP | apply zQ)); refine zU (cs := #[ag, a9, .slice none 0 0, .int .i64 a3]) ?_ 3 _ rfl; (with_reducible repeat (first | apply zO | apply zP | apply zQ)); exact a1.out⟩, ⟨uD HB.out am.out ap.out⟩⟩
      case round =>
       clear H'
       try clear c1
       try clear c2
       try clear p2
       try clear c3
       try clear c3b0
       try clear c3b1
       try clear c4
       try clear c4b0
       try clear c4b1
       try clear c5
       try clear c5b0
       try clear c5b1
       try clear p6
       try clear c14
       try clear hcz15_0
       try clear hcz15_1
       try clear hcz15_2
       try clear hcz15_3
       try clear hfz15_0
       try clear hfz15_1
       try clear hfz15_2
       try clear hfz15_3
       try clear p2
       obtain ⟨al, au, a2, rfl, rfl, HA, HK2, ah, an, af, a5, a4, a6, a1, HB⟩ := hrel
       have hl7_2 := (zK ah.out).1
       rw [hl7_2] at ah
       (try simp only [hl7_2])
       (try simp only [hl7_2] at a6)
       (try simp only [hl7_2] at a1)
       (try simp only [hl7_2] at an)
       (try simp only [hl7_2] at af)
       (try simp only [hl7_2] at a5)
       (try simp only [hl7_2] at a4)
       cases gk with
       | zero => exact absurd HA.out (by simp [switchbackref17_Assemble.l1])
       | succ k2 =>
        have H := HA.out
        clear HA
        simp only [switchbackref17_Assemble.l1] at H
        by_cases c16 : a2 < (l0.length : Int)
        ·rw [if_pos c16] at H
         have c16b0 : decide (a2 < (l0.length : Int)) = true := decide_eq_true c16
         clear c16
         by_cases c17 : 0 ≤ a2
         ·rw [if_pos c17] at H
          have c17b0 : decide (0 ≤ a2) = true := decide_eq_true c17
          clear c17
          replace H := Option.bind_eq_some_iff.mp H
          obtain ⟨t273, A180, H⟩ := H
          replace H : (if t273 = true then (if a2 < (al.length : Int) then (if rdOf false al a2 = true then (switchbackref17_Assemble.j2 k2 l0 al ac ay ao au a2 false aa ab (wrap64 (a3 + 1))) else (if 0 ≤ ((rd_T40 l0 a2).f5) then (if ((rd_T40 l0 a2).f5) < (ao.length : Int) then (if a2 < (ac.length : Int) then ((switchbackref17_Near.f (wrap64 ((wrap64 ((rd ao ((rd_T40 l0 a2).f5)) - (rd ac a2))) - 1))).bind fun t278 => (switchbackref17_Assemble.j2 k2 l0 al ac ay ao au a2 (!t278) aa ab (wrap64 (a3 + 1)))) else (none)) else (none)) else (none))) else (none)) else (switchbackref17_Assemble.j2 k2 l0 al ac ay ao au a2 false aa ab (wrap64 (a3 + 1)))) = some (r1, r2, r3, r4, r5, r6) := H
          have A18 := uZ A180
          clear A180
          have HC19 := uZ H
          clear H
          have p272 : 0 ≤ (a2 : Int) := uA
          have q272 : a2 < (l0.length : Int) := uA
          obtain ⟨az, A272_6, c272_6, e272, hx272_0, hx272_1, hx272_2, hx272_3, hx272_4, hx272_5, hx272_6, hl272_6, hi272_6⟩ := at_T40 HR0.out a2 p272 q272
          cases e272
          replace hx272_0 := (HB.out.cell (zY w _ hx272_0)).trans hx272_0
          replace hx272_1 := (HB.out.cell (zY w _ hx272_1)).trans hx272_1
          replace hx272_2 := (HB.out.cell (zY w _ hx272_2)).trans hx272_2
          replace hx272_3 := (HB.out.cell (zY w _ hx272_3)).trans hx272_3
          replace hx272_4 := (HB.out.cell (zY w _ hx272_4)).trans hx272_4
          replace hx272_5 := (HB.out.cell (zY w _ hx272_5)).trans hx272_5
          replace hx272_6 := (HB.out.cell (zY w _ hx272_6)).trans hx272_6
          have HR272_6 := uZ hi272_6
          have HC272_6 := uZ hl272_6
          clear hi272_6 hl272_6
          replace p272 := eq_true p272
          replace q272 := eq_true q272
          go_upto_region 13 with (first | ((with_reducible refine gate_callee (f := 31) rfl ?_); refine goesL_ (some 52) rfl rfl Tryd.func31 (by kernel_rfl) rfl #[.agg #[.int .i64 ((rd_T40 l0 a2).f0), .int .i64 ((rd_T40 l0 a2).f1), .int .i64 ((rd_T40 l0 a2).f2), .int .i64 ((rd_T40 l0 a2).f3), .int .u32 ((rd_T40 l0 a2).f4), .int .i64 ((rd_T40 l0 a2).f5), .slice A272_6 ((rd_T40 l0 a2).f6).length c272_6]] rfl (by (try simp only [yD, List.map_cons, List.map_nil]); first | done | rfl | (simp only [yE, yF]; rfl)) ?_; (with_reducible refine (switchbackref17_Branch.calls ((rd_T40 l0 a2).f0) ((rd_T40 l0 a2).f1) ((rd_T40 l0 a2).f2) ((rd_T40 l0 a2).f3) ((rd_T40 l0 a2).f4) ((rd_T40 l0 a2).f5) _ _ ((rd_T40 l0 a2).f6) t273 _ ?side1 ?side2 A18.out).mono ?_); (case side1 => repeat (first | exact (Kd.C_below HR272_6.out HB.out) | (with_reducible refine zL ?_ _) | (with_reducible refine zM ?_ _) | (with_reducible refine zN ?_))); (case side2 => exact HC272_6.out); rintro e w20 ⟨rfl, hb⟩; refine ⟨_, rfl, ?_⟩; have n0_ := uZ (zE (uR ah.out) hb); have n1_ := uZ (zE (uR an.out) hb); have n2_ := uZ (zE (uR af.out) hb); have n3_ := uZ (zE (uR a5.out) hb); have n4_ := uZ (zE (uR a4.out) hb); have n5_ := uZ (zV (g := ae) (o := .cells #[.slice none 0 0, .slice none 0 0, .slice none 0 0, .int .i64 ad] 27 (0, 0)) (uK a6.out) hb); have n6_ := uZ (zV (g := a7) (o := .cells #[ag, a9, .slice none 0 0, .int .i64 (wrap64 (a3 + 1))] 27 (0, 0)) (uK a1.out) hb); have n7_ := uZ (zX (uD HB.out am.out ap.out) hb); clear ah; clear an; clear af; clear a5; clear a4; clear a6; clear a1; clear HB; have ah := n0_; have an := n1_; have af := n2_; have a5 := n3_; have a4 := n4_; have a6 := n5_; have a1 := n6_; have HB := n7_; clear n0_ n1_ n2_ n3_ n4_ n5_ n6_ n7_; (try clear hb); (try clear hb2); (try clear hk); (try clear hi)))
          (try simp only [Act.put, zZ, yA, yB])
          go_cut [78] (fun v78 wc => ∃ (kq : Nat) (x78_18 : Bool), v78 = .bool x78_18 ∧ Aside0 (switchbackref17_Assemble.j2 kq l0 al ac ay ao au a2 x78_18 aa ab (wrap64 (a3 + 1)) = some (r1, r2, r3, r4, r5, r6)) ∧ Aside0 (kq ≤ k2) ∧ Aside0 (Kd.R Kd.bool 4 wc w.heap.size (fun _ => True) (.slice Ao12 al.length co12) al) ∧ Aside0 (Kd.R (Kd.int .i64) 3 wc w.heap.size (fun k_ => some k_ ≠ (v270 : Value).ownBlock ∧ some k_ ≠ (a9 : Value).ownBlock) v268 ac) ∧ Aside0 (Kd.R (Kd.int .i64) 3 wc w.heap.size (fun k_ => some k_ ≠ (v268 : Value).ownBlock ∧ some k_ ≠ (a9 : Value).ownBlock) v270 ao) ∧ Aside0 (Kd.R (Kd.int .u32) 38 wc w.heap.size (fun _ => True) ag aa) ∧ Aside0 (Kd.R (Kd.int .i64) 3 wc w.heap.size (fun k_ => some k_ ≠ (v268 : Value).ownBlock ∧ some k_ ≠ (v270 : Value).ownBlock) a9 ab) ∧ Aside0 (wc.heap[ae]? = some (.cells #[(.slice none 0 0), (.slice none 0 0), (.slice none 0 0), .int .i64 ad] 27 (0, 0))) ∧ Aside0 (wc.heap[a7]? = some (.cells #[ag, a9, (.slice none 0 0), .int .i64 (wrap64 (a3 + 1))] 27 (0, 0))) ∧ Aside0 (Below w.heap.size w wc))
          case first =>
           have H := HC19.out
           clear HC19
           by_cases c21 : t273 = true
           ·subst c21
            have H1 : (if a2 < (al.length : Int) then (if rdOf false al a2 = true then (switchbackref17_Assemble.j2 k2 l0 al ac ay ao au a2 false aa ab (wrap64 (a3 + 1))) else (if 0 ≤ ((rd_T40 l0 a2).f5) then (if ((rd_T40 l0 a2).f5) < (ao.length : Int) then (if a2 < (ac.length : Int) then ((switchbackref17_Near.f (wrap64 ((wrap64 ((rd ao ((rd_T40 l0 a2).f5)) - (rd ac a2))) - 1))).bind fun t278 => (switchbackref17_Assemble.j2 k2 l0 al ac ay ao au a2 (!t278) aa ab (wrap64 (a3 + 1)))) else (none)) else (none)) else (none))) else (none)) = some (r1, r2, r3, r4, r5, r6) := by rw [if_pos rfl] at H; exact H
            clear H
            have H := H1
            clear H1
            by_cases c22 : a2 < (al.length : Int)
            ·rw [if_pos c22] at H
             have c22b0 : decide (a2 < (al.length : Int)) = true := decide_eq_true c22
             clear c22
             (first | rw [c22b0] | (simp only [i64_w, i32_w]; rw [c22b0]) | skip)
             obtain ⟨bq23, hbq23⟩ : ∃ b_ : Bool, b_ = (rdOf false al a2) := ⟨_, rfl⟩
             replace H : (if bq23 = true then (switchbackref17_Assemble.j2 k2 l0 al ac ay ao au a2 false aa ab (wrap64 (a3 + 1))) else (if 0 ≤ ((rd_T40 l0 a2).f5) then (if ((rd_T40 l0 a2).f5) < (ao.length : Int) then (if a2 < (ac.length : Int) then ((switchbackref17_Near.f (wrap64 ((wrap64 ((rd ao ((rd_T40 l0 a2).f5)) - (rd ac a2))) - 1))).bind fun t278 => (switchbackref17_Assemble.j2 k2 l0 al ac ay ao au a2 (!t278) aa ab (wrap64 (a3 + 1)))) else (none)) else (none)) else (none))) = some (r1, r2, r3, r4, r5, r6) := by rw [← hbq23] at H; exact H
             have Nbq23 := uZ hbq23
             clear hbq23
             by_cases c24 : bq23 = true
             ·subst c24
              have H1 : (switchbackref17_Assemble.j2 k2 l0 al ac ay ao au a2 false aa ab (wrap64 (a3 + 1))) = some (r1, r2, r3, r4, r5, r6) := by rw [if_pos rfl] at H; exact H
              clear H
              have H := H1
              clear H1
              have H' := uZ H
              clear H
              try go_wp2
              have n0_ := uZ (zC ah.out)
              have n1_ := uZ (zC an.out)
              have n2_ := uZ (zC af.out)
              have n3_ := uZ (zC a5.out)
              have n4_ := uZ (zC a4.out)
              have n5_ := uZ (zP a6.out)
              have n6_ := uZ (zP a1.out)
              have n7_ := uZ (zR HB.out)
              clear ah
              clear an
              clear af
              clear a5
              clear a4
              clear a6
              clear a1
              clear HB
              have ah := n0_
              have an := n1_
              have af := n2_
              have a5 := n3_
              have a4 := n4_
              have a6 := n5_
              have a1 := n6_
              have HB := n7_
              clear n0_ n1_ n2_ n3_ n4_ n5_ n6_ n7_
              have p274 : 0 ≤ (a2 : Int) := uA
              have q274 : a2 < (al.length : Int) := uA
              obtain ⟨ad274, e274, aw⟩ := Kd.at_bool (zK ah.out).2.2 a2 p274 q274
              (try rw [← Nbq23.out] at aw)
              cases e274
              replace p274 := eq_true p274
              replace q274 := eq_true q274
              refine start_ (n := 26) (S := fun w' => w'.cell? (ad274.add (a2).toNat) = some (.bool true)) (ds := []) #[false, false, false, false, false, false, false, false, false, false, false, false, false, false, false, false, false, false, false, false, false, false, false, false, false, false] (by kernel_rfl) rfl rfl (aw) (fun hHeld => ?_); refine with_tabW switchbackref17_Assemble.tab13 switchbackref17_Assemble.bits13 (fun HT_ HW_ => ?_)
              generalize w20.drew = w25 at ah an af a5 a4 a6 a1 HB aw hHeld ⊢
              refine pure_ (i := 0) (N := some 53) (v := ?_) (a' := ?_) #[true, false, false, false, false, false, false, false, false, false, false, false, false, false, false, false, false, false, false, false, false, false, false, false, false, false] rfl rfl (yC HT_.out (by kernel_rfl)) (fun _ _ _ h => h) (Or.inl ⟨by rfl, ?_⟩) ?_ ?_
              rotate_left
              ·intro w'
               go_simp
               with_reducible rfl
              rotate_left
              ·simp only [Act.put, zZ, yA, yB, i64_w, i32_w]
               rfl
              refine pure_ (i := 1) (N := some 54) (v := ?_) (a' := ?_) #[true, true, false, false, false, false, false, false, false, false, false, false, false, false, false, false, false, false, false, false, false, false, false, false, false, false] rfl rfl (yC HT_.out (by kernel_rfl)) (fun _ _ _ h => h) (Or.inl ⟨by rfl, ?_⟩) ?_ ?_
              rotate_left
              ·intro w'
               go_simp
               with_reducible rfl
              rotate_left
              ·simp only [Act.put, zZ, yA, yB, i64_w, i32_w]
               rfl
              refine pure_ (i := 2) (N := some 55) (v := ?_) (a' := ?_) #[true, true, true, false, false, false, false, false, false, false, false, false, false, false, false, false, false, false, false, false, false, false, false, false, false, false] rfl rfl (yC HT_.out (by kernel_rfl)) (fun _ _ _ h => h) (Or.inl ⟨by rfl, ?_⟩) ?_ ?_
              rotate_left
              ·intro w'
               go_simp
               with_reducible rfl
              rotate_left
              ·simp only [Act.put, zZ, yA, yB, i64_w, i32_w]
               rfl
              refine pure_ (i := 3) (N := some 56) (v := ?_) (a' := ?_) #[true, true, true, true, false, false, false, false, false, false, false, false, false, false, false, false, false, false, false, false, false, false, false, false, false, false] rfl rfl (yC HT_.out (by kernel_rfl)) (fun _ _ _ h => h) (Or.inl ⟨by rfl, ?_⟩) ?_ ?_
              rotate_left
              ·intro w'
               go_simp
               with_reducible rfl
              rotate_left
              ·simp only [Act.put, zZ, yA, yB, i64_w, i32_w]
               rfl
              refine pure_ (i := 4) (N := some 57) (v := ?_) (a' := ?_) #[true, true, true, true, true, false, false, false, false, false, false, false, false, false, false, false, false, false, false, false, false, false, false, false, false, false] rfl rfl (yC HT_.out (by kernel_rfl)) (fun _ _ _ h => h) (Or.inl ⟨by rfl, ?_⟩) ?_ ?_
              rotate_left
              ·intro w'
               go_simp
               with_reducible rfl
              rotate_left
              ·simp only [Act.put, zZ, yA, yB, i64_w, i32_w]
               rfl
              refine take_ (i := 5) (N := some 58) (v := ?_) (a' := ?_) #[true, true, true, true, true, true, false, false, false, false, false, false, false, false, false, false, false, false, false, false, false, false, false, false, false, false] rfl rfl (take_ofW HT_.out HW_.out (by kernel_rfl)) (fun _ _ _ h => h) (Or.inl ⟨by rfl, ?_⟩) hHeld ?_ ?_
              rotate_left
              ·intro w' s0
               go_simp
               with_reducible rfl
              rotate_left
              ·simp only [Act.put, zZ, yA, yB, i64_w, i32_w]
               rfl
              refine pure_ (i := 6) (N := some 59) (v := ?_) (a' := ?_) #[true, true, true, true, true, true, true, false, false, false, false, false, false, false, false, false, false, false, false, false, false, false, false, false, false, false] rfl rfl (yC HT_.out (by kernel_rfl)) (fun _ _ _ h => h) (Or.inl ⟨by rfl, ?_⟩) ?_ ?_
              rotate_left
              ·intro w'
               go_simp
               with_reducible rfl
              rotate_left
              ·simp only [Act.put, zZ, yA, yB, i64_w, i32_w]
               rfl
              refine pure_ (i := 7) (N := some 60) (v := ?_) (a' := ?_) #[true, true, true, true, true, true, true, true, false, false, false, false, false, false, false, false, false, false, false, false, false, false, false, false, false, false] rfl rfl (yC HT_.out (by kernel_rfl)) (fun _ _ _ h => h) (Or.inl ⟨by rfl, ?_⟩) ?_ ?_
              rotate_left
              ·intro w'
               go_simp
               with_reducible rfl
              rotate_left
              ·simp only [Act.put, zZ, yA, yB, i64_w, i32_w]
               rfl
              refine pure_ (i := 8) (N := some 61) (v := ?_) (a' := ?_) #[true, true, true, true, true, true, true, true, true, false, false, false, false, false, false, false, false, false, false, false, false, false, false, false, false, false] rfl rfl (yC HT_.out (by kernel_rfl)) (fun _ _ _ h => h) (Or.inl ⟨by rfl, ?_⟩) ?_ ?_
              rotate_left
              ·intro w'
               go_simp
               with_reducible rfl
              rotate_left
              ·simp only [Act.put, zZ, yA, yB, i64_w, i32_w]
               rfl
              refine pure_ (i := 9) (N := some 62) (v := undef) (a' := ?_) #[true, true, true, true, true, true, true, true, true, true, false, false, false, false, false, false, false, false, false, false, false, false, false, false, false, false] rfl rfl (yC HT_.out (by kernel_rfl)) (fun _ _ _ h => h) (Or.inr ⟨by rfl, rfl⟩) ?_ ?_
              rotate_left
              ·simp only [Act.put, zZ, yA, yB, i64_w, i32_w]
               rfl
              refine pure_ (i := 10) (N := some 63) (v := undef) (a' := ?_) #[true, true, true, true, true, true, true, true, true, true, true, false, false, false, false, false, false, false, false, false, false, false, false, false, false, false] rfl rfl (yC HT_.out (by kernel_rfl)) (fun _ _ _ h => h) (Or.inr ⟨by rfl, rfl⟩) ?_ ?_
              rotate_left
              ·simp only [Act.put, zZ, yA, yB, i64_w, i32_w]
               rfl
              refine pure_ (i := 11) (N := some 64) (v := undef) (a' := ?_) #[true, true, true, true, true, true, true, true, true, true, true, true, false, false, false, false, false, false, false, false, false, false, false, false, false, false] rfl rfl (yC HT_.out (by kernel_rfl)) (fun _ _ _ h => h) (Or.inr ⟨by rfl, rfl⟩) ?_ ?_
              rotate_left
              ·simp only [Act.put, zZ, yA, yB, i64_w, i32_w]
               rfl
              refine pure_ (i := 12) (N := some 65) (v := undef) (a' := ?_) #[true, true, true, true, true, true, true, true, true, true, true, true, true, false, false, false, false, false, false, false, false, false, false, false, false, false] rfl rfl (yC HT_.out (by kernel_rfl)) (fun _ _ _ h => h) (Or.inr ⟨by rfl, rfl⟩) ?_ ?_
              rotate_left
              ·simp only [Act.put, zZ, yA, yB, i64_w, i32_w]
               rfl
              refine pure_ (i := 13) (N := some 66) (v := undef) (a' := ?_) #[true, true, true, true, true, true, true, true, true, true, true, true, true, true, false, false, false, false, false, false, false, false, false, false, false, false] rfl rfl (yC HT_.out (by kernel_rfl)) (fun _ _ _ h => h) (Or.inr ⟨by rfl, rfl⟩) ?_ ?_
              rotate_left
              ·simp only [Act.put, zZ, yA, yB, i64_w, i32_w]
               rfl
              refine pure_ (i := 14) (N := some 67) (v := undef) (a' := ?_) #[true, true, true, true, true, true, true, true, true, true, true, true, true, true, true, false, false, false, false, false, false, false, false, false, false, false] rfl rfl (yC HT_.out (by kernel_rfl)) (fun _ _ _ h => h) (Or.inr ⟨by rfl, rfl⟩) ?_ ?_
              rotate_left
              ·simp only [Act.put, zZ, yA, yB, i64_w, i32_w]
               rfl
              refine pure_ (i := 15) (N := some 68) (v := undef) (a' := ?_) #[true, true, true, true, true, true, true, true, true, true, true, true, true, true, true, true, false, false, false, false, false, false, false, false, false, false] rfl rfl (yC HT_.out (by kernel_rfl)) (fun _ _ _ h => h) (Or.inr ⟨by rfl, rfl⟩) ?_ ?_
              rotate_left
              ·simp only [Act.put, zZ, yA, yB, i64_w, i32_w]
               rfl
              refine pure_ (i := 16) (N := some 69) (v := undef) (a' := ?_) #[true, true, true, true, true, true, true, true, true, true, true, true, true, true, true, true, true, false, false, false, false, false, false, false, false, false] rfl rfl (yC HT_.out (by kernel_rfl)) (fun _ _ _ h => h) (Or.inr ⟨by rfl, rfl⟩) ?_ ?_
              rotate_left
              ·simp only [Act.put, zZ, yA, yB, i64_w, i32_w]
               rfl
              refine pure_ (i := 17) (N := some 70) (v := undef) (a' := ?_) #[true, true, true, true, true, true, true, true, true, true, true, true, true, true, true, true, true, true, false, false, false, false, false, false, false, false] rfl rfl (yC HT_.out (by kernel_rfl)) (fun _ _ _ h => h) (Or.inr ⟨by rfl, rfl⟩) ?_ ?_
              rotate_left
              ·simp only [Act.put, zZ, yA, yB, i64_w, i32_w]
               rfl
              refine pure_ (i := 18) (N := some 71) (v := undef) (a' := ?_) #[true, true, true, true, true, true, true, true, true, true, true, true, true, true, true, true, true, true, true, false, false, false, false, false, false, false] rfl rfl (yC HT_.out (by kernel_rfl)) (fun _ _ _ h => h) (Or.inr ⟨by rfl, rfl⟩) ?_ ?_
              rotate_left
              ·simp only [Act.put, zZ, yA, yB, i64_w, i32_w]
               rfl
              refine pure_ (i := 19) (N := some 72) (v := undef) (a' := ?_) #[true, true, true, true, true, true, true, true, true, true, true, true, true, true, true, true, true, true, true, true, false, false, false, false, false, false] rfl rfl (yC HT_.out (by kernel_rfl)) (fun _ _ _ h => h) (Or.inr ⟨by rfl, rfl⟩) ?_ ?_
              rotate_left
              ·simp only [Act.put, zZ, yA, yB, i64_w, i32_w]
               rfl
              refine pure_ (i := 20) (N := some 73) (v := undef) (a' := ?_) #[true, true, true, true, true, true, true, true, true, true, true, true, true, true, true, true, true, true, true, true, true, false, false, false, false, false] rfl rfl (yC HT_.out (by kernel_rfl)) (fun _ _ _ h => h) (Or.inr ⟨by rfl, rfl⟩) ?_ ?_
              rotate_left
              ·simp only [Act.put, zZ, yA, yB, i64_w, i32_w]
               rfl
              refine pure_ (i := 21) (N := some 74) (v := undef) (a' := ?_) #[true, true, true, true, true, true, true, true, true, true, true, true, true, true, true, true, true, true, true, true, true, true, false, false, false, false] rfl rfl (yC HT_.out (by kernel_rfl)) (fun _ _ _ h => h) (Or.inr ⟨by rfl, rfl⟩) ?_ ?_
              rotate_left
              ·simp only [Act.put, zZ, yA, yB, i64_w, i32_w]
               rfl
              refine pure_ (i := 22) (N := some 75) (v := undef) (a' := ?_) #[true, true, true, true, true, true, true, true, true, true, true, true, true, true, true, true, true, true, true, true, true, true, true, false, false, false] rfl rfl (yC HT_.out (by kernel_rfl)) (fun _ _ _ h => h) (Or.inr ⟨by rfl, rfl⟩) ?_ ?_
              rotate_left
              ·simp only [Act.put, zZ, yA, yB, i64_w, i32_w]
               rfl
              refine pure_ (i := 23) (N := some 76) (v := undef) (a' := ?_) #[true, true, true, true, true, true, true, true, true, true, true, true, true, true, true, true, true, true, true, true, true, true, true, true, false, false] rfl rfl (yC HT_.out (by kernel_rfl)) (fun _ _ _ h => h) (Or.inr ⟨by rfl, rfl⟩) ?_ ?_
              rotate_left
              ·simp only [Act.put, zZ, yA, yB, i64_w, i32_w]
               rfl
              refine pure_ (i := 24) (N := some 77) (v := undef) (a' := ?_) #[true, true, true, true, true, true, true, true, true, true, true, true, true, true, true, true, true, true, true, true, true, true, true, true, true, false] rfl rfl (yC HT_.out (by kernel_rfl)) (fun _ _ _ h => h) (Or.inr ⟨by rfl, rfl⟩) ?_ ?_
              rotate_left
              ·simp only [Act.put, zZ, yA, yB, i64_w, i32_w]
               rfl
              refine pure_ (i := 25) (N := some 78) (v := ?_) (a' := ?_) #[true, true, true, true, true, true, true, true, true, true, true, true, true, true, true, true, true, true, true, true, true, true, true, true, true, true] rfl rfl (yC HT_.out (by kernel_rfl)) (fun _ _ _ h => h) (Or.inl ⟨by rfl, ?_⟩) ?_ ?_
              rotate_left
              ·intro w'
               go_simp
               with_reducible rfl
              rotate_left
              ·simp only [Act.put, zZ, yA, yB, i64_w, i32_w]
               rfl
              refine done_ (done_of HT_.out (by kernel_rfl)) ?_
              try go_wp2
              go_meet
              case rel => exact ⟨_, (false), (by first | rfl | (simp; done) | (simp [*]; done)), H', ⟨by have := HK1.out; have := HK2.out; first | omega | exact Nat.le_refl _⟩, ⟨by (try simp only [hl7_2]); (with_reducible repeat (first | apply zA | apply zB | apply zC)); exact ah.out⟩, ⟨by (try simp only [hl7_2]); (with_reducible repeat (first | apply zA | apply zB | apply zC)); exact an.out⟩, ⟨by (try simp only [hl7_2]); (with_reducible repeat (first | apply zA | apply zB | apply zC)); exact af.out⟩, ⟨by (try simp only [hl7_2]); (with_reducible repeat (first | apply zA | apply zB | apply zC)); exact a5.out⟩, ⟨by (try simp only [hl7_2]); (with_reducible repeat (first | apply zA | apply zB | apply zC)); exact a4.out⟩, ⟨by (try simp only [hl7_2]); (with_reducible repeat (first | apply zO | apply zP | apply zQ)); exact a6.out⟩, ⟨by (try simp only [hl7_2]); (with_reducible repeat (first | apply zO | apply zP | apply zQ)); exact a1.out⟩, ⟨uD HB.out am.out ap.out⟩⟩
             replace c24 := Bool.eq_false_iff.mpr c24
             subst c24
             have H1 : (if 0 ≤ ((rd_T40 l0 a2).f5) then (if ((rd_T40 l0 a2).f5) < (ao.length : Int) then (if a2 < (ac.length : Int) then ((switchbackref17_Near.f (wrap64 ((wrap64 ((rd ao ((rd_T40 l0 a2).f5)) - (rd ac a2))) - 1))).bind fun t278 => (switchbackref17_Assemble.j2 k2 l0 al ac ay ao au a2 (!t278) aa ab (wrap64 (a3 + 1)))) else (none)) else (none)) else (none)) = some (r1, r2, r3, r4, r5, r6) := by rw [if_neg (show ¬ (false = true) by decide)] at H; exact H
             clear H
             have H := H1
             clear H1
             by_cases c26 : 0 ≤ ((rd_T40 l0 a2).f5)
             ·rw [if_pos c26] at H
              have c26b0 : decide (0 ≤ ((rd_T40 l0 a2).f5)) = true := decide_eq_true c26
              clear c26
              by_cases c27 : ((rd_T40 l0 a2).f5) < (ao.length : Int)
              ·rw [if_pos c27] at H
               have c27b0 : decide (((rd_T40 l0 a2).f5) < (ao.length : Int)) = true := decide_eq_true c27
               clear c27
               by_cases c28 : a2 < (ac.length : Int)
               ·rw [if_pos c28] at H
                have c28b0 : decide (a2 < (ac.length : Int)) = true := decide_eq_true c28
                clear c28
                replace H := Option.bind_eq_some_iff.mp H
                obtain ⟨t278, A290, H⟩ := H
                replace H : (switchbackref17_Assemble.j2 k2 l0 al ac ay ao au a2 (!t278) aa ab (wrap64 (a3 + 1))) = some (r1, r2, r3, r4, r5, r6) := H
                have A29 := uZ A290
                clear A290
                have H' := uZ H
                clear H
                try go_wp2
                have n0_ := uZ (zC ah.out)
                have n1_ := uZ (zC an.out)
                have n2_ := uZ (zC af.out)
                have n3_ := uZ (zC a5.out)
                have n4_ := uZ (zC a4.out)
                have n5_ := uZ (zP a6.out)
                have n6_ := uZ (zP a1.out)
                have n7_ := uZ (zR HB.out)
                clear ah
                clear an
                clear af
                clear a5
                clear a4
                clear a6
                clear a1
                clear HB
                have ah := n0_
                have an := n1_
                have af := n2_
                have a5 := n3_
                have a4 := n4_
                have a6 := n5_
                have a1 := n6_
                have HB := n7_
                clear n0_ n1_ n2_ n3_ n4_ n5_ n6_ n7_
                have p274 : 0 ≤ (a2 : Int) := uA
                have q274 : a2 < (al.length : Int) := uA
                obtain ⟨ad274, e274, aw⟩ := Kd.at_bool (zK ah.out).2.2 a2 p274 q274
                (try rw [← Nbq23.out] at aw)
                cases e274
                replace p274 := eq_true p274
                replace q274 := eq_true q274
                have p275 : 0 ≤ (a2 : Int) := uA
                have q275 : a2 < (l0.length : Int) := uA
                obtain ⟨ad275, A275_6, c275_6, e275, b3, b4, b5, b6, b7, b8, b9, hl275_6, hi275_6⟩ := at_T40 HR0.out a2 p275 q275
                have hw275_6 := b9
                have hw275_5 := b8
                have hw275_4 := b7
                have hw275_3 := b6
                have hw275_2 := b5
                have hw275_1 := b4
                have hw275_0 := b3
                obtain rfl : az = ad275 := (by injection e275)
                replace b3 := (HB.out.cell (zY w _ b3)).trans b3
                replace b4 := (HB.out.cell (zY w _ b4)).trans b4
                replace b5 := (HB.out.cell (zY w _ b5)).trans b5
                replace b6 := (HB.out.cell (zY w _ b6)).trans b6
                replace b7 := (HB.out.cell (zY w _ b7)).trans b7
                replace b8 := (HB.out.cell (zY w _ b8)).trans b8
                replace b9 := (HB.out.cell (zY w _ b9)).trans b9
                have HR275_6 := uZ hi275_6
                have HC275_6 := uZ hl275_6
                clear hi275_6 hl275_6
                replace p275 := eq_true p275
                replace q275 := eq_true q275
                obtain ⟨Ao31, co31, eo31⟩ := zJ af.out
                (first | subst eo31 | (injection eo31 with f1_ f2_ f3_; have f4_ := f1_.symm; have f5_ := f3_.symm; clear f1_ f2_ f3_; subst f4_; subst f5_))
                have p276 : 0 ≤ (((rd_T40 l0 a2).f5) : Int) := uA
                have q276 : ((rd_T40 l0 a2).f5) < (ao.length : Int) := uA
                obtain ⟨ad276, e276, hx276_0⟩ := Kd.at_int (zK af.out).2.2 ((rd_T40 l0 a2).f5) p276 q276
                cases e276
                replace p276 := eq_true p276
                replace q276 := eq_true q276
                obtain ⟨Ao32, co32, eo32⟩ := zJ an.out
                (first | subst eo32 | (injection eo32 with f1_ f2_ f3_; have f4_ := f1_.symm; have f5_ := f3_.symm; clear f1_ f2_ f3_; subst f4_; subst f5_))
                have p277 : 0 ≤ (a2 : Int) := uA
                have q277 : a2 < (ac.length : Int) := uA
                obtain ⟨ad277, e277, hx277_0⟩ := Kd.at_int (zK an.out).2.2 a2 p277 q277
                cases e277
                replace p277 := eq_true p277
                replace q277 := eq_true q277
                refine start_ (n := 26) (S := fun w' => w'.cell? (ad274.add (a2).toNat) = some (.bool false) ∧ w'.cell? (az.add ((a2).toNat * 7)) = some (.int .i64 ((rd_T40 l0 a2).f0)) ∧ w'.cell? ⟨(az.add ((a2).toNat * 7)).block, (az.add ((a2).toNat * 7)).off + 1, none⟩ = some (.int .i64 ((rd_T40 l0 a2).f1)) ∧ w'.cell? ⟨(az.add ((a2).toNat * 7)).block, (az.add ((a2).toNat * 7)).off + 2, none⟩ = some (.int .i64 ((rd_T40 l0 a2).f2)) ∧ w'.cell? ⟨(az.add ((a2).toNat * 7)).block, (az.add ((a2).toNat * 7)).off + 3, none⟩ = some (.int .i64 ((rd_T40 l0 a2).f3)) ∧ w'.cell? ⟨(az.add ((a2).toNat * 7)).block, (az.add ((a2).toNat * 7)).off + 4, none⟩ = some (.int .u32 ((rd_T40 l0 a2).f4)) ∧ w'.cell? ⟨(az.add ((a2).toNat * 7)).block, (az.add ((a2).toNat * 7)).off + 5, none⟩ = some (.int .i64 ((rd_T40 l0 a2).f5)) ∧ w'.cell? ⟨(az.add ((a2).toNat * 7)).block, (az.add ((a2).toNat * 7)).off + 6, none⟩ = some (.slice A275_6 ((rd_T40 l0 a2).f6).length c275_6) ∧ w'.cell? (ad276.add (((rd_T40 l0 a2).f5)).toNat) = some (.int .i64 (rd ao ((rd_T40 l0 a2).f5))) ∧ w'.cell? (ad277.add (a2).toNat) = some (.int .i64 (rd ac a2))) (ds := []) #[false, false, false, false, false, false, false, false, false, false, false, false, false, false, false, false, false, false, false, false, false, false, false, false, false, false] (by kernel_rfl) rfl rfl ⟨aw, ((HB.out.cell (zY w _ hw275_0)).trans hw275_0), ((HB.out.cell (zY w _ hw275_1)).trans hw275_1), ((HB.out.cell (zY w _ hw275_2)).trans hw275_2), ((HB.out.cell (zY w _ hw275_3)).trans hw275_3), ((HB.out.cell (zY w _ hw275_4)).trans hw275_4), ((HB.out.cell (zY w _ hw275_5)).trans hw275_5), ((HB.out.cell (zY w _ hw275_6)).trans hw275_6), hx276_0, hx277_0⟩ (fun hHeld => ?_); refine with_tabW switchbackref17_Assemble.tab13 switchbackref17_Assemble.bits13 (fun HT_ HW_ => ?_)
                generalize w20.drew = w30 at ah an af a5 a4 a6 a1 HB HR275_6 aw b3 b4 b5 b6 b7 b8 b9 hx276_0 hx277_0 hHeld ⊢
                refine pure_ (i := 0) (N := some 53) (v := ?_) (a' := ?_) #[true, false, false, false, false, false, false, false, false, false, false, false, false, false, false, false, false, false, false, false, false, false, false, false, false, false] rfl rfl (yC HT_.out (by kernel_rfl)) (fun _ _ _ h => h) (Or.inl ⟨by rfl, ?_⟩) ?_ ?_
                rotate_left
                ·intro w'
                 go_simp
                 with_reducible rfl
                rotate_left
                ·simp only [Act.put, zZ, yA, yB, i64_w, i32_w]
                 rfl
                refine pure_ (i := 1) (N := some 54) (v := ?_) (a' := ?_) #[true, true, false, false, false, false, false, false, false, false, false, false, false, false, false, false, false, false, false, false, false, false, false, false, false, false] rfl rfl (yC HT_.out (by kernel_rfl)) (fun _ _ _ h => h) (Or.inl ⟨by rfl, ?_⟩) ?_ ?_
                rotate_left
                ·intro w'
                 go_simp
                 with_reducible rfl
                rotate_left
                ·simp only [Act.put, zZ, yA, yB, i64_w, i32_w]
                 rfl
                refine pure_ (i := 2) (N := some 55) (v := ?_) (a' := ?_) #[true, true, true, false, false, false, false, false, false, false, false, false, false, false, false, false, false, false, false, false, false, false, false, false, false, false] rfl rfl (yC HT_.out (by kernel_rfl)) (fun _ _ _ h => h) (Or.inl ⟨by rfl, ?_⟩) ?_ ?_
                rotate_left
                ·intro w'
                 go_simp
                 with_reducible rfl
                rotate_left
                ·simp only [Act.put, zZ, yA, yB, i64_w, i32_w]
                 rfl
                refine pure_ (i := 3) (N := some 56) (v := ?_) (a' := ?_) #[true, true, true, true, false, false, false, false, false, false, false, false, false, false, false, false, false, false, false, false, false, false, false, false, false, false] rfl rfl (yC HT_.out (by kernel_rfl)) (fun _ _ _ h => h) (Or.inl ⟨by rfl, ?_⟩) ?_ ?_
                rotate_left
                ·intro w'
                 go_simp
                 with_reducible rfl
                rotate_left
                ·simp only [Act.put, zZ, yA, yB, i64_w, i32_w]
                 rfl
                refine pure_ (i := 4) (N := some 57) (v := ?_) (a' := ?_) #[true, true, true, true, true, false, false, false, false, false, false, false, false, false, false, false, false, false, false, false, false, false, false, false, false, false] rfl rfl (yC HT_.out (by kernel_rfl)) (fun _ _ _ h => h) (Or.inl ⟨by rfl, ?_⟩) ?_ ?_
                rotate_left
                ·intro w'
                 go_simp
                 with_reducible rfl
                rotate_left
                ·simp only [Act.put, zZ, yA, yB, i64_w, i32_w]
                 rfl
                refine take_ (i := 5) (N := some 58) (v := ?_) (a' := ?_) #[true, true, true, true, true, true, false, false, false, false, false, false, false, false, false, false, false, false, false, false, false, false, false, false, false, false] rfl rfl (take_ofW HT_.out HW_.out (by kernel_rfl)) (fun _ _ _ h => h) (Or.inl ⟨by rfl, ?_⟩) hHeld ?_ ?_
                rotate_left
                ·rintro w' ⟨s0, s1, s2, s3, s4, s5, s6, s7, s8, s9⟩
                 go_simp
                 with_reducible rfl
                rotate_left
                ·simp only [Act.put, zZ, yA, yB, i64_w, i32_w]
                 rfl
                refine pure_ (i := 6) (N := some 59) (v := ?_) (a' := ?_) #[true, true, true, true, true, true, true, false, false, false, false, false, false, false, false, false, false, false, false, false, false, false, false, false, false, false] rfl rfl (yC HT_.out (by kernel_rfl)) (fun _ _ _ h => h) (Or.inl ⟨by rfl, ?_⟩) ?_ ?_
                rotate_left
                ·intro w'
                 go_simp
                 with_reducible rfl
                rotate_left
                ·simp only [Act.put, zZ, yA, yB, i64_w, i32_w]
                 rfl
                refine pure_ (i := 7) (N := some 60) (v := ?_) (a' := ?_) #[true, true, true, true, true, true, true, true, false, false, false, false, false, false, false, false, false, false, false, false, false, false, false, false, false, false] rfl rfl (yC HT_.out (by kernel_rfl)) (fun _ _ _ h => h) (Or.inl ⟨by rfl, ?_⟩) ?_ ?_
                rotate_left
                ·intro w'
                 go_simp
                 with_reducible rfl
                rotate_left
                ·simp only [Act.put, zZ, yA, yB, i64_w, i32_w]
                 rfl
                refine pure_ (i := 8) (N := some 61) (v := ?_) (a' := ?_) #[true, true, true, true, true, true, true, true, true, false, false, false, false, false, false, false, false, false, false, false, false, false, false, false, false, false] rfl rfl (yC HT_.out (by kernel_rfl)) (fun _ _ _ h => h) (Or.inl ⟨by rfl, ?_⟩) ?_ ?_
                rotate_left
                ·intro w'
                 go_simp
                 with_reducible rfl
                rotate_left
                ·simp only [Act.put, zZ, yA, yB, i64_w, i32_w]
                 rfl
                refine pure_ (i := 9) (N := some 62) (v := ?_) (a' := ?_) #[true, true, true, true, true, true, true, true, true, true, false, false, false, false, false, false, false, false, false, false, false, false, false, false, false, false] rfl rfl (yC HT_.out (by kernel_rfl)) (fun _ _ _ h => h) (Or.inl ⟨by rfl, ?_⟩) ?_ ?_
                rotate_left
                ·intro w'
                 go_simp
                 with_reducible rfl
                rotate_left
                ·simp only [Act.put, zZ, yA, yB, i64_w, i32_w]
                 rfl
                refine pure_ (i := 10) (N := some 63) (v := ?_) (a' := ?_) #[true, true, true, true, true, true, true, true, true, true, true, false, false, false, false, false, false, false, false, false, false, false, false, false, false, false] rfl rfl (yC HT_.out (by kernel_rfl)) (fun _ _ _ h => h) (Or.inl ⟨by rfl, ?_⟩) ?_ ?_
                rotate_left
                ·intro w'
                 go_simp
                 with_reducible rfl
                rotate_left
                ·simp only [Act.put, zZ, yA, yB, i64_w, i32_w]
                 rfl
                refine pure_ (i := 11) (N := some 64) (v := ?_) (a' := ?_) #[true, true, true, true, true, true, true, true, true, true, true, true, false, false, false, false, false, false, false, false, false, false, false, false, false, false] rfl rfl (yC HT_.out (by kernel_rfl)) (fun _ _ _ h => h) (Or.inl ⟨by rfl, ?_⟩) ?_ ?_
                rotate_left
                ·intro w'
                 go_simp
                 with_reducible rfl
                rotate_left
                ·simp only [Act.put, zZ, yA, yB, i64_w, i32_w]
                 rfl
                refine pure_ (i := 12) (N := some 65) (v := ?_) (a' := ?_) #[true, true, true, true, true, true, true, true, true, true, true, true, true, false, false, false, false, false, false, false, false, false, false, false, false, false] rfl rfl (yC HT_.out (by kernel_rfl)) (fun _ _ _ h => h) (Or.inl ⟨by rfl, ?_⟩) ?_ ?_
                rotate_left
                ·intro w'
                 go_simp
                 with_reducible rfl
                rotate_left
                ·simp only [Act.put, zZ, yA, yB, i64_w, i32_w]
                 rfl
                refine pure_ (i := 13) (N := some 66) (v := ?_) (a' := ?_) #[true, true, true, true, true, true, true, true, true, true, true, true, true, true, false, false, false, false, false, false, false, false, false, false, false, false] rfl rfl (yC HT_.out (by kernel_rfl)) (fun _ _ _ h => h) (Or.inl ⟨by rfl, ?_⟩) ?_ ?_
                rotate_left
                ·intro w'
                 go_simp
                 with_reducible rfl
                rotate_left
                ·simp only [Act.put, zZ, yA, yB, i64_w, i32_w]
                 rfl
                refine pure_ (i := 17) (N := some 70) (v := ?_) (a' := ?_) #[true, true, true, true, true, true, true, true, true, true, true, true, true, true, false, false, false, true, false, false, false, false, false, false, false, false] rfl rfl (yC HT_.out (by kernel_rfl)) (fun _ _ _ h => h) (Or.inl ⟨by rfl, ?_⟩) ?_ ?_
                rotate_left
                ·intro w'
                 go_simp
                 with_reducible rfl
                rotate_left
                ·simp only [Act.put, zZ, yA, yB, i64_w, i32_w]
                 rfl
                refine pure_ (i := 18) (N := some 71) (v := ?_) (a' := ?_) #[true, true, true, true, true, true, true, true, true, true, true, true, true, true, false, false, false, true, true, false, false, false, false, false, false, false] rfl rfl (yC HT_.out (by kernel_rfl)) (fun _ _ _ h => h) (Or.inl ⟨by rfl, ?_⟩) ?_ ?_
                rotate_left
                ·intro w'
                 go_simp
                 with_reducible rfl
                rotate_left
                ·simp only [Act.put, zZ, yA, yB, i64_w, i32_w]
                 rfl
                refine pure_ (i := 19) (N := some 72) (v := ?_) (a' := ?_) #[true, true, true, true, true, true, true, true, true, true, true, true, true, true, false, false, false, true, true, true, false, false, false, false, false, false] rfl rfl (yC HT_.out (by kernel_rfl)) (fun _ _ _ h => h) (Or.inl ⟨by rfl, ?_⟩) ?_ ?_
                rotate_left
                ·intro w'
                 go_simp
                 with_reducible rfl
                rotate_left
                ·simp only [Act.put, zZ, yA, yB, i64_w, i32_w]
                 rfl
                refine take_ (i := 14) (N := some 67) (v := ?_) (a' := ?_) #[true, true, true, true, true, true, true, true, true, true, true, true, true, true, true, false, false, true, true, true, false, false, false, false, false, false] rfl rfl (take_ofW HT_.out HW_.out (by kernel_rfl)) (fun _ _ _ h => h) (Or.inl ⟨by rfl, ?_⟩) hHeld ?_ ?_
                rotate_left
                ·rintro w' ⟨s0, s1, s2, s3, s4, s5, s6, s7, s8, s9⟩
                 go_simp
                 with_reducible rfl
                rotate_left
                ·simp only [Act.put, zZ, yA, yB, i64_w, i32_w]
                 rfl
                refine pure_ (i := 15) (N := some 68) (v := ?_) (a' := ?_) #[true, true, true, true, true, true, true, true, true, true, true, true, true, true, true, true, false, true, true, true, false, false, false, false, false, false] rfl rfl (yC HT_.out (by kernel_rfl)) (fun _ _ _ h => h) (Or.inl ⟨by rfl, ?_⟩) ?_ ?_
                rotate_left
                ·intro w'
                 go_simp
                 with_reducible rfl
                rotate_left
                ·simp only [Act.put, zZ, yA, yB, i64_w, i32_w]
                 rfl
                refine take_ (i := 16) (N := some 69) (v := ?_) (a' := ?_) #[true, true, true, true, true, true, true, true, true, true, true, true, true, true, true, true, true, true, true, true, false, false, false, false, false, false] rfl rfl (take_ofW HT_.out HW_.out (by kernel_rfl)) (fun _ _ _ h => h) (Or.inl ⟨by rfl, ?_⟩) hHeld ?_ ?_
                rotate_left
                ·rintro w' ⟨s0, s1, s2, s3, s4, s5, s6, s7, s8, s9⟩
                 go_simp
                 with_reducible rfl
                rotate_left
                ·simp only [Act.put, zZ, yA, yB, i64_w, i32_w]
                 rfl
                refine take_ (i := 20) (N := some 73) (v := ?_) (a' := ?_) #[true, true, true, true, true, true, true, true, true, true, true, true, true, true, true, true, true, true, true, true, true, false, false, false, false, false] rfl rfl (take_ofW HT_.out HW_.out (by kernel_rfl)) (fun _ _ _ h => h) (Or.inl ⟨by rfl, ?_⟩) hHeld ?_ ?_
                rotate_left
                ·rintro w' ⟨s0, s1, s2, s3, s4, s5, s6, s7, s8, s9⟩
                 go_simp
                 with_reducible rfl
                rotate_left
                ·simp only [Act.put, zZ, yA, yB, i64_w, i32_w]
                 rfl
                refine pure_ (i := 21) (N := some 74) (v := ?_) (a' := ?_) #[true, true, true, true, true, true, true, true, true, true, true, true, true, true, true, true, true, true, true, true, true, true, false, false, false, false] rfl rfl (yC HT_.out (by kernel_rfl)) (fun _ _ _ h => h) (Or.inl ⟨by rfl, ?_⟩) ?_ ?_
                rotate_left
                ·intro w'
                 go_simp
                 with_reducible rfl
                rotate_left
                ·simp only [Act.put, zZ, yA, yB, i64_w, i32_w]
                 rfl
                refine pure_ (i := 22) (N := some 75) (v := ?_) (a' := ?_) #[true, true, true, true, true, true, true, true, true, true, true, true, true, true, true, true, true, true, true, true, true, true, true, false, false, false] rfl rfl (yC HT_.out (by kernel_rfl)) (fun _ _ _ h => h) (Or.inl ⟨by rfl, ?_⟩) ?_ ?_
                rotate_left
                ·intro w'
                 go_simp
                 with_reducible rfl
                rotate_left
                ·simp only [Act.put, zZ, yA, yB, i64_w, i32_w]
                 rfl
                refine one_ (i := 23) (N := some 76) #[true, true, true, true, true, true, true, true, true, true, true, true, true, true, true, true, true, true, true, true, true, true, true, true, false, false] rfl rfl (one_of HT_.out (by kernel_rfl)) (by decide) (fun K hK => ?_)
                refine goes_ Tryd.func32 (by kernel_rfl) rfl #[.int .i64 (wrap64 ((wrap64 ((rd ao ((rd_T40 l0 a2).f5)) - (rd ac a2))) - 1))] (by rfl) rfl rfl (by (try simp only [yD, List.map_cons, List.map_nil]); first | done | rfl | (simp only [yE, yF]; rfl)) ?_
                with_reducible refine (switchbackref17_Near.calls (wrap64 ((wrap64 ((rd ao ((rd_T40 l0 a2).f5)) - (rd ac a2))) - 1)) t278 _ A29.out).mono ?_
                rintro e w' ⟨rfl, ⟨nd, rfl⟩⟩
                refine ⟨_, rfl, ?_⟩
                refine hK.out _ _ ⟨hHeld.1, ((HB.out.cell (zY w _ hw275_0)).trans hw275_0), ((HB.out.cell (zY w _ hw275_1)).trans hw275_1), ((HB.out.cell (zY w _ hw275_2)).trans hw275_2), ((HB.out.cell (zY w _ hw275_3)).trans hw275_3), ((HB.out.cell (zY w _ hw275_4)).trans hw275_4), ((HB.out.cell (zY w _ hw275_5)).trans hw275_5), ((HB.out.cell (zY w _ hw275_6)).trans hw275_6), hHeld.2.2.2.2.2.2.2.2.1, hHeld.2.2.2.2.2.2.2.2.2⟩ (fun hHeld => ?_)
                clear hK K
                refine norm_ (a' := ?_) ?_ ?_
                rotate_left
                ·show Act.put _ (some 76) _ = _
                 simp only [Act.put, zZ, yA, yB, i64_w, i32_w]
                 rfl
                refine pure_ (i := 24) (N := some 77) (v := ?_) (a' := ?_) #[true, true, true, true, true, true, true, true, true, true, true, true, true, true, true, true, true, true, true, true, true, true, true, true, true, false] rfl rfl (yC HT_.out (by kernel_rfl)) (fun _ _ _ h => h) (Or.inl ⟨by rfl, ?_⟩) ?_ ?_
                rotate_left
                ·intro w'
                 go_simp
                 with_reducible rfl
                rotate_left
                ·simp only [Act.put, zZ, yA, yB, i64_w, i32_w]
                 rfl
                refine pure_ (i := 25) (N := some 78) (v := ?_) (a' := ?_) #[true, true, true, true, true, true, true, true, true, true, true, true, true, true, true, true, true, true, true, true, true, true, true, true, true, true] rfl rfl (yC HT_.out (by kernel_rfl)) (fun _ _ _ h => h) (Or.inl ⟨by rfl, ?_⟩) ?_ ?_
                rotate_left
                ·intro w'
                 go_simp
                 with_reducible rfl
                rotate_left
                ·simp only [Act.put, zZ, yA, yB, i64_w, i32_w]
                 rfl
                refine done_ (done_of HT_.out (by kernel_rfl)) ?_
                try go_wp2
                go_meet
                case rel => exact ⟨_, (!t278), (by first | rfl | (simp; done) | (simp [*]; done)), H', ⟨by have := HK1.out; have := HK2.out; first | omega | exact Nat.le_refl _⟩, ⟨by (try simp only [hl7_2]); (with_reducible repeat (first | apply zA | apply zB | apply zC)); exact ah.out⟩, ⟨by (try simp only [hl7_2]); (with_reducible repeat (first | apply zA | apply zB | apply zC)); exact an.out⟩, ⟨by (try simp only [hl7_2]); (with_reducible repeat (first | apply zA | apply zB | apply zC)); exact af.out⟩, ⟨by (try simp only [hl7_2]); (with_reducible repeat (first | apply zA | apply zB | apply zC)); exact a5.out⟩, ⟨by (try simp only [hl7_2]); (with_reducible repeat (first | apply zA | apply zB | apply zC)); exact a4.out⟩, ⟨by (try simp only [hl7_2]); (with_reducible repeat (first | apply zO | apply zP | apply zQ)); exact a6.out⟩, ⟨by (try simp only [hl7_2]); (with_reducible repeat (first | apply zO | apply zP | apply zQ)); exact a1.out⟩, ⟨uD HB.out am.out ap.out⟩⟩
               rw [if_neg c28] at H
               exact absurd H (by simp)
              rw [if_neg c27] at H
              exact absurd H (by simp)
             rw [if_neg c26] at H
             exact absurd H (by simp)
            rw [if_neg c22] at H
            exact absurd H (by simp)
           replace c21 := Bool.eq_false_iff.mpr c21
           subst c21
           have H1 : (switchbackref17_Assemble.j2 k2 l0 al ac ay ao au a2 false aa ab (wrap64 (a3 + 1))) = some (r1, r2, r3, r4, r5, r6) := by rw [if_neg (show ¬ (false = true) by decide)] at H; exact H
           clear H
           have H := H1
           clear H1
           have H' := uZ H
           clear H
           try go_wp2
           have n0_ := uZ (zC ah.out)
           have n1_ := uZ (zC an.out)
           have n2_ := uZ (zC af.out)
           have n3_ := uZ (zC a5.out)
           have n4_ := uZ (zC a4.out)
           have n5_ := uZ (zP a6.out)
           have n6_ := uZ (zP a1.out)
           have n7_ := uZ (zR HB.out)
           clear ah
           clear an
           clear af
           clear a5
           clear a4
           clear a6
           clear a1
           clear HB
           have ah := n0_
           have an := n1_
           have af := n2_
           have a5 := n3_
           have a4 := n4_
           have a6 := n5_
           have a1 := n6_
           have HB := n7_
           clear n0_ n1_ n2_ n3_ n4_ n5_ n6_ n7_
           refine start_ (n := 26) (S := fun w' => True) (ds := []) #[false, false, false, false, false, false, false, false, false, false, false, false, false, false, false, false, false, false, false, false, false, false, false, false, false, false] (by kernel_rfl) rfl rfl trivial (fun hHeld => ?_); refine with_tabW switchbackref17_Assemble.tab13 switchbackref17_Assemble.bits13 (fun HT_ HW_ => ?_)
           generalize w20.drew = w33 at ah an af a5 a4 a6 a1 HB hHeld ⊢
           refine pure_ (i := 0) (N := some 53) (v := ?_) (a' := ?_) #[true, false, false, false, false, false, false, false, false, false, false, false, false, false, false, false, false, false, false, false, false, false, false, false, false, false] rfl rfl (yC HT_.out (by kernel_rfl)) (fun _ _ _ h => h) (Or.inl ⟨by rfl, ?_⟩) ?_ ?_
           rotate_left
           ·intro w'
            go_simp
            with_reducible rfl
           rotate_left
           ·simp only [Act.put, zZ, yA, yB, i64_w, i32_w]
            rfl
           refine pure_ (i := 1) (N := some 54) (v := ?_) (a' := ?_) #[true, true, false, false, false, false, false, false, false, false, false, false, false, false, false, false, false, false, false, false, false, false, false, false, false, false] rfl rfl (yC HT_.out (by kernel_rfl)) (fun _ _ _ h => h) (Or.inl ⟨by rfl, ?_⟩) ?_ ?_
           rotate_left
           ·intro w'
            go_simp
            with_reducible rfl
           rotate_left
           ·simp only [Act.put, zZ, yA, yB, i64_w, i32_w]
            rfl
           refine pure_ (i := 2) (N := some 55) (v := undef) (a' := ?_) #[true, true, true, false, false, false, false, false, false, false, false, false, false, false, false, false, false, false, false, false, false, false, false, false, false, false] rfl rfl (yC HT_.out (by kernel_rfl)) (fun _ _ _ h => h) (Or.inr ⟨by rfl, rfl⟩) ?_ ?_
           rotate_left
           ·simp only [Act.put, zZ, yA, yB, i64_w, i32_w]
            rfl
           refine pure_ (i := 3) (N := some 56) (v := undef) (a' := ?_) #[true, true, true, true, false, false, false, false, false, false, false, false, false, false, false, false, false, false, false, false, false, false, false, false, false, false] rfl rfl (yC HT_.out (by kernel_rfl)) (fun _ _ _ h => h) (Or.inr ⟨by rfl, rfl⟩) ?_ ?_
           rotate_left
           ·simp only [Act.put, zZ, yA, yB, i64_w, i32_w]
            rfl
           refine pure_ (i := 4) (N := some 57) (v := undef) (a' := ?_) #[true, true, true, true, true, false, false, false, false, false, false, false, false, false, false, false, false, false, false, false, false, false, false, false, false, false] rfl rfl (yC HT_.out (by kernel_rfl)) (fun _ _ _ h => h) (Or.inr ⟨by rfl, rfl⟩) ?_ ?_
           rotate_left
           ·simp only [Act.put, zZ, yA, yB, i64_w, i32_w]
            rfl
           refine pure_ (i := 5) (N := some 58) (v := undef) (a' := ?_) #[true, true, true, true, true, true, false, false, false, false, false, false, false, false, false, false, false, false, false, false, false, false, false, false, false, false] rfl rfl (yC HT_.out (by kernel_rfl)) (fun _ _ _ h => h) (Or.inr ⟨by rfl, rfl⟩) ?_ ?_
           rotate_left
           ·simp only [Act.put, zZ, yA, yB, i64_w, i32_w]
            rfl
           refine pure_ (i := 6) (N := some 59) (v := undef) (a' := ?_) #[true, true, true, true, true, true, true, false, false, false, false, false, false, false, false, false, false, false, false, false, false, false, false, false, false, false] rfl rfl (yC HT_.out (by kernel_rfl)) (fun _ _ _ h => h) (Or.inr ⟨by rfl, rfl⟩) ?_ ?_
           rotate_left
           ·simp only [Act.put, zZ, yA, yB, i64_w, i32_w]
            rfl
           refine pure_ (i := 7) (N := some 60) (v := ?_) (a' := ?_) #[true, true, true, true, true, true, true, true, false, false, false, false, false, false, false, false, false, false, false, false, false, false, false, false, false, false] rfl rfl (yC HT_.out (by kernel_rfl)) (fun _ _ _ h => h) (Or.inl ⟨by rfl, ?_⟩) ?_ ?_
           rotate_left
           ·intro w'
            go_simp
            with_reducible rfl
           rotate_left
           ·simp only [Act.put, zZ, yA, yB, i64_w, i32_w]
            rfl
           refine pure_ (i := 8) (N := some 61) (v := ?_) (a' := ?_) #[true, true, true, true, true, true, true, true, true, false, false, false, false, false, false, false, false, false, false, false, false, false, false, false, false, false] rfl rfl (yC HT_.out (by kernel_rfl)) (fun _ _ _ h => h) (Or.inl ⟨by rfl, ?_⟩) ?_ ?_
           rotate_left
           ·intro w'
            go_simp
            with_reducible rfl
           rotate_left
           ·simp only [Act.put, zZ, yA, yB, i64_w, i32_w]
            rfl
           refine pure_ (i := 9) (N := some 62) (v := undef) (a' := ?_) #[true, true, true, true, true, true, true, true, true, true, false, false, false, false, false, false, false, false, false, false, false, false, false, false, false, false] rfl rfl (yC HT_.out (by kernel_rfl)) (fun _ _ _ h => h) (Or.inr ⟨by rfl, rfl⟩) ?_ ?_
           rotate_left
           ·simp only [Act.put, zZ, yA, yB, i64_w, i32_w]
            rfl
           refine pure_ (i := 10) (N := some 63) (v := undef) (a' := ?_) #[true, true, true, true, true, true, true, true, true, true, true, false, false, false, false, false, false, false, false, false, false, false, false, false, false, false] rfl rfl (yC HT_.out (by kernel_rfl)) (fun _ _ _ h => h) (Or.inr ⟨by rfl, rfl⟩) ?_ ?_
           rotate_left
           ·simp only [Act.put, zZ, yA, yB, i64_w, i32_w]
            rfl
           refine pure_ (i := 11) (N := some 64) (v := undef) (a' := ?_) #[true, true, true, true, true, true, true, true, true, true, true, true, false, false, false, false, false, false, false, false, false, false, false, false, false, false] rfl rfl (yC HT_.out (by kernel_rfl)) (fun _ _ _ h => h) (Or.inr ⟨by rfl, rfl⟩) ?_ ?_
           rotate_left
           ·simp only [Act.put, zZ, yA, yB, i64_w, i32_w]
            rfl
           refine pure_ (i := 12) (N := some 65) (v := undef) (a' := ?_) #[true, true, true, true, true, true, true, true, true, true, true, true, true, false, false, false, false, false, false, false, false, false, false, false, false, false] rfl rfl (yC HT_.out (by kernel_rfl)) (fun _ _ _ h => h) (Or.inr ⟨by rfl, rfl⟩) ?_ ?_
           rotate_left
           ·simp only [Act.put, zZ, yA, yB, i64_w, i32_w]
            rfl
           refine pure_ (i := 13) (N := some 66) (v := undef) (a' := ?_) #[true, true, true, true, true, true, true, true, true, true, true, true, true, true, false, false, false, false, false, false, false, false, false, false, false, false] rfl rfl (yC HT_.out (by kernel_rfl)) (fun _ _ _ h => h) (Or.inr ⟨by rfl, rfl⟩) ?_ ?_
           rotate_left
           ·simp only [Act.put, zZ, yA, yB, i64_w, i32_w]
            rfl
           refine pure_ (i := 14) (N := some 67) (v := undef) (a' := ?_) #[true, true, true, true, true, true, true, true, true, true, true, true, true, true, true, false, false, false, false, false, false, false, false, false, false, false] rfl rfl (yC HT_.out (by kernel_rfl)) (fun _ _ _ h => h) (Or.inr ⟨by rfl, rfl⟩) ?_ ?_
           rotate_left
           ·simp only [Act.put, zZ, yA, yB, i64_w, i32_w]
            rfl
           refine pure_ (i := 15) (N := some 68) (v := undef) (a' := ?_) #[true, true, true, true, true, true, true, true, true, true, true, true, true, true, true, true, false, false, false, false, false, false, false, false, false, false] rfl rfl (yC HT_.out (by kernel_rfl)) (fun _ _ _ h => h) (Or.inr ⟨by rfl, rfl⟩) ?_ ?_
           rotate_left
           ·simp only [Act.put, zZ, yA, yB, i64_w, i32_w]
            rfl
           refine pure_ (i := 16) (N := some 69) (v := undef) (a' := ?_) #[true, true, true, true, true, true, true, true, true, true, true, true, true, true, true, true, true, false, false, false, false, false, false, false, false, false] rfl rfl (yC HT_.out (by kernel_rfl)) (fun _ _ _ h => h) (Or.inr ⟨by rfl, rfl⟩) ?_ ?_
           rotate_left
           ·simp only [Act.put, zZ, yA, yB, i64_w, i32_w]
            rfl
           refine pure_ (i := 17) (N := some 70) (v := undef) (a' := ?_) #[true, true, true, true, true, true, true, true, true, true, true, true, true, true, true, true, true, true, false, false, false, false, false, false, false, false] rfl rfl (yC HT_.out (by kernel_rfl)) (fun _ _ _ h => h) (Or.inr ⟨by rfl, rfl⟩) ?_ ?_
           rotate_left
           ·simp only [Act.put, zZ, yA, yB, i64_w, i32_w]
            rfl
           refine pure_ (i := 18) (N := some 71) (v := undef) (a' := ?_) #[true, true, true, true, true, true, true, true, true, true, true, true, true, true, true, true, true, true, true, false, false, false, false, false, false, false] rfl rfl (yC HT_.out (by kernel_rfl)) (fun _ _ _ h => h) (Or.inr ⟨by rfl, rfl⟩) ?_ ?_
           rotate_left
           ·simp only [Act.put, zZ, yA, yB, i64_w, i32_w]
            rfl
           refine pure_ (i := 19) (N := some 72) (v := undef) (a' := ?_) #[true, true, true, true, true, true, true, true, true, true, true, true, true, true, true, true, true, true, true, true, false, false, false, false, false, false] rfl rfl (yC HT_.out (by kernel_rfl)) (fun _ _ _ h => h) (Or.inr ⟨by rfl, rfl⟩) ?_ ?_
           rotate_left
           ·simp only [Act.put, zZ, yA, yB, i64_w, i32_w]
            rfl
           refine pure_ (i := 20) (N := some 73) (v := undef) (a' := ?_) #[true, true, true, true, true, true, true, true, true, true, true, true, true, true, true, true, true, true, true, true, true, false, false, false, false, false] rfl rfl (yC HT_.out (by kernel_rfl)) (fun _ _ _ h => h) (Or.inr ⟨by rfl, rfl⟩) ?_ ?_
           rotate_left
           ·simp only [Act.put, zZ, yA, yB, i64_w, i32_w]
            rfl
           refine pure_ (i := 21) (N := some 74) (v := undef) (a' := ?_) #[true, true, true, true, true, true, true, true, true, true, true, true, true, true, true, true, true, true, true, true, true, true, false, false, false, false] rfl rfl (yC HT_.out (by kernel_rfl)) (fun _ _ _ h => h) (Or.inr ⟨by rfl, rfl⟩) ?_ ?_
           rotate_left
           ·simp only [Act.put, zZ, yA, yB, i64_w, i32_w]
            rfl
           refine pure_ (i := 22) (N := some 75) (v := undef) (a' := ?_) #[true, true, true, true, true, true, true, true, true, true, true, true, true, true, true, true, true, true, true, true, true, true, true, false, false, false] rfl rfl (yC HT_.out (by kernel_rfl)) (fun _ _ _ h => h) (Or.inr ⟨by rfl, rfl⟩) ?_ ?_
           rotate_left
           ·simp only [Act.put, zZ, yA, yB, i64_w, i32_w]
            rfl
           refine pure_ (i := 23) (N := some 76) (v := undef) (a' := ?_) #[true, true, true, true, true, true, true, true, true, true, true, true, true, true, true, true, true, true, true, true, true, true, true, true, false, false] rfl rfl (yC HT_.out (by kernel_rfl)) (fun _ _ _ h => h) (Or.inr ⟨by rfl, rfl⟩) ?_ ?_
           rotate_left
           ·simp only [Act.put, zZ, yA, yB, i64_w, i32_w]
            rfl
           refine pure_ (i := 24) (N := some 77) (v := undef) (a' := ?_) #[true, true, true, true, true, true, true, true, true, true, true, true, true, true, true, true, true, true, true, true, true, true, true, true, true, false] rfl rfl (yC HT_.out (by kernel_rfl)) (fun _ _ _ h => h) (Or.inr ⟨by rfl, rfl⟩) ?_ ?_
           rotate_left
           ·simp only [Act.put, zZ, yA, yB, i64_w, i32_w]
            rfl
           refine pure_ (i := 25) (N := some 78) (v := ?_) (a' := ?_) #[true, true, true, true, true, true, true, true, true, true, true, true, true, true, true, true, true, true, true, true, true, true, true, true, true, true] rfl rfl (yC HT_.out (by kernel_rfl)) (fun _ _ _ h => h) (Or.inl ⟨by rfl, ?_⟩) ?_ ?_
           rotate_left
           ·intro w'
            go_simp
            with_reducible rfl
           rotate_left
           ·simp only [Act.put, zZ, yA, yB, i64_w, i32_w]
            rfl
           refine done_ (done_of HT_.out (by kernel_rfl)) ?_
           try go_wp2
           go_meet
           case rel => exact ⟨_, (false), (by first | rfl | (simp; done) | (simp [*]; done)), H', ⟨by have := HK1.out; have := HK2.out; first | omega | exact Nat.le_refl _⟩, ⟨by (try simp only [hl7_2]); (with_reducible repeat (first | apply zA | apply zB | apply zC)); exact ah.out⟩, ⟨by (try simp only [hl7_2]); (with_reducible repeat (first | apply zA | apply zB | apply zC)); exact an.out⟩, ⟨by (try simp only [hl7_2]); (with_reducible repeat (first | apply zA | apply zB | apply zC)); exact af.out⟩, ⟨by (try simp only [hl7_2]); (with_reducible repeat (first | apply zA | apply zB | apply zC)); exact a5.out⟩, ⟨by (try simp only [hl7_2]); (with_reducible repeat (first | apply zA | apply zB | apply zC)); exact a4.out⟩, ⟨by (try simp only [hl7_2]); (with_reducible repeat (first | apply zO | apply zP | apply zQ)); exact a6.out⟩, ⟨by (try simp only [hl7_2]); (with_reducible repeat (first | apply zO | apply zP | apply zQ)); exact a1.out⟩, ⟨uD HB.out am.out ap.out⟩⟩
          case rest =>
           clear HC19
           try clear c2
           try clear p2
           try clear q2
           try clear hx2
           try clear c3
           try clear p6
           try clear c21
           try clear c22
           try clear q23
           try clear c24
           try clear c26
           try clear c26b0
           try clear c27
           try clear c27b0
           try clear p27
           try clear q27
           try clear hx27
           try clear c28
           try clear c28b0
           try clear c32
           try clear aw
           try clear b3
           try clear b4
           try clear b5
           try clear b6
           try clear b7
           try clear b8
           try clear b9
           try clear hx276_0
           try clear hx277_0
           try clear p274
           try clear p275
           try clear p276
           try clear p277
           try clear q274
           try clear q275
           try clear q276
           try clear q277
           obtain ⟨kq, x78_18, rfl, HA, HJ18, ah, an, af, a5, a4, a6, a1, HB⟩ := hcut
           cases kq with
           | zero => exact absurd HA.out (by simp [switchbackref17_Assemble.j2])
           | succ kj18 =>
            have H := HA.out
            clear HA
            simp only [switchbackref17_Assemble.j2] at H
            by_cases c34 : x78_18 = true
            ·subst c34
             have H1 : (if 0 ≤ a2 then (if a2 < (al.length : Int) then (switchbackref17_Assemble.l1 kj18 l0 (al.set (a2 : Int).toNat true) ac ay ao true (wrap64 (a2 + 1)) aa ab (wrap64 (a3 + 1))) else (none)) else (none)) = some (r1, r2, r3, r4, r5, r6) := by rw [if_pos rfl] at H; exact H
             clear H
             have H := H1
             clear H1
             by_cases c35 : 0 ≤ a2
             ·rw [if_pos c35] at H
              have c35b0 : decide (0 ≤ a2) = true := decide_eq_true c35
              clear c35
              by_cases c36 : a2 < (al.length : Int)
              ·rw [if_pos c36] at H
               have c36b0 : decide (a2 < (al.length : Int)) = true := decide_eq_true c36
               clear c36
               obtain ⟨y279, hy279⟩ : ∃ y_ : List Bool, y_ = (al.set (a2 : Int).toNat true) := ⟨_, rfl⟩
               replace H : (switchbackref17_Assemble.l1 kj18 l0 y279 ac ay ao true (wrap64 (a2 + 1)) aa ab (wrap64 (a3 + 1))) = some (r1, r2, r3, r4, r5, r6) := by first | (rw [hy279]; with_reducible exact H) | (have H2_ := (Option.bind_some _ _).symm.trans H; rw [hy279]; with_reducible exact H2_) | (have H2_ := (Option.bind_some _ _).symm.trans H; with_reducible exact H2_) | with_reducible exact H | (rw [hy279]; exact H) | exact H
               have Ny279 := uZ hy279
               clear hy279
               have H' := uZ H
               clear H
               have p37 : 0 ≤ (a2 : Int) := uA
               have q37 : (a2 : Int) < ((al.length : Int) : Int) := uA
               obtain ⟨go37, co37, eo37, gb37, gl37, cl37, HG37⟩ := Kd.R_form ah.out (by omega)
               (first | cases eo37 | (injection eo37 with ea_ en_ ec_; (first | subst ea_ | (injection ea_ with ea_; subst ea_)); subst ec_; clear en_))
               have GB37 := uZ gb37
               have GG37 := uZ HG37
               clear gb37 gl37 HG37
               obtain ⟨hx37_0, hf37_0⟩ := Kd.R_celln false ah.out (a2 : Int) p37 q37
               replace p37 := eq_true p37
               replace q37 := eq_true q37
               have HP38 := Kd.R_putg ah.out (a2 : Int) true
               go_wp2_with (first | ((with_reducible refine gate_store (t := 4) (p := 81) rfl ?_); refine store_event (t := 4) (p := 81) (v := ?vo_w39) (w1 := (wc.setCell ⟨go37, (a2 : Int).toNat, none⟩ (.bool true))) ?hg ?ho ?hn ?hr ?_; (case ho => rfl); (case hg => rfl); (case hn => rfl); (case hr => first | (go_simp; done) | (go_simp; rfl)); intro w39 hw; have hg : wc.grownBy w39 (some go37) := (by rw [hw]; exact HP38.2); have hp_ : Kd.R Kd.bool 4 w39 w.heap.size (fun _ => True) (.slice (some ⟨go37, 0, none⟩) al.length co12) y279 := (by rw [hw, Ny279.out]; exact HP38.1); clear HP38; have n0_ := uZ (hp_); have n1_ := uZ (zI (v := (.slice (some ⟨go37, 0, none⟩) al.length co12)) (uR an.out) (Kd.R_typed ah.out) (by decide) hg); have n2_ := uZ (zI (v := (.slice (some ⟨go37, 0, none⟩) al.length co12)) (uR af.out) (Kd.R_typed ah.out) (by decide) hg); have n3_ := uZ (zI (v := (.slice (some ⟨go37, 0, none⟩) al.length co12)) (uR a5.out) (Kd.R_typed ah.out) (by decide) hg); have n4_ := uZ (zI (v := (.slice (some ⟨go37, 0, none⟩) al.length co12)) (uR a4.out) (Kd.R_typed ah.out) (by decide) hg); have n5_ := uZ (blk_grown (g := ae) (o := .cells #[.slice none 0 0, .slice none 0 0, .slice none 0 0, .int .i64 ad] 27 (0, 0)) (uK a6.out) hg (Kd.R_ne ah.out a6.out (by decide))); have n6_ := uZ (blk_grown (g := a7) (o := .cells #[ag, a9, .slice none 0 0, .int .i64 (wrap64 (a3 + 1))] 27 (0, 0)) (uK a1.out) hg (Kd.R_ne ah.out a1.out (by decide))); have n7_ := uZ ((by rw [hw]; exact below_set (HB.out) GB37.out : Below w.heap.size w w39)); clear ah; clear an; clear af; clear a5; clear a4; clear a6; clear a1; clear HB; have ah := n0_; have an := n1_; have af := n2_; have a5 := n3_; have a4 := n4_; have a6 := n5_; have a1 := n6_; have HB := n7_; clear n0_ n1_ n2_ n3_ n4_ n5_ n6_ n7_; clear hg hw hp_))
               (try simp only [← hl7_2])
               go_roundg kj18
               case measure => have := HK1.out; have := HK2.out; have := HJ18.out; omega
               case rel => exact ⟨(y279), (true), (wrap64 (a2 + 1)), (by first | rfl | (simp; done) | (simp [*]; done)), (by first | rfl | (simp; done) | (simp [*]; done)), H', ⟨by have := HK1.out; have := HK2.out; have := HJ18.out; omega⟩, ⟨by (try simp only [hl7_2]); (with_reducible repeat (first | apply zA | apply zB | apply zC)); exact ah.out⟩, ⟨by (try simp only [hl7_2]); (with_reducible repeat (first | apply zA | apply zB | apply zC)); exact an.out⟩, ⟨by (try simp only [hl7_2]); (with_reducible repeat (first | apply zA | apply zB | apply zC)); exact af.out⟩, ⟨by (try simp only [hl7_2]); (with_reducible repeat (first | apply zA | apply zB | apply zC)); exact a5.out⟩, ⟨by (try simp only [hl7_2]); (with_reducible repeat (first | apply zA | apply zB | apply zC)); exact a4.out⟩, ⟨by (try simp only [hl7_2]); (with_reducible repeat (first | apply zO | apply zP | apply zQ)); exact a6.out⟩, ⟨by (try simp only [hl7_2]); (with_reducible repeat (first | apply zO | apply zP | apply zQ)); exact a1.out⟩, ⟨uD HB.out am.out ap.out⟩⟩
              rw [if_neg c36] at H
              exact absurd H (by simp)
             rw [if_neg c35] at H
             exact absurd H (by simp)
            replace c34 := Bool.eq_false_iff.mpr c34
            subst c34
            have H1 : (switchbackref17_Assemble.l1 kj18 l0 al ac ay ao au (wrap64 (a2 + 1)) aa ab (wrap64 (a3 + 1))) = some (r1, r2, r3, r4, r5, r6) := by rw [if_neg (show ¬ (false = true) by decide)] at H; exact H
            clear H
            have H := H1
            clear H1
            have H' := uZ H
            clear H
            go_wp2
            (try simp only [← hl7_2])
            go_roundg kj18
            case measure => have := HK1.out; have := HK2.out; have := HJ18.out; omega
            case rel => exact ⟨(al), (au), (wrap64 (a2 + 1)), (by first | rfl | (simp; done) | (simp [*]; done)), (by first | rfl | (simp; done) | (simp [*]; done)), H', ⟨by have := HK1.out; have := HK2.out; have := HJ18.out; omega⟩, ⟨by (try simp only [hl7_2]); (with_reducible repeat (first | apply zA | apply zB | apply zC)); exact ah.out⟩, ⟨by (try simp only [hl7_2]); (with_reducible repeat (first | apply zA | apply zB | apply zC)); exact an.out⟩, ⟨by (try simp only [hl7_2]); (with_reducible repeat (first | apply zA | apply zB | apply zC)); exact af.out⟩, ⟨by (try simp only [hl7_2]); (with_reducible repeat (first | apply zA | apply zB | apply zC)); exact a5.out⟩, ⟨by (try simp only [hl7_2]); (with_reducible repeat (first | apply zA | apply zB | apply zC)); exact a4.out⟩, ⟨by (try simp only [hl7_2]); (with_reducible repeat (first | apply zO | apply zP | apply zQ)); exact a6.out⟩, ⟨by (try simp only [hl7_2]); (with_reducible repeat (first | apply zO | apply zP | apply zQ)); exact a1.out⟩, ⟨uD HB.out am.out ap.out⟩⟩
         rw [if_neg c17] at H
         exact absurd H (by simp)
        rw [if_neg c16] at H
        have c16b0 : decide (a2 < (l0.length : Int)) = false := decide_eq_false c16
        clear c16
        by_cases c40 : au = true
        ·subst c40
         have H1 : (switchbackref17_Assemble.l0 k2 l0 al aa ab (wrap64 (a3 + 1))) = some (r1, r2, r3, r4, r5, r6) := by rw [if_pos rfl] at H; exact H
         clear H
         have H := H1
         clear H1
         have H' := uZ H
         clear H
         go_wp2
         (try simp only [← hl7_2])
         go_roundg k2
         case measure => have := HK1.out; have := HK2.out; omega
         case rel => exact ⟨(al), (ad), (aa), (ab), ((wrap64 (a3 + 1))), (ag), (a9), H', ⟨by have := HK1.out; have := HK2.out; omega⟩, ⟨by (try simp only [hl7_2]); (with_reducible repeat (first | apply zA | apply zB | apply zC)); exact ah.out⟩, ⟨by (try simp only [hl7_2]); (with_reducible repeat (first | apply zA | apply zB | apply zC)); exact a5.out⟩, ⟨by (try simp only [hl7_2]); (with_reducible repeat (first | apply zA | apply zB | apply zC)); exact zF a4.out (fun _ hk => trivial)⟩, ⟨by (try simp only [hl7_2]); (with_reducible repeat (first | apply zO | apply zP | apply zQ)); exact a6.out⟩, ⟨by (try simp only [hl7_2]); (with_reducible repeat (first | apply zO | apply zP | apply zQ)); exact a1.out⟩, ⟨uD HB.out am.out ap.out⟩⟩
        replace c40 := Bool.eq_false_iff.mpr c40
        subst c40
        have H1 : (if ay > 65536 then (some (([] : List Int), ([] : List Int), ([] : List Int), 0, 0, 174)) else (switchbackref17_Assemble.l2 k2 l0 al ac ao 0 aa ab ac (wrap64 (a3 + 1)))) = some (r1, r2, r3, r4, r5, r6) := by rw [if_neg (show ¬ (false = true) by decide)] at H; exact H
        clear H
        have H := H1
        clear H1
        by_cases c41 : ay > 65536
        ·rw [if_pos c41] at H
         have c41b0 : decide (65536 < ay) = true := decide_eq_true c41
         clear c41
         simp only [Option.some.injEq, Prod.mk.injEq] at H
         obtain ⟨rfl, rfl, rfl, rfl, rfl, rfl⟩ := H
         have hnb42 := ar.out
         have hnc42 := a_.out
         have hcz43_0 : wr.cell? ⟨ae, 0, none⟩ = some (.slice none 0 0) := (zT a6.out 0).trans rfl
         have hcz43_1 : wr.cell? ⟨ae, 1, none⟩ = some (.slice none 0 0) := (zT a6.out 1).trans rfl
         have hcz43_2 : wr.cell? ⟨ae, 2, none⟩ = some (.slice none 0 0) := (zT a6.out 2).trans rfl
         have hcz43_3 : wr.cell? ⟨ae, 3, none⟩ = some (.int .i64 ad) := (zT a6.out 3).trans rfl
         have hfz43_0 := zS a6.out 0
         have hfz43_1 := zS a6.out 1
         have hfz43_2 := zS a6.out 2
         have hfz43_3 := zS a6.out 3
         go_wp2
         refine bodyPost_ret (results_ctt rfl _ _ ae 27 #[.slice none 0 0, .slice none 0 0, .slice none 0 0, .int .i64 0] (0, 0) _ rfl (by (with_reducible repeat (first | apply zO | apply zP | apply zQ)); refine zU (cs := #[.slice none 0 0, .slice none 0 0, .slice none 0 0, .int .i64 ad]) ?_ 3 _ rfl; (with_reducible repeat (first | apply zO | apply zP | apply zQ)); refine zU (cs := #[.slice none 0 0, .slice none 0 0, .slice none 0 0, .int .i64 ad]) ?_ 2 _ rfl; (with_reducible repeat (first | apply zO | apply zP | apply zQ)); refine zU (cs := #[.slice none 0 0, .slice none 0 0, .slice none 0 0, .int .i64 ad]) ?_ 1 _ rfl; (with_reducible repeat (first | apply zO | apply zP | apply zQ)); refine zU (cs := #[.slice none 0 0, .slice none 0 0, .slice none 0 0, .int .i64 ad]) ?_ 0 _ rfl; (with_reducible repeat (first | apply zO | apply zP | apply zQ)); exact a6.out) Tryd.underlying27 rfl (by kernel_rfl)) rfl ?_
         exact ⟨_, _, _, by first | rfl | (simp [errW_none, errW_some] <;> rfl) | (simp [*, errW_none, errW_some] <;> rfl), by first | exact Kd.R_nil _ _ _ _ _ | exact Kd.N_nil _ _ _ _ _ | exact Kd.V_nil _ _ _ _ _ | exact Kd.Q_nil _ _ _ _ _ | exact Kd.S_nil _ _ _ _ _, by first | exact Kd.R_nil _ _ _ _ _ | exact Kd.N_nil _ _ _ _ _ | exact Kd.V_nil _ _ _ _ _ | exact Kd.Q_nil _ _ _ _ _ | exact Kd.S_nil _ _ _ _ _, by first | exact Kd.R_nil _ _ _ _ _ | exact Kd.N_nil _ _ _ _ _ | exact Kd.V_nil _ _ _ _ _ | exact Kd.Q_nil _ _ _ _ _ | exact Kd.S_nil _ _ _ _ _, by repeat (first | (with_reducible first | exact HB.out | apply below_alloc | apply pw_below_drewN | apply zR | refine below_set ?_ am.out | refine below_set ?_ ap.out) | exact HB.out)⟩
        rw [if_neg c41] at H
        have c41b0 : decide (65536 < ay) = false := decide_eq_false c41
        clear c41
        have H' := uZ H
        clear H
        obtain ⟨ba, aq, eo44⟩ := zJ an.out
        subst eo44
        have hnb45 := a_.out
        have hnc45 := ar.out
        have hcz46_0 : wr.cell? ⟨a7, 0, none⟩ = some (ag) := (zT a1.out 0).trans rfl
        have hcz46_1 : wr.cell? ⟨a7, 1, none⟩ = some (a9) := (zT a1.out 1).trans rfl
        have hcz46_2 : wr.cell? ⟨a7, 2, none⟩ = some (.slice none 0 0) := (zT a1.out 2).trans rfl
        have hcz46_3 : wr.cell? ⟨a7, 3, none⟩ = some (.int .i64 (wrap64 (a3 + 1))) := (zT a1.out 3).trans rfl
        have hfz46_0 := zS a1.out 0
        have hfz46_1 := zS a1.out 1
        have hfz46_2 := zS a1.out 2
        have hfz46_3 := zS a1.out 3
        go_wp2
        go_loopg [15] k2 (fun kq v15 w' => ∃ (a8 : Int) (ak : List Int) (aj : List Int) (ag : Value) (a9 : Value), v15 = .int .i64 a8 ∧ Aside0 (switchbackref17_Assemble.l2 kq l0 al ac ao a8 ak aj ac (wrap64 (a3 + 1)) = some (r1, r2, r3, r4, r5, r6)) ∧ Aside0 (kq ≤ k2) ∧ Aside0 (Kd.R Kd.bool 4 w' w.heap.size (fun _ => True) (.slice Ao12 al.length co12) al) ∧ Aside0 (Kd.R (Kd.int .i64) 3 w' w.heap.size (fun k_ => some k_ ≠ (v270 : Value).ownBlock ∧ some k_ ≠ (a9 : Value).ownBlock) (.slice ba ac.length aq) ac) ∧ Aside0 (Kd.R (Kd.int .i64) 3 w' w.heap.size (fun k_ => some k_ ≠ ((.slice ba ac.length aq) : Value).ownBlock ∧ some k_ ≠ (a9 : Value).ownBlock ∧ some k_ ≠ ((.slice ba ac.length aq) : Value).ownBlock) v270 ao) ∧ Aside0 (Kd.R (Kd.int .u32) 38 w' w.heap.size (fun _ => True) ag ak) ∧ Aside0 (Kd.R (Kd.int .i64) 3 w' w.heap.size (fun k_ => some k_ ≠ ((.slice ba ac.length aq) : Value).ownBlock ∧ some k_ ≠ (v270 : Value).ownBlock ∧ some k_ ≠ ((.slice ba ac.length aq) : Value).ownBlock) a9 aj) ∧ Aside0 (Kd.R (Kd.int .i64) 3 w' w.heap.size (fun k_ => some k_ ≠ (v270 : Value).ownBlock ∧ some k_ ≠ (a9 : Value).ownBlock) (.slice ba ac.length aq) ac) ∧ Aside0 (w'.heap[ae]? = some (.cells #[(.slice none 0 0), (.slice none 0 0), (.slice none 0 0), .int .i64 ad] 27 (0, 0))) ∧ Aside0 (w'.heap[a7]? = some (.cells #[ag, a9, (.slice ba ac.length aq), .int .i64 (wrap64 (a3 + 1))] 27 (0, 0))) ∧ Aside0 (Below w.heap.size w w'))
        case atStart => exact ⟨(0), (aa), (ab), (ag), (a9), (by first | rfl | (simp; done) | (simp [*]; done)), H', ⟨Nat.le_refl _⟩, ⟨by (try simp only [hl7_2]); (with_reducible repeat (first | apply zA | apply zB | apply zC)); exact zF (zD (p := ⟨a7, 2, none⟩) (zG ah.out a1.out (by decide)) (fun _ hk => hk.2) (.slice ba ac.length aq)) (fun _ hk => trivial)⟩, ⟨by (try simp only [hl7_2]); (with_reducible repeat (first | apply zA | apply zB | apply zC)); exact zF (zD (p := ⟨a7, 2, none⟩) (zG an.out a1.out (by decide)) (fun _ hk => hk.2) (.slice ba ac.length aq)) (fun _ hk => ⟨hk.1.1, hk.1.2⟩)⟩, ⟨by (try simp only [hl7_2]); (with_reducible repeat (first | apply zA | apply zB | apply zC)); exact zF (zD (p := ⟨a7, 2, none⟩) (zG af.out a1.out (by decide)) (fun _ hk => hk.2) (.slice ba ac.length aq)) (fun _ hk => ⟨hk.1.1, ⟨hk.1.2, hk.1.1⟩⟩)⟩, ⟨by (try simp only [hl7_2]); (with_reducible repeat (first | apply zA | apply zB | apply zC)); exact zF (zD (p := ⟨a7, 2, none⟩) (zG a5.out a1.out (by decide)) (fun _ hk => hk.2) (.slice ba ac.length aq)) (fun _ hk => trivial)⟩, ⟨by (try simp only [hl7_2]); (with_reducible repeat (first | apply zA | apply zB | apply zC)); exact zF (zD (p := ⟨a7, 2, none⟩) (zG a4.out a1.out (by decide)) (fun _ hk => hk.2) (.slice ba ac.length aq)) (fun _ hk => ⟨hk.1.1, ⟨hk.1.2, hk.1.1⟩⟩)⟩, ⟨by (try simp only [hl7_2]); (with_reducible repeat (first | apply zA | apply zB | apply zC)); exact zF (zD (p := ⟨a7, 2, none⟩) (zG an.out a1.out (by decide)) (fun _ hk => hk.2) (.slice ba ac.length aq)) (fun _ hk => ⟨hk.1.1, hk.1.2⟩)⟩, ⟨by (try simp only [hl7_2]); (with_reducible repeat (first | apply zO | apply zP | apply zQ)); refine blk_far ?_ ar.out _; (with_reducible repeat (first | apply zO | apply zP | apply zQ)); exact a6.out⟩, ⟨by (try simp only [hl7_2]); (with_reducible repeat (first | apply zO | apply zP | apply zQ)); refine zU (cs := #[ag, a9, .slice none 0 0, .int .i64 (wrap64 (a3 + 1))]) ?_ 2 _ rfl; (with_reducible repeat (first | apply zO | apply zP | apply zQ)); exact a1.out⟩, ⟨uD HB.out am.out ap.out⟩⟩
        case round =>
         clear H'
         try clear c1
         try clear c2
         try clear p2
         try clear q2
         try clear hx2
         try clear c3
         try clear p3
         try clear q3
         try clear hx3
         try clear hf3
         try clear c4
         try clear p6
         try clear c16
         try clear c16b0
         try clear c17
         try clear c21
         try clear c22
         try clear q23
         try clear c24
         try clear c26
         try clear c26b0
         try clear c27
         try clear c27b0
         try clear p27
         try clear q27
         try clear hx27
         try clear c28
         try clear c28b0
         try clear c32
         try clear c34
         try clear c35
         try clear c35b0
         try clear c36
         try clear c36b0
         try clear p37
         try clear q37
         try clear hx37
         try clear hf37
         try clear c40
         try clear c41
         try clear c41b0
         try clear c42
         try clear c45
         try clear hcz43_0
         try clear hcz43_1
         try clear hcz43_2
         try clear hcz43_3
         try clear hcz46_0
         try clear hcz46_1
         try clear hcz46_2
         try clear hcz46_3
         try clear hfz43_0
         try clear hfz43_1
         try clear hfz43_2
         try clear hfz43_3
         try clear hfz46_0
         try clear hfz46_1
         try clear hfz46_2
         try clear hfz46_3
         try clear aw
         try clear b3
         try clear b4
         try clear b5
         try clear b6
         try clear b7
         try clear b8
         try clear b9
         try clear hx276_0
         try clear hx277_0
         try clear hx37_0
         try clear p2
         try clear p27
         try clear p274
         try clear p275
         try clear p276
         try clear p277
         try clear p37
         try clear p6
         try clear q2
         try clear q23
         try clear q27
         try clear q274
         try clear q275
         try clear q276
         try clear q277
         try clear q37
         obtain ⟨a8, ak, aj, ag, a9, rfl, HA, HK3, ah, an, af, a5, a4, ai, a6, a1, HB⟩ := hrel
         cases gk with
         | zero => exact absurd HA.out (by simp [switchbackref17_Assemble.l2])
         | succ k3 =>
          have H := HA.out
          clear HA
          simp only [switchbackref17_Assemble.l2] at H
          by_cases c47 : a8 < (l0.length : Int)
          ·rw [if_pos c47] at H
           have c47b0 : decide (a8 < (l0.length : Int)) = true := decide_eq_true c47
           clear c47
           by_cases c48 : 0 ≤ a8
           ·rw [if_pos c48] at H
            have c48b0 : decide (0 ≤ a8) = true := decide_eq_true c48
            clear c48
            by_cases c49 : a8 < (al.length : Int)
            ·rw [if_pos c49] at H
             have c49b0 : decide (a8 < (al.length : Int)) = true := decide_eq_true c49
             clear c49
             by_cases c50 : a8 < (ac.length : Int)
             ·rw [if_pos c50] at H
              have c50b0 : decide (a8 < (ac.length : Int)) = true := decide_eq_true c50
              clear c50
              replace H := Option.bind_eq_some_iff.mp H
              obtain ⟨⟨t283, t286⟩, A510, H⟩ := H
              replace H : (if ak.length + t283.length < 35184372088832 then (if aj.length + t286.length < 17592186044416 then (switchbackref17_Assemble.l2 k3 l0 al ac ao (wrap64 (a8 + 1)) (ak ++ t283) (aj ++ t286) ac (wrap64 (a3 + 1))) else (none)) else (none)) = some (r1, r2, r3, r4, r5, r6) := H
              have A51 := uZ A510
              clear A510
              by_cases c52 : ak.length + t283.length < 35184372088832
              ·rw [if_pos c52] at H
               have LMc52 := uZ c52
               clear c52
               obtain ⟨ax, hy289⟩ : ∃ y_ : List Int, y_ = (ak ++ t283) := ⟨_, rfl⟩
               replace H : (if aj.length + t286.length < 17592186044416 then (switchbackref17_Assemble.l2 k3 l0 al ac ao (wrap64 (a8 + 1)) ax (aj ++ t286) ac (wrap64 (a3 + 1))) else (none)) = some (r1, r2, r3, r4, r5, r6) := by first | (rw [hy289]; with_reducible exact H) | (have H2_ := (Option.bind_some _ _).symm.trans H; rw [hy289]; with_reducible exact H2_) | (have H2_ := (Option.bind_some _ _).symm.trans H; with_reducible exact H2_) | with_reducible exact H | (rw [hy289]; exact H) | exact H
               have Ny289 := uZ hy289
               clear hy289
               by_cases c53 : aj.length + t286.length < 17592186044416
               ·rw [if_pos c53] at H
                have LMc53 := uZ c53
                clear c53
                obtain ⟨y292, hy292⟩ : ∃ y_ : List Int, y_ = (aj ++ t286) := ⟨_, rfl⟩
                replace H : (switchbackref17_Assemble.l2 k3 l0 al ac ao (wrap64 (a8 + 1)) ax y292 ac (wrap64 (a3 + 1))) = some (r1, r2, r3, r4, r5, r6) := by first | (rw [hy292]; with_reducible exact H) | (have H2_ := (Option.bind_some _ _).symm.trans H; rw [hy292]; with_reducible exact H2_) | (have H2_ := (Option.bind_some _ _).symm.trans H; with_reducible exact H2_) | with_reducible exact H | (rw [hy292]; exact H) | exact H
                have Ny292 := uZ hy292
                clear hy292
                have H' := uZ H
                clear H
                try go_wp2
                have n0_ := uZ (zC ah.out)
                have n1_ := uZ (zC an.out)
                have n2_ := uZ (zC af.out)
                have n3_ := uZ (zC a5.out)
                have n4_ := uZ (zC a4.out)
                have n5_ := uZ (zC ai.out)
                have n6_ := uZ (zP a6.out)
                have n7_ := uZ (zP a1.out)
                have n8_ := uZ (zR HB.out)
                clear ah
                clear an
                clear af
                clear a5
                clear a4
                clear ai
                clear a6
                clear a1
                clear HB
                have ah := n0_
                have an := n1_
                have af := n2_
                have a5 := n3_
                have a4 := n4_
                have ai := n5_
                have a6 := n6_
                have a1 := n7_
                have HB := n8_
                clear n0_ n1_ n2_ n3_ n4_ n5_ n6_ n7_ n8_
                have p280 : 0 ≤ (a8 : Int) := uA
                have q280 : a8 < (l0.length : Int) := uA
                obtain ⟨b0, A280_6, c280_6, e280, bb, bc, bd, be, bf, bg, bh, hl280_6, hi280_6⟩ := at_T40 HR0.out a8 p280 q280
                have hw280_6 := bh
                have hw280_5 := bg
                have hw280_4 := bf
                have hw280_3 := be
                have hw280_2 := bd
                have hw280_1 := bc
                have hw280_0 := bb
                cases e280
                replace bb := (HB.out.cell (zY w _ bb)).trans bb
                replace bc := (HB.out.cell (zY w _ bc)).trans bc
                replace bd := (HB.out.cell (zY w _ bd)).trans bd
                replace be := (HB.out.cell (zY w _ be)).trans be
                replace bf := (HB.out.cell (zY w _ bf)).trans bf
                replace bg := (HB.out.cell (zY w _ bg)).trans bg
                replace bh := (HB.out.cell (zY w _ bh)).trans bh
                have HR280_6 := uZ hi280_6
                have HC280_6 := uZ hl280_6
                clear hi280_6 hl280_6
                replace p280 := eq_true p280
                replace q280 := eq_true q280
                have p281 : 0 ≤ (a8 : Int) := uA
                have q281 : a8 < (al.length : Int) := uA
                obtain ⟨ad281, e281, hx281_0⟩ := Kd.at_bool (zK ah.out).2.2 a8 p281 q281
                cases e281
                replace p281 := eq_true p281
                replace q281 := eq_true q281
                have p282 : 0 ≤ (a8 : Int) := uA
                have q282 : a8 < (ac.length : Int) := uA
                obtain ⟨av, e282, hx282_0⟩ := Kd.at_int (zK an.out).2.2 a8 p282 q282
                cases e282
                replace p282 := eq_true p282
                replace q282 := eq_true q282
                obtain ⟨Ao55, co55, eo55⟩ := zJ af.out
                (first | subst eo55 | (injection eo55 with f1_ f2_ f3_; have f4_ := f1_.symm; have f5_ := f3_.symm; clear f1_ f2_ f3_; subst f4_; subst f5_))
                refine start_ (n := 19) (S := fun w' => w'.cell? (b0.add ((a8).toNat * 7)) = some (.int .i64 ((rd_T40 l0 a8).f0)) ∧ w'.cell? ⟨(b0.add ((a8).toNat * 7)).block, (b0.add ((a8).toNat * 7)).off + 1, none⟩ = some (.int .i64 ((rd_T40 l0 a8).f1)) ∧ w'.cell? ⟨(b0.add ((a8).toNat * 7)).block, (b0.add ((a8).toNat * 7)).off + 2, none⟩ = some (.int .i64 ((rd_T40 l0 a8).f2)) ∧ w'.cell? ⟨(b0.add ((a8).toNat * 7)).block, (b0.add ((a8).toNat * 7)).off + 3, none⟩ = some (.int .i64 ((rd_T40 l0 a8).f3)) ∧ w'.cell? ⟨(b0.add ((a8).toNat * 7)).block, (b0.add ((a8).toNat * 7)).off + 4, none⟩ = some (.int .u32 ((rd_T40 l0 a8).f4)) ∧ w'.cell? ⟨(b0.add ((a8).toNat * 7)).block, (b0.add ((a8).toNat * 7)).off + 5, none⟩ = some (.int .i64 ((rd_T40 l0 a8).f5)) ∧ w'.cell? ⟨(b0.add ((a8).toNat * 7)).block, (b0.add ((a8).toNat * 7)).off + 6, none⟩ = some (.slice A280_6 ((rd_T40 l0 a8).f6).length c280_6) ∧ w'.cell? (ad281.add (a8).toNat) = some (.bool (rdOf false al a8)) ∧ w'.cell? (av.add (a8).toNat) = some (.int .i64 (rd ac a8))) (ds := []) #[false, false, false, false, false, false, false, false, false, false, false, false, false, false, false, false, false, false, false] (by kernel_rfl) rfl rfl ⟨((HB.out.cell (zY w _ hw280_0)).trans hw280_0), ((HB.out.cell (zY w _ hw280_1)).trans hw280_1), ((HB.out.cell (zY w _ hw280_2)).trans hw280_2), ((HB.out.cell (zY w _ hw280_3)).trans hw280_3), ((HB.out.cell (zY w _ hw280_4)).trans hw280_4), ((HB.out.cell (zY w _ hw280_5)).trans hw280_5), ((HB.out.cell (zY w _ hw280_6)).trans hw280_6), hx281_0, hx282_0⟩ (fun hHeld => ?_); refine with_tabW switchbackref17_Assemble.tab23 switchbackref17_Assemble.bits23 (fun HT_ HW_ => ?_)
                generalize wr.drew = w54 at ah an af a5 a4 ai a6 a1 HB HR280_6 bb bc bd be bf bg bh hx281_0 hx282_0 hHeld ⊢
                refine pure_ (i := 0) (N := some 95) (v := ?_) (a' := ?_) #[true, false, false, false, false, false, false, false, false, false, false, false, false, false, false, false, false, false, false] rfl rfl (yC HT_.out (by kernel_rfl)) (fun _ _ _ h => h) (Or.inl ⟨by rfl, ?_⟩) ?_ ?_
                rotate_left
                ·intro w'
                 go_simp
                 with_reducible rfl
                rotate_left
                ·simp only [Act.put, zZ, yA, yB, i64_w, i32_w]
                 rfl
                refine pure_ (i := 1) (N := some 96) (v := ?_) (a' := ?_) #[true, true, false, false, false, false, false, false, false, false, false, false, false, false, false, false, false, false, false] rfl rfl (yC HT_.out (by kernel_rfl)) (fun _ _ _ h => h) (Or.inl ⟨by rfl, ?_⟩) ?_ ?_
                rotate_left
                ·intro w'
                 go_simp
                 with_reducible rfl
                rotate_left
                ·simp only [Act.put, zZ, yA, yB, i64_w, i32_w]
                 rfl
                refine pure_ (i := 2) (N := some 97) (v := ?_) (a' := ?_) #[true, true, true, false, false, false, false, false, false, false, false, false, false, false, false, false, false, false, false] rfl rfl (yC HT_.out (by kernel_rfl)) (fun _ _ _ h => h) (Or.inl ⟨by rfl, ?_⟩) ?_ ?_
                rotate_left
                ·intro w'
                 go_simp
                 with_reducible rfl
                rotate_left
                ·simp only [Act.put, zZ, yA, yB, i64_w, i32_w]
                 rfl
                refine pure_ (i := 4) (N := some 99) (v := ?_) (a' := ?_) #[true, true, true, false, true, false, false, false, false, false, false, false, false, false, false, false, false, false, false] rfl rfl (yC HT_.out (by kernel_rfl)) (fun _ _ _ h => h) (Or.inl ⟨by rfl, ?_⟩) ?_ ?_
                rotate_left
                ·intro w'
                 go_simp
                 with_reducible rfl
                rotate_left
                ·simp only [Act.put, zZ, yA, yB, i64_w, i32_w]
                 rfl
                refine pure_ (i := 5) (N := some 100) (v := ?_) (a' := ?_) #[true, true, true, false, true, true, false, false, false, false, false, false, false, false, false, false, false, false, false] rfl rfl (yC HT_.out (by kernel_rfl)) (fun _ _ _ h => h) (Or.inl ⟨by rfl, ?_⟩) ?_ ?_
                rotate_left
                ·intro w'
                 go_simp
                 with_reducible rfl
                rotate_left
                ·simp only [Act.put, zZ, yA, yB, i64_w, i32_w]
                 rfl
                refine pure_ (i := 6) (N := some 101) (v := ?_) (a' := ?_) #[true, true, true, false, true, true, true, false, false, false, false, false, false, false, false, false, false, false, false] rfl rfl (yC HT_.out (by kernel_rfl)) (fun _ _ _ h => h) (Or.inl ⟨by rfl, ?_⟩) ?_ ?_
                rotate_left
                ·intro w'
                 go_simp
                 with_reducible rfl
                rotate_left
                ·simp only [Act.put, zZ, yA, yB, i64_w, i32_w]
                 rfl
                refine pure_ (i := 8) (N := some 103) (v := ?_) (a' := ?_) #[true, true, true, false, true, true, true, false, true, false, false, false, false, false, false, false, false, false, false] rfl rfl (yC HT_.out (by kernel_rfl)) (fun _ _ _ h => h) (Or.inl ⟨by rfl, ?_⟩) ?_ ?_
                rotate_left
                ·intro w'
                 go_simp
                 with_reducible rfl
                rotate_left
                ·simp only [Act.put, zZ, yA, yB, i64_w, i32_w]
                 rfl
                refine pure_ (i := 9) (N := some 104) (v := ?_) (a' := ?_) #[true, true, true, false, true, true, true, false, true, true, false, false, false, false, false, false, false, false, false] rfl rfl (yC HT_.out (by kernel_rfl)) (fun _ _ _ h => h) (Or.inl ⟨by rfl, ?_⟩) ?_ ?_
                rotate_left
                ·intro w'
                 go_simp
                 with_reducible rfl
                rotate_left
                ·simp only [Act.put, zZ, yA, yB, i64_w, i32_w]
                 rfl
                refine pure_ (i := 10) (N := some 105) (v := ?_) (a' := ?_) #[true, true, true, false, true, true, true, false, true, true, true, false, false, false, false, false, false, false, false] rfl rfl (yC HT_.out (by kernel_rfl)) (fun _ _ _ h => h) (Or.inl ⟨by rfl, ?_⟩) ?_ ?_
                rotate_left
                ·intro w'
                 go_simp
                 with_reducible rfl
                rotate_left
                ·simp only [Act.put, zZ, yA, yB, i64_w, i32_w]
                 rfl
                refine pure_ (i := 12) (N := some 107) (v := ?_) (a' := ?_) #[true, true, true, false, true, true, true, false, true, true, true, false, true, false, false, false, false, false, false] rfl rfl (yC HT_.out (by kernel_rfl)) (fun _ _ _ h => h) (Or.inl ⟨by rfl, ?_⟩) ?_ ?_
                rotate_left
                ·intro w'
                 go_simp
                 with_reducible rfl
                rotate_left
                ·simp only [Act.put, zZ, yA, yB, i64_w, i32_w]
                 rfl
                refine take_ (i := 3) (N := some 98) (v := ?_) (a' := ?_) #[true, true, true, true, true, true, true, false, true, true, true, false, true, false, false, false, false, false, false] rfl rfl (take_ofW HT_.out HW_.out (by kernel_rfl)) (fun _ _ _ h => h) (Or.inl ⟨by rfl, ?_⟩) hHeld ?_ ?_
                rotate_left
                ·rintro w' ⟨s0, s1, s2, s3, s4, s5, s6, s7, s8⟩
                 go_simp
                 with_reducible rfl
                rotate_left
                ·simp only [Act.put, zZ, yA, yB, i64_w, i32_w]
                 rfl
                refine take_ (i := 7) (N := some 102) (v := ?_) (a' := ?_) #[true, true, true, true, true, true, true, true, true, true, true, false, true, false, false, false, false, false, false] rfl rfl (take_ofW HT_.out HW_.out (by kernel_rfl)) (fun _ _ _ h => h) (Or.inl ⟨by rfl, ?_⟩) hHeld ?_ ?_
                rotate_left
                ·rintro w' ⟨s0, s1, s2, s3, s4, s5, s6, s7, s8⟩
                 go_simp
                 with_reducible rfl
                rotate_left
                ·simp only [Act.put, zZ, yA, yB, i64_w, i32_w]
                 rfl
                refine take_ (i := 11) (N := some 106) (v := ?_) (a' := ?_) #[true, true, true, true, true, true, true, true, true, true, true, true, true, false, false, false, false, false, false] rfl rfl (take_ofW HT_.out HW_.out (by kernel_rfl)) (fun _ _ _ h => h) (Or.inl ⟨by rfl, ?_⟩) hHeld ?_ ?_
                rotate_left
                ·rintro w' ⟨s0, s1, s2, s3, s4, s5, s6, s7, s8⟩
                 go_simp
                 with_reducible rfl
                rotate_left
                ·simp only [Act.put, zZ, yA, yB, i64_w, i32_w]
                 rfl
                refine one_ (i := 13) (N := some 108) #[true, true, true, true, true, true, true, true, true, true, true, true, true, true, false, false, false, false, false] rfl rfl (one_of HT_.out (by kernel_rfl)) (by decide) (fun K hK => ?_)
                refine goes_ Tryd.func49 (by kernel_rfl) rfl #[.agg #[.int .i64 ((rd_T40 l0 a8).f0), .int .i64 ((rd_T40 l0 a8).f1), .int .i64 ((rd_T40 l0 a8).f2), .int .i64 ((rd_T40 l0 a8).f3), .int .u32 ((rd_T40 l0 a8).f4), .int .i64 ((rd_T40 l0 a8).f5), .slice A280_6 ((rd_T40 l0 a8).f6).length c280_6], .bool (rdOf false al a8), .int .i64 (rd ac a8), .slice Ao55 ao.length co55] (by rfl) rfl rfl (by (try simp only [yD, List.map_cons, List.map_nil]); first | done | rfl | (simp only [yE, yF]; rfl)) ?_
                with_reducible refine (switchbackref17_made.calls k3 ((rd_T40 l0 a8).f0) ((rd_T40 l0 a8).f1) ((rd_T40 l0 a8).f2) ((rd_T40 l0 a8).f3) ((rd_T40 l0 a8).f4) ((rd_T40 l0 a8).f5) _ _ ((rd_T40 l0 a8).f6) (rdOf false al a8) (rd ac a8) _ _ ao t283 t286 _ ?side1 ?side2 ?side3 ?side4 A51.out).mono ?_
                (case side1 => repeat (first | exact (Kd.C_below HR280_6.out HB.out) | (with_reducible refine zL ?_ _) | (with_reducible refine zM ?_ _) | (with_reducible refine zN ?_)))
                (case side2 => exact HC280_6.out)
                (case side3 => repeat (first | exact (zK af.out).2.2 | (with_reducible refine zL ?_ _) | (with_reducible refine zM ?_ _) | (with_reducible refine zN ?_)))
                (case side4 => exact (zK af.out).2.1)
                rintro e w56 ⟨v284, v287, rfl, ho0, ho1, hb⟩
                have HS7_ := (hb.cell (zY _ _ (hHeld.2.2.2.2.2.2.2.1))).trans (hHeld.2.2.2.2.2.2.2.1)
                have HS8_ := (hb.cell (zY _ _ (hHeld.2.2.2.2.2.2.2.2))).trans (hHeld.2.2.2.2.2.2.2.2)
                refine ⟨_, rfl, ?_⟩
                have n0_ := uZ (zE (uR ah.out) hb)
                have n1_ := uZ (Kd.R_elder' (uR an.out) (Kd.R_base ho1) hb)
                have n2_ := uZ (Kd.R_elder' (uR af.out) (Kd.R_base ho1) hb)
                have n3_ := uZ (Kd.R_elder' (uR a5.out) (Kd.R_base ho0) hb)
                have n4_ := uZ (Kd.R_elder' (uR a4.out) (Kd.R_base ho1) hb)
                have n5_ := uZ (Kd.R_elder' (uR ai.out) (Kd.R_base ho1) hb)
                have n6_ := uZ (Kd.R_lower (Kd.R_new' ho0 (zH (uR a5.out))) (zW (uD HB.out am.out ap.out)))
                have n7_ := uZ (Kd.R_lower (Kd.R_new' (Kd.R_new' (Kd.R_new' (Kd.R_new' ho1 (zH (uR an.out))) (zH (uR af.out))) (zH (uR a4.out))) (zH (uR ai.out))) (zW (uD HB.out am.out ap.out)))
                have n8_ := uZ (zV (g := ae) (o := .cells #[.slice none 0 0, .slice none 0 0, .slice none 0 0, .int .i64 ad] 27 (0, 0)) (uK a6.out) hb)
                have n9_ := uZ (zV (g := a7) (o := .cells #[ag, a9, .slice (some av) ac.length aq, .int .i64 (wrap64 (a3 + 1))] 27 (0, 0)) (uK a1.out) hb)
                have n10_ := uZ (zX (uD HB.out am.out ap.out) hb)
                clear ah
                clear an
                clear af
                clear a5
                clear a4
                clear ai
                clear a6
                clear a1
                clear HB
                have ah := n0_
                have an := n1_
                have af := n2_
                have a5 := n3_
                have a4 := n4_
                have ai := n5_
                have bi := n6_
                have bj := n7_
                have a6 := n8_
                have a1 := n9_
                have HB := n10_
                clear n0_ n1_ n2_ n3_ n4_ n5_ n6_ n7_ n8_ n9_ n10_
                (try clear hb)
                (try clear hb2)
                (try clear hk)
                (try clear hi)
                (try clear ho0)
                (try clear ho1)
                refine hK.out _ _ ⟨((HB.out.cell (zY w _ hw280_0)).trans hw280_0), ((HB.out.cell (zY w _ hw280_1)).trans hw280_1), ((HB.out.cell (zY w _ hw280_2)).trans hw280_2), ((HB.out.cell (zY w _ hw280_3)).trans hw280_3), ((HB.out.cell (zY w _ hw280_4)).trans hw280_4), ((HB.out.cell (zY w _ hw280_5)).trans hw280_5), ((HB.out.cell (zY w _ hw280_6)).trans hw280_6), HS7_, HS8_⟩ (fun hHeld => ?_)
                clear hK K
                refine norm_ (a' := ?_) ?_ ?_
                rotate_left
                ·show Act.put _ (some 108) _ = _
                 simp only [Act.put, zZ, yA, yB, i64_w, i32_w]
                 rfl
                refine pure_ (i := 14) (N := some 94) (v := ?_) (a' := ?_) #[true, true, true, true, true, true, true, true, true, true, true, true, true, true, true, false, false, false, false] rfl rfl (yC HT_.out (by kernel_rfl)) (fun _ _ _ h => h) (Or.inl ⟨by rfl, ?_⟩) ?_ ?_
                rotate_left
                ·intro w'
                 go_simp
                 with_reducible rfl
                rotate_left
                ·simp only [Act.put, zZ, yA, yB, i64_w, i32_w]
                 rfl
                refine pure_ (i := 15) (N := some 109) (v := ?_) (a' := ?_) #[true, true, true, true, true, true, true, true, true, true, true, true, true, true, true, true, false, false, false] rfl rfl (yC HT_.out (by kernel_rfl)) (fun _ _ _ h => h) (Or.inl ⟨by rfl, ?_⟩) ?_ ?_
                rotate_left
                ·intro w'
                 go_simp
                 with_reducible rfl
                rotate_left
                ·simp only [Act.put, zZ, yA, yB, i64_w, i32_w]
                 rfl
                refine pure_ (i := 16) (N := some 110) (v := ?_) (a' := ?_) #[true, true, true, true, true, true, true, true, true, true, true, true, true, true, true, true, true, false, false] rfl rfl (yC HT_.out (by kernel_rfl)) (fun _ _ _ h => h) (Or.inl ⟨by rfl, ?_⟩) ?_ ?_
                rotate_left
                ·intro w'
                 go_simp
                 with_reducible rfl
                rotate_left
                ·simp only [Act.put, zZ, yA, yB, i64_w, i32_w]
                 rfl
                refine pure_ (i := 17) (N := some 16) (v := ?_) (a' := ?_) #[true, true, true, true, true, true, true, true, true, true, true, true, true, true, true, true, true, true, false] rfl rfl (yC HT_.out (by kernel_rfl)) (fun _ _ _ h => h) (Or.inl ⟨by rfl, ?_⟩) ?_ ?_
                rotate_left
                ·intro w'
                 go_simp
                 with_reducible rfl
                rotate_left
                ·simp only [Act.put, zZ, yA, yB, i64_w, i32_w]
                 rfl
                refine pure_ (i := 18) (N := some 17) (v := ?_) (a' := ?_) #[true, true, true, true, true, true, true, true, true, true, true, true, true, true, true, true, true, true, true] rfl rfl (yC HT_.out (by kernel_rfl)) (fun _ _ _ h => h) (Or.inl ⟨by rfl, ?_⟩) ?_ ?_
                rotate_left
                ·intro w'
                 go_simp
                 with_reducible rfl
                rotate_left
                ·simp only [Act.put, zZ, yA, yB, i64_w, i32_w]
                 rfl
                refine done_ (done_of HT_.out (by kernel_rfl)) ?_
                have hnb57 := a_.out
                have hnc57 := ar.out
                have hcz58_0 : w56.cell? ⟨a7, 0, none⟩ = some (ag) := (zT a1.out 0).trans rfl
                have hcz58_1 : w56.cell? ⟨a7, 1, none⟩ = some (a9) := (zT a1.out 1).trans rfl
                have hcz58_2 : w56.cell? ⟨a7, 2, none⟩ = some (.slice (some av) ac.length aq) := (zT a1.out 2).trans rfl
                have hcz58_3 : w56.cell? ⟨a7, 3, none⟩ = some (.int .i64 (wrap64 (a3 + 1))) := (zT a1.out 3).trans rfl
                have hfz58_0 := zS a1.out 0
                have hfz58_1 := zS a1.out 1
                have hfz58_2 := zS a1.out 2
                have hfz58_3 := zS a1.out 3
                obtain ⟨Ao60, co60, eo60⟩ := zJ bi.out
                subst eo60
                try go_wp2_with (first | ((with_reducible refine gate_builtin (b := .append) (xs := #[.tmp 112, .tmp 113]) rfl ?_); at_builtin; refine Kd.R_append_rows (Kd.int .u32) (w0 := w) w.heap.size rfl (.tmp 112) (.tmp 113) 24 38 (.int .u32 0) 4 rfl Tryd.underlying24 info38 rfl (by decide) (by omega) ag ak t283 _ _ _ (fun k_ => some k_ ≠ (.slice Ao60 t283.length co60 : Value).ownBlock) (fun _ => False) rfl rfl ?aO ?aR (fun _ _ h => h) (fun _ h => h.elim) ?aF ?aB ?aS ?aL ?_; (case aR => repeat (first | exact (zK bi.out).2.2 | (with_reducible refine zL ?_ _) | (with_reducible refine zM ?_ _) | (with_reducible refine zN ?_))); (case aB => exact (uD HB.out am.out ap.out)); (case aF => exact (fun k_ hk => Kd.fresh' (zH (uR bi.out)) k_ hk)); (case aO => exact (by (with_reducible repeat (first | apply zA | apply zB | apply zC)); exact zF a5.out (fun _ hk => hk.2))); (case aS => exact (zW (uD HB.out am.out ap.out))); (case aL => have := LMc52.out; omega); intro v290 w59 ho hb hg hat; rw [← Ny289.out] at ho; have n0_ := uZ (zI (uR ah.out) (Kd.R_typed (uR a5.out)) (by decide) hg); have n1_ := uZ (zI (uR an.out) (Kd.R_typed (uR a5.out)) (by decide) hg); have n2_ := uZ (zI (uR af.out) (Kd.R_typed (uR a5.out)) (by decide) hg); have n3_ := uZ (zI (uR a4.out) (Kd.R_typed (uR a5.out)) (by decide) hg); have n4_ := uZ (zI (uR ai.out) (Kd.R_typed (uR a5.out)) (by decide) hg); have n5_ := uZ (blk_grown (g := ae) (o := .cells #[.slice none 0 0, .slice none 0 0, .slice none 0 0, .int .i64 ad] 27 (0, 0)) (uK a6.out) hg (Kd.R_ne a5.out a6.out (by decide))); have n6_ := uZ (blk_grown (g := a7) (o := .cells #[ag, a9, .slice (some av) ac.length aq, .int .i64 (wrap64 (a3 + 1))] 27 (0, 0)) (uK a1.out) hg (Kd.R_ne a5.out a1.out (by decide))); have n7_ := uZ (Kd.R_after (ok := (fun _ => True)) (uR bi.out) hg hat); have n8_ := uZ (zI (uR bj.out) (Kd.R_typed (uR a5.out)) (by decide) hg); have n9_ := uZ (hb); have n10_ := uZ (ho); clear ah; clear an; clear af; clear a4; clear ai; clear a6; clear a1; clear bi; clear bj; clear HB; clear a5; have ah := n0_; have an := n1_; have af := n2_; have a4 := n3_; have ai := n4_; have a6 := n5_; have a1 := n6_; have bi := n7_; have bj := n8_; have HB := n9_; have HO291 := n10_; clear n0_ n1_ n2_ n3_ n4_ n5_ n6_ n7_ n8_ n9_ n10_; clear ho hb hg hat; obtain ⟨b1, b2, eo61⟩ := zJ HO291.out; subst eo61; have hcz62_0 : w59.cell? ⟨a7, 0, none⟩ = some (ag) := (zT a1.out 0).trans rfl; have hcz62_1 : w59.cell? ⟨a7, 1, none⟩ = some (a9) := (zT a1.out 1).trans rfl; have hcz62_2 : w59.cell? ⟨a7, 2, none⟩ = some (.slice (some av) ac.length aq) := (zT a1.out 2).trans rfl; have hcz62_3 : w59.cell? ⟨a7, 3, none⟩ = some (.int .i64 (wrap64 (a3 + 1))) := (zT a1.out 3).trans rfl; have hfz62_0 := zS a1.out 0; have hfz62_1 := zS a1.out 1; have hfz62_2 := zS a1.out 2; have hfz62_3 := zS a1.out 3; obtain ⟨Ao64, co64, eo64⟩ := zJ bj.out; subst eo64) | ((with_reducible refine gate_builtin (b := .append) (xs := #[.tmp 117, .tmp 118]) rfl ?_); at_builtin; refine Kd.R_append_rows (Kd.int .i64) (w0 := w) w.heap.size rfl (.tmp 117) (.tmp 118) 25 3 (.int .i64 0) 8 rfl Tryd.underlying25 info3 rfl (by decide) (by omega) a9 aj t286 _ _ _ (fun k_ => some k_ ≠ (.slice (some av) ac.length aq : Value).ownBlock ∧ some k_ ≠ (.slice Ao55 ao.length co55 : Value).ownBlock ∧ some k_ ≠ (.slice (some av) ac.length aq : Value).ownBlock ∧ some k_ ≠ (.slice Ao64 t286.length co64 : Value).ownBlock) (fun _ => False) rfl rfl ?aO ?aR (fun _ _ h => h) (fun _ h => h.elim) ?aF ?aB ?aS ?aL ?_; (case aR => refine (zK (e := 3) (base := w.heap.size) (ok := fun k_ => ((((True ∧ some k_ ≠ (.slice (some av) ac.length aq : Value).ownBlock) ∧ some k_ ≠ (.slice Ao55 ao.length co55 : Value).ownBlock) ∧ some k_ ≠ (a9 : Value).ownBlock) ∧ some k_ ≠ (.slice (some av) ac.length aq : Value).ownBlock)) (n := t286.length) (c := co64) ?_).2.2; exact (by (with_reducible repeat (first | apply zA | apply zB | apply zC)); exact (zF (zD (p := ⟨a7, 0, none⟩) (zG bj.out a1.out (by decide)) (fun _ hk => hk.2) (.slice b1 ax.length b2)) (fun _ h_ => h_.1)))); (case aB => exact (uD HB.out am.out ap.out)); (case aF => exact (fun k_ hk => ⟨Kd.fresh' (zH (by (with_reducible repeat (first | apply zA | apply zB | apply zC)); exact (zF (zD (p := ⟨a7, 0, none⟩) (zG an.out a1.out (by decide)) (fun _ hk => hk.2) (.slice b1 ax.length b2)) (fun _ h_ => h_.1)))) k_ hk, Kd.fresh' (zH (by (with_reducible repeat (first | apply zA | apply zB | apply zC)); exact (zF (zD (p := ⟨a7, 0, none⟩) (zG af.out a1.out (by decide)) (fun _ hk => hk.2) (.slice b1 ax.length b2)) (fun _ h_ => h_.1)))) k_ hk, Kd.fresh' (zH (by (with_reducible repeat (first | apply zA | apply zB | apply zC)); exact (zF (zD (p := ⟨a7, 0, none⟩) (zG ai.out a1.out (by decide)) (fun _ hk => hk.2) (.slice b1 ax.length b2)) (fun _ h_ => h_.1)))) k_ hk, Kd.fresh' (zH (by (with_reducible repeat (first | apply zA | apply zB | apply zC)); exact (zF (zD (p := ⟨a7, 0, none⟩) (zG bj.out a1.out (by decide)) (fun _ hk => hk.2) (.slice b1 ax.length b2)) (fun _ h_ => h_.1)))) k_ hk⟩)); (case aO => exact (by (with_reducible repeat (first | apply zA | apply zB | apply zC)); exact zF (zD (p := ⟨a7, 0, none⟩) (zG a4.out a1.out (by decide)) (fun _ hk => hk.2) (.slice b1 ax.length b2)) (fun _ hk => ⟨hk.1.1.1, ⟨hk.1.1.2.1, ⟨hk.1.1.2.2, hk.1.2⟩⟩⟩))); (case aS => exact (zW (uD HB.out am.out ap.out))); (case aL => have := LMc53.out; omega); intro v293 w63 ho hb hg hat; rw [← Ny292.out] at ho; have n0_ := uZ (zI (by (with_reducible repeat (first | apply zA | apply zB | apply zC)); exact (zF (zD (p := ⟨a7, 0, none⟩) (zG ah.out a1.out (by decide)) (fun _ hk => hk.2) (.slice b1 ax.length b2)) (fun _ h_ => h_.1))) (Kd.R_typed (by (with_reducible repeat (first | apply zA | apply zB | apply zC)); exact (zF (zD (p := ⟨a7, 0, none⟩) (zG a4.out a1.out (by decide)) (fun _ hk => hk.2) (.slice b1 ax.length b2)) (fun _ h_ => h_.1)))) (by decide) hg); have n1_ := uZ (Kd.R_after (ok := (fun k_ => some k_ ≠ (.slice Ao55 ao.length co55 : Value).ownBlock ∧ some k_ ≠ (.slice Ao64 t286.length co64 : Value).ownBlock)) (by (with_reducible repeat (first | apply zA | apply zB | apply zC)); exact zF (zD (p := ⟨a7, 0, none⟩) (zG an.out a1.out (by decide)) (fun _ hk => hk.2) (.slice b1 ax.length b2)) (fun _ hk => ⟨⟨hk.1.1.1, hk.1.2⟩, hk.1.1.2⟩)) hg hat); have n2_ := uZ (Kd.R_after (ok := (fun k_ => some k_ ≠ (.slice (some av) ac.length aq : Value).ownBlock ∧ some k_ ≠ (.slice (some av) ac.length aq : Value).ownBlock ∧ some k_ ≠ (.slice Ao64 t286.length co64 : Value).ownBlock)) (by (with_reducible repeat (first | apply zA | apply zB | apply zC)); exact zF (zD (p := ⟨a7, 0, none⟩) (zG af.out a1.out (by decide)) (fun _ hk => hk.2) (.slice b1 ax.length b2)) (fun _ hk => ⟨⟨hk.1.1.1, ⟨hk.1.1.2.2, hk.1.2⟩⟩, hk.1.1.2.1⟩)) hg hat); have n3_ := uZ (Kd.R_after (ok := (fun k_ => some k_ ≠ (.slice Ao55 ao.length co55 : Value).ownBlock ∧ some k_ ≠ (.slice Ao64 t286.length co64 : Value).ownBlock)) (by (with_reducible repeat (first | apply zA | apply zB | apply zC)); exact zF (zD (p := ⟨a7, 0, none⟩) (zG ai.out a1.out (by decide)) (fun _ hk => hk.2) (.slice b1 ax.length b2)) (fun _ hk => ⟨⟨hk.1.1.1, hk.1.2⟩, hk.1.1.2⟩)) hg hat); have n4_ := uZ (blk_grown (g := ae) (o := .cells #[.slice none 0 0, .slice none 0 0, .slice none 0 0, .int .i64 ad] 27 (0, 0)) (by (with_reducible repeat (first | apply zO | apply zP | apply zQ)); refine blk_far ?_ ar.out _; (with_reducible repeat (first | apply zO | apply zP | apply zQ)); exact a6.out) hg (Kd.R_ne a4.out a6.out (by decide))); have n5_ := uZ (blk_grown (g := a7) (o := .cells #[.slice b1 ax.length b2, a9, .slice (some av) ac.length aq, .int .i64 (wrap64 (a3 + 1))] 27 (0, 0)) (by (with_reducible repeat (first | apply zO | apply zP | apply zQ)); refine zU (cs := #[ag, a9, .slice (some av) ac.length aq, .int .i64 (wrap64 (a3 + 1))]) ?_ 0 _ rfl; (with_reducible repeat (first | apply zO | apply zP | apply zQ)); exact a1.out) hg (Kd.R_ne a4.out a1.out (by decide))); have n6_ := uZ (zI (by (with_reducible repeat (first | apply zA | apply zB | apply zC)); exact (zF (zD (p := ⟨a7, 0, none⟩) (zG bi.out a1.out (by decide)) (fun _ hk => hk.2) (.slice b1 ax.length b2)) (fun _ h_ => h_.1))) (Kd.R_typed (by (with_reducible repeat (first | apply zA | apply zB | apply zC)); exact (zF (zD (p := ⟨a7, 0, none⟩) (zG a4.out a1.out (by decide)) (fun _ hk => hk.2) (.slice b1 ax.length b2)) (fun _ h_ => h_.1)))) (by decide) hg); have n7_ := uZ (Kd.R_after (ok := (fun k_ => some k_ ≠ (.slice (some av) ac.length aq : Value).ownBlock ∧ some k_ ≠ (.slice Ao55 ao.length co55 : Value).ownBlock ∧ some k_ ≠ (.slice (some av) ac.length aq : Value).ownBlock)) (by (with_reducible repeat (first | apply zA | apply zB | apply zC)); exact zF (zD (p := ⟨a7, 0, none⟩) (zG bj.out a1.out (by decide)) (fun _ hk => hk.2) (.slice b1 ax.length b2)) (fun _ hk => ⟨⟨hk.1.1.1.1.2, ⟨hk.1.1.1.2, hk.1.2⟩⟩, hk.1.1.2⟩)) hg hat); have n8_ := uZ (zI (by (with_reducible repeat (first | apply zA | apply zB | apply zC)); exact (zF (zD (p := ⟨a7, 0, none⟩) (zG HO291.out a1.out (by decide)) (fun _ hk => hk.2) (.slice b1 ax.length b2)) (fun _ h_ => h_.1))) (Kd.R_typed (by (with_reducible repeat (first | apply zA | apply zB | apply zC)); exact (zF (zD (p := ⟨a7, 0, none⟩) (zG a4.out a1.out (by decide)) (fun _ hk => hk.2) (.slice b1 ax.length b2)) (fun _ h_ => h_.1)))) (by decide) hg); have n9_ := uZ (hb); have n10_ := uZ (ho); clear ah; clear an; clear af; clear ai; clear a6; clear a1; clear bi; clear bj; clear HO291; clear HB; clear a4; have ah := n0_; have an := n1_; have af := n2_; have ai := n3_; have a6 := n4_; have a1 := n5_; have bi := n6_; have bj := n7_; have HO291 := n8_; have HB := n9_; have HO294 := n10_; clear n0_ n1_ n2_ n3_ n4_ n5_ n6_ n7_ n8_ n9_ n10_; clear ho hb hg hat; obtain ⟨Ao65, co65, eo65⟩ := zJ HO294.out; subst eo65; have hcz66_0 : w63.cell? ⟨a7, 0, none⟩ = some (.slice b1 ax.length b2) := (zT a1.out 0).trans rfl; have hcz66_1 : w63.cell? ⟨a7, 1, none⟩ = some (a9) := (zT a1.out 1).trans rfl; have hcz66_2 : w63.cell? ⟨a7, 2, none⟩ = some (.slice (some av) ac.length aq) := (zT a1.out 2).trans rfl; have hcz66_3 : w63.cell? ⟨a7, 3, none⟩ = some (.int .i64 (wrap64 (a3 + 1))) := (zT a1.out 3).trans rfl; have hfz66_0 := zS a1.out 0; have hfz66_1 := zS a1.out 1; have hfz66_2 := zS a1.out 2; have hfz66_3 := zS a1.out 3))
                go_roundg k3
                case measure => have := HK1.out; have := HK2.out; have := HK3.out; omega
                case rel => exact ⟨(wrap64 (a8 + 1)), (ax), (y292), (.slice b1 ax.length b2), (.slice Ao65 y292.length co65), (by first | rfl | (simp; done) | (simp [*]; done)), H', ⟨by have := HK1.out; have := HK2.out; have := HK3.out; omega⟩, ⟨by (try simp only [hl7_2]); (with_reducible repeat (first | apply zA | apply zB | apply zC)); exact zF (zD (p := ⟨a7, 1, none⟩) (zG ah.out a1.out (by decide)) (fun _ hk => hk.2) (.slice Ao65 y292.length co65)) (fun _ hk => trivial)⟩, ⟨by (try simp only [hl7_2]); (with_reducible repeat (first | apply zA | apply zB | apply zC)); exact zF (zD (p := ⟨a7, 1, none⟩) (zG an.out a1.out (by decide)) (fun _ hk => hk.2) (.slice Ao65 y292.length co65)) (fun _ hk => ⟨hk.1.1.1, hk.1.2⟩)⟩, ⟨by (try simp only [hl7_2]); (with_reducible repeat (first | apply zA | apply zB | apply zC)); exact zF (zD (p := ⟨a7, 1, none⟩) (zG af.out a1.out (by decide)) (fun _ hk => hk.2) (.slice Ao65 y292.length co65)) (fun _ hk => ⟨hk.1.1.1, ⟨hk.1.2, hk.1.1.2.1⟩⟩)⟩, ⟨by (try simp only [hl7_2]); (with_reducible repeat (first | apply zA | apply zB | apply zC)); exact zF (zD (p := ⟨a7, 1, none⟩) (zG HO291.out a1.out (by decide)) (fun _ hk => hk.2) (.slice Ao65 y292.length co65)) (fun _ hk => trivial)⟩, ⟨by (try simp only [hl7_2]); (with_reducible repeat (first | apply zA | apply zB | apply zC)); exact zF (zD (p := ⟨a7, 1, none⟩) (zG HO294.out a1.out (by decide)) (fun _ hk => hk.2) (.slice Ao65 y292.length co65)) (fun _ hk => ⟨hk.1.1, ⟨hk.1.2.1, hk.1.2.2.1⟩⟩)⟩, ⟨by (try simp only [hl7_2]); (with_reducible repeat (first | apply zA | apply zB | apply zC)); exact zF (zD (p := ⟨a7, 1, none⟩) (zG ai.out a1.out (by decide)) (fun _ hk => hk.2) (.slice Ao65 y292.length co65)) (fun _ hk => ⟨hk.1.1.1, hk.1.2⟩)⟩, ⟨by (try simp only [hl7_2]); (with_reducible repeat (first | apply zO | apply zP | apply zQ)); refine blk_far ?_ ar.out _; (with_reducible repeat (first | apply zO | apply zP | apply zQ)); exact a6.out⟩, ⟨by (try simp only [hl7_2]); (with_reducible repeat (first | apply zO | apply zP | apply zQ)); refine zU (cs := #[.slice b1 ax.length b2, a9, .slice (some av) ac.length aq, .int .i64 (wrap64 (a3 + 1))]) ?_ 1 _ rfl; (with_reducible repeat (first | apply zO | apply zP | apply zQ)); exact a1.out⟩, ⟨uD HB.out am.out ap.out⟩⟩
               rw [if_neg c53] at H
               exact absurd H (by simp)
              rw [if_neg c52] at H
              exact absurd H (by simp)
             rw [if_neg c50] at H
             exact absurd H (by simp)
            rw [if_neg c49] at H
            exact absurd H (by simp)
           rw [if_neg c48] at H
           exact absurd H (by simp)
          rw [if_neg c47] at H
          have c47b0 : decide (a8 < (l0.length : Int)) = false := decide_eq_false c47
          clear c47
          simp only [Option.some.injEq, Prod.mk.injEq] at H
          obtain ⟨rfl, rfl, rfl, rfl, rfl, rfl⟩ := H
          have hnb67 := a_.out
          have hnc67 := ar.out
          have hcz68_0 : wr.cell? ⟨a7, 0, none⟩ = some (ag) := (zT a1.out 0).trans rfl
          have hcz68_1 : wr.cell? ⟨a7, 1, none⟩ = some (a9) := (zT a1.out 1).trans rfl
          have hcz68_2 : wr.cell? ⟨a7, 2, none⟩ = some (.slice ba ac.length aq) := (zT a1.out 2).trans rfl
          have hcz68_3 : wr.cell? ⟨a7, 3, none⟩ = some (.int .i64 (wrap64 (a3 + 1))) := (zT a1.out 3).trans rfl
          have hfz68_0 := zS a1.out 0
          have hfz68_1 := zS a1.out 1
          have hfz68_2 := zS a1.out 2
          have hfz68_3 := zS a1.out 3
          obtain ⟨Ao69, co69, eo69⟩ := zJ a5.out
          subst eo69
          have hcz70_0 : wr.cell? ⟨ae, 0, none⟩ = some (.slice none 0 0) := (zT a6.out 0).trans rfl
          have hcz70_1 : wr.cell? ⟨ae, 1, none⟩ = some (.slice none 0 0) := (zT a6.out 1).trans rfl
          have hcz70_2 : wr.cell? ⟨ae, 2, none⟩ = some (.slice none 0 0) := (zT a6.out 2).trans rfl
          have hcz70_3 : wr.cell? ⟨ae, 3, none⟩ = some (.int .i64 ad) := (zT a6.out 3).trans rfl
          have hfz70_0 := zS a6.out 0
          have hfz70_1 := zS a6.out 1
          have hfz70_2 := zS a6.out 2
          have hfz70_3 := zS a6.out 3
          obtain ⟨Ao71, co71, eo71⟩ := zJ a4.out
          subst eo71
          go_wp2
          refine bodyPost_ret (results_ctt rfl _ _ ae 27 #[.slice Ao69 ak.length co69, .slice Ao71 aj.length co71, .slice ba ac.length aq, .int .i64 (wrap64 (a3 + 1))] (0, 0) _ rfl (by (with_reducible repeat (first | apply zO | apply zP | apply zQ)); refine zU (cs := #[.slice Ao69 ak.length co69, .slice Ao71 aj.length co71, .slice ba ac.length aq, .int .i64 ad]) ?_ 3 _ rfl; (with_reducible repeat (first | apply zO | apply zP | apply zQ)); refine zU (cs := #[.slice Ao69 ak.length co69, .slice Ao71 aj.length co71, .slice none 0 0, .int .i64 ad]) ?_ 2 _ rfl; (with_reducible repeat (first | apply zO | apply zP | apply zQ)); refine zU (cs := #[.slice Ao69 ak.length co69, .slice none 0 0, .slice none 0 0, .int .i64 ad]) ?_ 1 _ rfl; (with_reducible repeat (first | apply zO | apply zP | apply zQ)); refine zU (cs := #[.slice none 0 0, .slice none 0 0, .slice none 0 0, .int .i64 ad]) ?_ 0 _ rfl; (with_reducible repeat (first | apply zO | apply zP | apply zQ)); exact a6.out) Tryd.underlying27 rfl (by kernel_rfl)) rfl ?_
          exact ⟨_, _, _, by first | rfl | (simp [errW_none, errW_some] <;> rfl) | (simp [*, errW_none, errW_some] <;> rfl), by (with_reducible repeat (first | apply zA | apply zB | apply zC)); exact zF (zD (p := ⟨ae, 3, none⟩) (zD (p := ⟨ae, 2, none⟩) (zD (p := ⟨ae, 1, none⟩) (zD (p := ⟨ae, 0, none⟩) (zG a5.out a6.out (by decide)) (fun _ hk => hk.2) (.slice Ao69 ak.length co69)) (fun _ hk => hk.2) (.slice Ao71 aj.length co71)) (fun _ hk => hk.2) (.slice ba ac.length aq)) (fun _ hk => hk.2) (.int .i64 (wrap64 (a3 + 1)))) (fun _ hk => trivial), by (with_reducible repeat (first | apply zA | apply zB | apply zC)); exact zF (zD (p := ⟨ae, 3, none⟩) (zD (p := ⟨ae, 2, none⟩) (zD (p := ⟨ae, 1, none⟩) (zD (p := ⟨ae, 0, none⟩) (zG a4.out a6.out (by decide)) (fun _ hk => hk.2) (.slice Ao69 ak.length co69)) (fun _ hk => hk.2) (.slice Ao71 aj.length co71)) (fun _ hk => hk.2) (.slice ba ac.length aq)) (fun _ hk => hk.2) (.int .i64 (wrap64 (a3 + 1)))) (fun _ hk => hk.1.2.2), by (with_reducible repeat (first | apply zA | apply zB | apply zC)); exact zF (zD (p := ⟨ae, 3, none⟩) (zD (p := ⟨ae, 2, none⟩) (zD (p := ⟨ae, 1, none⟩) (zD (p := ⟨ae, 0, none⟩) (zG ai.out a6.out (by decide)) (fun _ hk => hk.2) (.slice Ao69 ak.length co69)) (fun _ hk => hk.2) (.slice Ao71 aj.length co71)) (fun _ hk => hk.2) (.slice ba ac.length aq)) (fun _ hk => hk.2) (.int .i64 (wrap64 (a3 + 1)))) (fun _ hk => hk.1.2), by repeat (first | (with_reducible first | exact HB.out | apply below_alloc | apply pw_below_drewN | apply zR | refine below_set ?_ am.out | refine below_set ?_ ap.out) | exact HB.out)⟩
   rw [if_neg c5] at H
   exact absurd H (by simp)
  rw [if_neg c4] at H
  exact absurd H (by simp)
 rw [if_neg c3] at H
 have c3b0 : (t260 == 0) = false := beq_eq_false_iff_ne.mpr c3
 have c3b1 : (t260 != 0) = true := bne_iff_ne.mpr c3
 simp only [Option.some.injEq, Prod.mk.injEq] at H
 obtain ⟨rfl, rfl, rfl, rfl, rfl, rfl⟩ := H
 go_enter Tryd.func20, Tryd.ntmps20
 go_wp2_with (first | ((with_reducible refine gate_dst (N := 2) rfl ?_); refine box_event ?hg (N := 2) ?hd (cs := #[.slice none 0 0, .slice none 0 0, .slice none 0 0, .int .i64 0]) (t := 27) ?hr ?_; (case hd => rfl); (case hg => rfl); (case hr => first | (go_simp; done) | (go_simp; rfl)); intro ae hg w72 hbox hb; have n0_ := uZ (zX (uB HB.out) hb); have n1_ := uZ (hbox); have n2_ := uZ ((by rw [hg]; exact (zW (uB HB.out)) : w.heap.size ≤ ae)); have n3_ := uZ ((by rw [hg]; exact (zW (uB HB.out)) : w.heap.size ≤ ae)); clear HB; have HB := n0_; have a6 := n1_; have GW258 := n2_; have am := n3_; clear n0_ n1_ n2_ n3_; clear hb hbox hg) | ((with_reducible refine gate_callee (f := 48) rfl ?_); refine goesL_ (some 20) rfl rfl Tryd.func48 (by kernel_rfl) rfl #[.slice A0 l0.length c0] rfl (by (try simp only [yD, List.map_cons, List.map_nil]); first | done | rfl | (simp only [yE, yF]; rfl)) ?_; (with_reducible refine (switchbackref17_refused.calls k _ _ l0 t259 t260 _ ?side1 ?side2 A2.out).mono ?_); (case side1 => repeat (first | exact (Kd.C_below HR0.out HB.out) | (with_reducible refine zL ?_ _) | (with_reducible refine zM ?_ _) | (with_reducible refine zN ?_))); (case side2 => exact HC0.out); rintro e w73 ⟨rfl, hb⟩; refine ⟨_, rfl, ?_⟩; have n0_ := uZ (zV (g := ae) (o := .cells #[.slice none 0 0, .slice none 0 0, .slice none 0 0, .int .i64 0] 27 (0, 0)) (uK a6.out) hb); have n1_ := uZ (zX (uC HB.out am.out) hb); clear a6; clear HB; have a6 := n0_; have HB := n1_; clear n0_ n1_; (try clear hb); (try clear hb2); (try clear hk); (try clear hi); have hcz74_0 : w73.cell? ⟨ae, 0, none⟩ = some (.slice none 0 0) := (zT a6.out 0).trans rfl; have hcz74_1 : w73.cell? ⟨ae, 1, none⟩ = some (.slice none 0 0) := (zT a6.out 1).trans rfl; have hcz74_2 : w73.cell? ⟨ae, 2, none⟩ = some (.slice none 0 0) := (zT a6.out 2).trans rfl; have hcz74_3 : w73.cell? ⟨ae, 3, none⟩ = some (.int .i64 0) := (zT a6.out 3).trans rfl; have hfz74_0 := zS a6.out 0; have hfz74_1 := zS a6.out 1; have hfz74_2 := zS a6.out 2; have hfz74_3 := zS a6.out 3))
 refine bodyPost_ret (results_ctt rfl _ _ ae 27 #[.slice none 0 0, .slice none 0 0, .slice none 0 0, .int .i64 0] (0, 0) _ rfl (by (with_reducible repeat (first | apply zO | apply zP | apply zQ)); refine zU (cs := #[.slice none 0 0, .slice none 0 0, .slice none 0 0, .int .i64 0]) ?_ 3 _ rfl; (with_reducible repeat (first | apply zO | apply zP | apply zQ)); refine zU (cs := #[.slice none 0 0, .slice none 0 0, .slice none 0 0, .int .i64 0]) ?_ 2 _ rfl; (with_reducible repeat (first | apply zO | apply zP | apply zQ)); refine zU (cs := #[.slice none 0 0, .slice none 0 0, .slice none 0 0, .int .i64 0]) ?_ 1 _ rfl; (with_reducible repeat (first | apply zO | apply zP | apply zQ)); refine zU (cs := #[.slice none 0 0, .slice none 0 0, .slice none 0 0, .int .i64 0]) ?_ 0 _ rfl; (with_reducible repeat (first | apply zO | apply zP | apply zQ)); exact a6.out) Tryd.underlying27 rfl (by kernel_rfl)) rfl ?_
 exact ⟨_, _, _, by first | rfl | (simp [errW_none, errW_some] <;> rfl) | (simp [*, errW_none, errW_some] <;> rfl), by first | exact Kd.R_nil _ _ _ _ _ | exact Kd.N_nil _ _ _ _ _ | exact Kd.V_nil _ _ _ _ _ | exact Kd.Q_nil _ _ _ _ _ | exact Kd.S_nil _ _ _ _ _, by first | exact Kd.R_nil _ _ _ _ _ | exact Kd.N_nil _ _ _ _ _ | exact Kd.V_nil _ _ _ _ _ | exact Kd.Q_nil _ _ _ _ _ | exact Kd.S_nil _ _ _ _ _, by first | exact Kd.R_nil _ _ _ _ _ | exact Kd.N_nil _ _ _ _ _ | exact Kd.V_nil _ _ _ _ _ | exact Kd.Q_nil _ _ _ _ _ | exact Kd.S_nil _ _ _ _ _, by repeat (first | (with_reducible first | exact HB.out | apply below_alloc | apply pw_below_drewN | apply zR | refine below_set ?_ am.out) | exact HB.out)⟩

end Go.Proofs.YtamimnaafiphcaaDoor.PR1D
