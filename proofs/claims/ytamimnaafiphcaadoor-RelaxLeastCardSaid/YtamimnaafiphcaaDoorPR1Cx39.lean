-- Written by gp.py for this claim.
import Derived.Test.YtamimnaafiphcaaDoorPR1CZ
import Derived.Test.YtamimnaafiphcaaDoorPR1Cx38
namespace Go.Proofs.YtamimnaafiphcaaDoor.PR1C
open Go.RowKit Go.Proofs.YtamimnaafiphcaaDoorW.PrintWords Go.Proofs.YtamimnaafiphcaaDoorW.PrintLast Go.Proofs.YtamimnaafiphcaaDoorW.PrintMore
attribute [local go_sem] max2_int min2_int max_two min_two max_three min_three max_four min_four   -- for this text's walks alone
set_option linter.unusedVariables false
set_option linter.unusedSimpArgs false

namespace q_switchbackref17_Places
theorem uZ {p : Prop} (h : p) : Aside0 p := ⟨h⟩
theorem uR {p q : Prop} (h : p) (g : p → q := by intro h; (with_reducible repeat (first | apply Kd.R_alloc | apply Kd.R_drewN | apply Kd.R_drew)); exact h) : q := g h
theorem uB {p q : Prop} (h : p) (g : p → q := by intro h; repeat (first | (with_reducible first | exact h | apply below_alloc | apply pw_below_drewN | apply below_drew1) | exact h)) : q := g h
theorem uA {p : Prop} [Decidable p] (h : decide p = true := by first | (with_reducible assumption) | assumption) : p := of_decide_eq_true h
theorem zA : type_of% @Kd.R_alloc := @Kd.R_alloc
theorem zB : type_of% @Kd.R_drewN := @Kd.R_drewN
theorem zC : type_of% @Kd.R_drew := @Kd.R_drew
theorem zD : type_of% @World.block_lt_of_cell? := @World.block_lt_of_cell?
theorem zE : type_of% @List.setIfInBounds_toArray := @List.setIfInBounds_toArray
theorem zF : type_of% @List.set_cons_zero := @List.set_cons_zero
theorem zG : type_of% @List.set_cons_succ := @List.set_cons_succ
end q_switchbackref17_Places
open q_switchbackref17_Places

/-! ### switchbackref17_Places: function 30 -/
mutual
def switchbackref17_Places.l0 : Nat → List (S40) → List Bool → List Int → Int → Option (List Int × Int × List Int)
  | 0, _, _, _, _ => none
  | k + 1, x0, x1, x7, x8 => if x8 ≤ 100000 then (if 0 ≤ x8 then (if x8 < (x7.length : Int) then (switchbackref17_Places.l0 k x0 x1 (x7.set (x8 : Int).toNat (-1)) (wrap64 (x8 + 1))) else (none)) else (none)) else (switchbackref17_Places.l1 k x0 x1 x7 ([] : List Int) 0 0)
def switchbackref17_Places.l1 : Nat → List (S40) → List Bool → List Int → List Int → Int → Int → Option (List Int × Int × List Int)
  | 0, _, _, _, _, _, _ => none
  | k + 1, x0, x1, x7, x9, x10, x11 => if x11 < (x0.length : Int) then (if x9.length < 17592186044416 then ((some (x9 ++ [x10] : List Int)).bind fun y300 => (if 0 ≤ x11 then (if ((rd_T40 x0 x11).f0) = 0 then (if 0 ≤ ((rd_T40 x0 x11).f5) then (if ((rd_T40 x0 x11).f5) < (x7.length : Int) then (switchbackref17_Places.j2 k x0 x1 (x7.set (((rd_T40 x0 x11).f5) : Int).toNat x10) y300 x10 x11) else (none)) else (none)) else (switchbackref17_Places.j2 k x0 x1 x7 y300 x10 x11)) else (none))) else (none)) else (some (x9, x10, x7))
def switchbackref17_Places.j2 : Nat → List (S40) → List Bool → List Int → List Int → Int → Int → Option (List Int × Int × List Int)
  | 0, _, _, _, _, _, _ => none
  | k + 1, x0, x1, x7, x9, x10, x11 => if 0 ≤ x11 then (if x11 < (x0.length : Int) then (if x11 < (x1.length : Int) then ((switchbackref17_Size.f k ((rd_T40 x0 x11).f0) ((rd_T40 x0 x11).f1) ((rd_T40 x0 x11).f2) ((rd_T40 x0 x11).f3) ((rd_T40 x0 x11).f4) ((rd_T40 x0 x11).f5) ((rd_T40 x0 x11).f6) (rdOf false x1 x11)).bind fun t308 => (switchbackref17_Places.l1 k x0 x1 x7 x9 (wrap64 (x10 + t308)) (wrap64 (x11 + 1)))) else (none)) else (none)) else (none)
end
def switchbackref17_Places.f (k : Nat) (l0 : List (S40)) (l1 : List Bool) : Option (List Int × Int × List Int) := if 100001 ≤ 35184372088832 then (switchbackref17_Places.l0 k l0 l1 (List.replicate 100001 0) 0) else (none)
theorem switchbackref17_Places.mono_l : ∀ k, (∀ y0 y1 y2 y3, LeO (switchbackref17_Places.l0 k y0 y1 y2 y3) (switchbackref17_Places.l0 (k + 1) y0 y1 y2 y3)) ∧ (∀ y0 y1 y2 y3 y4 y5, LeO (switchbackref17_Places.l1 k y0 y1 y2 y3 y4 y5) (switchbackref17_Places.l1 (k + 1) y0 y1 y2 y3 y4 y5)) ∧ (∀ y0 y1 y2 y3 y4 y5, LeO (switchbackref17_Places.j2 k y0 y1 y2 y3 y4 y5) (switchbackref17_Places.j2 (k + 1) y0 y1 y2 y3 y4 y5))
  | 0 => ⟨fun _ _ _ _ r h => by simp [switchbackref17_Places.l0] at h, fun _ _ _ _ _ _ r h => by simp [switchbackref17_Places.l1] at h, fun _ _ _ _ _ _ r h => by simp [switchbackref17_Places.j2] at h⟩
  | k + 1 => by
    obtain ⟨ih0, ih1, ih2⟩ := switchbackref17_Places.mono_l k
    refine ⟨?_, ?_, ?_⟩
    · intro y0 y1 y2 y3
      unfold switchbackref17_Places.l0
      repeat' first
      | (with_reducible exact ih0 _ _ _ _)
      | (with_reducible exact ih1 _ _ _ _ _ _)
      | (with_reducible exact ih2 _ _ _ _ _ _)
      | (with_reducible exact switchbackref17_Size.mono _ _ _ _ _ _ _ _ _)
      | (with_reducible exact LeO.refl _)
      | (with_reducible exact LeO.none _)
      | (with_reducible refine LeO.ite ?_ ?_)
      | (with_reducible refine LeO.bind ?_ (fun _ => ?_))
      | exact ih0 _ _ _ _
      | exact ih1 _ _ _ _ _ _
      | exact ih2 _ _ _ _ _ _
      | exact switchbackref17_Size.mono _ _ _ _ _ _ _ _ _
      | exact LeO.none _
      | refine LeO.ite ?_ ?_
      | refine LeO.bind ?_ (fun _ => ?_)
    · intro y0 y1 y2 y3 y4 y5
      unfold switchbackref17_Places.l1
      repeat' first
      | (with_reducible exact ih0 _ _ _ _)
      | (with_reducible exact ih1 _ _ _ _ _ _)
      | (with_reducible exact ih2 _ _ _ _ _ _)
      | (with_reducible exact switchbackref17_Size.mono _ _ _ _ _ _ _ _ _)
      | (with_reducible exact LeO.refl _)
      | (with_reducible exact LeO.none _)
      | (with_reducible refine LeO.ite ?_ ?_)
      | (with_reducible refine LeO.bind ?_ (fun _ => ?_))
      | exact ih0 _ _ _ _
      | exact ih1 _ _ _ _ _ _
      | exact ih2 _ _ _ _ _ _
      | exact switchbackref17_Size.mono _ _ _ _ _ _ _ _ _
      | exact LeO.none _
      | refine LeO.ite ?_ ?_
      | refine LeO.bind ?_ (fun _ => ?_)
    · intro y0 y1 y2 y3 y4 y5
      unfold switchbackref17_Places.j2
      repeat' first
      | (with_reducible exact ih0 _ _ _ _)
      | (with_reducible exact ih1 _ _ _ _ _ _)
      | (with_reducible exact ih2 _ _ _ _ _ _)
      | (with_reducible exact switchbackref17_Size.mono _ _ _ _ _ _ _ _ _)
      | (with_reducible exact LeO.refl _)
      | (with_reducible exact LeO.none _)
      | (with_reducible refine LeO.ite ?_ ?_)
      | (with_reducible refine LeO.bind ?_ (fun _ => ?_))
      | exact ih0 _ _ _ _
      | exact ih1 _ _ _ _ _ _
      | exact ih2 _ _ _ _ _ _
      | exact switchbackref17_Size.mono _ _ _ _ _ _ _ _ _
      | exact LeO.none _
      | refine LeO.ite ?_ ?_
      | refine LeO.bind ?_ (fun _ => ?_)
theorem switchbackref17_Places.mono : ∀ a0 a1 k, LeO (switchbackref17_Places.f k a0 a1) (switchbackref17_Places.f (k + 1) a0 a1) := by
  intro a0 a1 k
  obtain ⟨ih0, ih1, ih2⟩ := switchbackref17_Places.mono_l k
  unfold switchbackref17_Places.f
  repeat' first
      | (with_reducible exact ih0 _ _ _ _)
      | (with_reducible exact ih1 _ _ _ _ _ _)
      | (with_reducible exact ih2 _ _ _ _ _ _)
      | (with_reducible exact switchbackref17_Size.mono _ _ _ _ _ _ _ _ _)
      | (with_reducible exact LeO.refl _)
      | (with_reducible exact LeO.none _)
      | (with_reducible refine LeO.ite ?_ ?_)
      | (with_reducible refine LeO.bind ?_ (fun _ => ?_))
      | exact ih0 _ _ _ _
      | exact ih1 _ _ _ _ _ _
      | exact ih2 _ _ _ _ _ _
      | exact switchbackref17_Size.mono _ _ _ _ _ _ _ _ _
      | exact LeO.none _
      | refine LeO.ite ?_ ?_
      | refine LeO.bind ?_ (fun _ => ?_)
def switchbackref17_Places.T14 : Bool × List (List Nat × List Nat) := (true, [([], []), ([], []), ([], []), ([1, 2], [1, 2]), ([3], [3]), ([], []), ([], []), ([5, 6], [5, 6]), ([7], [7]), ([4, 8], [4, 8]), ([0, 9], [0, 9]), ([10, 9, 0, 1, 2, 3, 4, 5, 6, 7, 8, 9, 10], [0, 10])])
def switchbackref17_Places.B14 : List Nat := [0, 0, 0, 6, 14, 0, 0, 96, 224, 510, 1023, 2047]
theorem switchbackref17_Places.tab14 : rtab .any (opsOf Tryd.f30 14) = switchbackref17_Places.T14 := by kernel_rfl
theorem switchbackref17_Places.bits14 : waitsOk switchbackref17_Places.T14.2 switchbackref17_Places.B14 = true := by kernel_rfl
set_option maxHeartbeats 8000000 in
set_option maxRecDepth 100000 in
theorem switchbackref17_Places.calls (k : Nat) (A0 : Option Addr) (c0 : Nat) (l0 : List (S40)) (A1 : Option Addr) (c1 : Nat) (l1 : List Bool) (r1 : List Int) (r2 : Int) (r3 : List Int) (w : World) (hr0 : Kd.C k40 w A0 l0.length l0) (hc0 : l0.length ≤ c0) (hr1 : Kd.C Kd.bool w A1 l1.length l1) (hc1 : l1.length ≤ c1) (h : switchbackref17_Places.f k l0 l1 = some (r1, r2, r3)) :
    Calls Tryd.prog 30 #[.slice A0 l0.length c0, .slice A1 l1.length c1] w fun e w' => ∃ v0_ v2_ : Value, e = .returned (.tuple #[v0_, .int .i64 r2, v2_]) ∧ Kd.R (Kd.int .i64) 3 w' w.heap.size (fun k_ => some k_ ≠ (v2_ : Value).ownBlock) v0_ r1 ∧ Kd.R (Kd.int .i64) 3 w' w.heap.size (fun k_ => some k_ ≠ (v0_ : Value).ownBlock) v2_ r3 ∧ Below w.heap.size w w' := by
 have hu40 := Tryd.underlying40
 have HR0 := uZ hr0
 have HC0 := uZ hc0
 clear hr0 hc0
 have HR1 := uZ hr1
 have HC1 := uZ hc1
 clear hr1 hc1
 have HB := uZ (Below.refl w.heap.size w)
 have H : (if 100001 ≤ 35184372088832 then (switchbackref17_Places.l0 k l0 l1 (List.replicate 100001 0) 0) else (none)) = some (r1, r2, r3) := h
 clear h
 by_cases c3 : 100001 ≤ 35184372088832
 ·rw [if_pos c3] at H
  have c3b0 := eq_true c3
  have c3b1 : decide (100001 ≤ 35184372088832) = true := decide_eq_true c3
  clear c3
  obtain ⟨y296, hy296⟩ : ∃ y_ : List Int, y_ = (List.replicate 100001 0) := ⟨_, rfl⟩
  replace H : (switchbackref17_Places.l0 k l0 l1 y296 0) = some (r1, r2, r3) := by first | (rw [hy296]; with_reducible exact H) | (have H2_ := (Option.bind_some _ _).symm.trans H; rw [hy296]; with_reducible exact H2_) | (have H2_ := (Option.bind_some _ _).symm.trans H; with_reducible exact H2_) | with_reducible exact H | (rw [hy296]; exact H) | exact H
  have Ny296 := uZ hy296
  clear hy296
  have H' := uZ H
  clear H
  go_enter Tryd.func30, Tryd.ntmps30
  go_wp2_with (first | ((with_reducible refine gate_dst (N := 12) rfl ?_); refine Kd.R_make (Kd.int .i64) _ 3 rfl (N := 12) rfl 25 _ _ rfl 100001 rfl rfl Tryd.underlying25 (.int .i64 0) 8 info3 rfl (by decide) (by omega) 0 (ok := fun _ => True) (okp := fun _ => True) rfl (fun _ hk => hk) trivial (by omega) (by omega) (Below.refl _ _) (Nat.le_refl _) ?_; intro v297 w4 ho5 hb hg_ hnew_; clear hg_ hnew_; (first | rw [← Ny296.out] at ho5 | (simp only [Int.reduceToNat] at ho5; rw [← Ny296.out] at ho5)); have n0_ := uZ (Kd.R_lower ho5 (below_size (uB HB.out))); have n1_ := uZ (below_step (uB HB.out) hb); clear HB; have HO298 := n0_; have HB := n1_; clear n0_ n1_; clear hb ho5))
  go_loopg [8] k (fun kq v8 w' => ∃ (x7_1 : List Int) (a6 : Int), v8 = .int .i64 a6 ∧ Aside0 (switchbackref17_Places.l0 kq l0 l1 x7_1 a6 = some (r1, r2, r3)) ∧ Aside0 (kq ≤ k) ∧ Aside0 (Kd.R (Kd.int .i64) 3 w' w.heap.size (fun _ => True) v297 x7_1) ∧ Aside0 (Below w.heap.size w w'))
  case atStart => exact ⟨(y296), (0), (by first | rfl | (simp; done) | (simp [*]; done)), H', ⟨Nat.le_refl _⟩, ⟨uR HO298.out⟩, ⟨uB HB.out⟩⟩
  case round =>
   clear H'
   try clear c1
   try clear p2
   try clear c3
   try clear c3b0
   try clear c3b1
   obtain ⟨x7_1, a6, rfl, HA, HK1, a3, HB⟩ := hrel
   cases gk with
   | zero => exact absurd HA.out (by simp [switchbackref17_Places.l0])
   | succ k1 =>
    have H := HA.out
    clear HA
    simp only [switchbackref17_Places.l0] at H
    by_cases c6 : a6 ≤ 100000
    ·rw [if_pos c6] at H
     have c6b0 : decide (a6 ≤ 100000) = true := decide_eq_true c6
     clear c6
     by_cases c7 : 0 ≤ a6
     ·rw [if_pos c7] at H
      have c7b0 : decide (0 ≤ a6) = true := decide_eq_true c7
      clear c7
      by_cases c8 : a6 < (x7_1.length : Int)
      ·rw [if_pos c8] at H
       have c8b0 : decide (a6 < (x7_1.length : Int)) = true := decide_eq_true c8
       clear c8
       obtain ⟨y299, hy299⟩ : ∃ y_ : List Int, y_ = (x7_1.set (a6 : Int).toNat (-1)) := ⟨_, rfl⟩
       replace H : (switchbackref17_Places.l0 k1 l0 l1 y299 (wrap64 (a6 + 1))) = some (r1, r2, r3) := by first | (rw [hy299]; with_reducible exact H) | (have H2_ := (Option.bind_some _ _).symm.trans H; rw [hy299]; with_reducible exact H2_) | (have H2_ := (Option.bind_some _ _).symm.trans H; with_reducible exact H2_) | with_reducible exact H | (rw [hy299]; exact H) | exact H
       have Ny299 := uZ hy299
       clear hy299
       have H' := uZ H
       clear H
       have p9 : 0 ≤ (a6 : Int) := uA
       have q9 : (a6 : Int) < ((x7_1.length : Int) : Int) := uA
       obtain ⟨go9, co9, eo9, gb9, gl9, cl9, HG9⟩ := Kd.R_form a3.out (by omega)
       (first | cases eo9 | (injection eo9 with ea_ en_ ec_; (first | subst ea_ | (injection ea_ with ea_; subst ea_)); subst ec_; clear en_))
       have GB9 := uZ gb9
       have GG9 := uZ HG9
       clear gb9 gl9 HG9
       obtain ⟨hx9_0, hf9_0⟩ := Kd.R_celln 0 a3.out (a6 : Int) p9 q9
       replace p9 := eq_true p9
       replace q9 := eq_true q9
       have HP10 := Kd.R_putg a3.out (a6 : Int) (-1)
       go_wp2_with (first | ((with_reducible refine gate_store (t := 3) (p := 19) rfl ?_); refine store_event (t := 3) (p := 19) (v := ?vo_w11) (w1 := (wr.setCell ⟨go9, (a6 : Int).toNat, none⟩ (.int .i64 (-1)))) ?hg ?ho ?hn ?hr ?_; (case ho => rfl); (case hg => rfl); (case hn => rfl); (case hr => first | (go_simp; done) | (go_simp; rfl)); intro w11 hw; have hg : wr.grownBy w11 (some go9) := (by rw [hw]; exact HP10.2); have hp_ : Kd.R (Kd.int .i64) 3 w11 w.heap.size (fun _ => True) (.slice (some ⟨go9, 0, none⟩) x7_1.length co9) y299 := (by rw [hw, Ny299.out]; exact HP10.1); clear HP10; have n0_ := uZ (hp_); have n1_ := uZ ((by rw [hw]; exact below_set (HB.out) GB9.out : Below w.heap.size w w11)); clear a3; clear HB; have a3 := n0_; have HB := n1_; clear n0_ n1_; clear hg hw hp_))
       go_roundg k1
       case measure => have := HK1.out; omega
       case rel => exact ⟨(y299), (wrap64 (a6 + 1)), (by first | rfl | (simp; done) | (simp [*]; done)), H', ⟨by have := HK1.out; omega⟩, ⟨uR a3.out⟩, ⟨uB HB.out⟩⟩
      rw [if_neg c8] at H
      exact absurd H (by simp)
     rw [if_neg c7] at H
     exact absurd H (by simp)
    rw [if_neg c6] at H
    have c6b0 : decide (a6 ≤ 100000) = false := decide_eq_false c6
    clear c6
    have H' := uZ H
    clear H
    go_wp2
    go_loopg [9, 10, 11] k1 (fun kq v9 v10 v11 w' => ∃ (a7 : List Int) (x9_2 : List Int) (a4 : Int) (a2 : Int), v10 = .int .i64 a4 ∧ v11 = .int .i64 a2 ∧ Aside0 (switchbackref17_Places.l1 kq l0 l1 a7 x9_2 a4 a2 = some (r1, r2, r3)) ∧ Aside0 (kq ≤ k1) ∧ Aside0 (Kd.R (Kd.int .i64) 3 w' w.heap.size (fun k_ => some k_ ≠ (v9 : Value).ownBlock) v297 a7) ∧ Aside0 (Kd.R (Kd.int .i64) 3 w' w.heap.size (fun k_ => some k_ ≠ (v297 : Value).ownBlock) v9 x9_2) ∧ Aside0 (Below w.heap.size w w'))
    case atStart => exact ⟨(x7_1), (([] : List Int)), (0), (0), (by first | rfl | (simp; done) | (simp [*]; done)), (by first | rfl | (simp; done) | (simp [*]; done)), H', ⟨Nat.le_refl _⟩, ⟨by (with_reducible repeat (first | apply zA | apply zB | apply zC)); exact Kd.R_mono a3.out (fun _ hk => (by simp [Value.ownBlock]))⟩, ⟨by first | exact Kd.R_nil _ _ _ _ _ | exact Kd.N_nil _ _ _ _ _ | exact Kd.V_nil _ _ _ _ _ | exact Kd.Q_nil _ _ _ _ _ | exact Kd.S_nil _ _ _ _ _⟩, ⟨uB HB.out⟩⟩
    case round =>
     clear H'
     try clear c1
     try clear p2
     try clear c3
     try clear c3b0
     try clear c3b1
     try clear c6
     try clear c6b0
     try clear p6
     try clear c7
     try clear c7b0
     try clear c8
     try clear c8b0
     try clear p9
     try clear q9
     try clear hx9
     try clear hf9
     try clear hx9_0
     try clear p2
     try clear p9
     try clear q9
     obtain ⟨a7, x9_2, a4, a2, rfl, rfl, HA, HK2, a3, HO_9, HB⟩ := hrel
     cases gk with
     | zero => exact absurd HA.out (by simp [switchbackref17_Places.l1])
     | succ k2 =>
      have H := HA.out
      clear HA
      simp only [switchbackref17_Places.l1] at H
      by_cases c12 : a2 < (l0.length : Int)
      ·rw [if_pos c12] at H
       have c12b0 : decide (a2 < (l0.length : Int)) = true := decide_eq_true c12
       clear c12
       by_cases c13 : x9_2.length < 17592186044416
       ·rw [if_pos c13] at H
        have LMc13 := uZ c13
        clear c13
        obtain ⟨y300, hy300⟩ : ∃ y_ : List Int, y_ = (x9_2 ++ [a4]) := ⟨_, rfl⟩
        replace H : (if 0 ≤ a2 then (if ((rd_T40 l0 a2).f0) = 0 then (if 0 ≤ ((rd_T40 l0 a2).f5) then (if ((rd_T40 l0 a2).f5) < (a7.length : Int) then (switchbackref17_Places.j2 k2 l0 l1 (a7.set (((rd_T40 l0 a2).f5) : Int).toNat a4) y300 a4 a2) else (none)) else (none)) else (switchbackref17_Places.j2 k2 l0 l1 a7 y300 a4 a2)) else (none)) = some (r1, r2, r3) := by first | (rw [hy300]; with_reducible exact H) | (have H2_ := (Option.bind_some _ _).symm.trans H; rw [hy300]; with_reducible exact H2_) | (have H2_ := (Option.bind_some _ _).symm.trans H; with_reducible exact H2_) | with_reducible exact H | (rw [hy300]; exact H) | exact H
        have Ny300 := uZ hy300
        clear hy300
        by_cases c14 : 0 ≤ a2
        ·rw [if_pos c14] at H
         have c14b0 : decide (0 ≤ a2) = true := decide_eq_true c14
         clear c14
         have HC15 := uZ H
         clear H
         go_upto_if 35 with (first | ((with_reducible refine gate_builtin (b := .append) (xs := #[.tmp 26, .tmp 28]) rfl ?_); at_builtin; refine Kd.R_append (Kd.int .i64) (w0 := w) w.heap.size rfl (.tmp 26) (.tmp 28) 25 3 (.int .i64 0) 8 rfl Tryd.underlying25 info3 rfl (by decide) (by omega) u9 x9_2 a4 [.int .i64 a4] (fun k_ => some k_ ≠ (v297 : Value).ownBlock) (fun _ => False) rfl rfl ?aP (fun _ hk => hk.elim) ?aF ?aO ?aB ?aS ?aL ?_; (case aP => exact rfl); (case aB => exact (uB HB.out)); (case aF => exact (fun k_ hk => Kd.fresh' (Kd.R_lt (uR a3.out)) k_ hk)); (case aO => exact (uR HO_9.out)); (case aS => exact (below_size (uB HB.out))); (case aL => have := LMc13.out; omega); intro v301 w16 ho hb hg hat; rw [← Ny300.out] at ho; have n0_ := uZ (Kd.R_after (ok := (fun _ => True)) (by (with_reducible repeat (first | apply zA | apply zB | apply zC)); exact Kd.R_mono a3.out (fun _ hk => ⟨trivial, hk⟩)) hg hat); have n1_ := uZ (hb); have n2_ := uZ (ho); clear a3; clear HB; clear HO_9; have a3 := n0_; have HB := n1_; have HO302 := n2_; clear n0_ n1_ n2_; clear ho hb hg hat; have p303 : 0 ≤ (a2 : Int) := uA; have q303 : a2 < (l0.length : Int) := uA; obtain ⟨a5, A303_6, c303_6, e303, hx303_0, hx303_1, hx303_2, hx303_3, hx303_4, hx303_5, hx303_6, hl303_6, hi303_6⟩ := at_T40 HR0.out a2 p303 q303; cases e303; replace hx303_0 := (HB.out.cell (zD w _ hx303_0)).trans hx303_0; replace hx303_1 := (HB.out.cell (zD w _ hx303_1)).trans hx303_1; replace hx303_2 := (HB.out.cell (zD w _ hx303_2)).trans hx303_2; replace hx303_3 := (HB.out.cell (zD w _ hx303_3)).trans hx303_3; replace hx303_4 := (HB.out.cell (zD w _ hx303_4)).trans hx303_4; replace hx303_5 := (HB.out.cell (zD w _ hx303_5)).trans hx303_5; replace hx303_6 := (HB.out.cell (zD w _ hx303_6)).trans hx303_6; have HR303_6 := uZ hi303_6; have HC303_6 := uZ hl303_6; clear hi303_6 hl303_6; replace p303 := eq_true p303; replace q303 := eq_true q303))
         (try simp only [Act.put, zE, zF, zG])
         go_cut [] (fun wc => ∃ (kq : Nat) (x7_14 : List Int), Aside0 (switchbackref17_Places.j2 kq l0 l1 x7_14 y300 a4 a2 = some (r1, r2, r3)) ∧ Aside0 (kq ≤ k2) ∧ Aside0 (Kd.R (Kd.int .i64) 3 wc w.heap.size (fun k_ => some k_ ≠ (v301 : Value).ownBlock) v297 x7_14) ∧ Aside0 (Kd.R (Kd.int .i64) 3 wc w.heap.size (fun k_ => some k_ ≠ (v297 : Value).ownBlock) v301 y300) ∧ Aside0 (Below w.heap.size w wc))
         case first =>
          have H := HC15.out
          clear HC15
          by_cases c17 : ((rd_T40 l0 a2).f0) = 0
          ·rw [if_pos c17] at H
           have c17b0 : (((rd_T40 l0 a2).f0) == 0) = true := beq_iff_eq.mpr c17
           have c17b1 : (((rd_T40 l0 a2).f0) != 0) = false := bne_eq_false_iff_eq.mpr c17
           clear c17
           (first | rw [c17b0] | (simp only [i64_w, i32_w]; rw [c17b0]) | skip)
           by_cases c18 : 0 ≤ ((rd_T40 l0 a2).f5)
           ·rw [if_pos c18] at H
            have c18b0 : decide (0 ≤ ((rd_T40 l0 a2).f5)) = true := decide_eq_true c18
            clear c18
            by_cases c19 : ((rd_T40 l0 a2).f5) < (a7.length : Int)
            ·rw [if_pos c19] at H
             have c19b0 : decide (((rd_T40 l0 a2).f5) < (a7.length : Int)) = true := decide_eq_true c19
             clear c19
             obtain ⟨y305, hy305⟩ : ∃ y_ : List Int, y_ = (a7.set (((rd_T40 l0 a2).f5) : Int).toNat a4) := ⟨_, rfl⟩
             replace H : (switchbackref17_Places.j2 k2 l0 l1 y305 y300 a4 a2) = some (r1, r2, r3) := by first | (rw [hy305]; with_reducible exact H) | (have H2_ := (Option.bind_some _ _).symm.trans H; rw [hy305]; with_reducible exact H2_) | (have H2_ := (Option.bind_some _ _).symm.trans H; with_reducible exact H2_) | with_reducible exact H | (rw [hy305]; exact H) | exact H
             have Ny305 := uZ hy305
             clear hy305
             have H' := uZ H
             clear H
             have p304 : 0 ≤ (a2 : Int) := uA
             have q304 : a2 < (l0.length : Int) := uA
             obtain ⟨ad304, A304_6, c304_6, e304, hx304_0, hx304_1, hx304_2, hx304_3, hx304_4, hx304_5, hx304_6, hl304_6, hi304_6⟩ := at_T40 HR0.out a2 p304 q304
             obtain rfl : a5 = ad304 := (by injection e304)
             replace hx304_0 := (HB.out.cell (zD w _ hx304_0)).trans hx304_0
             replace hx304_1 := (HB.out.cell (zD w _ hx304_1)).trans hx304_1
             replace hx304_2 := (HB.out.cell (zD w _ hx304_2)).trans hx304_2
             replace hx304_3 := (HB.out.cell (zD w _ hx304_3)).trans hx304_3
             replace hx304_4 := (HB.out.cell (zD w _ hx304_4)).trans hx304_4
             replace hx304_5 := (HB.out.cell (zD w _ hx304_5)).trans hx304_5
             replace hx304_6 := (HB.out.cell (zD w _ hx304_6)).trans hx304_6
             have HR304_6 := uZ hi304_6
             have HC304_6 := uZ hl304_6
             clear hi304_6 hl304_6
             replace p304 := eq_true p304
             replace q304 := eq_true q304
             have p20 : 0 ≤ (((rd_T40 l0 a2).f5) : Int) := uA
             have q20 : (((rd_T40 l0 a2).f5) : Int) < ((a7.length : Int) : Int) := uA
             obtain ⟨go20, co20, eo20, gb20, gl20, cl20, HG20⟩ := Kd.R_form a3.out (by omega)
             (first | cases eo20 | (injection eo20 with ea_ en_ ec_; (first | subst ea_ | (injection ea_ with ea_; subst ea_)); subst ec_; clear en_))
             have GB20 := uZ gb20
             have GG20 := uZ HG20
             clear gb20 gl20 HG20
             obtain ⟨hx20_0, hf20_0⟩ := Kd.R_celln 0 a3.out (((rd_T40 l0 a2).f5) : Int) p20 q20
             replace p20 := eq_true p20
             replace q20 := eq_true q20
             have n_ := uZ (Kd.R_mono (ok' := (fun k_ => some k_ ≠ (v301 : Value).ownBlock)) a3.out (fun k_ hk => hk.2))
             clear a3
             have a3 := n_
             clear n_
             have HP21 := Kd.R_putg a3.out (((rd_T40 l0 a2).f5) : Int) a4
             go_wp2_with (first | ((with_reducible refine gate_store (t := 3) (p := 43) rfl ?_); refine store_event (t := 3) (p := 43) (v := ?vo_w22) (w1 := (w16.setCell ⟨go20, (((rd_T40 l0 a2).f5) : Int).toNat, none⟩ (.int .i64 a4))) ?hg ?ho ?hn ?hr ?_; (case ho => rfl); (case hg => rfl); (case hn => rfl); (case hr => first | (go_simp; done) | (go_simp; rfl)); intro w22 hw; have hg : w16.grownBy w22 (some go20) := (by rw [hw]; exact HP21.2); have hp_ : Kd.R (Kd.int .i64) 3 w22 w.heap.size (fun k_ => some k_ ≠ (v301 : Value).ownBlock) (.slice (some ⟨go20, 0, none⟩) a7.length co20) y305 := (by rw [hw, Ny305.out]; exact HP21.1); clear HP21; have n0_ := uZ (hp_); have n1_ := uZ (Kd.R_after (v := (.slice (some ⟨go20, 0, none⟩) a7.length co20)) (v1 := (.slice (some ⟨go20, 0, none⟩) a7.length co20)) (ok := (fun _ => True)) (by (with_reducible repeat (first | apply zA | apply zB | apply zC)); exact Kd.R_mono HO302.out (fun _ hk => ⟨trivial, hk⟩)) hg (.inl rfl)); have n2_ := uZ ((by rw [hw]; exact below_set (HB.out) GB20.out : Below w.heap.size w w22)); clear a3; clear HO302; clear HB; have a3 := n0_; have HO302 := n1_; have HB := n2_; clear n0_ n1_ n2_; clear hg hw hp_))
             go_meet
             case rel => exact ⟨_, (y305), H', ⟨by have := HK1.out; have := HK2.out; first | omega | exact Nat.le_refl _⟩, ⟨uR a3.out⟩, ⟨by (with_reducible repeat (first | apply zA | apply zB | apply zC)); exact Kd.R_mono HO302.out (fun _ hk => hk.2)⟩, ⟨uB HB.out⟩⟩
            rw [if_neg c19] at H
            exact absurd H (by simp)
           rw [if_neg c18] at H
           exact absurd H (by simp)
          rw [if_neg c17] at H
          have c17b0 : (((rd_T40 l0 a2).f0) == 0) = false := beq_eq_false_iff_ne.mpr c17
          have c17b1 : (((rd_T40 l0 a2).f0) != 0) = true := bne_iff_ne.mpr c17
          (first | rw [c17b0] | (simp only [i64_w, i32_w]; rw [c17b0]) | skip)
          have H' := uZ H
          clear H
          go_wp2
          go_meet
          case rel => exact ⟨_, (a7), H', ⟨by have := HK1.out; have := HK2.out; first | omega | exact Nat.le_refl _⟩, ⟨by (with_reducible repeat (first | apply zA | apply zB | apply zC)); exact Kd.R_mono a3.out (fun _ hk => hk.2)⟩, ⟨uR HO302.out⟩, ⟨uB HB.out⟩⟩
         case rest =>
          clear HC15
          try clear c1
          try clear p2
          try clear q2
          try clear hx2
          try clear hf2
          try clear c3
          try clear c3b0
          try clear c3b1
          try clear p3
          try clear q3
          try clear hx3
          try clear c6
          try clear c6b0
          try clear p6
          try clear c7
          try clear c7b0
          try clear c8
          try clear c8b0
          try clear p9
          try clear q9
          try clear hx9
          try clear hf9
          try clear c12
          try clear c12b0
          try clear c13
          try clear c14
          try clear c14b0
          try clear c17
          try clear c17b0
          try clear c17b1
          try clear c18
          try clear c18b0
          try clear c19
          try clear c19b0
          try clear p20
          try clear q20
          try clear hx20
          try clear hf20
          try clear hx20_0
          try clear hx303_0
          try clear hx303_1
          try clear hx303_2
          try clear hx303_3
          try clear hx303_4
          try clear hx303_5
          try clear hx303_6
          try clear hx304_0
          try clear hx304_1
          try clear hx304_2
          try clear hx304_3
          try clear hx304_4
          try clear hx304_5
          try clear hx304_6
          try clear hx9_0
          try clear p2
          try clear p20
          try clear p303
          try clear p304
          try clear p6
          try clear p9
          try clear q20
          try clear q303
          try clear q304
          try clear q9
          obtain ⟨kq, x7_14, HA, HJ14, a3, HO_9, HB⟩ := hcut
          cases kq with
          | zero => exact absurd HA.out (by simp [switchbackref17_Places.j2])
          | succ kj14 =>
           have H := HA.out
           clear HA
           simp only [switchbackref17_Places.j2] at H
           by_cases c23 : 0 ≤ a2
           ·rw [if_pos c23] at H
            have c23b0 : decide (0 ≤ a2) = true := decide_eq_true c23
            clear c23
            by_cases c24 : a2 < (l0.length : Int)
            ·rw [if_pos c24] at H
             have c24b0 : decide (a2 < (l0.length : Int)) = true := decide_eq_true c24
             clear c24
             by_cases c25 : a2 < (l1.length : Int)
             ·rw [if_pos c25] at H
              have c25b0 : decide (a2 < (l1.length : Int)) = true := decide_eq_true c25
              clear c25
              replace H := Option.bind_eq_some_iff.mp H
              obtain ⟨t308, A260, H⟩ := H
              replace H : (switchbackref17_Places.l1 kj14 l0 l1 x7_14 y300 (wrap64 (a4 + t308)) (wrap64 (a2 + 1))) = some (r1, r2, r3) := H
              have A26 := uZ A260
              clear A260
              have H' := uZ H
              clear H
              try go_wp2
              have n0_ := uZ (zC a3.out)
              have n1_ := uZ (zC HO_9.out)
              have n2_ := uZ (below_drew1 HB.out)
              clear a3
              clear HO_9
              clear HB
              have a3 := n0_
              have HO_9 := n1_
              have HB := n2_
              clear n0_ n1_ n2_
              have p306 : 0 ≤ (a2 : Int) := uA
              have q306 : a2 < (l0.length : Int) := uA
              obtain ⟨ad306, A306_6, c306_6, e306, a8, a9, aa, ab, ac, ad, ae, hl306_6, hi306_6⟩ := at_T40 HR0.out a2 p306 q306
              have hw306_6 := ae
              have hw306_5 := ad
              have hw306_4 := ac
              have hw306_3 := ab
              have hw306_2 := aa
              have hw306_1 := a9
              have hw306_0 := a8
              obtain rfl : a5 = ad306 := (by injection e306)
              replace a8 := (HB.out.cell (zD w _ a8)).trans a8
              replace a9 := (HB.out.cell (zD w _ a9)).trans a9
              replace aa := (HB.out.cell (zD w _ aa)).trans aa
              replace ab := (HB.out.cell (zD w _ ab)).trans ab
              replace ac := (HB.out.cell (zD w _ ac)).trans ac
              replace ad := (HB.out.cell (zD w _ ad)).trans ad
              replace ae := (HB.out.cell (zD w _ ae)).trans ae
              have HR306_6 := uZ hi306_6
              have HC306_6 := uZ hl306_6
              clear hi306_6 hl306_6
              replace p306 := eq_true p306
              replace q306 := eq_true q306
              have p307 : 0 ≤ (a2 : Int) := uA
              have q307 : a2 < (l1.length : Int) := uA
              obtain ⟨ad307, e307, af⟩ := Kd.at_bool HR1.out a2 p307 q307
              have hw307_0 := af
              cases e307
              replace af := (HB.out.cell (zD w _ af)).trans af
              replace p307 := eq_true p307
              replace q307 := eq_true q307
              refine start_ (n := 12) (S := fun w' => w'.cell? (a5.add ((a2).toNat * 7)) = some (.int .i64 ((rd_T40 l0 a2).f0)) ∧ w'.cell? ⟨(a5.add ((a2).toNat * 7)).block, (a5.add ((a2).toNat * 7)).off + 1, none⟩ = some (.int .i64 ((rd_T40 l0 a2).f1)) ∧ w'.cell? ⟨(a5.add ((a2).toNat * 7)).block, (a5.add ((a2).toNat * 7)).off + 2, none⟩ = some (.int .i64 ((rd_T40 l0 a2).f2)) ∧ w'.cell? ⟨(a5.add ((a2).toNat * 7)).block, (a5.add ((a2).toNat * 7)).off + 3, none⟩ = some (.int .i64 ((rd_T40 l0 a2).f3)) ∧ w'.cell? ⟨(a5.add ((a2).toNat * 7)).block, (a5.add ((a2).toNat * 7)).off + 4, none⟩ = some (.int .u32 ((rd_T40 l0 a2).f4)) ∧ w'.cell? ⟨(a5.add ((a2).toNat * 7)).block, (a5.add ((a2).toNat * 7)).off + 5, none⟩ = some (.int .i64 ((rd_T40 l0 a2).f5)) ∧ w'.cell? ⟨(a5.add ((a2).toNat * 7)).block, (a5.add ((a2).toNat * 7)).off + 6, none⟩ = some (.slice A306_6 ((rd_T40 l0 a2).f6).length c306_6) ∧ w'.cell? (ad307.add (a2).toNat) = some (.bool (rdOf false l1 a2))) (ds := []) #[false, false, false, false, false, false, false, false, false, false, false, false] (by kernel_rfl) rfl rfl ⟨((HB.out.cell (zD w _ hw306_0)).trans hw306_0), ((HB.out.cell (zD w _ hw306_1)).trans hw306_1), ((HB.out.cell (zD w _ hw306_2)).trans hw306_2), ((HB.out.cell (zD w _ hw306_3)).trans hw306_3), ((HB.out.cell (zD w _ hw306_4)).trans hw306_4), ((HB.out.cell (zD w _ hw306_5)).trans hw306_5), ((HB.out.cell (zD w _ hw306_6)).trans hw306_6), ((HB.out.cell (zD w _ hw307_0)).trans hw307_0)⟩ (fun hHeld => ?_); refine with_tabW switchbackref17_Places.tab14 switchbackref17_Places.bits14 (fun HT_ HW_ => ?_)
              generalize wc.drew = w27 at a3 HO_9 HB HR306_6 a8 a9 aa ab ac ad ae af hHeld ⊢
              refine pure_ (i := 0) (N := some 44) (v := ?_) (a' := ?_) #[true, false, false, false, false, false, false, false, false, false, false, false] rfl rfl (any_of HT_.out (by kernel_rfl)) (fun _ _ _ h => h) (Or.inl ⟨by rfl, ?_⟩) ?_ ?_
              rotate_left
              ·intro w'
               go_simp
               with_reducible rfl
              rotate_left
              ·simp only [Act.put, zE, zF, zG, i64_w, i32_w]
               rfl
              refine pure_ (i := 1) (N := some 45) (v := ?_) (a' := ?_) #[true, true, false, false, false, false, false, false, false, false, false, false] rfl rfl (any_of HT_.out (by kernel_rfl)) (fun _ _ _ h => h) (Or.inl ⟨by rfl, ?_⟩) ?_ ?_
              rotate_left
              ·intro w'
               go_simp
               with_reducible rfl
              rotate_left
              ·simp only [Act.put, zE, zF, zG, i64_w, i32_w]
               rfl
              refine pure_ (i := 2) (N := some 46) (v := ?_) (a' := ?_) #[true, true, true, false, false, false, false, false, false, false, false, false] rfl rfl (any_of HT_.out (by kernel_rfl)) (fun _ _ _ h => h) (Or.inl ⟨by rfl, ?_⟩) ?_ ?_
              rotate_left
              ·intro w'
               go_simp
               with_reducible rfl
              rotate_left
              ·simp only [Act.put, zE, zF, zG, i64_w, i32_w]
               rfl
              refine pure_ (i := 3) (N := some 47) (v := ?_) (a' := ?_) #[true, true, true, true, false, false, false, false, false, false, false, false] rfl rfl (any_of HT_.out (by kernel_rfl)) (fun _ _ _ h => h) (Or.inl ⟨by rfl, ?_⟩) ?_ ?_
              rotate_left
              ·intro w'
               go_simp
               with_reducible rfl
              rotate_left
              ·simp only [Act.put, zE, zF, zG, i64_w, i32_w]
               rfl
              refine pure_ (i := 5) (N := some 49) (v := ?_) (a' := ?_) #[true, true, true, true, false, true, false, false, false, false, false, false] rfl rfl (any_of HT_.out (by kernel_rfl)) (fun _ _ _ h => h) (Or.inl ⟨by rfl, ?_⟩) ?_ ?_
              rotate_left
              ·intro w'
               go_simp
               with_reducible rfl
              rotate_left
              ·simp only [Act.put, zE, zF, zG, i64_w, i32_w]
               rfl
              refine pure_ (i := 6) (N := some 50) (v := ?_) (a' := ?_) #[true, true, true, true, false, true, true, false, false, false, false, false] rfl rfl (any_of HT_.out (by kernel_rfl)) (fun _ _ _ h => h) (Or.inl ⟨by rfl, ?_⟩) ?_ ?_
              rotate_left
              ·intro w'
               go_simp
               with_reducible rfl
              rotate_left
              ·simp only [Act.put, zE, zF, zG, i64_w, i32_w]
               rfl
              refine pure_ (i := 7) (N := some 51) (v := ?_) (a' := ?_) #[true, true, true, true, false, true, true, true, false, false, false, false] rfl rfl (any_of HT_.out (by kernel_rfl)) (fun _ _ _ h => h) (Or.inl ⟨by rfl, ?_⟩) ?_ ?_
              rotate_left
              ·intro w'
               go_simp
               with_reducible rfl
              rotate_left
              ·simp only [Act.put, zE, zF, zG, i64_w, i32_w]
               rfl
              refine take_ (i := 4) (N := some 48) (v := ?_) (a' := ?_) #[true, true, true, true, true, true, true, true, false, false, false, false] rfl rfl (take_ofW HT_.out HW_.out (by kernel_rfl)) (fun _ _ _ h => h) (Or.inl ⟨by rfl, ?_⟩) hHeld ?_ ?_
              rotate_left
              ·rintro w' ⟨s0, s1, s2, s3, s4, s5, s6, s7⟩
               go_simp
               with_reducible rfl
              rotate_left
              ·simp only [Act.put, zE, zF, zG, i64_w, i32_w]
               rfl
              refine take_ (i := 8) (N := some 52) (v := ?_) (a' := ?_) #[true, true, true, true, true, true, true, true, true, false, false, false] rfl rfl (take_ofW HT_.out HW_.out (by kernel_rfl)) (fun _ _ _ h => h) (Or.inl ⟨by rfl, ?_⟩) hHeld ?_ ?_
              rotate_left
              ·rintro w' ⟨s0, s1, s2, s3, s4, s5, s6, s7⟩
               go_simp
               with_reducible rfl
              rotate_left
              ·simp only [Act.put, zE, zF, zG, i64_w, i32_w]
               rfl
              refine one_ (i := 9) (N := some 53) #[true, true, true, true, true, true, true, true, true, true, false, false] rfl rfl (one_of HT_.out (by kernel_rfl)) (by decide) (fun K hK => ?_)
              refine goes_ Tryd.func55 (by kernel_rfl) rfl #[.agg #[.int .i64 ((rd_T40 l0 a2).f0), .int .i64 ((rd_T40 l0 a2).f1), .int .i64 ((rd_T40 l0 a2).f2), .int .i64 ((rd_T40 l0 a2).f3), .int .u32 ((rd_T40 l0 a2).f4), .int .i64 ((rd_T40 l0 a2).f5), .slice A306_6 ((rd_T40 l0 a2).f6).length c306_6], .bool (rdOf false l1 a2)] (by rfl) rfl rfl (by (try simp only [List.map_toArray, List.map_cons, List.map_nil]); first | done | rfl | (simp only [List.length_drop, List.length_take]; rfl)) ?_
              with_reducible refine (switchbackref17_Size.calls kj14 ((rd_T40 l0 a2).f0) ((rd_T40 l0 a2).f1) ((rd_T40 l0 a2).f2) ((rd_T40 l0 a2).f3) ((rd_T40 l0 a2).f4) ((rd_T40 l0 a2).f5) _ _ ((rd_T40 l0 a2).f6) (rdOf false l1 a2) t308 _ ?side1 ?side2 A26.out).mono ?_
              (case side1 => repeat (first | exact (Kd.C_below HR306_6.out HB.out) | (with_reducible refine Kd.C_alloc ?_ _) | (with_reducible refine Kd.C_drewN ?_ _) | (with_reducible refine Kd.C_drew ?_)))
              (case side2 => exact HC306_6.out)
              rintro e w28 ⟨rfl, hb⟩
              refine ⟨_, rfl, ?_⟩
              have n0_ := uZ (Kd.R_below (uR a3.out) hb)
              have n1_ := uZ (Kd.R_below (uR HO_9.out) hb)
              have n2_ := uZ (below_step (uB HB.out) hb)
              clear a3
              clear HO_9
              clear HB
              have a3 := n0_
              have HO_9 := n1_
              have HB := n2_
              clear n0_ n1_ n2_
              (try clear hb)
              (try clear hb2)
              (try clear hk)
              (try clear hi)
              refine hK.out _ _ ⟨((HB.out.cell (zD w _ hw306_0)).trans hw306_0), ((HB.out.cell (zD w _ hw306_1)).trans hw306_1), ((HB.out.cell (zD w _ hw306_2)).trans hw306_2), ((HB.out.cell (zD w _ hw306_3)).trans hw306_3), ((HB.out.cell (zD w _ hw306_4)).trans hw306_4), ((HB.out.cell (zD w _ hw306_5)).trans hw306_5), ((HB.out.cell (zD w _ hw306_6)).trans hw306_6), ((HB.out.cell (zD w _ hw307_0)).trans hw307_0)⟩ (fun hHeld => ?_)
              clear hK K
              refine norm_ (a' := ?_) ?_ ?_
              rotate_left
              ·show Act.put _ (some 53) _ = _
               simp only [Act.put, zE, zF, zG, i64_w, i32_w]
               rfl
              refine pure_ (i := 10) (N := some 54) (v := ?_) (a' := ?_) #[true, true, true, true, true, true, true, true, true, true, true, false] rfl rfl (any_of HT_.out (by kernel_rfl)) (fun _ _ _ h => h) (Or.inl ⟨by rfl, ?_⟩) ?_ ?_
              rotate_left
              ·intro w'
               go_simp
               with_reducible rfl
              rotate_left
              ·simp only [Act.put, zE, zF, zG, i64_w, i32_w]
               rfl
              refine pure_ (i := 11) (N := some 10) (v := ?_) (a' := ?_) #[true, true, true, true, true, true, true, true, true, true, true, true] rfl rfl (any_of HT_.out (by kernel_rfl)) (fun _ _ _ h => h) (Or.inl ⟨by rfl, ?_⟩) ?_ ?_
              rotate_left
              ·intro w'
               go_simp
               with_reducible rfl
              rotate_left
              ·simp only [Act.put, zE, zF, zG, i64_w, i32_w]
               rfl
              refine done_ (done_of HT_.out (by kernel_rfl)) ?_
              try go_wp2
              go_roundg kj14
              case measure => have := HK1.out; have := HK2.out; have := HJ14.out; omega
              case rel => exact ⟨(x7_14), (y300), (wrap64 (a4 + t308)), (wrap64 (a2 + 1)), (by first | rfl | (simp; done) | (simp [*]; done)), (by first | rfl | (simp; done) | (simp [*]; done)), H', ⟨by have := HK1.out; have := HK2.out; have := HJ14.out; omega⟩, ⟨uR a3.out⟩, ⟨uR HO_9.out⟩, ⟨uB HB.out⟩⟩
             rw [if_neg c25] at H
             exact absurd H (by simp)
            rw [if_neg c24] at H
            exact absurd H (by simp)
           rw [if_neg c23] at H
           exact absurd H (by simp)
        rw [if_neg c14] at H
        exact absurd H (by simp)
       rw [if_neg c13] at H
       exact absurd H (by simp)
      rw [if_neg c12] at H
      have c12b0 : decide (a2 < (l0.length : Int)) = false := decide_eq_false c12
      clear c12
      simp only [Option.some.injEq, Prod.mk.injEq] at H
      obtain ⟨rfl, rfl, rfl⟩ := H
      go_wp2
      go_ret3
      exact ⟨_, _, by first | rfl | (simp [errW_none, errW_some] <;> rfl) | (simp [*, errW_none, errW_some] <;> rfl), by (with_reducible repeat (first | apply zA | apply zB | apply zC)); exact HO_9.out, by (with_reducible repeat (first | apply zA | apply zB | apply zC)); exact a3.out, by repeat (first | (with_reducible first | exact HB.out | apply below_alloc | apply pw_below_drewN | apply below_drew1) | exact HB.out)⟩
 rw [if_neg c3] at H
 exact absurd H (by simp)

end Go.Proofs.YtamimnaafiphcaaDoor.PR1C
