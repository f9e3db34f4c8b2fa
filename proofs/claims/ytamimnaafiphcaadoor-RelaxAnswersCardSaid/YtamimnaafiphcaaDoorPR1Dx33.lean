-- Written by gp.py for this claim.
import Derived.Test.YtamimnaafiphcaaDoorPR1DZ
import Derived.Test.YtamimnaafiphcaaDoorPR1Dx32
namespace Go.Proofs.YtamimnaafiphcaaDoor.PR1D
open Go.RowKit Go.Proofs.YtamimnaafiphcaaDoorW.PrintWords Go.Proofs.YtamimnaafiphcaaDoorW.PrintLast Go.Proofs.YtamimnaafiphcaaDoorW.PrintMore
attribute [local go_sem] max2_int min2_int max_two min_two max_three min_three max_four min_four   -- for this text's walks alone
set_option linter.unusedVariables false
set_option linter.unusedSimpArgs false

namespace q_switchbackref17_refused
theorem uZ {p : Prop} (h : p) : Aside0 p := ⟨h⟩
theorem uR {p q : Prop} (h : p) (g : p → q := by intro h; (with_reducible repeat (first | apply Kd.R_alloc | apply Kd.R_drewN | apply Kd.R_drew)); exact h) : q := g h
theorem uB {p q : Prop} (h : p) (g : p → q := by intro h; repeat (first | (with_reducible first | exact h | apply below_alloc | apply pw_below_drewN | apply below_drew1) | exact h)) : q := g h
theorem uA {p : Prop} [Decidable p] (h : decide p = true := by first | (with_reducible assumption) | assumption) : p := of_decide_eq_true h
theorem zA : type_of% @pw_below_drewN := @pw_below_drewN
theorem zB : type_of% @below_alloc := @below_alloc
theorem zC : type_of% @below_drew1 := @below_drew1
theorem zD : type_of% @World.block_lt_of_cell? := @World.block_lt_of_cell?
theorem zE : type_of% @List.map_toArray := @List.map_toArray
theorem zF : type_of% @List.length_drop := @List.length_drop
theorem zG : type_of% @List.length_take := @List.length_take
end q_switchbackref17_refused
open q_switchbackref17_refused

/-! ### switchbackref17_refused: function 48 -/
mutual
def switchbackref17_refused.l0 : Nat → List (S40) → List Bool → Int → Option (Int × Int)
  | 0, _, _, _ => none
  | k + 1, x0, x4, x5 => if x5 < (x0.length : Int) then (if 0 ≤ x5 then (if ((rd_T40 x0 x5).f0) < 0 then (switchbackref17_refused.j1 k x0 x4 x5 true) else (switchbackref17_refused.j1 k x0 x4 x5 (decide (((rd_T40 x0 x5).f0) > 48)))) else (none)) else (switchbackref17_refused.l1 k x0 x4 0)
def switchbackref17_refused.j1 : Nat → List (S40) → List Bool → Int → Bool → Option (Int × Int)
  | 0, _, _, _, _ => none
  | k + 1, x0, x4, x5, x32 => if x32 = true then (some (x5, 170)) else (if 0 ≤ x5 then (if x5 < (x0.length : Int) then ((switchbackref17_May.f ((rd_T40 x0 x5).f0) ((rd_T40 x0 x5).f1) ((rd_T40 x0 x5).f2) ((rd_T40 x0 x5).f3) ((rd_T40 x0 x5).f4) ((rd_T40 x0 x5).f5) ((rd_T40 x0 x5).f6)).bind fun t178 => (if t178 = true then (if ((rd_T40 x0 x5).f0) = 0 then (if 0 ≤ ((rd_T40 x0 x5).f5) then (if ((rd_T40 x0 x5).f5) < (x4.length : Int) then (if rdOf false x4 ((rd_T40 x0 x5).f5) = true then (some (x5, 172)) else (switchbackref17_refused.l0 k x0 (x4.set (((rd_T40 x0 x5).f5) : Int).toNat true) (wrap64 (x5 + 1)))) else (none)) else (none)) else (switchbackref17_refused.l0 k x0 x4 (wrap64 (x5 + 1)))) else (some (x5, 171)))) else (none)) else (none))
def switchbackref17_refused.l1 : Nat → List (S40) → List Bool → Int → Option (Int × Int)
  | 0, _, _, _ => none
  | k + 1, x0, x4, x6 => if x6 < (x0.length : Int) then (if 0 ≤ x6 then ((switchbackref17_Goes.f ((rd_T40 x0 x6).f0) ((rd_T40 x0 x6).f1) ((rd_T40 x0 x6).f2) ((rd_T40 x0 x6).f3) ((rd_T40 x0 x6).f4) ((rd_T40 x0 x6).f5) ((rd_T40 x0 x6).f6)).bind fun t185 => (if t185 = true then (if 0 ≤ ((rd_T40 x0 x6).f5) then (if ((rd_T40 x0 x6).f5) < (x4.length : Int) then (switchbackref17_refused.j3 k x0 x4 x6 (!(rdOf false x4 ((rd_T40 x0 x6).f5)))) else (none)) else (none)) else (switchbackref17_refused.j3 k x0 x4 x6 false))) else (none)) else (some (0, 0))
def switchbackref17_refused.j3 : Nat → List (S40) → List Bool → Int → Bool → Option (Int × Int)
  | 0, _, _, _, _ => none
  | k + 1, x0, x4, x6, x85 => if x85 = true then (some (x6, 173)) else (switchbackref17_refused.l2 k x0 x4 x6 0)
def switchbackref17_refused.l2 : Nat → List (S40) → List Bool → Int → Int → Option (Int × Int)
  | 0, _, _, _, _ => none
  | k + 1, x0, x4, x6, x8 => if 0 ≤ x6 then (if x6 < (x0.length : Int) then (if x8 < (((rd_T40 x0 x6).f6).length : Int) then (if 0 ≤ x8 then (if 0 ≤ (rd ((rd_T40 x0 x6).f6) x8) then (if (rd ((rd_T40 x0 x6).f6) x8) < (x4.length : Int) then (if (rdOf false x4 (rd ((rd_T40 x0 x6).f6) x8) = true) then (switchbackref17_refused.l2 k x0 x4 x6 (wrap64 (x8 + 1))) else (some (x6, 173))) else (none)) else (none)) else (none)) else (switchbackref17_refused.l1 k x0 x4 (wrap64 (x6 + 1)))) else (none)) else (none)
end
def switchbackref17_refused.f (k : Nat) (l0 : List (S40)) : Option (Int × Int) := if (l0.length : Int) > 60000 then (some (0, 2)) else (if 100001 ≤ 281474976710656 then (switchbackref17_refused.l0 k l0 (List.replicate 100001 false) 0) else (none))
theorem switchbackref17_refused.mono_l : ∀ k, (∀ y0 y1 y2, LeO (switchbackref17_refused.l0 k y0 y1 y2) (switchbackref17_refused.l0 (k + 1) y0 y1 y2)) ∧ (∀ y0 y1 y2 y3, LeO (switchbackref17_refused.j1 k y0 y1 y2 y3) (switchbackref17_refused.j1 (k + 1) y0 y1 y2 y3)) ∧ (∀ y0 y1 y2, LeO (switchbackref17_refused.l1 k y0 y1 y2) (switchbackref17_refused.l1 (k + 1) y0 y1 y2)) ∧ (∀ y0 y1 y2 y3, LeO (switchbackref17_refused.j3 k y0 y1 y2 y3) (switchbackref17_refused.j3 (k + 1) y0 y1 y2 y3)) ∧ (∀ y0 y1 y2 y3, LeO (switchbackref17_refused.l2 k y0 y1 y2 y3) (switchbackref17_refused.l2 (k + 1) y0 y1 y2 y3))
  | 0 => ⟨fun _ _ _ r h => by simp [switchbackref17_refused.l0] at h, fun _ _ _ _ r h => by simp [switchbackref17_refused.j1] at h, fun _ _ _ r h => by simp [switchbackref17_refused.l1] at h, fun _ _ _ _ r h => by simp [switchbackref17_refused.j3] at h, fun _ _ _ _ r h => by simp [switchbackref17_refused.l2] at h⟩
  | k + 1 => by
    obtain ⟨ih0, ih1, ih2, ih3, ih4⟩ := switchbackref17_refused.mono_l k
    refine ⟨?_, ?_, ?_, ?_, ?_⟩
    · intro y0 y1 y2
      unfold switchbackref17_refused.l0
      repeat' first
      | (with_reducible exact ih0 _ _ _)
      | (with_reducible exact ih1 _ _ _ _)
      | (with_reducible exact ih2 _ _ _)
      | (with_reducible exact ih3 _ _ _ _)
      | (with_reducible exact ih4 _ _ _ _)
      | (with_reducible exact LeO.refl _)
      | (with_reducible exact LeO.none _)
      | (with_reducible refine LeO.ite ?_ ?_)
      | (with_reducible refine LeO.bind ?_ (fun _ => ?_))
      | exact ih0 _ _ _
      | exact ih1 _ _ _ _
      | exact ih2 _ _ _
      | exact ih3 _ _ _ _
      | exact ih4 _ _ _ _
      | exact LeO.none _
      | refine LeO.ite ?_ ?_
      | refine LeO.bind ?_ (fun _ => ?_)
    · intro y0 y1 y2 y3
      unfold switchbackref17_refused.j1
      repeat' first
      | (with_reducible exact ih0 _ _ _)
      | (with_reducible exact ih1 _ _ _ _)
      | (with_reducible exact ih2 _ _ _)
      | (with_reducible exact ih3 _ _ _ _)
      | (with_reducible exact ih4 _ _ _ _)
      | (with_reducible exact LeO.refl _)
      | (with_reducible exact LeO.none _)
      | (with_reducible refine LeO.ite ?_ ?_)
      | (with_reducible refine LeO.bind ?_ (fun _ => ?_))
      | exact ih0 _ _ _
      | exact ih1 _ _ _ _
      | exact ih2 _ _ _
      | exact ih3 _ _ _ _
      | exact ih4 _ _ _ _
      | exact LeO.none _
      | refine LeO.ite ?_ ?_
      | refine LeO.bind ?_ (fun _ => ?_)
    · intro y0 y1 y2
      unfold switchbackref17_refused.l1
      repeat' first
      | (with_reducible exact ih0 _ _ _)
      | (with_reducible exact ih1 _ _ _ _)
      | (with_reducible exact ih2 _ _ _)
      | (with_reducible exact ih3 _ _ _ _)
      | (with_reducible exact ih4 _ _ _ _)
      | (with_reducible exact LeO.refl _)
      | (with_reducible exact LeO.none _)
      | (with_reducible refine LeO.ite ?_ ?_)
      | (with_reducible refine LeO.bind ?_ (fun _ => ?_))
      | exact ih0 _ _ _
      | exact ih1 _ _ _ _
      | exact ih2 _ _ _
      | exact ih3 _ _ _ _
      | exact ih4 _ _ _ _
      | exact LeO.none _
      | refine LeO.ite ?_ ?_
      | refine LeO.bind ?_ (fun _ => ?_)
    · intro y0 y1 y2 y3
      unfold switchbackref17_refused.j3
      repeat' first
      | (with_reducible exact ih0 _ _ _)
      | (with_reducible exact ih1 _ _ _ _)
      | (with_reducible exact ih2 _ _ _)
      | (with_reducible exact ih3 _ _ _ _)
      | (with_reducible exact ih4 _ _ _ _)
      | (with_reducible exact LeO.refl _)
      | (with_reducible exact LeO.none _)
      | (with_reducible refine LeO.ite ?_ ?_)
      | (with_reducible refine LeO.bind ?_ (fun _ => ?_))
      | exact ih0 _ _ _
      | exact ih1 _ _ _ _
      | exact ih2 _ _ _
      | exact ih3 _ _ _ _
      | exact ih4 _ _ _ _
      | exact LeO.none _
      | refine LeO.ite ?_ ?_
      | refine LeO.bind ?_ (fun _ => ?_)
    · intro y0 y1 y2 y3
      unfold switchbackref17_refused.l2
      repeat' first
      | (with_reducible exact ih0 _ _ _)
      | (with_reducible exact ih1 _ _ _ _)
      | (with_reducible exact ih2 _ _ _)
      | (with_reducible exact ih3 _ _ _ _)
      | (with_reducible exact ih4 _ _ _ _)
      | (with_reducible exact LeO.refl _)
      | (with_reducible exact LeO.none _)
      | (with_reducible refine LeO.ite ?_ ?_)
      | (with_reducible refine LeO.bind ?_ (fun _ => ?_))
      | exact ih0 _ _ _
      | exact ih1 _ _ _ _
      | exact ih2 _ _ _
      | exact ih3 _ _ _ _
      | exact ih4 _ _ _ _
      | exact LeO.none _
      | refine LeO.ite ?_ ?_
      | refine LeO.bind ?_ (fun _ => ?_)
theorem switchbackref17_refused.mono : ∀ a0 k, LeO (switchbackref17_refused.f k a0) (switchbackref17_refused.f (k + 1) a0) := by
  intro a0 k
  obtain ⟨ih0, ih1, ih2, ih3, ih4⟩ := switchbackref17_refused.mono_l k
  unfold switchbackref17_refused.f
  repeat' first
      | (with_reducible exact ih0 _ _ _)
      | (with_reducible exact ih1 _ _ _ _)
      | (with_reducible exact ih2 _ _ _)
      | (with_reducible exact ih3 _ _ _ _)
      | (with_reducible exact ih4 _ _ _ _)
      | (with_reducible exact LeO.refl _)
      | (with_reducible exact LeO.none _)
      | (with_reducible refine LeO.ite ?_ ?_)
      | (with_reducible refine LeO.bind ?_ (fun _ => ?_))
      | exact ih0 _ _ _
      | exact ih1 _ _ _ _
      | exact ih2 _ _ _
      | exact ih3 _ _ _ _
      | exact ih4 _ _ _ _
      | exact LeO.none _
      | refine LeO.ite ?_ ?_
      | refine LeO.bind ?_ (fun _ => ?_)
set_option maxHeartbeats 8000000 in
set_option maxRecDepth 100000 in
theorem switchbackref17_refused.calls (k : Nat) (A0 : Option Addr) (c0 : Nat) (l0 : List (S40)) (r1 : Int) (r2 : Int) (w : World) (hr0 : Kd.C k40 w A0 l0.length l0) (hc0 : l0.length ≤ c0) (h : switchbackref17_refused.f k l0 = some (r1, r2)) :
    Calls Tryd.prog 48 #[.slice A0 l0.length c0] w fun e w' => e = .returned (.tuple #[.int .i64 r1, .int .i64 r2]) ∧ Below w.heap.size w w' := by
 have hu40 := Tryd.underlying40
 have HR0 := uZ hr0
 have HC0 := uZ hc0
 clear hr0 hc0
 have HB := uZ (Below.refl w.heap.size w)
 have H : (if (l0.length : Int) > 60000 then (some (0, 2)) else (if 100001 ≤ 281474976710656 then (switchbackref17_refused.l0 k l0 (List.replicate 100001 false) 0) else (none))) = some (r1, r2) := h
 clear h
 by_cases c2 : (l0.length : Int) > 60000
 ·rw [if_pos c2] at H
  have c2b0 : decide (60000 < (l0.length : Int)) = true := decide_eq_true c2
  have c2b1 : decide (60000 < l0.length) = true := decide_eq_true (by omega)
  clear c2
  simp only [Option.some.injEq, Prod.mk.injEq] at H
  obtain ⟨rfl, rfl⟩ := H
  go_enter Tryd.func48, Tryd.ntmps48
  go_wp2
  go_ret2
  exact ⟨by first | rfl | (simp [errW_none, errW_some] <;> rfl) | (simp [*, errW_none, errW_some] <;> rfl), by repeat (first | (with_reducible first | exact HB.out | apply zB | apply zA | apply zC) | exact HB.out)⟩
 rw [if_neg c2] at H
 have c2b0 : decide (60000 < (l0.length : Int)) = false := decide_eq_false c2
 have c2b1 : decide (60000 < l0.length) = false := decide_eq_false (by omega)
 clear c2
 by_cases c3 : 100001 ≤ 281474976710656
 ·rw [if_pos c3] at H
  have c3b0 := eq_true c3
  have c3b1 : decide (100001 ≤ 281474976710656) = true := decide_eq_true c3
  clear c3
  obtain ⟨y172, hy172⟩ : ∃ y_ : List Bool, y_ = (List.replicate 100001 false) := ⟨_, rfl⟩
  replace H : (switchbackref17_refused.l0 k l0 y172 0) = some (r1, r2) := by first | (rw [hy172]; with_reducible exact H) | (have H2_ := (Option.bind_some _ _).symm.trans H; rw [hy172]; with_reducible exact H2_) | (have H2_ := (Option.bind_some _ _).symm.trans H; with_reducible exact H2_) | with_reducible exact H | (rw [hy172]; exact H) | exact H
  have Ny172 := uZ hy172
  clear hy172
  have H' := uZ H
  clear H
  go_enter Tryd.func48, Tryd.ntmps48
  go_wp2_with (first | ((with_reducible refine gate_dst (N := 12) rfl ?_); refine Kd.R_make Kd.bool _ 4 rfl (N := 12) rfl 46 _ _ rfl 100001 rfl rfl Tryd.underlying46 (.bool false) 1 info4 rfl (by decide) (by omega) false (ok := fun _ => True) (okp := fun _ => True) rfl (fun _ hk => hk) trivial (by omega) (by omega) (Below.refl _ _) (Nat.le_refl _) ?_; intro v173 w4 ho5 hb hg_ hnew_; clear hg_ hnew_; (first | rw [← Ny172.out] at ho5 | (simp only [Int.reduceToNat] at ho5; rw [← Ny172.out] at ho5)); have n0_ := uZ (Kd.R_lower ho5 (below_size (uB HB.out))); have n1_ := uZ (below_step (uB HB.out) hb); clear HB; have HO174 := n0_; have HB := n1_; clear n0_ n1_; clear hb ho5))
  go_loopg [5] k (fun kq v5 w' => ∃ (a3 : List Bool) (a1 : Int), v5 = .int .i64 a1 ∧ Aside0 (switchbackref17_refused.l0 kq l0 a3 a1 = some (r1, r2)) ∧ Aside0 (kq ≤ k) ∧ Aside0 (Kd.R Kd.bool 4 w' w.heap.size (fun _ => True) v173 a3) ∧ Aside0 (Below w.heap.size w w'))
  case atStart => exact ⟨(y172), (0), (by first | rfl | (simp; done) | (simp [*]; done)), H', ⟨Nat.le_refl _⟩, ⟨uR HO174.out⟩, ⟨uB HB.out⟩⟩
  case round =>
   clear H'
   try clear c2
   try clear c2b0
   try clear c2b1
   try clear p2
   try clear c3
   try clear c3b0
   try clear c3b1
   try clear c4
   obtain ⟨a3, a1, rfl, HA, HK1, ab, HB⟩ := hrel
   cases gk with
   | zero => exact absurd HA.out (by simp [switchbackref17_refused.l0])
   | succ k1 =>
    have H := HA.out
    clear HA
    simp only [switchbackref17_refused.l0] at H
    by_cases c6 : a1 < (l0.length : Int)
    ·rw [if_pos c6] at H
     have c6b0 : decide (a1 < (l0.length : Int)) = true := decide_eq_true c6
     clear c6
     have HC7 := uZ H
     clear H
     go_upto_region 7 with (fail)
     go_cut [32] (fun v32 wc => ∃ (kq : Nat) (x32_6 : Bool), v32 = .bool x32_6 ∧ Aside0 (switchbackref17_refused.j1 kq l0 a3 a1 x32_6 = some (r1, r2)) ∧ Aside0 (kq ≤ k1) ∧ Aside0 (Kd.R Kd.bool 4 wc w.heap.size (fun _ => True) v173 a3) ∧ Aside0 (Below w.heap.size w wc))
     case first =>
      have H := HC7.out
      clear HC7
      by_cases c8 : 0 ≤ a1
      ·rw [if_pos c8] at H
       have c8b0 : decide (0 ≤ a1) = true := decide_eq_true c8
       clear c8
       (first | rw [c8b0] | (simp only [i64_w, i32_w]; rw [c8b0]) | skip)
       by_cases c9 : ((rd_T40 l0 a1).f0) < 0
       ·rw [if_pos c9] at H
        have c9b0 : decide (((rd_T40 l0 a1).f0) < 0) = true := decide_eq_true c9
        clear c9
        have H' := uZ H
        clear H
        have p175 : 0 ≤ (a1 : Int) := uA
        have q175 : a1 < (l0.length : Int) := uA
        obtain ⟨ad175, A175_6, c175_6, e175, am, an, ao, ap, aq, ar, ak, hl175_6, hi175_6⟩ := at_T40 HR0.out a1 p175 q175
        cases e175
        replace am := (HB.out.cell (zD w _ am)).trans am
        replace an := (HB.out.cell (zD w _ an)).trans an
        replace ao := (HB.out.cell (zD w _ ao)).trans ao
        replace ap := (HB.out.cell (zD w _ ap)).trans ap
        replace aq := (HB.out.cell (zD w _ aq)).trans aq
        replace ar := (HB.out.cell (zD w _ ar)).trans ar
        replace ak := (HB.out.cell (zD w _ ak)).trans ak
        have HR175_6 := uZ hi175_6
        have HC175_6 := uZ hl175_6
        clear hi175_6 hl175_6
        replace p175 := eq_true p175
        replace q175 := eq_true q175
        go_wp2
        go_meet
        case rel => exact ⟨_, (true), (by first | rfl | (simp; done) | (simp [*]; done)), H', ⟨by have := HK1.out; first | omega | exact Nat.le_refl _⟩, ⟨uR ab.out⟩, ⟨uB HB.out⟩⟩
       rw [if_neg c9] at H
       have c9b0 : decide (((rd_T40 l0 a1).f0) < 0) = false := decide_eq_false c9
       clear c9
       have H' := uZ H
       clear H
       have p175 : 0 ≤ (a1 : Int) := uA
       have q175 : a1 < (l0.length : Int) := uA
       obtain ⟨ad175, A175_6, c175_6, e175, am, an, ao, ap, aq, ar, ak, hl175_6, hi175_6⟩ := at_T40 HR0.out a1 p175 q175
       cases e175
       replace am := (HB.out.cell (zD w _ am)).trans am
       replace an := (HB.out.cell (zD w _ an)).trans an
       replace ao := (HB.out.cell (zD w _ ao)).trans ao
       replace ap := (HB.out.cell (zD w _ ap)).trans ap
       replace aq := (HB.out.cell (zD w _ aq)).trans aq
       replace ar := (HB.out.cell (zD w _ ar)).trans ar
       replace ak := (HB.out.cell (zD w _ ak)).trans ak
       have HR175_6 := uZ hi175_6
       have HC175_6 := uZ hl175_6
       clear hi175_6 hl175_6
       replace p175 := eq_true p175
       replace q175 := eq_true q175
       have p176 : 0 ≤ (a1 : Int) := uA
       have q176 : a1 < (l0.length : Int) := uA
       obtain ⟨ad176, A176_6, c176_6, e176, b8, b9, ba, bb, bc, bd, b7, hl176_6, hi176_6⟩ := at_T40 HR0.out a1 p176 q176
       obtain rfl : ad175 = ad176 := (by injection e176)
       replace b8 := (HB.out.cell (zD w _ b8)).trans b8
       replace b9 := (HB.out.cell (zD w _ b9)).trans b9
       replace ba := (HB.out.cell (zD w _ ba)).trans ba
       replace bb := (HB.out.cell (zD w _ bb)).trans bb
       replace bc := (HB.out.cell (zD w _ bc)).trans bc
       replace bd := (HB.out.cell (zD w _ bd)).trans bd
       replace b7 := (HB.out.cell (zD w _ b7)).trans b7
       have HR176_6 := uZ hi176_6
       have HC176_6 := uZ hl176_6
       clear hi176_6 hl176_6
       replace p176 := eq_true p176
       replace q176 := eq_true q176
       have ea_ := Option.some.inj (ak.symm.trans b7)
       injection ea_ with ea_ en_ ec_
       subst ea_
       subst ec_
       clear en_
       go_wp2
       go_meet
       case rel => exact ⟨_, (decide (((rd_T40 l0 a1).f0) > 48)), (by first | rfl | (simp; done) | (simp [*]; done)), H', ⟨by have := HK1.out; first | omega | exact Nat.le_refl _⟩, ⟨uR ab.out⟩, ⟨uB HB.out⟩⟩
      rw [if_neg c8] at H
      exact absurd H (by simp)
     case rest =>
      clear HC7
      try clear c1
      try clear p1
      try clear q1
      try clear hx1
      try clear c2
      try clear c2b0
      try clear c2b1
      try clear p2
      try clear c3
      try clear c3b0
      try clear c3b1
      try clear c4
      try clear c6
      try clear c6b0
      try clear c8
      try clear c8b0
      try clear c9
      try clear c9b0
      try clear am
      try clear an
      try clear ao
      try clear ap
      try clear aq
      try clear ar
      try clear ak
      try clear b8
      try clear b9
      try clear ba
      try clear bb
      try clear bc
      try clear bd
      try clear b7
      try clear p175
      try clear p176
      try clear p2
      try clear q175
      try clear q176
      obtain ⟨kq, x32_6, rfl, HA, HJ6, ab, HB⟩ := hcut
      cases kq with
      | zero => exact absurd HA.out (by simp [switchbackref17_refused.j1])
      | succ kj6 =>
       have H := HA.out
       clear HA
       simp only [switchbackref17_refused.j1] at H
       by_cases c10 : x32_6 = true
       ·subst c10
        have H1 : (some (a1, 170)) = some (r1, r2) := by rw [if_pos rfl] at H; exact H
        clear H
        have H := H1
        clear H1
        simp only [Option.some.injEq, Prod.mk.injEq] at H
        obtain ⟨rfl, rfl⟩ := H
        go_wp2
        go_ret2
        exact ⟨by first | rfl | (simp [errW_none, errW_some] <;> rfl) | (simp [*, errW_none, errW_some] <;> rfl), by repeat (first | (with_reducible first | exact HB.out | apply zB | apply zA | apply zC) | exact HB.out)⟩
       replace c10 := Bool.eq_false_iff.mpr c10
       subst c10
       have H1 : (if 0 ≤ a1 then (if a1 < (l0.length : Int) then ((switchbackref17_May.f ((rd_T40 l0 a1).f0) ((rd_T40 l0 a1).f1) ((rd_T40 l0 a1).f2) ((rd_T40 l0 a1).f3) ((rd_T40 l0 a1).f4) ((rd_T40 l0 a1).f5) ((rd_T40 l0 a1).f6)).bind fun t178 => (if t178 = true then (if ((rd_T40 l0 a1).f0) = 0 then (if 0 ≤ ((rd_T40 l0 a1).f5) then (if ((rd_T40 l0 a1).f5) < (a3.length : Int) then (if rdOf false a3 ((rd_T40 l0 a1).f5) = true then (some (a1, 172)) else (switchbackref17_refused.l0 kj6 l0 (a3.set (((rd_T40 l0 a1).f5) : Int).toNat true) (wrap64 (a1 + 1)))) else (none)) else (none)) else (switchbackref17_refused.l0 kj6 l0 a3 (wrap64 (a1 + 1)))) else (some (a1, 171)))) else (none)) else (none)) = some (r1, r2) := by rw [if_neg (show ¬ (false = true) by decide)] at H; exact H
       clear H
       have H := H1
       clear H1
       by_cases c11 : 0 ≤ a1
       ·rw [if_pos c11] at H
        have c11b0 : decide (0 ≤ a1) = true := decide_eq_true c11
        clear c11
        by_cases c12 : a1 < (l0.length : Int)
        ·rw [if_pos c12] at H
         have c12b0 : decide (a1 < (l0.length : Int)) = true := decide_eq_true c12
         clear c12
         replace H := Option.bind_eq_some_iff.mp H
         obtain ⟨t178, A130, H⟩ := H
         replace H : (if t178 = true then (if ((rd_T40 l0 a1).f0) = 0 then (if 0 ≤ ((rd_T40 l0 a1).f5) then (if ((rd_T40 l0 a1).f5) < (a3.length : Int) then (if rdOf false a3 ((rd_T40 l0 a1).f5) = true then (some (a1, 172)) else (switchbackref17_refused.l0 kj6 l0 (a3.set (((rd_T40 l0 a1).f5) : Int).toNat true) (wrap64 (a1 + 1)))) else (none)) else (none)) else (switchbackref17_refused.l0 kj6 l0 a3 (wrap64 (a1 + 1)))) else (some (a1, 171))) = some (r1, r2) := H
         have A13 := uZ A130
         clear A130
         by_cases c14 : t178 = true
         ·subst c14
          have H1 : (if ((rd_T40 l0 a1).f0) = 0 then (if 0 ≤ ((rd_T40 l0 a1).f5) then (if ((rd_T40 l0 a1).f5) < (a3.length : Int) then (if rdOf false a3 ((rd_T40 l0 a1).f5) = true then (some (a1, 172)) else (switchbackref17_refused.l0 kj6 l0 (a3.set (((rd_T40 l0 a1).f5) : Int).toNat true) (wrap64 (a1 + 1)))) else (none)) else (none)) else (switchbackref17_refused.l0 kj6 l0 a3 (wrap64 (a1 + 1)))) = some (r1, r2) := by rw [if_pos rfl] at H; exact H
          clear H
          have H := H1
          clear H1
          by_cases c15 : ((rd_T40 l0 a1).f0) = 0
          ·rw [if_pos c15] at H
           have c15b0 : (((rd_T40 l0 a1).f0) == 0) = true := beq_iff_eq.mpr c15
           have c15b1 : (((rd_T40 l0 a1).f0) != 0) = false := bne_eq_false_iff_eq.mpr c15
           clear c15
           by_cases c16 : 0 ≤ ((rd_T40 l0 a1).f5)
           ·rw [if_pos c16] at H
            have c16b0 : decide (0 ≤ ((rd_T40 l0 a1).f5)) = true := decide_eq_true c16
            clear c16
            by_cases c17 : ((rd_T40 l0 a1).f5) < (a3.length : Int)
            ·rw [if_pos c17] at H
             have c17b0 : decide (((rd_T40 l0 a1).f5) < (a3.length : Int)) = true := decide_eq_true c17
             clear c17
             obtain ⟨bq18, hbq18⟩ : ∃ b_ : Bool, b_ = (rdOf false a3 ((rd_T40 l0 a1).f5)) := ⟨_, rfl⟩
             replace H : (if bq18 = true then (some (a1, 172)) else (switchbackref17_refused.l0 kj6 l0 (a3.set (((rd_T40 l0 a1).f5) : Int).toNat true) (wrap64 (a1 + 1)))) = some (r1, r2) := by rw [← hbq18] at H; exact H
             have Nbq18 := uZ hbq18
             clear hbq18
             by_cases c19 : bq18 = true
             ·subst c19
              have H1 : (some (a1, 172)) = some (r1, r2) := by rw [if_pos rfl] at H; exact H
              clear H
              have H := H1
              clear H1
              simp only [Option.some.injEq, Prod.mk.injEq] at H
              obtain ⟨rfl, rfl⟩ := H
              have bp : 0 ≤ (a1 : Int) := uA
              have bq : a1 < (l0.length : Int) := uA
              obtain ⟨bx, A177_6, c177_6, e177, a4, a5, a6, a7, a8, a9, aa, hl177_6, hi177_6⟩ := at_T40 HR0.out a1 bp bq
              cases e177
              replace a4 := (HB.out.cell (zD w _ a4)).trans a4
              replace a5 := (HB.out.cell (zD w _ a5)).trans a5
              replace a6 := (HB.out.cell (zD w _ a6)).trans a6
              replace a7 := (HB.out.cell (zD w _ a7)).trans a7
              replace a8 := (HB.out.cell (zD w _ a8)).trans a8
              replace a9 := (HB.out.cell (zD w _ a9)).trans a9
              replace aa := (HB.out.cell (zD w _ aa)).trans aa
              have be := uZ hi177_6
              have bf := uZ hl177_6
              clear hi177_6 hl177_6
              replace bp := eq_true bp
              replace bq := eq_true bq
              go_wp2_with (first | ((with_reducible refine gate_callee (f := 69) rfl ?_); refine goesL_ (some 38) rfl rfl Tryd.func69 (by kernel_rfl) rfl #[.agg #[.int .i64 ((rd_T40 l0 a1).f0), .int .i64 ((rd_T40 l0 a1).f1), .int .i64 ((rd_T40 l0 a1).f2), .int .i64 ((rd_T40 l0 a1).f3), .int .u32 ((rd_T40 l0 a1).f4), .int .i64 ((rd_T40 l0 a1).f5), .slice A177_6 ((rd_T40 l0 a1).f6).length c177_6]] rfl (by (try simp only [zE, List.map_cons, List.map_nil]); first | done | rfl | (simp only [zF, zG]; rfl)) ?_; (with_reducible refine (switchbackref17_May.calls ((rd_T40 l0 a1).f0) ((rd_T40 l0 a1).f1) ((rd_T40 l0 a1).f2) ((rd_T40 l0 a1).f3) ((rd_T40 l0 a1).f4) ((rd_T40 l0 a1).f5) _ _ ((rd_T40 l0 a1).f6) true _ ?side1 ?side2 A13.out).mono ?_); (case side1 => repeat (first | exact (Kd.C_below be.out HB.out) | (with_reducible refine Kd.C_alloc ?_ _) | (with_reducible refine Kd.C_drewN ?_ _) | (with_reducible refine Kd.C_drew ?_))); (case side2 => exact bf.out); rintro e w20 ⟨rfl, hb⟩; refine ⟨_, rfl, ?_⟩; have n0_ := uZ (Kd.R_below (uR ab.out) hb); have n1_ := uZ (below_step (uB HB.out) hb); clear ab; clear HB; have ab := n0_; have HB := n1_; clear n0_ n1_; (try clear hb); (try clear hb2); (try clear hk); (try clear hi); have bz : 0 ≤ (a1 : Int) := uA; have c5 : a1 < (l0.length : Int) := uA; obtain ⟨ad179, A179_6, c179_6, e179, ad, ae, af, ag, ah, ai, ac, hl179_6, hi179_6⟩ := at_T40 HR0.out a1 bz c5; obtain rfl : bx = ad179 := (by injection e179); replace ad := (HB.out.cell (zD w _ ad)).trans ad; replace ae := (HB.out.cell (zD w _ ae)).trans ae; replace af := (HB.out.cell (zD w _ af)).trans af; replace ag := (HB.out.cell (zD w _ ag)).trans ag; replace ah := (HB.out.cell (zD w _ ah)).trans ah; replace ai := (HB.out.cell (zD w _ ai)).trans ai; replace ac := (HB.out.cell (zD w _ ac)).trans ac; have HR179_6 := uZ hi179_6; have HC179_6 := uZ hl179_6; clear hi179_6 hl179_6; replace bz := eq_true bz; replace c5 := eq_true c5; have p180 : 0 ≤ (a1 : Int) := uA; have q180 : a1 < (l0.length : Int) := uA; obtain ⟨ad180, A180_6, c180_6, e180, b0, b1, b2, b3, b4, b5, al, hl180_6, hi180_6⟩ := at_T40 HR0.out a1 p180 q180; obtain rfl : bx = ad180 := (by injection e180); replace b0 := (HB.out.cell (zD w _ b0)).trans b0; replace b1 := (HB.out.cell (zD w _ b1)).trans b1; replace b2 := (HB.out.cell (zD w _ b2)).trans b2; replace b3 := (HB.out.cell (zD w _ b3)).trans b3; replace b4 := (HB.out.cell (zD w _ b4)).trans b4; replace b5 := (HB.out.cell (zD w _ b5)).trans b5; replace al := (HB.out.cell (zD w _ al)).trans al; have HR180_6 := uZ hi180_6; have HC180_6 := uZ hl180_6; clear hi180_6 hl180_6; replace p180 := eq_true p180; replace q180 := eq_true q180; have ea_ := Option.some.inj (ac.symm.trans al); injection ea_ with ea_ en_ ec_; subst ea_; subst ec_; clear en_; obtain ⟨Ao21, co21, eo21⟩ := Kd.R_slice ab.out; subst eo21; have p181 : 0 ≤ (((rd_T40 l0 a1).f5) : Int) := uA; have q181 : ((rd_T40 l0 a1).f5) < (a3.length : Int) := uA; obtain ⟨ad181, e181, bg⟩ := Kd.at_bool (Kd.R_reads' ab.out).2.2 ((rd_T40 l0 a1).f5) p181 q181; (try rw [← Nbq18.out] at bg); cases e181; replace p181 := eq_true p181; replace q181 := eq_true q181))
              go_ret2
              exact ⟨by first | rfl | (simp [errW_none, errW_some] <;> rfl) | (simp [*, errW_none, errW_some] <;> rfl), by repeat (first | (with_reducible first | exact HB.out | apply zB | apply zA | apply zC) | exact HB.out)⟩
             replace c19 := Bool.eq_false_iff.mpr c19
             subst c19
             have H1 : (switchbackref17_refused.l0 kj6 l0 (a3.set (((rd_T40 l0 a1).f5) : Int).toNat true) (wrap64 (a1 + 1))) = some (r1, r2) := by rw [if_neg (show ¬ (false = true) by decide)] at H; exact H
             clear H
             have H := H1
             clear H1
             obtain ⟨y183, hy183⟩ : ∃ y_ : List Bool, y_ = (a3.set (((rd_T40 l0 a1).f5) : Int).toNat true) := ⟨_, rfl⟩
             replace H : (switchbackref17_refused.l0 kj6 l0 y183 (wrap64 (a1 + 1))) = some (r1, r2) := by first | (rw [hy183]; with_reducible exact H) | (have H2_ := (Option.bind_some _ _).symm.trans H; rw [hy183]; with_reducible exact H2_) | (have H2_ := (Option.bind_some _ _).symm.trans H; with_reducible exact H2_) | with_reducible exact H | (rw [hy183]; exact H) | exact H
             have Ny183 := uZ hy183
             clear hy183
             have H' := uZ H
             clear H
             have bp : 0 ≤ (a1 : Int) := uA
             have bq : a1 < (l0.length : Int) := uA
             obtain ⟨bx, A177_6, c177_6, e177, a4, a5, a6, a7, a8, a9, aa, hl177_6, hi177_6⟩ := at_T40 HR0.out a1 bp bq
             cases e177
             replace a4 := (HB.out.cell (zD w _ a4)).trans a4
             replace a5 := (HB.out.cell (zD w _ a5)).trans a5
             replace a6 := (HB.out.cell (zD w _ a6)).trans a6
             replace a7 := (HB.out.cell (zD w _ a7)).trans a7
             replace a8 := (HB.out.cell (zD w _ a8)).trans a8
             replace a9 := (HB.out.cell (zD w _ a9)).trans a9
             replace aa := (HB.out.cell (zD w _ aa)).trans aa
             have be := uZ hi177_6
             have bf := uZ hl177_6
             clear hi177_6 hl177_6
             replace bp := eq_true bp
             replace bq := eq_true bq
             go_wp2_with (first | ((with_reducible refine gate_callee (f := 69) rfl ?_); refine goesL_ (some 38) rfl rfl Tryd.func69 (by kernel_rfl) rfl #[.agg #[.int .i64 ((rd_T40 l0 a1).f0), .int .i64 ((rd_T40 l0 a1).f1), .int .i64 ((rd_T40 l0 a1).f2), .int .i64 ((rd_T40 l0 a1).f3), .int .u32 ((rd_T40 l0 a1).f4), .int .i64 ((rd_T40 l0 a1).f5), .slice A177_6 ((rd_T40 l0 a1).f6).length c177_6]] rfl (by (try simp only [zE, List.map_cons, List.map_nil]); first | done | rfl | (simp only [zF, zG]; rfl)) ?_; (with_reducible refine (switchbackref17_May.calls ((rd_T40 l0 a1).f0) ((rd_T40 l0 a1).f1) ((rd_T40 l0 a1).f2) ((rd_T40 l0 a1).f3) ((rd_T40 l0 a1).f4) ((rd_T40 l0 a1).f5) _ _ ((rd_T40 l0 a1).f6) true _ ?side1 ?side2 A13.out).mono ?_); (case side1 => repeat (first | exact (Kd.C_below be.out HB.out) | (with_reducible refine Kd.C_alloc ?_ _) | (with_reducible refine Kd.C_drewN ?_ _) | (with_reducible refine Kd.C_drew ?_))); (case side2 => exact bf.out); rintro e w23 ⟨rfl, hb⟩; refine ⟨_, rfl, ?_⟩; have n0_ := uZ (Kd.R_below (uR ab.out) hb); have n1_ := uZ (below_step (uB HB.out) hb); clear ab; clear HB; have ab := n0_; have HB := n1_; clear n0_ n1_; (try clear hb); (try clear hb2); (try clear hk); (try clear hi); have bz : 0 ≤ (a1 : Int) := uA; have c5 : a1 < (l0.length : Int) := uA; obtain ⟨ad179, A179_6, c179_6, e179, ad, ae, af, ag, ah, ai, ac, hl179_6, hi179_6⟩ := at_T40 HR0.out a1 bz c5; obtain rfl : bx = ad179 := (by injection e179); replace ad := (HB.out.cell (zD w _ ad)).trans ad; replace ae := (HB.out.cell (zD w _ ae)).trans ae; replace af := (HB.out.cell (zD w _ af)).trans af; replace ag := (HB.out.cell (zD w _ ag)).trans ag; replace ah := (HB.out.cell (zD w _ ah)).trans ah; replace ai := (HB.out.cell (zD w _ ai)).trans ai; replace ac := (HB.out.cell (zD w _ ac)).trans ac; have HR179_6 := uZ hi179_6; have HC179_6 := uZ hl179_6; clear hi179_6 hl179_6; replace bz := eq_true bz; replace c5 := eq_true c5; have p180 : 0 ≤ (a1 : Int) := uA; have q180 : a1 < (l0.length : Int) := uA; obtain ⟨ad180, A180_6, c180_6, e180, b0, b1, b2, b3, b4, b5, al, hl180_6, hi180_6⟩ := at_T40 HR0.out a1 p180 q180; obtain rfl : bx = ad180 := (by injection e180); replace b0 := (HB.out.cell (zD w _ b0)).trans b0; replace b1 := (HB.out.cell (zD w _ b1)).trans b1; replace b2 := (HB.out.cell (zD w _ b2)).trans b2; replace b3 := (HB.out.cell (zD w _ b3)).trans b3; replace b4 := (HB.out.cell (zD w _ b4)).trans b4; replace b5 := (HB.out.cell (zD w _ b5)).trans b5; replace al := (HB.out.cell (zD w _ al)).trans al; have HR180_6 := uZ hi180_6; have HC180_6 := uZ hl180_6; clear hi180_6 hl180_6; replace p180 := eq_true p180; replace q180 := eq_true q180; have ea_ := Option.some.inj (ac.symm.trans al); injection ea_ with ea_ en_ ec_; subst ea_; subst ec_; clear en_; obtain ⟨Ao24, co24, eo24⟩ := Kd.R_slice ab.out; subst eo24; have p181 : 0 ≤ (((rd_T40 l0 a1).f5) : Int) := uA; have q181 : ((rd_T40 l0 a1).f5) < (a3.length : Int) := uA; obtain ⟨ad181, e181, bg⟩ := Kd.at_bool (Kd.R_reads' ab.out).2.2 ((rd_T40 l0 a1).f5) p181 q181; (try rw [← Nbq18.out] at bg); cases e181; replace p181 := eq_true p181; replace q181 := eq_true q181; have p182 : 0 ≤ (a1 : Int) := uA; have q182 : a1 < (l0.length : Int) := uA; obtain ⟨ad182, A182_6, c182_6, e182, br, bs, bt, bu, bv, bw, bh, hl182_6, hi182_6⟩ := at_T40 HR0.out a1 p182 q182; obtain rfl : bx = ad182 := (by injection e182); replace br := (HB.out.cell (zD w _ br)).trans br; replace bs := (HB.out.cell (zD w _ bs)).trans bs; replace bt := (HB.out.cell (zD w _ bt)).trans bt; replace bu := (HB.out.cell (zD w _ bu)).trans bu; replace bv := (HB.out.cell (zD w _ bv)).trans bv; replace bw := (HB.out.cell (zD w _ bw)).trans bw; replace bh := (HB.out.cell (zD w _ bh)).trans bh; have HR182_6 := uZ hi182_6; have HC182_6 := uZ hl182_6; clear hi182_6 hl182_6; replace p182 := eq_true p182; replace q182 := eq_true q182; have ea_ := Option.some.inj (ac.symm.trans bh); injection ea_ with ea_ en_ ec_; subst ea_; subst ec_; clear en_; have p22 : 0 ≤ (((rd_T40 l0 a1).f5) : Int) := uA; have q22 : (((rd_T40 l0 a1).f5) : Int) < ((a3.length : Int) : Int) := uA; obtain ⟨go22, co22, eo22, gb22, gl22, cl22, HG22⟩ := Kd.R_form ab.out (by omega); (first | cases eo22 | (injection eo22 with ea_ en_ ec_; (first | subst ea_ | (injection ea_ with ea_; subst ea_)); subst ec_; clear en_)); have GB22 := uZ gb22; have GG22 := uZ HG22; clear gb22 gl22 HG22; (first | simp only [add_plain] at bg | skip); obtain ⟨hx22_0, hf22_0⟩ := Kd.R_celln false ab.out (((rd_T40 l0 a1).f5) : Int) p22 q22; replace p22 := eq_true p22; replace q22 := eq_true q22; obtain ⟨hy25_, hz25_⟩ := Kd.R_celln false ab.out (((rd_T40 l0 a1).f5) : Int) (uA) (uA); have HP25 := Kd.R_putg ab.out (((rd_T40 l0 a1).f5) : Int) true) | ((with_reducible refine gate_store (t := 4) (p := 62) rfl ?_); refine store_event (t := 4) (p := 62) (v := ?vo_w26) (w1 := (w23.setCell ⟨go22, (((rd_T40 l0 a1).f5) : Int).toNat, none⟩ (.bool true))) ?hg ?ho ?hn ?hr ?_; (case ho => rfl); (case hg => rfl); (case hn => rfl); (case hr => first | (go_simp; done) | (go_simp; rfl)); intro w26 hw; have hg : w23.grownBy w26 (some go22) := (by rw [hw]; exact HP25.2); have hp_ : Kd.R Kd.bool 4 w26 w.heap.size (fun _ => True) (.slice (some ⟨go22, 0, none⟩) a3.length co24) y183 := (by rw [hw, Ny183.out]; exact HP25.1); clear HP25; have n0_ := uZ (hp_); have n1_ := uZ ((by rw [hw]; exact below_set (HB.out) GB22.out : Below w.heap.size w w26)); clear ab; clear HB; have ab := n0_; have HB := n1_; clear n0_ n1_; clear hg hw hp_))
             go_roundg kj6
             case measure => have := HK1.out; have := HJ6.out; omega
             case rel => exact ⟨(y183), (wrap64 (a1 + 1)), (by first | rfl | (simp; done) | (simp [*]; done)), H', ⟨by have := HK1.out; have := HJ6.out; omega⟩, ⟨uR ab.out⟩, ⟨uB HB.out⟩⟩
            rw [if_neg c17] at H
            exact absurd H (by simp)
           rw [if_neg c16] at H
           exact absurd H (by simp)
          rw [if_neg c15] at H
          have c15b0 : (((rd_T40 l0 a1).f0) == 0) = false := beq_eq_false_iff_ne.mpr c15
          have c15b1 : (((rd_T40 l0 a1).f0) != 0) = true := bne_iff_ne.mpr c15
          have H' := uZ H
          clear H
          have bp : 0 ≤ (a1 : Int) := uA
          have bq : a1 < (l0.length : Int) := uA
          obtain ⟨bx, A177_6, c177_6, e177, a4, a5, a6, a7, a8, a9, aa, hl177_6, hi177_6⟩ := at_T40 HR0.out a1 bp bq
          cases e177
          replace a4 := (HB.out.cell (zD w _ a4)).trans a4
          replace a5 := (HB.out.cell (zD w _ a5)).trans a5
          replace a6 := (HB.out.cell (zD w _ a6)).trans a6
          replace a7 := (HB.out.cell (zD w _ a7)).trans a7
          replace a8 := (HB.out.cell (zD w _ a8)).trans a8
          replace a9 := (HB.out.cell (zD w _ a9)).trans a9
          replace aa := (HB.out.cell (zD w _ aa)).trans aa
          have be := uZ hi177_6
          have bf := uZ hl177_6
          clear hi177_6 hl177_6
          replace bp := eq_true bp
          replace bq := eq_true bq
          go_wp2_with (first | ((with_reducible refine gate_callee (f := 69) rfl ?_); refine goesL_ (some 38) rfl rfl Tryd.func69 (by kernel_rfl) rfl #[.agg #[.int .i64 ((rd_T40 l0 a1).f0), .int .i64 ((rd_T40 l0 a1).f1), .int .i64 ((rd_T40 l0 a1).f2), .int .i64 ((rd_T40 l0 a1).f3), .int .u32 ((rd_T40 l0 a1).f4), .int .i64 ((rd_T40 l0 a1).f5), .slice A177_6 ((rd_T40 l0 a1).f6).length c177_6]] rfl (by (try simp only [zE, List.map_cons, List.map_nil]); first | done | rfl | (simp only [zF, zG]; rfl)) ?_; (with_reducible refine (switchbackref17_May.calls ((rd_T40 l0 a1).f0) ((rd_T40 l0 a1).f1) ((rd_T40 l0 a1).f2) ((rd_T40 l0 a1).f3) ((rd_T40 l0 a1).f4) ((rd_T40 l0 a1).f5) _ _ ((rd_T40 l0 a1).f6) true _ ?side1 ?side2 A13.out).mono ?_); (case side1 => repeat (first | exact (Kd.C_below be.out HB.out) | (with_reducible refine Kd.C_alloc ?_ _) | (with_reducible refine Kd.C_drewN ?_ _) | (with_reducible refine Kd.C_drew ?_))); (case side2 => exact bf.out); rintro e w27 ⟨rfl, hb⟩; refine ⟨_, rfl, ?_⟩; have n0_ := uZ (Kd.R_below (uR ab.out) hb); have n1_ := uZ (below_step (uB HB.out) hb); clear ab; clear HB; have ab := n0_; have HB := n1_; clear n0_ n1_; (try clear hb); (try clear hb2); (try clear hk); (try clear hi); have bz : 0 ≤ (a1 : Int) := uA; have c5 : a1 < (l0.length : Int) := uA; obtain ⟨ad179, A179_6, c179_6, e179, ad, ae, af, ag, ah, ai, ac, hl179_6, hi179_6⟩ := at_T40 HR0.out a1 bz c5; obtain rfl : bx = ad179 := (by injection e179); replace ad := (HB.out.cell (zD w _ ad)).trans ad; replace ae := (HB.out.cell (zD w _ ae)).trans ae; replace af := (HB.out.cell (zD w _ af)).trans af; replace ag := (HB.out.cell (zD w _ ag)).trans ag; replace ah := (HB.out.cell (zD w _ ah)).trans ah; replace ai := (HB.out.cell (zD w _ ai)).trans ai; replace ac := (HB.out.cell (zD w _ ac)).trans ac; have HR179_6 := uZ hi179_6; have HC179_6 := uZ hl179_6; clear hi179_6 hl179_6; replace bz := eq_true bz; replace c5 := eq_true c5))
          go_roundg kj6
          case measure => have := HK1.out; have := HJ6.out; omega
          case rel => exact ⟨(a3), (wrap64 (a1 + 1)), (by first | rfl | (simp; done) | (simp [*]; done)), H', ⟨by have := HK1.out; have := HJ6.out; omega⟩, ⟨uR ab.out⟩, ⟨uB HB.out⟩⟩
         replace c14 := Bool.eq_false_iff.mpr c14
         subst c14
         have H1 : (some (a1, 171)) = some (r1, r2) := by rw [if_neg (show ¬ (false = true) by decide)] at H; exact H
         clear H
         have H := H1
         clear H1
         simp only [Option.some.injEq, Prod.mk.injEq] at H
         obtain ⟨rfl, rfl⟩ := H
         have bp : 0 ≤ (a1 : Int) := uA
         have bq : a1 < (l0.length : Int) := uA
         obtain ⟨bx, A177_6, c177_6, e177, a4, a5, a6, a7, a8, a9, aa, hl177_6, hi177_6⟩ := at_T40 HR0.out a1 bp bq
         cases e177
         replace a4 := (HB.out.cell (zD w _ a4)).trans a4
         replace a5 := (HB.out.cell (zD w _ a5)).trans a5
         replace a6 := (HB.out.cell (zD w _ a6)).trans a6
         replace a7 := (HB.out.cell (zD w _ a7)).trans a7
         replace a8 := (HB.out.cell (zD w _ a8)).trans a8
         replace a9 := (HB.out.cell (zD w _ a9)).trans a9
         replace aa := (HB.out.cell (zD w _ aa)).trans aa
         have be := uZ hi177_6
         have bf := uZ hl177_6
         clear hi177_6 hl177_6
         replace bp := eq_true bp
         replace bq := eq_true bq
         go_wp2_with (first | ((with_reducible refine gate_callee (f := 69) rfl ?_); refine goesL_ (some 38) rfl rfl Tryd.func69 (by kernel_rfl) rfl #[.agg #[.int .i64 ((rd_T40 l0 a1).f0), .int .i64 ((rd_T40 l0 a1).f1), .int .i64 ((rd_T40 l0 a1).f2), .int .i64 ((rd_T40 l0 a1).f3), .int .u32 ((rd_T40 l0 a1).f4), .int .i64 ((rd_T40 l0 a1).f5), .slice A177_6 ((rd_T40 l0 a1).f6).length c177_6]] rfl (by (try simp only [zE, List.map_cons, List.map_nil]); first | done | rfl | (simp only [zF, zG]; rfl)) ?_; (with_reducible refine (switchbackref17_May.calls ((rd_T40 l0 a1).f0) ((rd_T40 l0 a1).f1) ((rd_T40 l0 a1).f2) ((rd_T40 l0 a1).f3) ((rd_T40 l0 a1).f4) ((rd_T40 l0 a1).f5) _ _ ((rd_T40 l0 a1).f6) false _ ?side1 ?side2 A13.out).mono ?_); (case side1 => repeat (first | exact (Kd.C_below be.out HB.out) | (with_reducible refine Kd.C_alloc ?_ _) | (with_reducible refine Kd.C_drewN ?_ _) | (with_reducible refine Kd.C_drew ?_))); (case side2 => exact bf.out); rintro e w28 ⟨rfl, hb⟩; refine ⟨_, rfl, ?_⟩; have n0_ := uZ (Kd.R_below (uR ab.out) hb); have n1_ := uZ (below_step (uB HB.out) hb); clear ab; clear HB; have ab := n0_; have HB := n1_; clear n0_ n1_; (try clear hb); (try clear hb2); (try clear hk); (try clear hi)))
         go_ret2
         exact ⟨by first | rfl | (simp [errW_none, errW_some] <;> rfl) | (simp [*, errW_none, errW_some] <;> rfl), by repeat (first | (with_reducible first | exact HB.out | apply zB | apply zA | apply zC) | exact HB.out)⟩
        rw [if_neg c12] at H
        exact absurd H (by simp)
       rw [if_neg c11] at H
       exact absurd H (by simp)
    rw [if_neg c6] at H
    have c6b0 : decide (a1 < (l0.length : Int)) = false := decide_eq_false c6
    clear c6
    have H' := uZ H
    clear H
    go_wp2
    go_loopg [6] k1 (fun kq v6 w' => ∃ (a2 : Int), v6 = .int .i64 a2 ∧ Aside0 (switchbackref17_refused.l1 kq l0 a3 a2 = some (r1, r2)) ∧ Aside0 (kq ≤ k1) ∧ Aside0 (Kd.R Kd.bool 4 w' w.heap.size (fun _ => True) v173 a3) ∧ Aside0 (Below w.heap.size w w'))
    case atStart => exact ⟨(0), (by first | rfl | (simp; done) | (simp [*]; done)), H', ⟨Nat.le_refl _⟩, ⟨uR ab.out⟩, ⟨uB HB.out⟩⟩
    case round =>
     clear H'
     try clear c1
     try clear p1
     try clear q1
     try clear hx1
     try clear c2
     try clear c2b0
     try clear c2b1
     try clear p2
     try clear q2
     try clear hx2
     try clear hf2
     try clear c3
     try clear c3b0
     try clear c3b1
     try clear c4
     try clear c6
     try clear c6b0
     try clear p6
     try clear c8
     try clear c8b0
     try clear c9
     try clear c9b0
     try clear c10
     try clear c11
     try clear c11b0
     try clear c12
     try clear c12b0
     try clear c14
     try clear c15
     try clear c15b0
     try clear c15b1
     try clear c16
     try clear c16b0
     try clear c17
     try clear c17b0
     try clear p17
     try clear q17
     try clear hx17
     try clear c18
     try clear p18
     try clear q18
     try clear hx18
     try clear c19
     try clear p22
     try clear q22
     try clear hx22
     try clear hf22
     try clear am
     try clear an
     try clear ao
     try clear ap
     try clear aq
     try clear ar
     try clear ak
     try clear b8
     try clear b9
     try clear ba
     try clear bb
     try clear bc
     try clear bd
     try clear b7
     try clear a4
     try clear a5
     try clear a6
     try clear a7
     try clear a8
     try clear a9
     try clear aa
     try clear ad
     try clear ae
     try clear af
     try clear ag
     try clear ah
     try clear ai
     try clear ac
     try clear b0
     try clear b1
     try clear b2
     try clear b3
     try clear b4
     try clear b5
     try clear al
     try clear bg
     try clear br
     try clear bs
     try clear bt
     try clear bu
     try clear bv
     try clear bw
     try clear bh
     try clear hx22_0
     try clear p1
     try clear p175
     try clear p176
     try clear bp
     try clear bz
     try clear p180
     try clear p181
     try clear p182
     try clear p2
     try clear p22
     try clear q1
     try clear q175
     try clear q176
     try clear bq
     try clear c5
     try clear q180
     try clear q181
     try clear q182
     try clear q22
     obtain ⟨a2, rfl, HA, HK2, ab, HB⟩ := hrel
     cases gk with
     | zero => exact absurd HA.out (by simp [switchbackref17_refused.l1])
     | succ k2 =>
      have H := HA.out
      clear HA
      simp only [switchbackref17_refused.l1] at H
      by_cases c29 : a2 < (l0.length : Int)
      ·rw [if_pos c29] at H
       have c29b0 : decide (a2 < (l0.length : Int)) = true := decide_eq_true c29
       clear c29
       by_cases c30 : 0 ≤ a2
       ·rw [if_pos c30] at H
        have c30b0 : decide (0 ≤ a2) = true := decide_eq_true c30
        clear c30
        replace H := Option.bind_eq_some_iff.mp H
        obtain ⟨t185, A310, H⟩ := H
        replace H : (if t185 = true then (if 0 ≤ ((rd_T40 l0 a2).f5) then (if ((rd_T40 l0 a2).f5) < (a3.length : Int) then (switchbackref17_refused.j3 k2 l0 a3 a2 (!(rdOf false a3 ((rd_T40 l0 a2).f5)))) else (none)) else (none)) else (switchbackref17_refused.j3 k2 l0 a3 a2 false)) = some (r1, r2) := H
        have A31 := uZ A310
        clear A310
        have HC32 := uZ H
        clear H
        have p184 : 0 ≤ (a2 : Int) := uA
        have q184 : a2 < (l0.length : Int) := uA
        obtain ⟨ad184, A184_6, c184_6, e184, c7, ca, cb, cc, cd, ce, cf, hl184_6, hi184_6⟩ := at_T40 HR0.out a2 p184 q184
        cases e184
        replace c7 := (HB.out.cell (zD w _ c7)).trans c7
        replace ca := (HB.out.cell (zD w _ ca)).trans ca
        replace cb := (HB.out.cell (zD w _ cb)).trans cb
        replace cc := (HB.out.cell (zD w _ cc)).trans cc
        replace cd := (HB.out.cell (zD w _ cd)).trans cd
        replace ce := (HB.out.cell (zD w _ ce)).trans ce
        replace cf := (HB.out.cell (zD w _ cf)).trans cf
        have HR184_6 := uZ hi184_6
        have HC184_6 := uZ hl184_6
        clear hi184_6 hl184_6
        replace p184 := eq_true p184
        replace q184 := eq_true q184
        go_upto_region 19 with (first | ((with_reducible refine gate_callee (f := 27) rfl ?_); refine goesL_ (some 73) rfl rfl Tryd.func27 (by kernel_rfl) rfl #[.agg #[.int .i64 ((rd_T40 l0 a2).f0), .int .i64 ((rd_T40 l0 a2).f1), .int .i64 ((rd_T40 l0 a2).f2), .int .i64 ((rd_T40 l0 a2).f3), .int .u32 ((rd_T40 l0 a2).f4), .int .i64 ((rd_T40 l0 a2).f5), .slice A184_6 ((rd_T40 l0 a2).f6).length c184_6]] rfl (by (try simp only [zE, List.map_cons, List.map_nil]); first | done | rfl | (simp only [zF, zG]; rfl)) ?_; (with_reducible refine (switchbackref17_Goes.calls ((rd_T40 l0 a2).f0) ((rd_T40 l0 a2).f1) ((rd_T40 l0 a2).f2) ((rd_T40 l0 a2).f3) ((rd_T40 l0 a2).f4) ((rd_T40 l0 a2).f5) _ _ ((rd_T40 l0 a2).f6) t185 _ ?side1 ?side2 A31.out).mono ?_); (case side1 => repeat (first | exact (Kd.C_below HR184_6.out HB.out) | (with_reducible refine Kd.C_alloc ?_ _) | (with_reducible refine Kd.C_drewN ?_ _) | (with_reducible refine Kd.C_drew ?_))); (case side2 => exact HC184_6.out); rintro e w33 ⟨rfl, hb⟩; refine ⟨_, rfl, ?_⟩; have n0_ := uZ (Kd.R_below (uR ab.out) hb); have n1_ := uZ (below_step (uB HB.out) hb); clear ab; clear HB; have ab := n0_; have HB := n1_; clear n0_ n1_; (try clear hb); (try clear hb2); (try clear hk); (try clear hi)))
        (try simp only [Act.put, List.setIfInBounds_toArray, List.set_cons_zero, List.set_cons_succ])
        go_cut [85] (fun v85 wc => ∃ (kq : Nat) (x85_31 : Bool), v85 = .bool x85_31 ∧ Aside0 (switchbackref17_refused.j3 kq l0 a3 a2 x85_31 = some (r1, r2)) ∧ Aside0 (kq ≤ k2) ∧ Aside0 (Kd.R Kd.bool 4 wc w.heap.size (fun _ => True) v173 a3) ∧ Aside0 (Below w.heap.size w wc))
        case first =>
         have H := HC32.out
         clear HC32
         by_cases c34 : t185 = true
         ·subst c34
          have H1 : (if 0 ≤ ((rd_T40 l0 a2).f5) then (if ((rd_T40 l0 a2).f5) < (a3.length : Int) then (switchbackref17_refused.j3 k2 l0 a3 a2 (!(rdOf false a3 ((rd_T40 l0 a2).f5)))) else (none)) else (none)) = some (r1, r2) := by rw [if_pos rfl] at H; exact H
          clear H
          have H := H1
          clear H1
          by_cases c35 : 0 ≤ ((rd_T40 l0 a2).f5)
          ·rw [if_pos c35] at H
           have c35b0 : decide (0 ≤ ((rd_T40 l0 a2).f5)) = true := decide_eq_true c35
           clear c35
           (first | rw [c35b0] | (simp only [i64_w, i32_w]; rw [c35b0]) | skip)
           by_cases c36 : ((rd_T40 l0 a2).f5) < (a3.length : Int)
           ·rw [if_pos c36] at H
            have c36b0 : decide (((rd_T40 l0 a2).f5) < (a3.length : Int)) = true := decide_eq_true c36
            clear c36
            have H' := uZ H
            clear H
            have p186 : 0 ≤ (a2 : Int) := uA
            have q186 : a2 < (l0.length : Int) := uA
            obtain ⟨ad186, A186_6, c186_6, e186, cg, ch, ci, cj, ck, cl, cm, hl186_6, hi186_6⟩ := at_T40 HR0.out a2 p186 q186
            obtain rfl : ad184 = ad186 := (by injection e186)
            replace cg := (HB.out.cell (zD w _ cg)).trans cg
            replace ch := (HB.out.cell (zD w _ ch)).trans ch
            replace ci := (HB.out.cell (zD w _ ci)).trans ci
            replace cj := (HB.out.cell (zD w _ cj)).trans cj
            replace ck := (HB.out.cell (zD w _ ck)).trans ck
            replace cl := (HB.out.cell (zD w _ cl)).trans cl
            replace cm := (HB.out.cell (zD w _ cm)).trans cm
            have HR186_6 := uZ hi186_6
            have HC186_6 := uZ hl186_6
            clear hi186_6 hl186_6
            replace p186 := eq_true p186
            replace q186 := eq_true q186
            obtain ⟨Ao37, co37, eo37⟩ := Kd.R_slice ab.out
            subst eo37
            have p187 : 0 ≤ (((rd_T40 l0 a2).f5) : Int) := uA
            have q187 : ((rd_T40 l0 a2).f5) < (a3.length : Int) := uA
            obtain ⟨ad187, e187, hx187_0⟩ := Kd.at_bool (Kd.R_reads' ab.out).2.2 ((rd_T40 l0 a2).f5) p187 q187
            cases e187
            replace p187 := eq_true p187
            replace q187 := eq_true q187
            go_wp2
            go_meet
            case rel => exact ⟨_, (!(rdOf false a3 ((rd_T40 l0 a2).f5))), (by first | rfl | (simp; done) | (simp [*]; done)), H', ⟨by have := HK1.out; have := HK2.out; first | omega | exact Nat.le_refl _⟩, ⟨uR ab.out⟩, ⟨uB HB.out⟩⟩
           rw [if_neg c36] at H
           exact absurd H (by simp)
          rw [if_neg c35] at H
          exact absurd H (by simp)
         replace c34 := Bool.eq_false_iff.mpr c34
         subst c34
         have H1 : (switchbackref17_refused.j3 k2 l0 a3 a2 false) = some (r1, r2) := by rw [if_neg (show ¬ (false = true) by decide)] at H; exact H
         clear H
         have H := H1
         clear H1
         have H' := uZ H
         clear H
         go_wp2
         go_meet
         case rel => exact ⟨_, (false), (by first | rfl | (simp; done) | (simp [*]; done)), H', ⟨by have := HK1.out; have := HK2.out; first | omega | exact Nat.le_refl _⟩, ⟨uR ab.out⟩, ⟨uB HB.out⟩⟩
        case rest =>
         clear HC32
         try clear c1
         try clear p1
         try clear q1
         try clear hx1
         try clear c2
         try clear c2b0
         try clear c2b1
         try clear p2
         try clear q2
         try clear hx2
         try clear hf2
         try clear c3
         try clear c3b0
         try clear c3b1
         try clear c4
         try clear c6
         try clear c6b0
         try clear p6
         try clear c8
         try clear c8b0
         try clear c9
         try clear c9b0
         try clear c10
         try clear c11
         try clear c11b0
         try clear c12
         try clear c12b0
         try clear c14
         try clear c15
         try clear c15b0
         try clear c15b1
         try clear c16
         try clear c16b0
         try clear c17
         try clear c17b0
         try clear p17
         try clear q17
         try clear hx17
         try clear c18
         try clear p18
         try clear q18
         try clear hx18
         try clear c19
         try clear p22
         try clear q22
         try clear hx22
         try clear hf22
         try clear c27
         try clear c29
         try clear c29b0
         try clear c30
         try clear c30b0
         try clear c34
         try clear c35
         try clear c35b0
         try clear c36
         try clear c36b0
         try clear am
         try clear an
         try clear ao
         try clear ap
         try clear aq
         try clear ar
         try clear ak
         try clear b8
         try clear b9
         try clear ba
         try clear bb
         try clear bc
         try clear bd
         try clear b7
         try clear a4
         try clear a5
         try clear a6
         try clear a7
         try clear a8
         try clear a9
         try clear aa
         try clear ad
         try clear ae
         try clear af
         try clear ag
         try clear ah
         try clear ai
         try clear ac
         try clear b0
         try clear b1
         try clear b2
         try clear b3
         try clear b4
         try clear b5
         try clear al
         try clear bg
         try clear br
         try clear bs
         try clear bt
         try clear bu
         try clear bv
         try clear bw
         try clear bh
         try clear c7
         try clear ca
         try clear cb
         try clear cc
         try clear cd
         try clear ce
         try clear cf
         try clear cg
         try clear ch
         try clear ci
         try clear cj
         try clear ck
         try clear cl
         try clear cm
         try clear hx187_0
         try clear hx22_0
         try clear p1
         try clear p17
         try clear p175
         try clear p176
         try clear bp
         try clear bz
         try clear p18
         try clear p180
         try clear p181
         try clear p182
         try clear p184
         try clear p186
         try clear p187
         try clear p2
         try clear p22
         try clear p6
         try clear q1
         try clear q17
         try clear q175
         try clear q176
         try clear bq
         try clear c5
         try clear q18
         try clear q180
         try clear q181
         try clear q182
         try clear q184
         try clear q186
         try clear q187
         try clear q2
         try clear q22
         obtain ⟨kq, x85_31, rfl, HA, HJ31, ab, HB⟩ := hcut
         cases kq with
         | zero => exact absurd HA.out (by simp [switchbackref17_refused.j3])
         | succ kj31 =>
          have H := HA.out
          clear HA
          simp only [switchbackref17_refused.j3] at H
          by_cases c38 : x85_31 = true
          ·subst c38
           have H1 : (some (a2, 173)) = some (r1, r2) := by rw [if_pos rfl] at H; exact H
           clear H
           have H := H1
           clear H1
           simp only [Option.some.injEq, Prod.mk.injEq] at H
           obtain ⟨rfl, rfl⟩ := H
           go_wp2
           go_ret2
           exact ⟨by first | rfl | (simp [errW_none, errW_some] <;> rfl) | (simp [*, errW_none, errW_some] <;> rfl), by repeat (first | (with_reducible first | exact HB.out | apply zB | apply zA | apply zC) | exact HB.out)⟩
          replace c38 := Bool.eq_false_iff.mpr c38
          subst c38
          have H1 : (switchbackref17_refused.l2 kj31 l0 a3 a2 0) = some (r1, r2) := by rw [if_neg (show ¬ (false = true) by decide)] at H; exact H
          clear H
          have H := H1
          clear H1
          have H' := uZ H
          clear H
          go_wp2
          go_loopg [8] kj31 (fun kq v8 w' => ∃ (a_ : Int), v8 = .int .i64 a_ ∧ Aside0 (switchbackref17_refused.l2 kq l0 a3 a2 a_ = some (r1, r2)) ∧ Aside0 (kq ≤ kj31) ∧ Aside0 (Kd.R Kd.bool 4 w' w.heap.size (fun _ => True) v173 a3) ∧ Aside0 (Below w.heap.size w w'))
          case atStart => exact ⟨(0), (by first | rfl | (simp; done) | (simp [*]; done)), H', ⟨Nat.le_refl _⟩, ⟨uR ab.out⟩, ⟨uB HB.out⟩⟩
          case round =>
           clear H'
           try clear c1
           try clear p1
           try clear q1
           try clear hx1
           try clear c2
           try clear c2b0
           try clear c2b1
           try clear p2
           try clear q2
           try clear hx2
           try clear hf2
           try clear c3
           try clear c3b0
           try clear c3b1
           try clear c4
           try clear c6
           try clear c6b0
           try clear p6
           try clear c8
           try clear c8b0
           try clear c9
           try clear c9b0
           try clear c10
           try clear c11
           try clear c11b0
           try clear c12
           try clear c12b0
           try clear c14
           try clear c15
           try clear c15b0
           try clear c15b1
           try clear c16
           try clear c16b0
           try clear c17
           try clear c17b0
           try clear p17
           try clear q17
           try clear hx17
           try clear c18
           try clear p18
           try clear q18
           try clear hx18
           try clear c19
           try clear p22
           try clear q22
           try clear hx22
           try clear hf22
           try clear c27
           try clear c29
           try clear c29b0
           try clear c30
           try clear c30b0
           try clear c34
           try clear c35
           try clear c35b0
           try clear c36
           try clear c36b0
           try clear c38
           try clear am
           try clear an
           try clear ao
           try clear ap
           try clear aq
           try clear ar
           try clear ak
           try clear b8
           try clear b9
           try clear ba
           try clear bb
           try clear bc
           try clear bd
           try clear b7
           try clear a4
           try clear a5
           try clear a6
           try clear a7
           try clear a8
           try clear a9
           try clear aa
           try clear ad
           try clear ae
           try clear af
           try clear ag
           try clear ah
           try clear ai
           try clear ac
           try clear b0
           try clear b1
           try clear b2
           try clear b3
           try clear b4
           try clear b5
           try clear al
           try clear bg
           try clear br
           try clear bs
           try clear bt
           try clear bu
           try clear bv
           try clear bw
           try clear bh
           try clear c7
           try clear ca
           try clear cb
           try clear cc
           try clear cd
           try clear ce
           try clear cf
           try clear cg
           try clear ch
           try clear ci
           try clear cj
           try clear ck
           try clear cl
           try clear cm
           try clear hx187_0
           try clear hx22_0
           try clear p1
           try clear p17
           try clear p175
           try clear p176
           try clear bp
           try clear bz
           try clear p18
           try clear p180
           try clear p181
           try clear p182
           try clear p184
           try clear p186
           try clear p187
           try clear p2
           try clear p22
           try clear p6
           try clear q1
           try clear q17
           try clear q175
           try clear q176
           try clear bq
           try clear c5
           try clear q18
           try clear q180
           try clear q181
           try clear q182
           try clear q184
           try clear q186
           try clear q187
           try clear q2
           try clear q22
           obtain ⟨a_, rfl, HA, HK4, ab, HB⟩ := hrel
           cases gk with
           | zero => exact absurd HA.out (by simp [switchbackref17_refused.l2])
           | succ k4 =>
            have H := HA.out
            clear HA
            simp only [switchbackref17_refused.l2] at H
            by_cases c39 : 0 ≤ a2
            ·rw [if_pos c39] at H
             have c39b0 : decide (0 ≤ a2) = true := decide_eq_true c39
             clear c39
             by_cases c40 : a2 < (l0.length : Int)
             ·rw [if_pos c40] at H
              have c40b0 : decide (a2 < (l0.length : Int)) = true := decide_eq_true c40
              clear c40
              by_cases c41 : a_ < (((rd_T40 l0 a2).f6).length : Int)
              ·rw [if_pos c41] at H
               have c41b0 : decide (a_ < (((rd_T40 l0 a2).f6).length : Int)) = true := decide_eq_true c41
               clear c41
               by_cases c42 : 0 ≤ a_
               ·rw [if_pos c42] at H
                have c42b0 : decide (0 ≤ a_) = true := decide_eq_true c42
                clear c42
                by_cases c43 : 0 ≤ (rd ((rd_T40 l0 a2).f6) a_)
                ·rw [if_pos c43] at H
                 have c43b0 : decide (0 ≤ (rd ((rd_T40 l0 a2).f6) a_)) = true := decide_eq_true c43
                 clear c43
                 by_cases c44 : (rd ((rd_T40 l0 a2).f6) a_) < (a3.length : Int)
                 ·rw [if_pos c44] at H
                  have c44b0 : decide ((rd ((rd_T40 l0 a2).f6) a_) < (a3.length : Int)) = true := decide_eq_true c44
                  clear c44
                  obtain ⟨bq45, hbq45⟩ : ∃ b_ : Bool, b_ = (rdOf false a3 (rd ((rd_T40 l0 a2).f6) a_)) := ⟨_, rfl⟩
                  replace H : (if (bq45 = true) then (switchbackref17_refused.l2 k4 l0 a3 a2 (wrap64 (a_ + 1))) else (some (a2, 173))) = some (r1, r2) := by rw [← hbq45] at H; exact H
                  have Nbq45 := uZ hbq45
                  clear hbq45
                  by_cases c46 : (bq45 = true)
                  ·subst c46
                   have H1 : (switchbackref17_refused.l2 k4 l0 a3 a2 (wrap64 (a_ + 1))) = some (r1, r2) := by rw [if_pos rfl] at H; exact H
                   clear H
                   have H := H1
                   clear H1
                   have H' := uZ H
                   clear H
                   have p188 : 0 ≤ (a2 : Int) := uA
                   have q188 : a2 < (l0.length : Int) := uA
                   obtain ⟨ad188, A188_6, c188_6, e188, au, av, aw, ax, ay, az, aj, hl188_6, hi188_6⟩ := at_T40 HR0.out a2 p188 q188
                   obtain rfl : ad184 = ad188 := (by injection e188)
                   replace au := (HB.out.cell (zD w _ au)).trans au
                   replace av := (HB.out.cell (zD w _ av)).trans av
                   replace aw := (HB.out.cell (zD w _ aw)).trans aw
                   replace ax := (HB.out.cell (zD w _ ax)).trans ax
                   replace ay := (HB.out.cell (zD w _ ay)).trans ay
                   replace az := (HB.out.cell (zD w _ az)).trans az
                   replace aj := (HB.out.cell (zD w _ aj)).trans aj
                   have HR188_6 := uZ hi188_6
                   have HC188_6 := uZ hl188_6
                   clear hi188_6 hl188_6
                   replace p188 := eq_true p188
                   replace q188 := eq_true q188
                   have p189 : 0 ≤ (a2 : Int) := uA
                   have q189 : a2 < (l0.length : Int) := uA
                   obtain ⟨ad189, A189_6, c189_6, e189, bi, bj, bk, bl, bm, bn, b6, hl189_6, hi189_6⟩ := at_T40 HR0.out a2 p189 q189
                   obtain rfl : ad184 = ad189 := (by injection e189)
                   replace bi := (HB.out.cell (zD w _ bi)).trans bi
                   replace bj := (HB.out.cell (zD w _ bj)).trans bj
                   replace bk := (HB.out.cell (zD w _ bk)).trans bk
                   replace bl := (HB.out.cell (zD w _ bl)).trans bl
                   replace bm := (HB.out.cell (zD w _ bm)).trans bm
                   replace bn := (HB.out.cell (zD w _ bn)).trans bn
                   replace b6 := (HB.out.cell (zD w _ b6)).trans b6
                   have HR189_6 := uZ hi189_6
                   have HC189_6 := uZ hl189_6
                   clear hi189_6 hl189_6
                   replace p189 := eq_true p189
                   replace q189 := eq_true q189
                   have ea_ := Option.some.inj (aj.symm.trans b6)
                   injection ea_ with ea_ en_ ec_
                   subst ea_
                   subst ec_
                   clear en_
                   have p190 : 0 ≤ (a_ : Int) := uA
                   have q190 : a_ < (((rd_T40 l0 a2).f6).length : Int) := uA
                   obtain ⟨ad190, e190, bo⟩ := Kd.at_int HR189_6.out a_ p190 q190
                   cases e190
                   replace bo := (HB.out.cell (zD w _ bo)).trans bo
                   replace p190 := eq_true p190
                   replace q190 := eq_true q190
                   obtain ⟨Ao47, co47, eo47⟩ := Kd.R_slice ab.out
                   subst eo47
                   have p191 : 0 ≤ ((rd ((rd_T40 l0 a2).f6) a_) : Int) := uA
                   have q191 : (rd ((rd_T40 l0 a2).f6) a_) < (a3.length : Int) := uA
                   obtain ⟨ad191, e191, hx191_0⟩ := Kd.at_bool (Kd.R_reads' ab.out).2.2 (rd ((rd_T40 l0 a2).f6) a_) p191 q191
                   (try rw [← Nbq45.out] at hx191_0)
                   cases e191
                   replace p191 := eq_true p191
                   replace q191 := eq_true q191
                   go_wp2
                   go_roundg k4
                   case measure => have := HK1.out; have := HK2.out; have := HJ31.out; have := HK4.out; omega
                   case rel => exact ⟨(wrap64 (a_ + 1)), (by first | rfl | (simp; done) | (simp [*]; done)), H', ⟨by have := HK1.out; have := HK2.out; have := HJ31.out; have := HK4.out; omega⟩, ⟨uR ab.out⟩, ⟨uB HB.out⟩⟩
                  replace c46 := Bool.eq_false_iff.mpr c46
                  subst c46
                  have H1 : (some (a2, 173)) = some (r1, r2) := by rw [if_neg (show ¬ (false = true) by decide)] at H; exact H
                  clear H
                  have H := H1
                  clear H1
                  simp only [Option.some.injEq, Prod.mk.injEq] at H
                  obtain ⟨rfl, rfl⟩ := H
                  have p188 : 0 ≤ (a2 : Int) := uA
                  have q188 : a2 < (l0.length : Int) := uA
                  obtain ⟨ad188, A188_6, c188_6, e188, au, av, aw, ax, ay, az, aj, hl188_6, hi188_6⟩ := at_T40 HR0.out a2 p188 q188
                  obtain rfl : ad184 = ad188 := (by injection e188)
                  replace au := (HB.out.cell (zD w _ au)).trans au
                  replace av := (HB.out.cell (zD w _ av)).trans av
                  replace aw := (HB.out.cell (zD w _ aw)).trans aw
                  replace ax := (HB.out.cell (zD w _ ax)).trans ax
                  replace ay := (HB.out.cell (zD w _ ay)).trans ay
                  replace az := (HB.out.cell (zD w _ az)).trans az
                  replace aj := (HB.out.cell (zD w _ aj)).trans aj
                  have HR188_6 := uZ hi188_6
                  have HC188_6 := uZ hl188_6
                  clear hi188_6 hl188_6
                  replace p188 := eq_true p188
                  replace q188 := eq_true q188
                  have p189 : 0 ≤ (a2 : Int) := uA
                  have q189 : a2 < (l0.length : Int) := uA
                  obtain ⟨ad189, A189_6, c189_6, e189, bi, bj, bk, bl, bm, bn, b6, hl189_6, hi189_6⟩ := at_T40 HR0.out a2 p189 q189
                  obtain rfl : ad184 = ad189 := (by injection e189)
                  replace bi := (HB.out.cell (zD w _ bi)).trans bi
                  replace bj := (HB.out.cell (zD w _ bj)).trans bj
                  replace bk := (HB.out.cell (zD w _ bk)).trans bk
                  replace bl := (HB.out.cell (zD w _ bl)).trans bl
                  replace bm := (HB.out.cell (zD w _ bm)).trans bm
                  replace bn := (HB.out.cell (zD w _ bn)).trans bn
                  replace b6 := (HB.out.cell (zD w _ b6)).trans b6
                  have HR189_6 := uZ hi189_6
                  have HC189_6 := uZ hl189_6
                  clear hi189_6 hl189_6
                  replace p189 := eq_true p189
                  replace q189 := eq_true q189
                  have ea_ := Option.some.inj (aj.symm.trans b6)
                  injection ea_ with ea_ en_ ec_
                  subst ea_
                  subst ec_
                  clear en_
                  have p190 : 0 ≤ (a_ : Int) := uA
                  have q190 : a_ < (((rd_T40 l0 a2).f6).length : Int) := uA
                  obtain ⟨ad190, e190, bo⟩ := Kd.at_int HR189_6.out a_ p190 q190
                  cases e190
                  replace bo := (HB.out.cell (zD w _ bo)).trans bo
                  replace p190 := eq_true p190
                  replace q190 := eq_true q190
                  obtain ⟨Ao48, co48, eo48⟩ := Kd.R_slice ab.out
                  subst eo48
                  have p191 : 0 ≤ ((rd ((rd_T40 l0 a2).f6) a_) : Int) := uA
                  have q191 : (rd ((rd_T40 l0 a2).f6) a_) < (a3.length : Int) := uA
                  obtain ⟨ad191, e191, hx191_0⟩ := Kd.at_bool (Kd.R_reads' ab.out).2.2 (rd ((rd_T40 l0 a2).f6) a_) p191 q191
                  (try rw [← Nbq45.out] at hx191_0)
                  cases e191
                  replace p191 := eq_true p191
                  replace q191 := eq_true q191
                  go_wp2
                  go_ret2
                  exact ⟨by first | rfl | (simp [errW_none, errW_some] <;> rfl) | (simp [*, errW_none, errW_some] <;> rfl), by repeat (first | (with_reducible first | exact HB.out | apply zB | apply zA | apply zC) | exact HB.out)⟩
                 rw [if_neg c44] at H
                 exact absurd H (by simp)
                rw [if_neg c43] at H
                exact absurd H (by simp)
               rw [if_neg c42] at H
               exact absurd H (by simp)
              rw [if_neg c41] at H
              have c41b0 : decide (a_ < (((rd_T40 l0 a2).f6).length : Int)) = false := decide_eq_false c41
              clear c41
              have H' := uZ H
              clear H
              have p188 : 0 ≤ (a2 : Int) := uA
              have q188 : a2 < (l0.length : Int) := uA
              obtain ⟨ad188, A188_6, c188_6, e188, au, av, aw, ax, ay, az, aj, hl188_6, hi188_6⟩ := at_T40 HR0.out a2 p188 q188
              obtain rfl : ad184 = ad188 := (by injection e188)
              replace au := (HB.out.cell (zD w _ au)).trans au
              replace av := (HB.out.cell (zD w _ av)).trans av
              replace aw := (HB.out.cell (zD w _ aw)).trans aw
              replace ax := (HB.out.cell (zD w _ ax)).trans ax
              replace ay := (HB.out.cell (zD w _ ay)).trans ay
              replace az := (HB.out.cell (zD w _ az)).trans az
              replace aj := (HB.out.cell (zD w _ aj)).trans aj
              have HR188_6 := uZ hi188_6
              have HC188_6 := uZ hl188_6
              clear hi188_6 hl188_6
              replace p188 := eq_true p188
              replace q188 := eq_true q188
              go_wp2
              go_roundg k4
              case measure => have := HK1.out; have := HK2.out; have := HJ31.out; have := HK4.out; omega
              case rel => exact ⟨(wrap64 (a2 + 1)), (by first | rfl | (simp; done) | (simp [*]; done)), H', ⟨by have := HK1.out; have := HK2.out; have := HJ31.out; have := HK4.out; omega⟩, ⟨uR ab.out⟩, ⟨uB HB.out⟩⟩
             rw [if_neg c40] at H
             exact absurd H (by simp)
            rw [if_neg c39] at H
            exact absurd H (by simp)
       rw [if_neg c30] at H
       exact absurd H (by simp)
      rw [if_neg c29] at H
      have c29b0 : decide (a2 < (l0.length : Int)) = false := decide_eq_false c29
      clear c29
      simp only [Option.some.injEq, Prod.mk.injEq] at H
      obtain ⟨rfl, rfl⟩ := H
      go_wp2
      go_ret2
      exact ⟨by first | rfl | (simp [errW_none, errW_some] <;> rfl) | (simp [*, errW_none, errW_some] <;> rfl), by repeat (first | (with_reducible first | exact HB.out | apply zB | apply zA | apply zC) | exact HB.out)⟩
 rw [if_neg c3] at H
 exact absurd H (by simp)

end Go.Proofs.YtamimnaafiphcaaDoor.PR1D
