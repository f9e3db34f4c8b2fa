-- Written by gp.py for this claim.
import Derived.Test.YtjoboaaambdpoaaDoorPR01x0
namespace Go.Proofs.YtjoboaaambdpoaaDoor.PR01
open Go.RowKit Go.Proofs.YtjoboaaambdpoaaDoorW.PrintWords Go.Proofs.YtjoboaaambdpoaaDoorW.PrintLast Go.Proofs.YtjoboaaambdpoaaDoorW.PrintMore
attribute [local go_sem] max2_int min2_int max_two min_two max_three min_three max_four min_four   -- for this text's walks alone
set_option linter.unusedVariables false
set_option linter.unusedSimpArgs false

namespace q_switchbacklaw01_based
theorem uZ {p : Prop} (h : p) : Aside0 p := ⟨h⟩
theorem uB {p q : Prop} (h : p) (g : p → q := by intro h; repeat (first | (with_reducible first | exact h | apply below_alloc | apply pw_below_drewN | apply below_drew1) | exact h)) : q := g h
end q_switchbacklaw01_based
open q_switchbacklaw01_based

/-! ### switchbacklaw01_based: function 16 -/
def switchbacklaw01_based.l0 : Nat → Int → Int → ByteArray → ByteArray → Option (ByteArray)
  | 0, _, _, _, _ => none
  | k + 1, x0, x1, x5, x6 => if x0 ≥ x1 then (if x1 = 0 then (none) else (if 0 ≤ (((Int.tdiv x0 x1) % 4294967296) % x1) then (if (((Int.tdiv x0 x1) % 4294967296) % x1) < (x5.size : Int) then ((some (([bt x5 (((Int.tdiv x0 x1) % 4294967296) % x1)] : List Int) : List Int)).bind fun y335 => (if (strOfNums y335).size + x6.size ≤ 9223372036854775807 then (switchbacklaw01_based.l0 k ((Int.tdiv x0 x1) % 4294967296) x1 x5 ((strOfNums y335) ++ x6)) else (none))) else (none)) else (none))) else (some x6)
def switchbacklaw01_based.f (k : Nat) (a0 : Int) (a1 : Int) : Option (ByteArray) := if a1 = 0 then (none) else (if 0 ≤ (Int.tmod a0 a1) then (if (Int.tmod a0 a1) < 16 then (switchbacklaw01_based.l0 k a0 a1 (⟨#[48, 49, 50, 51, 52, 53, 54, 55, 56, 57, 97, 98, 99, 100, 101, 102]⟩ : ByteArray) (strOfNums (([bt (⟨#[48, 49, 50, 51, 52, 53, 54, 55, 56, 57, 97, 98, 99, 100, 101, 102]⟩ : ByteArray) (Int.tmod a0 a1)] : List Int)))) else (none)) else (none))
theorem switchbacklaw01_based.mono_l : ∀ k, (∀ y0 y1 y2 y3, LeO (switchbacklaw01_based.l0 k y0 y1 y2 y3) (switchbacklaw01_based.l0 (k + 1) y0 y1 y2 y3))
  | 0 => fun _ _ _ _ r h => by simp [switchbacklaw01_based.l0] at h
  | k + 1 => by
    have ih0 := switchbacklaw01_based.mono_l k
    · intro y0 y1 y2 y3
      unfold switchbacklaw01_based.l0
      repeat' first
      | (with_reducible exact ih0 _ _ _ _)
      | (with_reducible exact LeO.refl _)
      | (with_reducible exact LeO.none _)
      | (with_reducible refine LeO.ite ?_ ?_)
      | (with_reducible refine LeO.bind ?_ (fun _ => ?_))
      | exact ih0 _ _ _ _
      | exact LeO.none _
      | refine LeO.ite ?_ ?_
      | refine LeO.bind ?_ (fun _ => ?_)
theorem switchbacklaw01_based.mono : ∀ a0 a1 k, LeO (switchbacklaw01_based.f k a0 a1) (switchbacklaw01_based.f (k + 1) a0 a1) := by
  intro a0 a1 k
  have ih0 := switchbacklaw01_based.mono_l k
  unfold switchbacklaw01_based.f
  repeat' first
      | (with_reducible exact ih0 _ _ _ _)
      | (with_reducible exact LeO.refl _)
      | (with_reducible exact LeO.none _)
      | (with_reducible refine LeO.ite ?_ ?_)
      | (with_reducible refine LeO.bind ?_ (fun _ => ?_))
      | exact ih0 _ _ _ _
      | exact LeO.none _
      | refine LeO.ite ?_ ?_
      | refine LeO.bind ?_ (fun _ => ?_)
set_option maxHeartbeats 8000000 in
set_option maxRecDepth 100000 in
theorem switchbacklaw01_based.calls (k : Nat) (a0 : Int) (a1 : Int) (r : ByteArray) (w : World) (h : switchbacklaw01_based.f k a0 a1 = some r) :
    Calls Tryd.prog 16 #[.int .u32 a0, .int .u32 a1] w fun e w' => e = .returned (.string r) ∧ Below w.heap.size w w' := by
 have HB := uZ (Below.refl w.heap.size w)
 have H : (if a1 = 0 then (none) else (if 0 ≤ (Int.tmod a0 a1) then (if (Int.tmod a0 a1) < 16 then (switchbacklaw01_based.l0 k a0 a1 (⟨#[48, 49, 50, 51, 52, 53, 54, 55, 56, 57, 97, 98, 99, 100, 101, 102]⟩ : ByteArray) (strOfNums (([bt (⟨#[48, 49, 50, 51, 52, 53, 54, 55, 56, 57, 97, 98, 99, 100, 101, 102]⟩ : ByteArray) (Int.tmod a0 a1)] : List Int)))) else (none)) else (none))) = some r := h
 clear h
 by_cases c3 : a1 = 0
 ·rw [if_pos c3] at H
  exact absurd H (by simp)
 rw [if_neg c3] at H
 have c3b0 : (a1 == 0) = false := beq_eq_false_iff_ne.mpr c3
 have c3b1 : (a1 != 0) = true := bne_iff_ne.mpr c3
 obtain ⟨ji4, hji4⟩ : ∃ j_ : Int, (Int.tmod a0 a1) = j_ := ⟨_, rfl⟩
 replace H : (if 0 ≤ (ji4) then (if (ji4) < 16 then (switchbacklaw01_based.l0 k a0 a1 (⟨#[48, 49, 50, 51, 52, 53, 54, 55, 56, 57, 97, 98, 99, 100, 101, 102]⟩ : ByteArray) (strOfNums (([bt (⟨#[48, 49, 50, 51, 52, 53, 54, 55, 56, 57, 97, 98, 99, 100, 101, 102]⟩ : ByteArray) (ji4)] : List Int)))) else (none)) else (none)) = some r := by first | (rw [hji4] at H; exact H) | (simp only [hji4] at H ⊢; exact H)
 by_cases c5 : 0 ≤ (ji4)
 ·rw [if_pos c5] at H
  have c5b0 : decide (0 ≤ (ji4)) = true := decide_eq_true c5
  clear c5
  by_cases c6 : (ji4) < 16
  ·rw [if_pos c6] at H
   have c6b0 : decide ((ji4) < 16) = true := decide_eq_true c6
   clear c6
   obtain ⟨y332, hy332⟩ : ∃ y_ : List Int, y_ = (([bt (⟨#[48, 49, 50, 51, 52, 53, 54, 55, 56, 57, 97, 98, 99, 100, 101, 102]⟩ : ByteArray) (ji4)] : List Int)) := ⟨_, rfl⟩
   replace H : (switchbacklaw01_based.l0 k a0 a1 (⟨#[48, 49, 50, 51, 52, 53, 54, 55, 56, 57, 97, 98, 99, 100, 101, 102]⟩ : ByteArray) (strOfNums y332)) = some r := by first | (rw [hy332]; with_reducible exact H) | (have H2_ := (Option.bind_some _ _).symm.trans H; rw [hy332]; with_reducible exact H2_) | (have H2_ := (Option.bind_some _ _).symm.trans H; with_reducible exact H2_) | with_reducible exact H | (rw [hy332]; exact H) | exact H
   have Ny332 := uZ hy332
   clear hy332
   have H' := uZ H
   clear H
   have p7 : 0 ≤ ((ji4) : Int) := of_decide_eq_true (by first | (with_reducible assumption) | assumption)
   have q7 : (ji4) < (16 : Int) := of_decide_eq_true (by first | (with_reducible assumption) | assumption)
   have hx7 := bt_at (⟨#[48, 49, 50, 51, 52, 53, 54, 55, 56, 57, 97, 98, 99, 100, 101, 102]⟩ : ByteArray) (ji4)
   replace p7 := eq_true p7
   replace q7 := eq_true q7
   go_enter Tryd.func16, Tryd.ntmps16
   go_wp2_with (first | ((with_reducible refine gate_dst (N := 12) rfl ?_); refine Kd.R_lit (Kd.int .u8) _ 5 ?hg (N := 12) ?hd (xs := ([bt (⟨#[48, 49, 50, 51, 52, 53, 54, 55, 56, 57, 97, 98, 99, 100, 101, 102]⟩ : ByteArray) (ji4)] : List Int)) (inner := [.int .u8 (bt (⟨#[48, 49, 50, 51, 52, 53, 54, 55, 56, 57, 97, 98, 99, 100, 101, 102]⟩ : ByteArray) (ji4))]) (ok := fun _ => True) (okp := fun _ => True) ?hr ?hp (fun _ hk => hk) trivial (Below.refl _ _) (Nat.le_refl _) (by simp) ?_; (case hd => rfl); (case hg => rfl); (case hr => first | (go_simp; done) | (go_simp; rfl)); (case hp => exact (Reps.one (show Kd.M (Kd.int .u8) _ _ _ (bt (⟨#[48, 49, 50, 51, 52, 53, 54, 55, 56, 57, 97, 98, 99, 100, 101, 102]⟩ : ByteArray) (ji4)) [.int .u8 (bt (⟨#[48, 49, 50, 51, 52, 53, 54, 55, 56, 57, 97, 98, 99, 100, 101, 102]⟩ : ByteArray) (ji4))] from rfl) (Reps.none _ _))); intro v333 w8 ho9 hb hg_ hnew_; clear hg_ hnew_; (first | rw [← Ny332.out] at ho9 | (simp only [Int.reduceToNat] at ho9; rw [← Ny332.out] at ho9)); have n0_ := uZ (Kd.R_lower ho9 (below_size (uB HB.out))); have n1_ := uZ (below_step (uB HB.out) hb); clear HB; have HO334 := n0_; have HB := n1_; clear n0_ n1_; clear hb ho9; have hcv10 := own_string (P := Tryd.prog) Tryd.underlying32 Tryd.underlying5 Tryd.underlying9 (Kd.own_of_R HO334.out)))
   go_loopg [0, 6] k (fun kq v0 v6 w' => ∃ (x0_1 : Int) (x6_1 : ByteArray), v0 = .int .u32 x0_1 ∧ v6 = .string x6_1 ∧ Aside0 (switchbacklaw01_based.l0 kq x0_1 a1 (⟨#[48, 49, 50, 51, 52, 53, 54, 55, 56, 57, 97, 98, 99, 100, 101, 102]⟩ : ByteArray) x6_1 = some r) ∧ Aside0 (kq ≤ k) ∧ Aside0 (Below w.heap.size w w'))
   case atStart => exact ⟨(a0), (strOfNums y332), (by first | rfl | (simp; done) | (simp [*]; done)), (by first | rfl | (simp; done) | (simp [*]; done)), H', ⟨Nat.le_refl _⟩, ⟨uB HB.out⟩⟩
   case round =>
    clear H'
    try clear c1
    try clear hcv1
    try clear p2
    try clear c3
    try clear c3b0
    try clear c3b1
    try clear c5
    try clear c5b0
    try clear c6
    try clear c6b0
    try clear p7
    try clear q7
    try clear hx7
    try clear hcv10
    try clear p7
    try clear q7
    obtain ⟨x0_1, x6_1, rfl, rfl, HA, HK1, HB⟩ := hrel
    cases gk with
    | zero => exact absurd HA.out (by simp [switchbacklaw01_based.l0])
    | succ k1 =>
     have H := HA.out
     clear HA
     simp only [switchbacklaw01_based.l0] at H
     by_cases c11 : x0_1 ≥ a1
     ·rw [if_pos c11] at H
      have c11b0 : decide (a1 ≤ x0_1) = true := decide_eq_true c11
      clear c11
      by_cases c12 : a1 = 0
      ·rw [if_pos c12] at H
       exact absurd H (by simp)
      rw [if_neg c12] at H
      have c12b0 : (a1 == 0) = false := beq_eq_false_iff_ne.mpr c12
      have c12b1 : (a1 != 0) = true := bne_iff_ne.mpr c12
      obtain ⟨a2, hji13⟩ : ∃ j_ : Int, (((Int.tdiv x0_1 a1) % 4294967296) % a1) = j_ := ⟨_, rfl⟩
      replace H : (if 0 ≤ (a2) then (if (a2) < ((⟨#[48, 49, 50, 51, 52, 53, 54, 55, 56, 57, 97, 98, 99, 100, 101, 102]⟩ : ByteArray).size : Int) then ((some (([bt (⟨#[48, 49, 50, 51, 52, 53, 54, 55, 56, 57, 97, 98, 99, 100, 101, 102]⟩ : ByteArray) (a2)] : List Int) : List Int)).bind fun y335 => (if (strOfNums y335).size + x6_1.size ≤ 9223372036854775807 then (switchbacklaw01_based.l0 k1 ((Int.tdiv x0_1 a1) % 4294967296) a1 (⟨#[48, 49, 50, 51, 52, 53, 54, 55, 56, 57, 97, 98, 99, 100, 101, 102]⟩ : ByteArray) ((strOfNums y335) ++ x6_1)) else (none))) else (none)) else (none)) = some r := by first | (rw [hji13] at H; exact H) | (simp only [hji13] at H ⊢; exact H)
      by_cases c14 : 0 ≤ (a2)
      ·rw [if_pos c14] at H
       have c14b0 : decide (0 ≤ (a2)) = true := decide_eq_true c14
       clear c14
       by_cases c15 : (a2) < ((⟨#[48, 49, 50, 51, 52, 53, 54, 55, 56, 57, 97, 98, 99, 100, 101, 102]⟩ : ByteArray).size : Int)
       ·rw [if_pos c15] at H
        have c15b0 : decide ((a2) < ((⟨#[48, 49, 50, 51, 52, 53, 54, 55, 56, 57, 97, 98, 99, 100, 101, 102]⟩ : ByteArray).size : Int)) = true := decide_eq_true c15
        clear c15
        obtain ⟨y335, hy335⟩ : ∃ y_ : List Int, y_ = (([bt (⟨#[48, 49, 50, 51, 52, 53, 54, 55, 56, 57, 97, 98, 99, 100, 101, 102]⟩ : ByteArray) (a2)] : List Int)) := ⟨_, rfl⟩
        replace H : (if (strOfNums y335).size + x6_1.size ≤ 9223372036854775807 then (switchbacklaw01_based.l0 k1 ((Int.tdiv x0_1 a1) % 4294967296) a1 (⟨#[48, 49, 50, 51, 52, 53, 54, 55, 56, 57, 97, 98, 99, 100, 101, 102]⟩ : ByteArray) ((strOfNums y335) ++ x6_1)) else (none)) = some r := by first | (rw [hy335]; with_reducible exact H) | (have H2_ := (Option.bind_some _ _).symm.trans H; rw [hy335]; with_reducible exact H2_) | (have H2_ := (Option.bind_some _ _).symm.trans H; with_reducible exact H2_) | with_reducible exact H | (rw [hy335]; exact H) | exact H
        have Ny335 := uZ hy335
        clear hy335
        by_cases c17 : (strOfNums y335).size + x6_1.size ≤ 9223372036854775807
        ·rw [if_pos c17] at H
         have c17b0 := eq_true c17
         have c17b1 : decide ((strOfNums y335).size + x6_1.size ≤ 9223372036854775807) = true := decide_eq_true c17
         try have c17b2 : (9223372036854775807 < (strOfNums y335).size + x6_1.size) = False := eq_false (Nat.not_lt.2 c17)
         have H' := uZ H
         clear H
         have p16 : 0 ≤ ((a2) : Int) := of_decide_eq_true (by first | (with_reducible assumption) | assumption)
         have q16 : (a2) < (16 : Int) := of_decide_eq_true (by first | (with_reducible assumption) | assumption)
         have hx16 := bt_at (⟨#[48, 49, 50, 51, 52, 53, 54, 55, 56, 57, 97, 98, 99, 100, 101, 102]⟩ : ByteArray) (a2)
         replace p16 := eq_true p16
         replace q16 := eq_true q16
         go_wp2_with (first | ((with_reducible refine gate_dst (N := 25) rfl ?_); refine Kd.R_lit (Kd.int .u8) _ 5 ?hg (N := 25) ?hd (xs := ([bt (⟨#[48, 49, 50, 51, 52, 53, 54, 55, 56, 57, 97, 98, 99, 100, 101, 102]⟩ : ByteArray) (a2)] : List Int)) (inner := [.int .u8 (bt (⟨#[48, 49, 50, 51, 52, 53, 54, 55, 56, 57, 97, 98, 99, 100, 101, 102]⟩ : ByteArray) (a2))]) (ok := fun _ => True) (okp := fun _ => True) ?hr ?hp (fun _ hk => hk) trivial (Below.refl _ _) (Nat.le_refl _) (by simp) ?_; (case hd => rfl); (case hg => rfl); (case hr => first | (go_simp; done) | (go_simp; rfl)); (case hp => exact (Reps.one (show Kd.M (Kd.int .u8) _ _ _ (bt (⟨#[48, 49, 50, 51, 52, 53, 54, 55, 56, 57, 97, 98, 99, 100, 101, 102]⟩ : ByteArray) (a2)) [.int .u8 (bt (⟨#[48, 49, 50, 51, 52, 53, 54, 55, 56, 57, 97, 98, 99, 100, 101, 102]⟩ : ByteArray) (a2))] from rfl) (Reps.none _ _))); intro v336 w18 ho19 hb hg_ hnew_; clear hg_ hnew_; (first | rw [← Ny335.out] at ho19 | (simp only [Int.reduceToNat] at ho19; rw [← Ny335.out] at ho19)); have n0_ := uZ (Kd.R_lower ho19 (below_size (uB HB.out))); have n1_ := uZ (below_step (uB HB.out) hb); clear HB; have HO337 := n0_; have HB := n1_; clear n0_ n1_; clear hb ho19; have hcv20 := own_string (P := Tryd.prog) Tryd.underlying32 Tryd.underlying5 Tryd.underlying9 (Kd.own_of_R HO337.out)))
         go_roundg k1
         case measure => have := HK1.out; omega
         case rel => exact ⟨((Int.tdiv x0_1 a1) % 4294967296), ((strOfNums y335) ++ x6_1), (by first | rfl | (simp; done) | (simp [*]; done)), (by first | rfl | (simp; done) | (simp [*]; done)), H', ⟨by have := HK1.out; omega⟩, ⟨uB HB.out⟩⟩
        rw [if_neg c17] at H
        exact absurd H (by simp)
       rw [if_neg c15] at H
       exact absurd H (by simp)
      rw [if_neg c14] at H
      exact absurd H (by simp)
     rw [if_neg c11] at H
     have c11b0 : decide (a1 ≤ x0_1) = false := decide_eq_false c11
     clear c11
     obtain rfl := Option.some.inj H
     go_wp2
     go_ret
     exact ⟨by first | rfl | (simp [errW_none, errW_some] <;> rfl) | (simp only [← hji4]; first | rfl | (simp [errW_none, errW_some] <;> rfl)) | (simp [*, errW_none, errW_some] <;> rfl), by repeat (first | (with_reducible first | exact HB.out | apply below_alloc | apply pw_below_drewN | apply below_drew1) | exact HB.out)⟩
  rw [if_neg c6] at H
  exact absurd H (by simp)
 rw [if_neg c5] at H
 exact absurd H (by simp)

end Go.Proofs.YtjoboaaambdpoaaDoor.PR01
