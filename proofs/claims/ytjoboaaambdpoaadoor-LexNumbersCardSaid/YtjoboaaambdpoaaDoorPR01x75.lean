-- Written by gp.py for this claim.
import Derived.Test.YtjoboaaambdpoaaDoorPR01x0
import Derived.Test.YtjoboaaambdpoaaDoorPR01x65
import Derived.Test.YtjoboaaambdpoaaDoorPR01x73
import Derived.Test.YtjoboaaambdpoaaDoorPR01x74
namespace Go.Proofs.YtjoboaaambdpoaaDoor.PR01
open Go.RowKit Go.Proofs.YtjoboaaambdpoaaDoorW.PrintWords Go.Proofs.YtjoboaaambdpoaaDoorW.PrintLast Go.Proofs.YtjoboaaambdpoaaDoorW.PrintMore
attribute [local go_sem] max2_int min2_int max_two min_two max_three min_three max_four min_four   -- for this text's walks alone
set_option linter.unusedVariables false
set_option linter.unusedSimpArgs false

namespace q_switchbacklaw01_LexNumbers
theorem uZ {p : Prop} (h : p) : Aside0 p := ⟨h⟩
theorem uR {p q : Prop} (h : p) (g : p → q := by intro h; (with_reducible repeat (first | apply Kd.R_alloc | apply Kd.R_drewN | apply Kd.R_drew)); exact h) : q := g h
theorem uB {p q : Prop} (h : p) (g : p → q := by intro h; repeat (first | (with_reducible first | exact h | apply below_alloc | apply pw_below_drewN | apply below_drew1) | exact h)) : q := g h
theorem zA : type_of% @pw_below_drewN := @pw_below_drewN
theorem zB : type_of% @below_step := @below_step
theorem zC : type_of% @List.map_toArray := @List.map_toArray
theorem zD : type_of% @List.length_drop := @List.length_drop
theorem zE : type_of% @List.length_take := @List.length_take
end q_switchbacklaw01_LexNumbers
open q_switchbacklaw01_LexNumbers

/-! ### switchbacklaw01_LexNumbers: function 9 -/
mutual
def switchbacklaw01_LexNumbers.l0 : Nat → Int → List ByteArray → Int → Option (Bool)
  | 0, _, _, _ => none
  | k + 1, x0, x3, x4 => if x4 < (x3.length : Int) then (if 0 ≤ x4 then ((switchbacklaw01_one.f k (rdOf ByteArray.empty x3 x4)).bind fun bt353 => (if (rdOf ByteArray.empty x3 x4).size + 1 ≤ 9223372036854775807 then ((switchbacklaw01_one.f k ((rdOf ByteArray.empty x3 x4) ++ (⟨#[117]⟩ : ByteArray))).bind fun bt357 => (if bt353.2.2 = true then (if bt357.2.2 = true then (if bt353.1 = x0 then (if bt357.1 = x0 then (if (bt353.2.1 != (decide (x0 > 2147483647))) = true then (switchbacklaw01_LexNumbers.j1 k x0 x3 x4 true) else (switchbacklaw01_LexNumbers.j1 k x0 x3 x4 (!bt357.2.1))) else (switchbacklaw01_LexNumbers.j1 k x0 x3 x4 true)) else (switchbacklaw01_LexNumbers.j1 k x0 x3 x4 true)) else (switchbacklaw01_LexNumbers.j1 k x0 x3 x4 true)) else (switchbacklaw01_LexNumbers.j1 k x0 x3 x4 true))) else (none))) else (none)) else ((switchbacklaw01_live.f).bind fun t360 => (some t360))
def switchbacklaw01_LexNumbers.j1 : Nat → Int → List ByteArray → Int → Bool → Option (Bool)
  | 0, _, _, _, _ => none
  | k + 1, x0, x3, x4, x70 => if x70 = true then (some false) else (switchbacklaw01_LexNumbers.l0 k x0 x3 (wrap64 (x4 + 1)))
end
def switchbacklaw01_LexNumbers.f (k : Nat) (a0 : Int) : Option (Bool) := (switchbacklaw01_based.f k a0 10).bind fun t346 => ((switchbacklaw01_based.f k a0 16).bind fun t347 => (if 2 + t347.size ≤ 9223372036854775807 then ((switchbacklaw01_based.f k a0 8).bind fun t348 => (if 1 + t348.size ≤ 9223372036854775807 then (switchbacklaw01_LexNumbers.l0 k a0 (([t346, (⟨#[48, 120]⟩ : ByteArray) ++ t347, (⟨#[48]⟩ : ByteArray) ++ t348] : List ByteArray)) 0) else (none))) else (none)))
theorem switchbacklaw01_LexNumbers.mono_l : ∀ k, (∀ y0 y1 y2, LeO (switchbacklaw01_LexNumbers.l0 k y0 y1 y2) (switchbacklaw01_LexNumbers.l0 (k + 1) y0 y1 y2)) ∧ (∀ y0 y1 y2 y3, LeO (switchbacklaw01_LexNumbers.j1 k y0 y1 y2 y3) (switchbacklaw01_LexNumbers.j1 (k + 1) y0 y1 y2 y3))
  | 0 => ⟨fun _ _ _ r h => by simp [switchbacklaw01_LexNumbers.l0] at h, fun _ _ _ _ r h => by simp [switchbacklaw01_LexNumbers.j1] at h⟩
  | k + 1 => by
    obtain ⟨ih0, ih1⟩ := switchbacklaw01_LexNumbers.mono_l k
    refine ⟨?_, ?_⟩
    · intro y0 y1 y2
      unfold switchbacklaw01_LexNumbers.l0
      repeat' first
      | (with_reducible exact ih0 _ _ _)
      | (with_reducible exact ih1 _ _ _ _)
      | (with_reducible exact switchbacklaw01_based.mono _ _ _)
      | (with_reducible exact switchbacklaw01_one.mono _ _)
      | (with_reducible exact LeO.refl _)
      | (with_reducible exact LeO.none _)
      | (with_reducible refine LeO.ite ?_ ?_)
      | (with_reducible refine LeO.bind ?_ (fun _ => ?_))
      | exact ih0 _ _ _
      | exact ih1 _ _ _ _
      | exact switchbacklaw01_based.mono _ _ _
      | exact switchbacklaw01_one.mono _ _
      | exact LeO.none _
      | refine LeO.ite ?_ ?_
      | refine LeO.bind ?_ (fun _ => ?_)
    · intro y0 y1 y2 y3
      unfold switchbacklaw01_LexNumbers.j1
      repeat' first
      | (with_reducible exact ih0 _ _ _)
      | (with_reducible exact ih1 _ _ _ _)
      | (with_reducible exact switchbacklaw01_based.mono _ _ _)
      | (with_reducible exact switchbacklaw01_one.mono _ _)
      | (with_reducible exact LeO.refl _)
      | (with_reducible exact LeO.none _)
      | (with_reducible refine LeO.ite ?_ ?_)
      | (with_reducible refine LeO.bind ?_ (fun _ => ?_))
      | exact ih0 _ _ _
      | exact ih1 _ _ _ _
      | exact switchbacklaw01_based.mono _ _ _
      | exact switchbacklaw01_one.mono _ _
      | exact LeO.none _
      | refine LeO.ite ?_ ?_
      | refine LeO.bind ?_ (fun _ => ?_)
theorem switchbacklaw01_LexNumbers.mono : ∀ a0 k, LeO (switchbacklaw01_LexNumbers.f k a0) (switchbacklaw01_LexNumbers.f (k + 1) a0) := by
  intro a0 k
  obtain ⟨ih0, ih1⟩ := switchbacklaw01_LexNumbers.mono_l k
  unfold switchbacklaw01_LexNumbers.f
  repeat' first
      | (with_reducible exact ih0 _ _ _)
      | (with_reducible exact ih1 _ _ _ _)
      | (with_reducible exact switchbacklaw01_based.mono _ _ _)
      | (with_reducible exact switchbacklaw01_one.mono _ _)
      | (with_reducible exact LeO.refl _)
      | (with_reducible exact LeO.none _)
      | (with_reducible refine LeO.ite ?_ ?_)
      | (with_reducible refine LeO.bind ?_ (fun _ => ?_))
      | exact ih0 _ _ _
      | exact ih1 _ _ _ _
      | exact switchbacklaw01_based.mono _ _ _
      | exact switchbacklaw01_one.mono _ _
      | exact LeO.none _
      | refine LeO.ite ?_ ?_
      | refine LeO.bind ?_ (fun _ => ?_)
set_option maxHeartbeats 8000000 in
set_option maxRecDepth 100000 in
theorem switchbacklaw01_LexNumbers.calls (k : Nat) (a0 : Int) (r : Bool) (w : World) (hLaid_ : Aside0 (Laid w)) (h : switchbacklaw01_LexNumbers.f k a0 = some r) :
    Calls Tryd.prog 9 #[.int .u32 a0] w fun e w' => e = .returned (.bool r) ∧ Below w.heap.size w w' := by
 have HB := uZ (Below.refl w.heap.size w)
 have H : ((switchbacklaw01_based.f k a0 10).bind fun t346 => ((switchbacklaw01_based.f k a0 16).bind fun a5 => (if 2 + a5.size ≤ 9223372036854775807 then ((switchbacklaw01_based.f k a0 8).bind fun a4 => (if 1 + a4.size ≤ 9223372036854775807 then (switchbacklaw01_LexNumbers.l0 k a0 (([t346, (⟨#[48, 120]⟩ : ByteArray) ++ a5, (⟨#[48]⟩ : ByteArray) ++ a4] : List ByteArray)) 0) else (none))) else (none)))) = some r := h
 clear h
 replace H := Option.bind_eq_some_iff.mp H
 obtain ⟨t346, A20, H⟩ := H
 replace H : ((switchbacklaw01_based.f k a0 16).bind fun a5 => (if 2 + a5.size ≤ 9223372036854775807 then ((switchbacklaw01_based.f k a0 8).bind fun a4 => (if 1 + a4.size ≤ 9223372036854775807 then (switchbacklaw01_LexNumbers.l0 k a0 (([t346, (⟨#[48, 120]⟩ : ByteArray) ++ a5, (⟨#[48]⟩ : ByteArray) ++ a4] : List ByteArray)) 0) else (none))) else (none))) = some r := H
 have A2 := uZ A20
 clear A20
 replace H := Option.bind_eq_some_iff.mp H
 obtain ⟨a5, A30, H⟩ := H
 replace H : (if 2 + a5.size ≤ 9223372036854775807 then ((switchbacklaw01_based.f k a0 8).bind fun a4 => (if 1 + a4.size ≤ 9223372036854775807 then (switchbacklaw01_LexNumbers.l0 k a0 (([t346, (⟨#[48, 120]⟩ : ByteArray) ++ a5, (⟨#[48]⟩ : ByteArray) ++ a4] : List ByteArray)) 0) else (none))) else (none)) = some r := H
 have A3 := uZ A30
 clear A30
 by_cases c4 : 2 + a5.size ≤ 9223372036854775807
 ·rw [if_pos c4] at H
  have c4b0 := eq_true c4
  have c4b1 : decide (2 + a5.size ≤ 9223372036854775807) = true := decide_eq_true c4
  try have c4b2 : (9223372036854775807 < 2 + a5.size) = False := eq_false (Nat.not_lt.2 c4)
  replace H := Option.bind_eq_some_iff.mp H
  obtain ⟨a4, A50, H⟩ := H
  replace H : (if 1 + a4.size ≤ 9223372036854775807 then (switchbacklaw01_LexNumbers.l0 k a0 (([t346, (⟨#[48, 120]⟩ : ByteArray) ++ a5, (⟨#[48]⟩ : ByteArray) ++ a4] : List ByteArray)) 0) else (none)) = some r := H
  have A5 := uZ A50
  clear A50
  by_cases c6 : 1 + a4.size ≤ 9223372036854775807
  ·rw [if_pos c6] at H
   have c6b0 := eq_true c6
   have c6b1 : decide (1 + a4.size ≤ 9223372036854775807) = true := decide_eq_true c6
   try have c6b2 : (9223372036854775807 < 1 + a4.size) = False := eq_false (Nat.not_lt.2 c6)
   obtain ⟨a2, hy349⟩ : ∃ y_ : List ByteArray, y_ = (([t346, (⟨#[48, 120]⟩ : ByteArray) ++ a5, (⟨#[48]⟩ : ByteArray) ++ a4] : List ByteArray)) := ⟨_, rfl⟩
   replace H : (switchbacklaw01_LexNumbers.l0 k a0 a2 0) = some r := by first | (rw [hy349]; with_reducible exact H) | (have H2_ := (Option.bind_some _ _).symm.trans H; rw [hy349]; with_reducible exact H2_) | (have H2_ := (Option.bind_some _ _).symm.trans H; with_reducible exact H2_) | with_reducible exact H | (rw [hy349]; exact H) | exact H
   have Ny349 := uZ hy349
   clear hy349
   have H' := uZ H
   clear H
   go_enter Tryd.func9, Tryd.ntmps9
   go_wp2_with (first | ((with_reducible refine gate_callee (f := 16) rfl ?_); refine goesL_ (some 12) rfl rfl Tryd.func16 (by kernel_rfl) rfl #[.int .u32 a0, .int .u32 10] rfl (by (try simp only [zC, List.map_cons, List.map_nil]); first | done | rfl | (simp only [zD, zE]; rfl)) ?_; (with_reducible refine (switchbacklaw01_based.calls k a0 10 t346 _ A2.out).mono ?_); rintro e w7 ⟨rfl, hb⟩; refine ⟨_, rfl, ?_⟩; have n0_ := uZ (zB (uB HB.out) hb); clear HB; have HB := n0_; clear n0_; (try clear hb); (try clear hb2); (try clear hk); (try clear hi)) | ((with_reducible refine gate_callee (f := 16) rfl ?_); refine goesL_ (some 14) rfl rfl Tryd.func16 (by kernel_rfl) rfl #[.int .u32 a0, .int .u32 16] rfl (by (try simp only [zC, List.map_cons, List.map_nil]); first | done | rfl | (simp only [zD, zE]; rfl)) ?_; (with_reducible refine (switchbacklaw01_based.calls k a0 16 a5 _ A3.out).mono ?_); rintro e w8 ⟨rfl, hb⟩; refine ⟨_, rfl, ?_⟩; have n0_ := uZ (zB (uB HB.out) hb); clear HB; have HB := n0_; clear n0_; (try clear hb); (try clear hb2); (try clear hk); (try clear hi)) | ((with_reducible refine gate_callee (f := 16) rfl ?_); refine goesL_ (some 17) rfl rfl Tryd.func16 (by kernel_rfl) rfl #[.int .u32 a0, .int .u32 8] rfl (by (try simp only [zC, List.map_cons, List.map_nil]); first | done | rfl | (simp only [zD, zE]; rfl)) ?_; (with_reducible refine (switchbacklaw01_based.calls k a0 8 a4 _ A5.out).mono ?_); rintro e w9 ⟨rfl, hb⟩; refine ⟨_, rfl, ?_⟩; have n0_ := uZ (zB (uB HB.out) hb); clear HB; have HB := n0_; clear n0_; (try clear hb); (try clear hb2); (try clear hk); (try clear hi)) | ((with_reducible refine gate_dst (N := 19) rfl ?_); refine Kd.R_lit Kd.string _ 9 ?hg (N := 19) ?hd (xs := ([t346, (⟨#[48, 120]⟩ : ByteArray) ++ a5, (⟨#[48]⟩ : ByteArray) ++ a4] : List ByteArray)) (inner := [.string t346, .string ((⟨#[48, 120]⟩ : ByteArray) ++ a5), .string ((⟨#[48]⟩ : ByteArray) ++ a4)]) (ok := fun _ => True) (okp := fun _ => True) ?hr ?hp (fun _ hk => hk) trivial (Below.refl _ _) (Nat.le_refl _) (by simp) ?_; (case hd => rfl); (case hg => rfl); (case hr => first | (go_simp; done) | (go_simp; rfl)); (case hp => exact (Reps.one (show Kd.M Kd.string _ _ _ t346 [.string t346] from rfl) (Reps.one (show Kd.M Kd.string _ _ _ ((⟨#[48, 120]⟩ : ByteArray) ++ a5) [.string ((⟨#[48, 120]⟩ : ByteArray) ++ a5)] from rfl) (Reps.one (show Kd.M Kd.string _ _ _ ((⟨#[48]⟩ : ByteArray) ++ a4) [.string ((⟨#[48]⟩ : ByteArray) ++ a4)] from rfl) (Reps.none _ _))))); intro v350 w10 ho11 hb hg_ hnew_; clear hg_ hnew_; (first | rw [← Ny349.out] at ho11 | (simp only [Int.reduceToNat] at ho11; rw [← Ny349.out] at ho11)); have n0_ := uZ (Kd.R_lower ho11 (below_size (uB HB.out))); have n1_ := uZ (zB (uB HB.out) hb); clear HB; have HO351 := n0_; have HB := n1_; clear n0_ n1_; clear hb ho11))
   go_loopg [4] k (fun kq v4 w' => ∃ (a1 : Int), v4 = .int .i64 a1 ∧ Aside0 (switchbacklaw01_LexNumbers.l0 kq a0 a2 a1 = some r) ∧ Aside0 (kq ≤ k) ∧ Aside0 (Kd.R Kd.string 9 w' w.heap.size (fun _ => True) v350 a2) ∧ Aside0 (Below w.heap.size w w'))
   case atStart => exact ⟨(0), (by first | rfl | (simp; done) | (simp [*]; done)), H', ⟨Nat.le_refl _⟩, ⟨uR HO351.out⟩, ⟨uB HB.out⟩⟩
   case round =>
    clear H'
    try clear c1
    try clear p2
    try clear c4
    try clear c4b0
    try clear c4b1
    try clear c4b2
    try clear c6
    try clear c6b0
    try clear c6b1
    try clear c6b2
    try clear c9
    obtain ⟨a1, rfl, HA, HK1, a3, HB⟩ := hrel
    cases gk with
    | zero => exact absurd HA.out (by simp [switchbacklaw01_LexNumbers.l0])
    | succ k1 =>
     have H := HA.out
     clear HA
     simp only [switchbacklaw01_LexNumbers.l0] at H
     by_cases c12 : a1 < (a2.length : Int)
     ·rw [if_pos c12] at H
      have c12b0 : decide (a1 < (a2.length : Int)) = true := decide_eq_true c12
      clear c12
      by_cases c13 : 0 ≤ a1
      ·rw [if_pos c13] at H
       have c13b0 : decide (0 ≤ a1) = true := decide_eq_true c13
       clear c13
       replace H := Option.bind_eq_some_iff.mp H
       obtain ⟨⟨t353, t354, t355⟩, A140, H⟩ := H
       replace H : (if (rdOf ByteArray.empty a2 a1).size + 1 ≤ 9223372036854775807 then ((switchbacklaw01_one.f k1 ((rdOf ByteArray.empty a2 a1) ++ (⟨#[117]⟩ : ByteArray))).bind fun bt357 => (if t355 = true then (if bt357.2.2 = true then (if t353 = a0 then (if bt357.1 = a0 then (if (t354 != (decide (a0 > 2147483647))) = true then (switchbacklaw01_LexNumbers.j1 k1 a0 a2 a1 true) else (switchbacklaw01_LexNumbers.j1 k1 a0 a2 a1 (!bt357.2.1))) else (switchbacklaw01_LexNumbers.j1 k1 a0 a2 a1 true)) else (switchbacklaw01_LexNumbers.j1 k1 a0 a2 a1 true)) else (switchbacklaw01_LexNumbers.j1 k1 a0 a2 a1 true)) else (switchbacklaw01_LexNumbers.j1 k1 a0 a2 a1 true))) else (none)) = some r := H
       have A14 := uZ A140
       clear A140
       by_cases c15 : (rdOf ByteArray.empty a2 a1).size + 1 ≤ 9223372036854775807
       ·rw [if_pos c15] at H
        have c15b0 := eq_true c15
        have c15b1 : decide ((rdOf ByteArray.empty a2 a1).size + 1 ≤ 9223372036854775807) = true := decide_eq_true c15
        try have c15b2 : (9223372036854775807 < (rdOf ByteArray.empty a2 a1).size + 1) = False := eq_false (Nat.not_lt.2 c15)
        replace H := Option.bind_eq_some_iff.mp H
        obtain ⟨⟨t357, t358, t359⟩, A160, H⟩ := H
        replace H : (if t355 = true then (if t359 = true then (if t353 = a0 then (if t357 = a0 then (if (t354 != (decide (a0 > 2147483647))) = true then (switchbacklaw01_LexNumbers.j1 k1 a0 a2 a1 true) else (switchbacklaw01_LexNumbers.j1 k1 a0 a2 a1 (!t358))) else (switchbacklaw01_LexNumbers.j1 k1 a0 a2 a1 true)) else (switchbacklaw01_LexNumbers.j1 k1 a0 a2 a1 true)) else (switchbacklaw01_LexNumbers.j1 k1 a0 a2 a1 true)) else (switchbacklaw01_LexNumbers.j1 k1 a0 a2 a1 true)) = some r := H
        have A16 := uZ A160
        clear A160
        have HC17 := uZ H
        clear H
        obtain ⟨Ao18, co18, eo18⟩ := Kd.R_slice a3.out
        subst eo18
        have p352 : 0 ≤ (a1 : Int) := of_decide_eq_true (by first | (with_reducible assumption) | assumption)
        have q352 : a1 < (a2.length : Int) := of_decide_eq_true (by first | (with_reducible assumption) | assumption)
        obtain ⟨ad352, e352, hx352_0⟩ := Kd.at_string (Kd.R_reads' a3.out).2.2 a1 p352 q352
        cases e352
        replace p352 := eq_true p352
        replace q352 := eq_true q352
        go_upto_region 7 with (first | ((with_reducible refine gate_callee (f := 17) rfl ?_); refine goesL_ (some 31) rfl rfl Tryd.func17 (by kernel_rfl) rfl #[.string (rdOf ByteArray.empty a2 a1)] rfl (by (try simp only [zC, List.map_cons, List.map_nil]); first | done | rfl | (simp only [zD, zE]; rfl)) ?_; (with_reducible refine (switchbacklaw01_one.calls k1 (rdOf ByteArray.empty a2 a1) t353 t354 t355 _ (uZ (hLaid_.out.below (by repeat (first | (with_reducible first | exact HB.out | apply below_alloc | apply zA | apply below_drew1) | refine below_set ?_ (Aside0.out (by assumption)) | exact HB.out)))) A14.out).mono ?_); rintro e w19 ⟨rfl, hb⟩; refine ⟨_, rfl, ?_⟩; have n0_ := uZ (Kd.R_below (uR a3.out) hb); have n1_ := uZ (zB (uB HB.out) hb); clear a3; clear HB; have a3 := n0_; have HB := n1_; clear n0_ n1_; (try clear hb); (try clear hb2); (try clear hk); (try clear hi); have p356 : 0 ≤ (a1 : Int) := of_decide_eq_true (by first | (with_reducible assumption) | assumption); have q356 : a1 < (a2.length : Int) := of_decide_eq_true (by first | (with_reducible assumption) | assumption); obtain ⟨ad356, e356, hx356_0⟩ := Kd.at_string (Kd.R_reads' a3.out).2.2 a1 p356 q356; obtain rfl : ad352 = ad356 := (by injection e356); replace p356 := eq_true p356; replace q356 := eq_true q356) | ((with_reducible refine gate_callee (f := 17) rfl ?_); refine goesL_ (some 41) rfl rfl Tryd.func17 (by kernel_rfl) rfl #[.string ((rdOf ByteArray.empty a2 a1) ++ (⟨#[117]⟩ : ByteArray))] rfl (by (try simp only [zC, List.map_cons, List.map_nil]); first | done | rfl | (simp only [zD, zE]; rfl)) ?_; (with_reducible refine (switchbacklaw01_one.calls k1 ((rdOf ByteArray.empty a2 a1) ++ (⟨#[117]⟩ : ByteArray)) t357 t358 t359 _ (uZ (hLaid_.out.below (by repeat (first | (with_reducible first | exact HB.out | apply below_alloc | apply zA | apply below_drew1) | refine below_set ?_ (Aside0.out (by assumption)) | exact HB.out)))) A16.out).mono ?_); rintro e w20 ⟨rfl, hb⟩; refine ⟨_, rfl, ?_⟩; have n0_ := uZ (Kd.R_below (uR a3.out) hb); have n1_ := uZ (zB (uB HB.out) hb); clear a3; clear HB; have a3 := n0_; have HB := n1_; clear n0_ n1_; (try clear hb); (try clear hb2); (try clear hk); (try clear hi)))
        (try simp only [Act.put, List.setIfInBounds_toArray, List.set_cons_zero, List.set_cons_succ])
        go_cut [70] (fun v70 wc => ∃ (kq : Nat) (x70_16 : Bool), v70 = .bool x70_16 ∧ Aside0 (switchbacklaw01_LexNumbers.j1 kq a0 a2 a1 x70_16 = some r) ∧ Aside0 (kq ≤ k1) ∧ Aside0 (Kd.R Kd.string 9 wc w.heap.size (fun _ => True) (.slice (some ad352) a2.length co18) a2) ∧ Aside0 (Below w.heap.size w wc))
        case first =>
         have H := HC17.out
         clear HC17
         by_cases c21 : t355 = true
         ·subst c21
          have H1 : (if t359 = true then (if t353 = a0 then (if t357 = a0 then (if (t354 != (decide (a0 > 2147483647))) = true then (switchbacklaw01_LexNumbers.j1 k1 a0 a2 a1 true) else (switchbacklaw01_LexNumbers.j1 k1 a0 a2 a1 (!t358))) else (switchbacklaw01_LexNumbers.j1 k1 a0 a2 a1 true)) else (switchbacklaw01_LexNumbers.j1 k1 a0 a2 a1 true)) else (switchbacklaw01_LexNumbers.j1 k1 a0 a2 a1 true)) = some r := by rw [if_pos rfl] at H; exact H
          clear H
          have H := H1
          clear H1
          by_cases c22 : t359 = true
          ·subst c22
           have H1 : (if t353 = a0 then (if t357 = a0 then (if (t354 != (decide (a0 > 2147483647))) = true then (switchbacklaw01_LexNumbers.j1 k1 a0 a2 a1 true) else (switchbacklaw01_LexNumbers.j1 k1 a0 a2 a1 (!t358))) else (switchbacklaw01_LexNumbers.j1 k1 a0 a2 a1 true)) else (switchbacklaw01_LexNumbers.j1 k1 a0 a2 a1 true)) = some r := by rw [if_pos rfl] at H; exact H
           clear H
           have H := H1
           clear H1
           by_cases c23 : t353 = a0
           ·rw [if_pos c23] at H
            have c23b0 : (t353 == a0) = true := beq_iff_eq.mpr c23
            have c23b1 : (t353 != a0) = false := bne_eq_false_iff_eq.mpr c23
            clear c23
            (first | rw [c23b0] | (simp only [i64_w, i32_w]; rw [c23b0]) | skip)
            by_cases c24 : t357 = a0
            ·rw [if_pos c24] at H
             have c24b0 : (t357 == a0) = true := beq_iff_eq.mpr c24
             have c24b1 : (t357 != a0) = false := bne_eq_false_iff_eq.mpr c24
             clear c24
             by_cases c25 : (t354 != (decide (a0 > 2147483647))) = true
             ·rw [if_pos c25] at H
              have c25b0 : (t354 != (decide (a0 > 2147483647))) = true := c25
              (try (have c25b1 : decide (t354 = (decide (a0 > 2147483647))) = false := by simpa using c25))
              (try (have c25b2 : (t354 == (decide (a0 > 2147483647))) = false := by simpa using c25))
              (try (have c25b3 : ¬ (t354 = (decide (a0 > 2147483647))) := by simpa using c25))
              clear c25
              have H' := uZ H
              clear H
              go_wp2
              go_meet
              case rel => exact ⟨_, (true), (by first | rfl | (simp; done) | (simp [*]; done)), H', ⟨by have := HK1.out; first | omega | exact Nat.le_refl _⟩, ⟨uR a3.out⟩, ⟨uB HB.out⟩⟩
             rw [if_neg c25] at H
             have c25b0 : (t354 != (decide (a0 > 2147483647))) = false := by simpa using c25
             (try (have c25b1 : decide (t354 = (decide (a0 > 2147483647))) = true := by simpa using c25))
             (try (have c25b2 : (t354 == (decide (a0 > 2147483647))) = true := by simpa using c25))
             clear c25
             have H' := uZ H
             clear H
             go_wp2
             go_meet
             case rel => exact ⟨_, (!t358), (by first | rfl | (simp; done) | (simp [*]; done)), H', ⟨by have := HK1.out; first | omega | exact Nat.le_refl _⟩, ⟨uR a3.out⟩, ⟨uB HB.out⟩⟩
            rw [if_neg c24] at H
            have c24b0 : (t357 == a0) = false := beq_eq_false_iff_ne.mpr c24
            have c24b1 : (t357 != a0) = true := bne_iff_ne.mpr c24
            have H' := uZ H
            clear H
            go_wp2
            go_meet
            case rel => exact ⟨_, (true), (by first | rfl | (simp; done) | (simp [*]; done)), H', ⟨by have := HK1.out; first | omega | exact Nat.le_refl _⟩, ⟨uR a3.out⟩, ⟨uB HB.out⟩⟩
           rw [if_neg c23] at H
           have c23b0 : (t353 == a0) = false := beq_eq_false_iff_ne.mpr c23
           have c23b1 : (t353 != a0) = true := bne_iff_ne.mpr c23
           (first | rw [c23b0] | (simp only [i64_w, i32_w]; rw [c23b0]) | skip)
           have H' := uZ H
           clear H
           go_wp2
           go_meet
           case rel => exact ⟨_, (true), (by first | rfl | (simp; done) | (simp [*]; done)), H', ⟨by have := HK1.out; first | omega | exact Nat.le_refl _⟩, ⟨uR a3.out⟩, ⟨uB HB.out⟩⟩
          replace c22 := Bool.eq_false_iff.mpr c22
          subst c22
          have H1 : (switchbacklaw01_LexNumbers.j1 k1 a0 a2 a1 true) = some r := by rw [if_neg (show ¬ (false = true) by decide)] at H; exact H
          clear H
          have H := H1
          clear H1
          have H' := uZ H
          clear H
          go_wp2
          go_meet
          case rel => exact ⟨_, (true), (by first | rfl | (simp; done) | (simp [*]; done)), H', ⟨by have := HK1.out; first | omega | exact Nat.le_refl _⟩, ⟨uR a3.out⟩, ⟨uB HB.out⟩⟩
         replace c21 := Bool.eq_false_iff.mpr c21
         subst c21
         have H1 : (switchbacklaw01_LexNumbers.j1 k1 a0 a2 a1 true) = some r := by rw [if_neg (show ¬ (false = true) by decide)] at H; exact H
         clear H
         have H := H1
         clear H1
         have H' := uZ H
         clear H
         go_wp2
         go_meet
         case rel => exact ⟨_, (true), (by first | rfl | (simp; done) | (simp [*]; done)), H', ⟨by have := HK1.out; first | omega | exact Nat.le_refl _⟩, ⟨uR a3.out⟩, ⟨uB HB.out⟩⟩
        case rest =>
         clear HC17
         try clear c1
         try clear c2
         try clear p2
         try clear p3
         try clear q3
         try clear hx3
         try clear c4
         try clear c4b0
         try clear c4b1
         try clear c4b2
         try clear c6
         try clear c6b0
         try clear c6b1
         try clear c6b2
         try clear c9
         try clear c12
         try clear c12b0
         try clear c13
         try clear c13b0
         try clear c15
         try clear c15b0
         try clear c15b1
         try clear c15b2
         try clear c16
         try clear c17
         try clear c21
         try clear c22
         try clear c23
         try clear c23b0
         try clear c23b1
         try clear c24
         try clear c24b0
         try clear c24b1
         try clear c25
         try clear c25b0
         try clear c25b1
         try clear c25b2
         try clear hx352_0
         try clear hx356_0
         try clear p2
         try clear p352
         try clear p356
         try clear q352
         try clear q356
         obtain ⟨kq, x70_16, rfl, HA, HJ16, a3, HB⟩ := hcut
         cases kq with
         | zero => exact absurd HA.out (by simp [switchbacklaw01_LexNumbers.j1])
         | succ kj16 =>
          have H := HA.out
          clear HA
          simp only [switchbacklaw01_LexNumbers.j1] at H
          by_cases c26 : x70_16 = true
          ·subst c26
           have H1 : (some false) = some r := by rw [if_pos rfl] at H; exact H
           clear H
           have H := H1
           clear H1
           obtain rfl := Option.some.inj H
           go_wp2
           go_ret
           exact ⟨by first | rfl | (simp [errW_none, errW_some] <;> rfl) | (simp [*, errW_none, errW_some] <;> rfl), by repeat (first | (with_reducible first | exact HB.out | apply below_alloc | apply zA | apply below_drew1) | exact HB.out)⟩
          replace c26 := Bool.eq_false_iff.mpr c26
          subst c26
          have H1 : (switchbacklaw01_LexNumbers.l0 kj16 a0 a2 (wrap64 (a1 + 1))) = some r := by rw [if_neg (show ¬ (false = true) by decide)] at H; exact H
          clear H
          have H := H1
          clear H1
          have H' := uZ H
          clear H
          go_wp2
          go_roundg kj16
          case measure => have := HK1.out; have := HJ16.out; omega
          case rel => exact ⟨(wrap64 (a1 + 1)), (by first | rfl | (simp; done) | (simp [*]; done)), H', ⟨by have := HK1.out; have := HJ16.out; omega⟩, ⟨uR a3.out⟩, ⟨uB HB.out⟩⟩
       rw [if_neg c15] at H
       exact absurd H (by simp)
      rw [if_neg c13] at H
      exact absurd H (by simp)
     rw [if_neg c12] at H
     have c12b0 : decide (a1 < (a2.length : Int)) = false := decide_eq_false c12
     clear c12
     replace H := Option.bind_eq_some_iff.mp H
     obtain ⟨t360, A270, H⟩ := H
     replace H : (some t360) = some r := H
     have A27 := uZ A270
     clear A270
     obtain rfl := Option.some.inj H
     obtain ⟨Ao28, co28, eo28⟩ := Kd.R_slice a3.out
     subst eo28
     go_wp2_with (first | ((with_reducible refine gate_callee (f := 14) rfl ?_); refine goesL_ (some 71) rfl rfl Tryd.func14 (by kernel_rfl) rfl #[] rfl (by (try simp only [zC, List.map_cons, List.map_nil]); first | done | rfl | (simp only [zD, zE]; rfl)) ?_; (with_reducible refine (switchbacklaw01_live.calls  t360 _ (uZ (hLaid_.out.below (by repeat (first | (with_reducible first | exact HB.out | apply below_alloc | apply zA | apply below_drew1) | refine below_set ?_ (Aside0.out (by assumption)) | exact HB.out)))) A27.out).mono ?_); rintro e w29 ⟨rfl, hb⟩; refine ⟨_, rfl, ?_⟩; have n0_ := uZ (Kd.R_below (uR a3.out) hb); have n1_ := uZ (zB (uB HB.out) hb); clear a3; clear HB; have a3 := n0_; have HB := n1_; clear n0_ n1_; (try clear hb); (try clear hb2); (try clear hk); (try clear hi)))
     go_ret
     exact ⟨by first | rfl | (simp [errW_none, errW_some] <;> rfl) | (simp [*, errW_none, errW_some] <;> rfl), by repeat (first | (with_reducible first | exact HB.out | apply below_alloc | apply zA | apply below_drew1) | exact HB.out)⟩
  rw [if_neg c6] at H
  exact absurd H (by simp)
 rw [if_neg c4] at H
 exact absurd H (by simp)

end Go.Proofs.YtjoboaaambdpoaaDoor.PR01
