-- Written by gp.py for this claim.
import Derived.Test.YtamimnaafiphcaaDoorPR1CZ
import Derived.Test.YtamimnaafiphcaaDoorPR1Cx35
import Derived.Test.YtamimnaafiphcaaDoorPR1Cx36
namespace Go.Proofs.YtamimnaafiphcaaDoor.PR1C
open Go.RowKit Go.Proofs.YtamimnaafiphcaaDoorW.PrintWords Go.Proofs.YtamimnaafiphcaaDoorW.PrintLast Go.Proofs.YtamimnaafiphcaaDoorW.PrintMore
attribute [local go_sem] max2_int min2_int max_two min_two max_three min_three max_four min_four   -- for this text's walks alone
set_option linter.unusedVariables false
set_option linter.unusedSimpArgs false

/-! ### switchbacklaw17_RelaxLabels: function 6 -/
mutual
def switchbacklaw17_RelaxLabels.l0 : Nat → List (S40) → List Int → List Bool → Int → List Int → List Int → List Int → Int → Option (Bool)
  | 0, _, _, _, _, _, _, _, _ => none
  | k + 1, x0, x1, x8, x9, x243000, x243001, x243002, x243003 => if x9 < (x0.length : Int) then (if 0 ≤ x9 then (if ((rd_T40 x0 x9).f0) = 0 then (if 0 ≤ ((rd_T40 x0 x9).f5) then (if ((rd_T40 x0 x9).f5) < (x8.length : Int) then (switchbacklaw17_RelaxLabels.l0 k x0 x1 (x8.set (((rd_T40 x0 x9).f5) : Int).toNat true) (wrap64 (x9 + 1)) x243000 x243001 x243002 x243003) else (none)) else (none)) else (switchbacklaw17_RelaxLabels.l0 k x0 x1 x8 (wrap64 (x9 + 1)) x243000 x243001 x243002 x243003)) else (none)) else ((switchbacklaw17_Copy.f k x0).bind fun t250 => (switchbacklaw17_RelaxLabels.l1 k x1 x8 t250 100000 0 x243000 x243001 x243002 x243003))
def switchbacklaw17_RelaxLabels.j5 : Nat → List (S40) → List Int → List Int → List Int → Int → Option (Bool)
  | 0, _, _, _, _, _ => none
  | k + 1, x10, x243000, x243001, x243002, x243003 => (relax_Assemble.f x10).bind fun bt276 => (if bt276.2.2.2.2.1 = 0 then (if bt276.2.2.2.2.2 = 0 then (if (bt276.1.length : Int) = (x243000.length : Int) then (if (bt276.2.1.length : Int) = (x243001.length : Int) then (switchbacklaw17_RelaxLabels.j6 k x10 (bt276.2.2.2.1 != x243003) x243000 x243001 x243002 x243003 bt276.1 bt276.2.1 bt276.2.2.1 bt276.2.2.2.1) else (switchbacklaw17_RelaxLabels.j6 k x10 true x243000 x243001 x243002 x243003 bt276.1 bt276.2.1 bt276.2.2.1 bt276.2.2.2.1)) else (switchbacklaw17_RelaxLabels.j6 k x10 true x243000 x243001 x243002 x243003 bt276.1 bt276.2.1 bt276.2.2.1 bt276.2.2.2.1)) else (switchbacklaw17_RelaxLabels.j6 k x10 true x243000 x243001 x243002 x243003 bt276.1 bt276.2.1 bt276.2.2.1 bt276.2.2.2.1)) else (switchbacklaw17_RelaxLabels.j6 k x10 true x243000 x243001 x243002 x243003 bt276.1 bt276.2.1 bt276.2.2.1 bt276.2.2.2.1))
def switchbacklaw17_RelaxLabels.j6 : Nat → List (S40) → Bool → List Int → List Int → List Int → Int → List Int → List Int → List Int → Int → Option (Bool)
  | 0, _, _, _, _, _, _, _, _, _, _ => none
  | k + 1, x10, x139, x243000, x243001, x243002, x243003, x289000, x289001, x289002, x289003 => if x139 = true then (some false) else (switchbacklaw17_RelaxLabels.l3 k x10 0 x243000 x243001 x243002 x243003 x289000 x289001 x289002 x289003)
def switchbacklaw17_RelaxLabels.l3 : Nat → List (S40) → Int → List Int → List Int → List Int → Int → List Int → List Int → List Int → Int → Option (Bool)
  | 0, _, _, _, _, _, _, _, _, _, _ => none
  | k + 1, x10, x18, x243000, x243001, x243002, x243003, x289000, x289001, x289002, x289003 => if x18 < (x243000.length : Int) then (if 0 ≤ x18 then (if x18 < (x289000.length : Int) then (if (rd x243000 x18) = (rd x289000 x18) then (if x18 < (x243001.length : Int) then (if x18 < (x289001.length : Int) then (if (rd x243001 x18) = (rd x289001 x18) then (switchbacklaw17_RelaxLabels.l3 k x10 (wrap64 (x18 + 1)) x243000 x243001 x243002 x243003 x289000 x289001 x289002 x289003) else (some false)) else (none)) else (none)) else (some false)) else (none)) else (none)) else ((switchbacklaw17_live.f).bind fun t293 => (if t293 = true then (some ((x289002.length : Int) == (x10.length : Int))) else (some false)))
def switchbacklaw17_RelaxLabels.l1 : Nat → List Int → List Bool → List (S40) → Int → Int → List Int → List Int → List Int → Int → Option (Bool)
  | 0, _, _, _, _, _, _, _, _, _ => none
  | k + 1, x1, x8, x10, x11, x12, x243000, x243001, x243002, x243003 => if x12 < (x1.length : Int) then (if x12 < 20 then (switchbacklaw17_RelaxLabels.j2 k x1 x8 x10 x11 x12 (decide ((x10.length : Int) < 60000)) x243000 x243001 x243002 x243003) else (switchbacklaw17_RelaxLabels.j2 k x1 x8 x10 x11 x12 false x243000 x243001 x243002 x243003)) else (switchbacklaw17_RelaxLabels.j2 k x1 x8 x10 x11 x12 false x243000 x243001 x243002 x243003)
def switchbacklaw17_RelaxLabels.j2 : Nat → List Int → List Bool → List (S40) → Int → Int → Bool → List Int → List Int → List Int → Int → Option (Bool)
  | 0, _, _, _, _, _, _, _, _, _, _ => none
  | k + 1, x1, x8, x10, x11, x12, x62, x243000, x243001, x243002, x243003 => if x62 = true then (switchbacklaw17_RelaxLabels.l2 k x1 x8 x10 x11 x12 x243000 x243001 x243002 x243003) else (switchbacklaw17_RelaxLabels.j5 k x10 x243000 x243001 x243002 x243003)
def switchbacklaw17_RelaxLabels.j4 : Nat → List Int → List Bool → List (S40) → Int → Int → List Int → List Int → List Int → Int → Option (Bool)
  | 0, _, _, _, _, _, _, _, _, _ => none
  | k + 1, x1, x8, x10, x11, x12, x243000, x243001, x243002, x243003 => if x11 = 0 then (switchbacklaw17_RelaxLabels.j5 k x10 x243000 x243001 x243002 x243003) else (if 0 ≤ x11 then (if x11 < (x8.length : Int) then (if 0 ≤ x12 then (if x12 < (x1.length : Int) then ((switchbacklaw17_pick.f (rd x1 x12) (wrap64 ((x10.length : Int) + 1))).bind fun t256 => (if 0 ≤ t256 then (if t256 ≤ (x10.length : Int) then ((some (x10.take (t256 : Int).toNat : List (S40))).bind fun y257 => (if ([] : List (S40)).length + y257.length < 1954687338268 then ((some (([] : List (S40)) ++ y257 : List (S40))).bind fun y262 => (if y262.length < 1954687338268 then ((some (y262 ++ [(⟨0, 0, 0, 0, 0, x11, ([] : List Int)⟩ : S40)] : List (S40))).bind fun y265 => ((some (x10.drop (t256 : Int).toNat : List (S40))).bind fun y268 => (if y265.length + y268.length < 1954687338268 then (switchbacklaw17_RelaxLabels.l1 k x1 (x8.set (x11 : Int).toNat true) (y265 ++ y268) x11 (wrap64 (x12 + 1)) x243000 x243001 x243002 x243003) else (none)))) else (none))) else (none))) else (none)) else (none))) else (none)) else (none)) else (none)) else (none))
def switchbacklaw17_RelaxLabels.l2 : Nat → List Int → List Bool → List (S40) → Int → Int → List Int → List Int → List Int → Int → Option (Bool)
  | 0, _, _, _, _, _, _, _, _, _ => none
  | k + 1, x1, x8, x10, x11, x12, x243000, x243001, x243002, x243003 => if x11 > 0 then (if 0 ≤ x11 then (if x11 < (x8.length : Int) then (if rdOf false x8 x11 = true then (switchbacklaw17_RelaxLabels.l2 k x1 x8 x10 (wrap64 (x11 - 1)) x12 x243000 x243001 x243002 x243003) else (switchbacklaw17_RelaxLabels.j4 k x1 x8 x10 x11 x12 x243000 x243001 x243002 x243003)) else (none)) else (none)) else (switchbacklaw17_RelaxLabels.j4 k x1 x8 x10 x11 x12 x243000 x243001 x243002 x243003)
end
def switchbacklaw17_RelaxLabels.f (k : Nat) (l0 : List (S40)) (l1 : List Int) : Option (Bool) := (relax_Assemble.f l0).bind fun bt230 => (if bt230.2.2.2.2.2 = 0 then (if 100001 ≤ 281474976710656 then (switchbacklaw17_RelaxLabels.l0 k l0 l1 (List.replicate 100001 false) 0 bt230.1 bt230.2.1 bt230.2.2.1 bt230.2.2.2.1) else (none)) else ((switchbacklaw17_live.f).bind fun t243 => (some t243)))
theorem switchbacklaw17_RelaxLabels.mono_l : ∀ k, (∀ y0 y1 y2 y3 y4 y5 y6 y7, LeO (switchbacklaw17_RelaxLabels.l0 k y0 y1 y2 y3 y4 y5 y6 y7) (switchbacklaw17_RelaxLabels.l0 (k + 1) y0 y1 y2 y3 y4 y5 y6 y7)) ∧ (∀ y0 y1 y2 y3 y4, LeO (switchbacklaw17_RelaxLabels.j5 k y0 y1 y2 y3 y4) (switchbacklaw17_RelaxLabels.j5 (k + 1) y0 y1 y2 y3 y4)) ∧ (∀ y0 y1 y2 y3 y4 y5 y6 y7 y8 y9, LeO (switchbacklaw17_RelaxLabels.j6 k y0 y1 y2 y3 y4 y5 y6 y7 y8 y9) (switchbacklaw17_RelaxLabels.j6 (k + 1) y0 y1 y2 y3 y4 y5 y6 y7 y8 y9)) ∧ (∀ y0 y1 y2 y3 y4 y5 y6 y7 y8 y9, LeO (switchbacklaw17_RelaxLabels.l3 k y0 y1 y2 y3 y4 y5 y6 y7 y8 y9) (switchbacklaw17_RelaxLabels.l3 (k + 1) y0 y1 y2 y3 y4 y5 y6 y7 y8 y9)) ∧ (∀ y0 y1 y2 y3 y4 y5 y6 y7 y8, LeO (switchbacklaw17_RelaxLabels.l1 k y0 y1 y2 y3 y4 y5 y6 y7 y8) (switchbacklaw17_RelaxLabels.l1 (k + 1) y0 y1 y2 y3 y4 y5 y6 y7 y8)) ∧ (∀ y0 y1 y2 y3 y4 y5 y6 y7 y8 y9, LeO (switchbacklaw17_RelaxLabels.j2 k y0 y1 y2 y3 y4 y5 y6 y7 y8 y9) (switchbacklaw17_RelaxLabels.j2 (k + 1) y0 y1 y2 y3 y4 y5 y6 y7 y8 y9)) ∧ (∀ y0 y1 y2 y3 y4 y5 y6 y7 y8, LeO (switchbacklaw17_RelaxLabels.j4 k y0 y1 y2 y3 y4 y5 y6 y7 y8) (switchbacklaw17_RelaxLabels.j4 (k + 1) y0 y1 y2 y3 y4 y5 y6 y7 y8)) ∧ (∀ y0 y1 y2 y3 y4 y5 y6 y7 y8, LeO (switchbacklaw17_RelaxLabels.l2 k y0 y1 y2 y3 y4 y5 y6 y7 y8) (switchbacklaw17_RelaxLabels.l2 (k + 1) y0 y1 y2 y3 y4 y5 y6 y7 y8))
  | 0 => ⟨fun _ _ _ _ _ _ _ _ r h => by simp [switchbacklaw17_RelaxLabels.l0] at h, fun _ _ _ _ _ r h => by simp [switchbacklaw17_RelaxLabels.j5] at h, fun _ _ _ _ _ _ _ _ _ _ r h => by simp [switchbacklaw17_RelaxLabels.j6] at h, fun _ _ _ _ _ _ _ _ _ _ r h => by simp [switchbacklaw17_RelaxLabels.l3] at h, fun _ _ _ _ _ _ _ _ _ r h => by simp [switchbacklaw17_RelaxLabels.l1] at h, fun _ _ _ _ _ _ _ _ _ _ r h => by simp [switchbacklaw17_RelaxLabels.j2] at h, fun _ _ _ _ _ _ _ _ _ r h => by simp [switchbacklaw17_RelaxLabels.j4] at h, fun _ _ _ _ _ _ _ _ _ r h => by simp [switchbacklaw17_RelaxLabels.l2] at h⟩
  | k + 1 => by
    obtain ⟨ih0, ih1, ih2, ih3, ih4, ih5, ih6, ih7⟩ := switchbacklaw17_RelaxLabels.mono_l k
    refine ⟨?_, ?_, ?_, ?_, ?_, ?_, ?_, ?_⟩
    · intro y0 y1 y2 y3 y4 y5 y6 y7
      unfold switchbacklaw17_RelaxLabels.l0
      repeat' first
      | (with_reducible exact ih0 _ _ _ _ _ _ _ _)
      | (with_reducible exact ih1 _ _ _ _ _)
      | (with_reducible exact ih2 _ _ _ _ _ _ _ _ _ _)
      | (with_reducible exact ih3 _ _ _ _ _ _ _ _ _ _)
      | (with_reducible exact ih4 _ _ _ _ _ _ _ _ _)
      | (with_reducible exact ih5 _ _ _ _ _ _ _ _ _ _)
      | (with_reducible exact ih6 _ _ _ _ _ _ _ _ _)
      | (with_reducible exact ih7 _ _ _ _ _ _ _ _ _)
      | (with_reducible exact switchbacklaw17_Copy.mono _ _)
      | (with_reducible exact LeO.refl _)
      | (with_reducible exact LeO.none _)
      | (with_reducible refine LeO.ite ?_ ?_)
      | (with_reducible refine LeO.bind ?_ (fun _ => ?_))
      | exact ih0 _ _ _ _ _ _ _ _
      | exact ih1 _ _ _ _ _
      | exact ih2 _ _ _ _ _ _ _ _ _ _
      | exact ih3 _ _ _ _ _ _ _ _ _ _
      | exact ih4 _ _ _ _ _ _ _ _ _
      | exact ih5 _ _ _ _ _ _ _ _ _ _
      | exact ih6 _ _ _ _ _ _ _ _ _
      | exact ih7 _ _ _ _ _ _ _ _ _
      | exact switchbacklaw17_Copy.mono _ _
      | exact LeO.none _
      | refine LeO.ite ?_ ?_
      | refine LeO.bind ?_ (fun _ => ?_)
    · intro y0 y1 y2 y3 y4
      unfold switchbacklaw17_RelaxLabels.j5
      repeat' first
      | (with_reducible exact ih0 _ _ _ _ _ _ _ _)
      | (with_reducible exact ih1 _ _ _ _ _)
      | (with_reducible exact ih2 _ _ _ _ _ _ _ _ _ _)
      | (with_reducible exact ih3 _ _ _ _ _ _ _ _ _ _)
      | (with_reducible exact ih4 _ _ _ _ _ _ _ _ _)
      | (with_reducible exact ih5 _ _ _ _ _ _ _ _ _ _)
      | (with_reducible exact ih6 _ _ _ _ _ _ _ _ _)
      | (with_reducible exact ih7 _ _ _ _ _ _ _ _ _)
      | (with_reducible exact switchbacklaw17_Copy.mono _ _)
      | (with_reducible exact LeO.refl _)
      | (with_reducible exact LeO.none _)
      | (with_reducible refine LeO.ite ?_ ?_)
      | (with_reducible refine LeO.bind ?_ (fun _ => ?_))
      | exact ih0 _ _ _ _ _ _ _ _
      | exact ih1 _ _ _ _ _
      | exact ih2 _ _ _ _ _ _ _ _ _ _
      | exact ih3 _ _ _ _ _ _ _ _ _ _
      | exact ih4 _ _ _ _ _ _ _ _ _
      | exact ih5 _ _ _ _ _ _ _ _ _ _
      | exact ih6 _ _ _ _ _ _ _ _ _
      | exact ih7 _ _ _ _ _ _ _ _ _
      | exact switchbacklaw17_Copy.mono _ _
      | exact LeO.none _
      | refine LeO.ite ?_ ?_
      | refine LeO.bind ?_ (fun _ => ?_)
    · intro y0 y1 y2 y3 y4 y5 y6 y7 y8 y9
      unfold switchbacklaw17_RelaxLabels.j6
      repeat' first
      | (with_reducible exact ih0 _ _ _ _ _ _ _ _)
      | (with_reducible exact ih1 _ _ _ _ _)
      | (with_reducible exact ih2 _ _ _ _ _ _ _ _ _ _)
      | (with_reducible exact ih3 _ _ _ _ _ _ _ _ _ _)
      | (with_reducible exact ih4 _ _ _ _ _ _ _ _ _)
      | (with_reducible exact ih5 _ _ _ _ _ _ _ _ _ _)
      | (with_reducible exact ih6 _ _ _ _ _ _ _ _ _)
      | (with_reducible exact ih7 _ _ _ _ _ _ _ _ _)
      | (with_reducible exact switchbacklaw17_Copy.mono _ _)
      | (with_reducible exact LeO.refl _)
      | (with_reducible exact LeO.none _)
      | (with_reducible refine LeO.ite ?_ ?_)
      | (with_reducible refine LeO.bind ?_ (fun _ => ?_))
      | exact ih0 _ _ _ _ _ _ _ _
      | exact ih1 _ _ _ _ _
      | exact ih2 _ _ _ _ _ _ _ _ _ _
      | exact ih3 _ _ _ _ _ _ _ _ _ _
      | exact ih4 _ _ _ _ _ _ _ _ _
      | exact ih5 _ _ _ _ _ _ _ _ _ _
      | exact ih6 _ _ _ _ _ _ _ _ _
      | exact ih7 _ _ _ _ _ _ _ _ _
      | exact switchbacklaw17_Copy.mono _ _
      | exact LeO.none _
      | refine LeO.ite ?_ ?_
      | refine LeO.bind ?_ (fun _ => ?_)
    · intro y0 y1 y2 y3 y4 y5 y6 y7 y8 y9
      unfold switchbacklaw17_RelaxLabels.l3
      repeat' first
      | (with_reducible exact ih0 _ _ _ _ _ _ _ _)
      | (with_reducible exact ih1 _ _ _ _ _)
      | (with_reducible exact ih2 _ _ _ _ _ _ _ _ _ _)
      | (with_reducible exact ih3 _ _ _ _ _ _ _ _ _ _)
      | (with_reducible exact ih4 _ _ _ _ _ _ _ _ _)
      | (with_reducible exact ih5 _ _ _ _ _ _ _ _ _ _)
      | (with_reducible exact ih6 _ _ _ _ _ _ _ _ _)
      | (with_reducible exact ih7 _ _ _ _ _ _ _ _ _)
      | (with_reducible exact switchbacklaw17_Copy.mono _ _)
      | (with_reducible exact LeO.refl _)
      | (with_reducible exact LeO.none _)
      | (with_reducible refine LeO.ite ?_ ?_)
      | (with_reducible refine LeO.bind ?_ (fun _ => ?_))
      | exact ih0 _ _ _ _ _ _ _ _
      | exact ih1 _ _ _ _ _
      | exact ih2 _ _ _ _ _ _ _ _ _ _
      | exact ih3 _ _ _ _ _ _ _ _ _ _
      | exact ih4 _ _ _ _ _ _ _ _ _
      | exact ih5 _ _ _ _ _ _ _ _ _ _
      | exact ih6 _ _ _ _ _ _ _ _ _
      | exact ih7 _ _ _ _ _ _ _ _ _
      | exact switchbacklaw17_Copy.mono _ _
      | exact LeO.none _
      | refine LeO.ite ?_ ?_
      | refine LeO.bind ?_ (fun _ => ?_)
    · intro y0 y1 y2 y3 y4 y5 y6 y7 y8
      unfold switchbacklaw17_RelaxLabels.l1
      repeat' first
      | (with_reducible exact ih0 _ _ _ _ _ _ _ _)
      | (with_reducible exact ih1 _ _ _ _ _)
      | (with_reducible exact ih2 _ _ _ _ _ _ _ _ _ _)
      | (with_reducible exact ih3 _ _ _ _ _ _ _ _ _ _)
      | (with_reducible exact ih4 _ _ _ _ _ _ _ _ _)
      | (with_reducible exact ih5 _ _ _ _ _ _ _ _ _ _)
      | (with_reducible exact ih6 _ _ _ _ _ _ _ _ _)
      | (with_reducible exact ih7 _ _ _ _ _ _ _ _ _)
      | (with_reducible exact switchbacklaw17_Copy.mono _ _)
      | (with_reducible exact LeO.refl _)
      | (with_reducible exact LeO.none _)
      | (with_reducible refine LeO.ite ?_ ?_)
      | (with_reducible refine LeO.bind ?_ (fun _ => ?_))
      | exact ih0 _ _ _ _ _ _ _ _
      | exact ih1 _ _ _ _ _
      | exact ih2 _ _ _ _ _ _ _ _ _ _
      | exact ih3 _ _ _ _ _ _ _ _ _ _
      | exact ih4 _ _ _ _ _ _ _ _ _
      | exact ih5 _ _ _ _ _ _ _ _ _ _
      | exact ih6 _ _ _ _ _ _ _ _ _
      | exact ih7 _ _ _ _ _ _ _ _ _
      | exact switchbacklaw17_Copy.mono _ _
      | exact LeO.none _
      | refine LeO.ite ?_ ?_
      | refine LeO.bind ?_ (fun _ => ?_)
    · intro y0 y1 y2 y3 y4 y5 y6 y7 y8 y9
      unfold switchbacklaw17_RelaxLabels.j2
      repeat' first
      | (with_reducible exact ih0 _ _ _ _ _ _ _ _)
      | (with_reducible exact ih1 _ _ _ _ _)
      | (with_reducible exact ih2 _ _ _ _ _ _ _ _ _ _)
      | (with_reducible exact ih3 _ _ _ _ _ _ _ _ _ _)
      | (with_reducible exact ih4 _ _ _ _ _ _ _ _ _)
      | (with_reducible exact ih5 _ _ _ _ _ _ _ _ _ _)
      | (with_reducible exact ih6 _ _ _ _ _ _ _ _ _)
      | (with_reducible exact ih7 _ _ _ _ _ _ _ _ _)
      | (with_reducible exact switchbacklaw17_Copy.mono _ _)
      | (with_reducible exact LeO.refl _)
      | (with_reducible exact LeO.none _)
      | (with_reducible refine LeO.ite ?_ ?_)
      | (with_reducible refine LeO.bind ?_ (fun _ => ?_))
      | exact ih0 _ _ _ _ _ _ _ _
      | exact ih1 _ _ _ _ _
      | exact ih2 _ _ _ _ _ _ _ _ _ _
      | exact ih3 _ _ _ _ _ _ _ _ _ _
      | exact ih4 _ _ _ _ _ _ _ _ _
      | exact ih5 _ _ _ _ _ _ _ _ _ _
      | exact ih6 _ _ _ _ _ _ _ _ _
      | exact ih7 _ _ _ _ _ _ _ _ _
      | exact switchbacklaw17_Copy.mono _ _
      | exact LeO.none _
      | refine LeO.ite ?_ ?_
      | refine LeO.bind ?_ (fun _ => ?_)
    · intro y0 y1 y2 y3 y4 y5 y6 y7 y8
      unfold switchbacklaw17_RelaxLabels.j4
      repeat' first
      | (with_reducible exact ih0 _ _ _ _ _ _ _ _)
      | (with_reducible exact ih1 _ _ _ _ _)
      | (with_reducible exact ih2 _ _ _ _ _ _ _ _ _ _)
      | (with_reducible exact ih3 _ _ _ _ _ _ _ _ _ _)
      | (with_reducible exact ih4 _ _ _ _ _ _ _ _ _)
      | (with_reducible exact ih5 _ _ _ _ _ _ _ _ _ _)
      | (with_reducible exact ih6 _ _ _ _ _ _ _ _ _)
      | (with_reducible exact ih7 _ _ _ _ _ _ _ _ _)
      | (with_reducible exact switchbacklaw17_Copy.mono _ _)
      | (with_reducible exact LeO.refl _)
      | (with_reducible exact LeO.none _)
      | (with_reducible refine LeO.ite ?_ ?_)
      | (with_reducible refine LeO.bind ?_ (fun _ => ?_))
      | exact ih0 _ _ _ _ _ _ _ _
      | exact ih1 _ _ _ _ _
      | exact ih2 _ _ _ _ _ _ _ _ _ _
      | exact ih3 _ _ _ _ _ _ _ _ _ _
      | exact ih4 _ _ _ _ _ _ _ _ _
      | exact ih5 _ _ _ _ _ _ _ _ _ _
      | exact ih6 _ _ _ _ _ _ _ _ _
      | exact ih7 _ _ _ _ _ _ _ _ _
      | exact switchbacklaw17_Copy.mono _ _
      | exact LeO.none _
      | refine LeO.ite ?_ ?_
      | refine LeO.bind ?_ (fun _ => ?_)
    · intro y0 y1 y2 y3 y4 y5 y6 y7 y8
      unfold switchbacklaw17_RelaxLabels.l2
      repeat' first
      | (with_reducible exact ih0 _ _ _ _ _ _ _ _)
      | (with_reducible exact ih1 _ _ _ _ _)
      | (with_reducible exact ih2 _ _ _ _ _ _ _ _ _ _)
      | (with_reducible exact ih3 _ _ _ _ _ _ _ _ _ _)
      | (with_reducible exact ih4 _ _ _ _ _ _ _ _ _)
      | (with_reducible exact ih5 _ _ _ _ _ _ _ _ _ _)
      | (with_reducible exact ih6 _ _ _ _ _ _ _ _ _)
      | (with_reducible exact ih7 _ _ _ _ _ _ _ _ _)
      | (with_reducible exact switchbacklaw17_Copy.mono _ _)
      | (with_reducible exact LeO.refl _)
      | (with_reducible exact LeO.none _)
      | (with_reducible refine LeO.ite ?_ ?_)
      | (with_reducible refine LeO.bind ?_ (fun _ => ?_))
      | exact ih0 _ _ _ _ _ _ _ _
      | exact ih1 _ _ _ _ _
      | exact ih2 _ _ _ _ _ _ _ _ _ _
      | exact ih3 _ _ _ _ _ _ _ _ _ _
      | exact ih4 _ _ _ _ _ _ _ _ _
      | exact ih5 _ _ _ _ _ _ _ _ _ _
      | exact ih6 _ _ _ _ _ _ _ _ _
      | exact ih7 _ _ _ _ _ _ _ _ _
      | exact switchbacklaw17_Copy.mono _ _
      | exact LeO.none _
      | refine LeO.ite ?_ ?_
      | refine LeO.bind ?_ (fun _ => ?_)
theorem switchbacklaw17_RelaxLabels.mono : ∀ a0 a1 k, LeO (switchbacklaw17_RelaxLabels.f k a0 a1) (switchbacklaw17_RelaxLabels.f (k + 1) a0 a1) := by
  intro a0 a1 k
  obtain ⟨ih0, ih1, ih2, ih3, ih4, ih5, ih6, ih7⟩ := switchbacklaw17_RelaxLabels.mono_l k
  unfold switchbacklaw17_RelaxLabels.f
  repeat' first
      | (with_reducible exact ih0 _ _ _ _ _ _ _ _)
      | (with_reducible exact ih1 _ _ _ _ _)
      | (with_reducible exact ih2 _ _ _ _ _ _ _ _ _ _)
      | (with_reducible exact ih3 _ _ _ _ _ _ _ _ _ _)
      | (with_reducible exact ih4 _ _ _ _ _ _ _ _ _)
      | (with_reducible exact ih5 _ _ _ _ _ _ _ _ _ _)
      | (with_reducible exact ih6 _ _ _ _ _ _ _ _ _)
      | (with_reducible exact ih7 _ _ _ _ _ _ _ _ _)
      | (with_reducible exact switchbacklaw17_Copy.mono _ _)
      | (with_reducible exact LeO.refl _)
      | (with_reducible exact LeO.none _)
      | (with_reducible refine LeO.ite ?_ ?_)
      | (with_reducible refine LeO.bind ?_ (fun _ => ?_))
      | exact ih0 _ _ _ _ _ _ _ _
      | exact ih1 _ _ _ _ _
      | exact ih2 _ _ _ _ _ _ _ _ _ _
      | exact ih3 _ _ _ _ _ _ _ _ _ _
      | exact ih4 _ _ _ _ _ _ _ _ _
      | exact ih5 _ _ _ _ _ _ _ _ _ _
      | exact ih6 _ _ _ _ _ _ _ _ _
      | exact ih7 _ _ _ _ _ _ _ _ _
      | exact switchbacklaw17_Copy.mono _ _
      | exact LeO.none _
      | refine LeO.ite ?_ ?_
      | refine LeO.bind ?_ (fun _ => ?_)

end Go.Proofs.YtamimnaafiphcaaDoor.PR1C
