-- Written by gp.py for this claim.
import Derived.Test.YtamimnaafiphcaaDoorPR1DZ
import Derived.Test.YtamimnaafiphcaaDoorPR1Dx33
import Derived.Test.YtamimnaafiphcaaDoorPR1Dd38
namespace Go.Proofs.YtamimnaafiphcaaDoor.PR1D
open Go.RowKit Go.Proofs.YtamimnaafiphcaaDoorW.PrintWords Go.Proofs.YtamimnaafiphcaaDoorW.PrintLast Go.Proofs.YtamimnaafiphcaaDoorW.PrintMore
attribute [local go_sem] max2_int min2_int max_two min_two max_three min_three max_four min_four   -- for this text's walks alone
set_option linter.unusedVariables false
set_option linter.unusedSimpArgs false

/-! ### switchbackref17_Assemble: function 20 -/
mutual
def switchbackref17_Assemble.l0 : Nat → List (S40) → List Bool → List Int → List Int → Int → Option (List Int × List Int × List Int × Int × Int × Int)
  | 0, _, _, _, _, _ => none
  | k + 1, x0, x7, x265000, x265001, x265003 => (switchbackref17_Places.f k x0 x7).bind fun bt265 => (switchbackref17_Assemble.l1 k x0 x7 bt265.1 bt265.2.1 bt265.2.2 false 0 x265000 x265001 (wrap64 (x265003 + 1)))
def switchbackref17_Assemble.l1 : Nat → List (S40) → List Bool → List Int → Int → List Int → Bool → Int → List Int → List Int → Int → Option (List Int × List Int × List Int × Int × Int × Int)
  | 0, _, _, _, _, _, _, _, _, _, _ => none
  | k + 1, x0, x7, x9, x10, x11, x12, x13, x265000, x265001, x265003 => if x13 < (x0.length : Int) then (if 0 ≤ x13 then ((switchbackref17_Branch.f ((rd_T40 x0 x13).f0) ((rd_T40 x0 x13).f1) ((rd_T40 x0 x13).f2) ((rd_T40 x0 x13).f3) ((rd_T40 x0 x13).f4) ((rd_T40 x0 x13).f5) ((rd_T40 x0 x13).f6)).bind fun t273 => (if t273 = true then (if x13 < (x7.length : Int) then (if rdOf false x7 x13 = true then (switchbackref17_Assemble.j2 k x0 x7 x9 x10 x11 x12 x13 false x265000 x265001 x265003) else (if 0 ≤ ((rd_T40 x0 x13).f5) then (if ((rd_T40 x0 x13).f5) < (x11.length : Int) then (if x13 < (x9.length : Int) then ((switchbackref17_Near.f (wrap64 ((wrap64 ((rd x11 ((rd_T40 x0 x13).f5)) - (rd x9 x13))) - 1))).bind fun t278 => (switchbackref17_Assemble.j2 k x0 x7 x9 x10 x11 x12 x13 (!t278) x265000 x265001 x265003)) else (none)) else (none)) else (none))) else (none)) else (switchbackref17_Assemble.j2 k x0 x7 x9 x10 x11 x12 x13 false x265000 x265001 x265003))) else (none)) else (if x12 = true then (switchbackref17_Assemble.l0 k x0 x7 x265000 x265001 x265003) else (if x10 > 65536 then (some (([] : List Int), ([] : List Int), ([] : List Int), 0, 0, 174)) else (switchbackref17_Assemble.l2 k x0 x7 x9 x11 0 x265000 x265001 x9 x265003)))
def switchbackref17_Assemble.j2 : Nat → List (S40) → List Bool → List Int → Int → List Int → Bool → Int → Bool → List Int → List Int → Int → Option (List Int × List Int × List Int × Int × Int × Int)
  | 0, _, _, _, _, _, _, _, _, _, _, _ => none
  | k + 1, x0, x7, x9, x10, x11, x12, x13, x78, x265000, x265001, x265003 => if x78 = true then (if 0 ≤ x13 then (if x13 < (x7.length : Int) then (switchbackref17_Assemble.l1 k x0 (x7.set (x13 : Int).toNat true) x9 x10 x11 true (wrap64 (x13 + 1)) x265000 x265001 x265003) else (none)) else (none)) else (switchbackref17_Assemble.l1 k x0 x7 x9 x10 x11 x12 (wrap64 (x13 + 1)) x265000 x265001 x265003)
def switchbackref17_Assemble.l2 : Nat → List (S40) → List Bool → List Int → List Int → Int → List Int → List Int → List Int → Int → Option (List Int × List Int × List Int × Int × Int × Int)
  | 0, _, _, _, _, _, _, _, _, _ => none
  | k + 1, x0, x7, x9, x11, x15, x265000, x265001, x265002, x265003 => if x15 < (x0.length : Int) then (if 0 ≤ x15 then (if x15 < (x7.length : Int) then (if x15 < (x9.length : Int) then ((switchbackref17_made.f k ((rd_T40 x0 x15).f0) ((rd_T40 x0 x15).f1) ((rd_T40 x0 x15).f2) ((rd_T40 x0 x15).f3) ((rd_T40 x0 x15).f4) ((rd_T40 x0 x15).f5) ((rd_T40 x0 x15).f6) (rdOf false x7 x15) (rd x9 x15) x11).bind fun bt283 => (if x265000.length + bt283.1.length < 35184372088832 then (if x265001.length + bt283.2.length < 17592186044416 then (switchbackref17_Assemble.l2 k x0 x7 x9 x11 (wrap64 (x15 + 1)) (x265000 ++ bt283.1) (x265001 ++ bt283.2) x265002 x265003) else (none)) else (none))) else (none)) else (none)) else (none)) else (some (x265000, x265001, x265002, x265003, 0, 0))
end
def switchbackref17_Assemble.f (k : Nat) (l0 : List (S40)) : Option (List Int × List Int × List Int × Int × Int × Int) := (switchbackref17_refused.f k l0).bind fun bt259 => (if bt259.2 = 0 then (if 0 ≤ (l0.length : Int) then (if ((l0.length : Int) : Int).toNat ≤ 281474976710656 then (switchbackref17_Assemble.l0 k l0 (List.replicate ((l0.length : Int) : Int).toNat false) ([] : List Int) ([] : List Int) 0) else (none)) else (none)) else (some (([] : List Int), ([] : List Int), ([] : List Int), 0, bt259.1, bt259.2)))
theorem switchbackref17_Assemble.mono_l : ∀ k, (∀ y0 y1 y2 y3 y4, LeO (switchbackref17_Assemble.l0 k y0 y1 y2 y3 y4) (switchbackref17_Assemble.l0 (k + 1) y0 y1 y2 y3 y4)) ∧ (∀ y0 y1 y2 y3 y4 y5 y6 y7 y8 y9, LeO (switchbackref17_Assemble.l1 k y0 y1 y2 y3 y4 y5 y6 y7 y8 y9) (switchbackref17_Assemble.l1 (k + 1) y0 y1 y2 y3 y4 y5 y6 y7 y8 y9)) ∧ (∀ y0 y1 y2 y3 y4 y5 y6 y7 y8 y9 y10, LeO (switchbackref17_Assemble.j2 k y0 y1 y2 y3 y4 y5 y6 y7 y8 y9 y10) (switchbackref17_Assemble.j2 (k + 1) y0 y1 y2 y3 y4 y5 y6 y7 y8 y9 y10)) ∧ (∀ y0 y1 y2 y3 y4 y5 y6 y7 y8, LeO (switchbackref17_Assemble.l2 k y0 y1 y2 y3 y4 y5 y6 y7 y8) (switchbackref17_Assemble.l2 (k + 1) y0 y1 y2 y3 y4 y5 y6 y7 y8))
  | 0 => ⟨fun _ _ _ _ _ r h => by simp [switchbackref17_Assemble.l0] at h, fun _ _ _ _ _ _ _ _ _ _ r h => by simp [switchbackref17_Assemble.l1] at h, fun _ _ _ _ _ _ _ _ _ _ _ r h => by simp [switchbackref17_Assemble.j2] at h, fun _ _ _ _ _ _ _ _ _ r h => by simp [switchbackref17_Assemble.l2] at h⟩
  | k + 1 => by
    obtain ⟨ih0, ih1, ih2, ih3⟩ := switchbackref17_Assemble.mono_l k
    refine ⟨?_, ?_, ?_, ?_⟩
    · intro y0 y1 y2 y3 y4
      unfold switchbackref17_Assemble.l0
      repeat' first
      | (with_reducible exact ih0 _ _ _ _ _)
      | (with_reducible exact ih1 _ _ _ _ _ _ _ _ _ _)
      | (with_reducible exact ih2 _ _ _ _ _ _ _ _ _ _ _)
      | (with_reducible exact ih3 _ _ _ _ _ _ _ _ _)
      | (with_reducible exact switchbackref17_Places.mono _ _ _)
      | (with_reducible exact switchbackref17_made.mono _ _ _ _ _ _ _ _ _ _ _)
      | (with_reducible exact switchbackref17_refused.mono _ _)
      | (with_reducible exact LeO.refl _)
      | (with_reducible exact LeO.none _)
      | (with_reducible refine LeO.ite ?_ ?_)
      | (with_reducible refine LeO.bind ?_ (fun _ => ?_))
      | exact ih0 _ _ _ _ _
      | exact ih1 _ _ _ _ _ _ _ _ _ _
      | exact ih2 _ _ _ _ _ _ _ _ _ _ _
      | exact ih3 _ _ _ _ _ _ _ _ _
      | exact switchbackref17_Places.mono _ _ _
      | exact switchbackref17_made.mono _ _ _ _ _ _ _ _ _ _ _
      | exact switchbackref17_refused.mono _ _
      | exact LeO.none _
      | refine LeO.ite ?_ ?_
      | refine LeO.bind ?_ (fun _ => ?_)
    · intro y0 y1 y2 y3 y4 y5 y6 y7 y8 y9
      unfold switchbackref17_Assemble.l1
      repeat' first
      | (with_reducible exact ih0 _ _ _ _ _)
      | (with_reducible exact ih1 _ _ _ _ _ _ _ _ _ _)
      | (with_reducible exact ih2 _ _ _ _ _ _ _ _ _ _ _)
      | (with_reducible exact ih3 _ _ _ _ _ _ _ _ _)
      | (with_reducible exact switchbackref17_Places.mono _ _ _)
      | (with_reducible exact switchbackref17_made.mono _ _ _ _ _ _ _ _ _ _ _)
      | (with_reducible exact switchbackref17_refused.mono _ _)
      | (with_reducible exact LeO.refl _)
      | (with_reducible exact LeO.none _)
      | (with_reducible refine LeO.ite ?_ ?_)
      | (with_reducible refine LeO.bind ?_ (fun _ => ?_))
      | exact ih0 _ _ _ _ _
      | exact ih1 _ _ _ _ _ _ _ _ _ _
      | exact ih2 _ _ _ _ _ _ _ _ _ _ _
      | exact ih3 _ _ _ _ _ _ _ _ _
      | exact switchbackref17_Places.mono _ _ _
      | exact switchbackref17_made.mono _ _ _ _ _ _ _ _ _ _ _
      | exact switchbackref17_refused.mono _ _
      | exact LeO.none _
      | refine LeO.ite ?_ ?_
      | refine LeO.bind ?_ (fun _ => ?_)
    · intro y0 y1 y2 y3 y4 y5 y6 y7 y8 y9 y10
      unfold switchbackref17_Assemble.j2
      repeat' first
      | (with_reducible exact ih0 _ _ _ _ _)
      | (with_reducible exact ih1 _ _ _ _ _ _ _ _ _ _)
      | (with_reducible exact ih2 _ _ _ _ _ _ _ _ _ _ _)
      | (with_reducible exact ih3 _ _ _ _ _ _ _ _ _)
      | (with_reducible exact switchbackref17_Places.mono _ _ _)
      | (with_reducible exact switchbackref17_made.mono _ _ _ _ _ _ _ _ _ _ _)
      | (with_reducible exact switchbackref17_refused.mono _ _)
      | (with_reducible exact LeO.refl _)
      | (with_reducible exact LeO.none _)
      | (with_reducible refine LeO.ite ?_ ?_)
      | (with_reducible refine LeO.bind ?_ (fun _ => ?_))
      | exact ih0 _ _ _ _ _
      | exact ih1 _ _ _ _ _ _ _ _ _ _
      | exact ih2 _ _ _ _ _ _ _ _ _ _ _
      | exact ih3 _ _ _ _ _ _ _ _ _
      | exact switchbackref17_Places.mono _ _ _
      | exact switchbackref17_made.mono _ _ _ _ _ _ _ _ _ _ _
      | exact switchbackref17_refused.mono _ _
      | exact LeO.none _
      | refine LeO.ite ?_ ?_
      | refine LeO.bind ?_ (fun _ => ?_)
    · intro y0 y1 y2 y3 y4 y5 y6 y7 y8
      unfold switchbackref17_Assemble.l2
      repeat' first
      | (with_reducible exact ih0 _ _ _ _ _)
      | (with_reducible exact ih1 _ _ _ _ _ _ _ _ _ _)
      | (with_reducible exact ih2 _ _ _ _ _ _ _ _ _ _ _)
      | (with_reducible exact ih3 _ _ _ _ _ _ _ _ _)
      | (with_reducible exact switchbackref17_Places.mono _ _ _)
      | (with_reducible exact switchbackref17_made.mono _ _ _ _ _ _ _ _ _ _ _)
      | (with_reducible exact switchbackref17_refused.mono _ _)
      | (with_reducible exact LeO.refl _)
      | (with_reducible exact LeO.none _)
      | (with_reducible refine LeO.ite ?_ ?_)
      | (with_reducible refine LeO.bind ?_ (fun _ => ?_))
      | exact ih0 _ _ _ _ _
      | exact ih1 _ _ _ _ _ _ _ _ _ _
      | exact ih2 _ _ _ _ _ _ _ _ _ _ _
      | exact ih3 _ _ _ _ _ _ _ _ _
      | exact switchbackref17_Places.mono _ _ _
      | exact switchbackref17_made.mono _ _ _ _ _ _ _ _ _ _ _
      | exact switchbackref17_refused.mono _ _
      | exact LeO.none _
      | refine LeO.ite ?_ ?_
      | refine LeO.bind ?_ (fun _ => ?_)
theorem switchbackref17_Assemble.mono : ∀ a0 k, LeO (switchbackref17_Assemble.f k a0) (switchbackref17_Assemble.f (k + 1) a0) := by
  intro a0 k
  obtain ⟨ih0, ih1, ih2, ih3⟩ := switchbackref17_Assemble.mono_l k
  unfold switchbackref17_Assemble.f
  repeat' first
      | (with_reducible exact ih0 _ _ _ _ _)
      | (with_reducible exact ih1 _ _ _ _ _ _ _ _ _ _)
      | (with_reducible exact ih2 _ _ _ _ _ _ _ _ _ _ _)
      | (with_reducible exact ih3 _ _ _ _ _ _ _ _ _)
      | (with_reducible exact switchbackref17_Places.mono _ _ _)
      | (with_reducible exact switchbackref17_made.mono _ _ _ _ _ _ _ _ _ _ _)
      | (with_reducible exact switchbackref17_refused.mono _ _)
      | (with_reducible exact LeO.refl _)
      | (with_reducible exact LeO.none _)
      | (with_reducible refine LeO.ite ?_ ?_)
      | (with_reducible refine LeO.bind ?_ (fun _ => ?_))
      | exact ih0 _ _ _ _ _
      | exact ih1 _ _ _ _ _ _ _ _ _ _
      | exact ih2 _ _ _ _ _ _ _ _ _ _ _
      | exact ih3 _ _ _ _ _ _ _ _ _
      | exact switchbackref17_Places.mono _ _ _
      | exact switchbackref17_made.mono _ _ _ _ _ _ _ _ _ _ _
      | exact switchbackref17_refused.mono _ _
      | exact LeO.none _
      | refine LeO.ite ?_ ?_
      | refine LeO.bind ?_ (fun _ => ?_)

end Go.Proofs.YtamimnaafiphcaaDoor.PR1D
