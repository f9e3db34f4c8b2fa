-- Written by gp.py for this claim.
import Derived.Test.YtamimnaafiphcaaDoorPR1CZ
import Derived.Test.YtamimnaafiphcaaDoorPR1Cx39
namespace Go.Proofs.YtamimnaafiphcaaDoor.PR1C
open Go.RowKit Go.Proofs.YtamimnaafiphcaaDoorW.PrintWords Go.Proofs.YtamimnaafiphcaaDoorW.PrintLast Go.Proofs.YtamimnaafiphcaaDoorW.PrintMore
attribute [local go_sem] max2_int min2_int max_two min_two max_three min_three max_four min_four   -- for this text's walks alone
set_option linter.unusedVariables false
set_option linter.unusedSimpArgs false

/-! ### switchbacklaw17_RelaxLeast: function 8 -/
mutual
def switchbacklaw17_RelaxLeast.j0 : Nat → List (S40) → List Bool → Bool → List Int → List Int → List Int → Int → Option (Bool)
  | 0, _, _, _, _, _, _, _ => none
  | k + 1, x0, x1, x32, x322000, x322001, x322002, x322003 => if x32 = true then ((switchbacklaw17_live.f).bind fun t322 => (if t322 = true then (some ((x322002.length : Int) == 0)) else (some false))) else (if 0 ≤ (x0.length : Int) then (if ((x0.length : Int) : Int).toNat ≤ 281474976710656 then (switchbacklaw17_RelaxLeast.l0 k x0 x1 (List.replicate ((x0.length : Int) : Int).toNat false) 0 x322000 x322001 x322002 x322003) else (none)) else (none))
def switchbacklaw17_RelaxLeast.j2 : Nat → List (S40) → List Bool → List Int → List Int → List Int → Int → Option (Bool)
  | 0, _, _, _, _, _, _ => none
  | k + 1, x0, x8, x322000, x322001, x322002, x322003 => (switchbackref17_Places.f k x0 x8).bind fun bt328 => (switchbacklaw17_RelaxLeast.l1 k x0 x8 bt328.1 bt328.2.2 0 x322000 x322001 x322002 x322003)
def switchbacklaw17_RelaxLeast.l1 : Nat → List (S40) → List Bool → List Int → List Int → Int → List Int → List Int → List Int → Int → Option (Bool)
  | 0, _, _, _, _, _, _, _, _, _ => none
  | k + 1, x0, x8, x10, x12, x13, x322000, x322001, x322002, x322003 => if x13 < (x0.length : Int) then (if 0 ≤ x13 then ((switchbackref17_Branch.f ((rd_T40 x0 x13).f0) ((rd_T40 x0 x13).f1) ((rd_T40 x0 x13).f2) ((rd_T40 x0 x13).f3) ((rd_T40 x0 x13).f4) ((rd_T40 x0 x13).f5) ((rd_T40 x0 x13).f6)).bind fun t336 => (if t336 = true then (if x13 < (x8.length : Int) then (if rdOf false x8 x13 = true then (switchbacklaw17_RelaxLeast.j4 k x0 x8 x10 x12 x13 false x322000 x322001 x322002 x322003) else (if 0 ≤ ((rd_T40 x0 x13).f5) then (if ((rd_T40 x0 x13).f5) < (x12.length : Int) then (if x13 < (x10.length : Int) then ((switchbackref17_Near.f (wrap64 ((wrap64 ((rd x12 ((rd_T40 x0 x13).f5)) - (rd x10 x13))) - 1))).bind fun t341 => (switchbacklaw17_RelaxLeast.j4 k x0 x8 x10 x12 x13 (!t341) x322000 x322001 x322002 x322003)) else (none)) else (none)) else (none))) else (none)) else (switchbacklaw17_RelaxLeast.j4 k x0 x8 x10 x12 x13 false x322000 x322001 x322002 x322003))) else (none)) else (switchbacklaw17_RelaxLeast.l2 k x0 x8 0 x322000 x322001 x322002 x322003)
def switchbacklaw17_RelaxLeast.j4 : Nat → List (S40) → List Bool → List Int → List Int → Int → Bool → List Int → List Int → List Int → Int → Option (Bool)
  | 0, _, _, _, _, _, _, _, _, _, _ => none
  | k + 1, x0, x8, x10, x12, x13, x104, x322000, x322001, x322002, x322003 => if x104 = true then ((switchbacklaw17_live.f).bind fun t342 => (some t342)) else (switchbacklaw17_RelaxLeast.l1 k x0 x8 x10 x12 (wrap64 (x13 + 1)) x322000 x322001 x322002 x322003)
def switchbacklaw17_RelaxLeast.l2 : Nat → List (S40) → List Bool → Int → List Int → List Int → List Int → Int → Option (Bool)
  | 0, _, _, _, _, _, _, _ => none
  | k + 1, x0, x8, x14, x322000, x322001, x322002, x322003 => if x14 < (x0.length : Int) then (if 0 ≤ x14 then ((switchbackref17_Branch.f ((rd_T40 x0 x14).f0) ((rd_T40 x0 x14).f1) ((rd_T40 x0 x14).f2) ((rd_T40 x0 x14).f3) ((rd_T40 x0 x14).f4) ((rd_T40 x0 x14).f5) ((rd_T40 x0 x14).f6)).bind fun t344 => (if t344 = true then (if x14 < (x8.length : Int) then (switchbacklaw17_RelaxLeast.j6 k x0 x8 x14 (rdOf false x8 x14) x322000 x322001 x322002 x322003) else (none)) else (switchbacklaw17_RelaxLeast.j6 k x0 x8 x14 true x322000 x322001 x322002 x322003))) else (none)) else ((switchbacklaw17_live.f).bind fun t354 => (some t354))
def switchbacklaw17_RelaxLeast.j6 : Nat → List (S40) → List Bool → Int → Bool → List Int → List Int → List Int → Int → Option (Bool)
  | 0, _, _, _, _, _, _, _, _ => none
  | k + 1, x0, x8, x14, x123, x322000, x322001, x322002, x322003 => if x123 = true then (switchbacklaw17_RelaxLeast.l2 k x0 x8 (wrap64 (x14 + 1)) x322000 x322001 x322002 x322003) else (if 0 ≤ x14 then (if x14 < (x322002.length : Int) then ((switchbacklaw17_code.f k x322000 x322001 x322002 x322003 (rd x322002 x14)).bind fun bt347 => (if bt347.2.2.2.2 = true then (if x14 < (x0.length : Int) then (if bt347.1 = ((rd_T40 x0 x14).f0) then (switchbacklaw17_RelaxLeast.l2 k x0 x8 (wrap64 (x14 + 1)) x322000 x322001 x322002 x322003) else (some false)) else (none)) else (some false))) else (none)) else (none))
def switchbacklaw17_RelaxLeast.l0 : Nat → List (S40) → List Bool → List Bool → Int → List Int → List Int → List Int → Int → Option (Bool)
  | 0, _, _, _, _, _, _, _, _ => none
  | k + 1, x0, x1, x8, x9, x322000, x322001, x322002, x322003 => if x9 < (x0.length : Int) then (if x9 < (x1.length : Int) then (if 0 ≤ x9 then (if x9 < (x8.length : Int) then (switchbacklaw17_RelaxLeast.l0 k x0 x1 (x8.set (x9 : Int).toNat (rdOf false x1 x9)) (wrap64 (x9 + 1)) x322000 x322001 x322002 x322003) else (none)) else (none)) else (switchbacklaw17_RelaxLeast.j2 k x0 x8 x322000 x322001 x322002 x322003)) else (switchbacklaw17_RelaxLeast.j2 k x0 x8 x322000 x322001 x322002 x322003)
end
def switchbacklaw17_RelaxLeast.f (k : Nat) (l0 : List (S40)) (l1 : List Bool) : Option (Bool) := (relax_Assemble.f l0).bind fun bt309 => (if bt309.2.2.2.2.2 = 0 then (switchbacklaw17_RelaxLeast.j0 k l0 l1 ((bt309.2.2.1.length : Int) != (l0.length : Int)) bt309.1 bt309.2.1 bt309.2.2.1 bt309.2.2.2.1) else (switchbacklaw17_RelaxLeast.j0 k l0 l1 true bt309.1 bt309.2.1 bt309.2.2.1 bt309.2.2.2.1))
theorem switchbacklaw17_RelaxLeast.mono_l : ∀ k, (∀ y0 y1 y2 y3 y4 y5 y6, LeO (switchbacklaw17_RelaxLeast.j0 k y0 y1 y2 y3 y4 y5 y6) (switchbacklaw17_RelaxLeast.j0 (k + 1) y0 y1 y2 y3 y4 y5 y6)) ∧ (∀ y0 y1 y2 y3 y4 y5, LeO (switchbacklaw17_RelaxLeast.j2 k y0 y1 y2 y3 y4 y5) (switchbacklaw17_RelaxLeast.j2 (k + 1) y0 y1 y2 y3 y4 y5)) ∧ (∀ y0 y1 y2 y3 y4 y5 y6 y7 y8, LeO (switchbacklaw17_RelaxLeast.l1 k y0 y1 y2 y3 y4 y5 y6 y7 y8) (switchbacklaw17_RelaxLeast.l1 (k + 1) y0 y1 y2 y3 y4 y5 y6 y7 y8)) ∧ (∀ y0 y1 y2 y3 y4 y5 y6 y7 y8 y9, LeO (switchbacklaw17_RelaxLeast.j4 k y0 y1 y2 y3 y4 y5 y6 y7 y8 y9) (switchbacklaw17_RelaxLeast.j4 (k + 1) y0 y1 y2 y3 y4 y5 y6 y7 y8 y9)) ∧ (∀ y0 y1 y2 y3 y4 y5 y6, LeO (switchbacklaw17_RelaxLeast.l2 k y0 y1 y2 y3 y4 y5 y6) (switchbacklaw17_RelaxLeast.l2 (k + 1) y0 y1 y2 y3 y4 y5 y6)) ∧ (∀ y0 y1 y2 y3 y4 y5 y6 y7, LeO (switchbacklaw17_RelaxLeast.j6 k y0 y1 y2 y3 y4 y5 y6 y7) (switchbacklaw17_RelaxLeast.j6 (k + 1) y0 y1 y2 y3 y4 y5 y6 y7)) ∧ (∀ y0 y1 y2 y3 y4 y5 y6 y7, LeO (switchbacklaw17_RelaxLeast.l0 k y0 y1 y2 y3 y4 y5 y6 y7) (switchbacklaw17_RelaxLeast.l0 (k + 1) y0 y1 y2 y3 y4 y5 y6 y7))
  | 0 => ⟨fun _ _ _ _ _ _ _ r h => by simp [switchbacklaw17_RelaxLeast.j0] at h, fun _ _ _ _ _ _ r h => by simp [switchbacklaw17_RelaxLeast.j2] at h, fun _ _ _ _ _ _ _ _ _ r h => by simp [switchbacklaw17_RelaxLeast.l1] at h, fun _ _ _ _ _ _ _ _ _ _ r h => by simp [switchbacklaw17_RelaxLeast.j4] at h, fun _ _ _ _ _ _ _ r h => by simp [switchbacklaw17_RelaxLeast.l2] at h, fun _ _ _ _ _ _ _ _ r h => by simp [switchbacklaw17_RelaxLeast.j6] at h, fun _ _ _ _ _ _ _ _ r h => by simp [switchbacklaw17_RelaxLeast.l0] at h⟩
  | k + 1 => by
    obtain ⟨ih0, ih1, ih2, ih3, ih4, ih5, ih6⟩ := switchbacklaw17_RelaxLeast.mono_l k
    refine ⟨?_, ?_, ?_, ?_, ?_, ?_, ?_⟩
    · intro y0 y1 y2 y3 y4 y5 y6
      unfold switchbacklaw17_RelaxLeast.j0
      repeat' first
      | (with_reducible exact ih0 _ _ _ _ _ _ _)
      | (with_reducible exact ih1 _ _ _ _ _ _)
      | (with_reducible exact ih2 _ _ _ _ _ _ _ _ _)
      | (with_reducible exact ih3 _ _ _ _ _ _ _ _ _ _)
      | (with_reducible exact ih4 _ _ _ _ _ _ _)
      | (with_reducible exact ih5 _ _ _ _ _ _ _ _)
      | (with_reducible exact ih6 _ _ _ _ _ _ _ _)
      | (with_reducible exact switchbacklaw17_code.mono _ _ _ _ _ _)
      | (with_reducible exact switchbackref17_Places.mono _ _ _)
      | (with_reducible exact LeO.refl _)
      | (with_reducible exact LeO.none _)
      | (with_reducible refine LeO.ite ?_ ?_)
      | (with_reducible refine LeO.bind ?_ (fun _ => ?_))
      | exact ih0 _ _ _ _ _ _ _
      | exact ih1 _ _ _ _ _ _
      | exact ih2 _ _ _ _ _ _ _ _ _
      | exact ih3 _ _ _ _ _ _ _ _ _ _
      | exact ih4 _ _ _ _ _ _ _
      | exact ih5 _ _ _ _ _ _ _ _
      | exact ih6 _ _ _ _ _ _ _ _
      | exact switchbacklaw17_code.mono _ _ _ _ _ _
      | exact switchbackref17_Places.mono _ _ _
      | exact LeO.none _
      | refine LeO.ite ?_ ?_
      | refine LeO.bind ?_ (fun _ => ?_)
    · intro y0 y1 y2 y3 y4 y5
      unfold switchbacklaw17_RelaxLeast.j2
      repeat' first
      | (with_reducible exact ih0 _ _ _ _ _ _ _)
      | (with_reducible exact ih1 _ _ _ _ _ _)
      | (with_reducible exact ih2 _ _ _ _ _ _ _ _ _)
      | (with_reducible exact ih3 _ _ _ _ _ _ _ _ _ _)
      | (with_reducible exact ih4 _ _ _ _ _ _ _)
      | (with_reducible exact ih5 _ _ _ _ _ _ _ _)
      | (with_reducible exact ih6 _ _ _ _ _ _ _ _)
      | (with_reducible exact switchbacklaw17_code.mono _ _ _ _ _ _)
      | (with_reducible exact switchbackref17_Places.mono _ _ _)
      | (with_reducible exact LeO.refl _)
      | (with_reducible exact LeO.none _)
      | (with_reducible refine LeO.ite ?_ ?_)
      | (with_reducible refine LeO.bind ?_ (fun _ => ?_))
      | exact ih0 _ _ _ _ _ _ _
      | exact ih1 _ _ _ _ _ _
      | exact ih2 _ _ _ _ _ _ _ _ _
      | exact ih3 _ _ _ _ _ _ _ _ _ _
      | exact ih4 _ _ _ _ _ _ _
      | exact ih5 _ _ _ _ _ _ _ _
      | exact ih6 _ _ _ _ _ _ _ _
      | exact switchbacklaw17_code.mono _ _ _ _ _ _
      | exact switchbackref17_Places.mono _ _ _
      | exact LeO.none _
      | refine LeO.ite ?_ ?_
      | refine LeO.bind ?_ (fun _ => ?_)
    · intro y0 y1 y2 y3 y4 y5 y6 y7 y8
      unfold switchbacklaw17_RelaxLeast.l1
      repeat' first
      | (with_reducible exact ih0 _ _ _ _ _ _ _)
      | (with_reducible exact ih1 _ _ _ _ _ _)
      | (with_reducible exact ih2 _ _ _ _ _ _ _ _ _)
      | (with_reducible exact ih3 _ _ _ _ _ _ _ _ _ _)
      | (with_reducible exact ih4 _ _ _ _ _ _ _)
      | (with_reducible exact ih5 _ _ _ _ _ _ _ _)
      | (with_reducible exact ih6 _ _ _ _ _ _ _ _)
      | (with_reducible exact switchbacklaw17_code.mono _ _ _ _ _ _)
      | (with_reducible exact switchbackref17_Places.mono _ _ _)
      | (with_reducible exact LeO.refl _)
      | (with_reducible exact LeO.none _)
      | (with_reducible refine LeO.ite ?_ ?_)
      | (with_reducible refine LeO.bind ?_ (fun _ => ?_))
      | exact ih0 _ _ _ _ _ _ _
      | exact ih1 _ _ _ _ _ _
      | exact ih2 _ _ _ _ _ _ _ _ _
      | exact ih3 _ _ _ _ _ _ _ _ _ _
      | exact ih4 _ _ _ _ _ _ _
      | exact ih5 _ _ _ _ _ _ _ _
      | exact ih6 _ _ _ _ _ _ _ _
      | exact switchbacklaw17_code.mono _ _ _ _ _ _
      | exact switchbackref17_Places.mono _ _ _
      | exact LeO.none _
      | refine LeO.ite ?_ ?_
      | refine LeO.bind ?_ (fun _ => ?_)
    · intro y0 y1 y2 y3 y4 y5 y6 y7 y8 y9
      unfold switchbacklaw17_RelaxLeast.j4
      repeat' first
      | (with_reducible exact ih0 _ _ _ _ _ _ _)
      | (with_reducible exact ih1 _ _ _ _ _ _)
      | (with_reducible exact ih2 _ _ _ _ _ _ _ _ _)
      | (with_reducible exact ih3 _ _ _ _ _ _ _ _ _ _)
      | (with_reducible exact ih4 _ _ _ _ _ _ _)
      | (with_reducible exact ih5 _ _ _ _ _ _ _ _)
      | (with_reducible exact ih6 _ _ _ _ _ _ _ _)
      | (with_reducible exact switchbacklaw17_code.mono _ _ _ _ _ _)
      | (with_reducible exact switchbackref17_Places.mono _ _ _)
      | (with_reducible exact LeO.refl _)
      | (with_reducible exact LeO.none _)
      | (with_reducible refine LeO.ite ?_ ?_)
      | (with_reducible refine LeO.bind ?_ (fun _ => ?_))
      | exact ih0 _ _ _ _ _ _ _
      | exact ih1 _ _ _ _ _ _
      | exact ih2 _ _ _ _ _ _ _ _ _
      | exact ih3 _ _ _ _ _ _ _ _ _ _
      | exact ih4 _ _ _ _ _ _ _
      | exact ih5 _ _ _ _ _ _ _ _
      | exact ih6 _ _ _ _ _ _ _ _
      | exact switchbacklaw17_code.mono _ _ _ _ _ _
      | exact switchbackref17_Places.mono _ _ _
      | exact LeO.none _
      | refine LeO.ite ?_ ?_
      | refine LeO.bind ?_ (fun _ => ?_)
    · intro y0 y1 y2 y3 y4 y5 y6
      unfold switchbacklaw17_RelaxLeast.l2
      repeat' first
      | (with_reducible exact ih0 _ _ _ _ _ _ _)
      | (with_reducible exact ih1 _ _ _ _ _ _)
      | (with_reducible exact ih2 _ _ _ _ _ _ _ _ _)
      | (with_reducible exact ih3 _ _ _ _ _ _ _ _ _ _)
      | (with_reducible exact ih4 _ _ _ _ _ _ _)
      | (with_reducible exact ih5 _ _ _ _ _ _ _ _)
      | (with_reducible exact ih6 _ _ _ _ _ _ _ _)
      | (with_reducible exact switchbacklaw17_code.mono _ _ _ _ _ _)
      | (with_reducible exact switchbackref17_Places.mono _ _ _)
      | (with_reducible exact LeO.refl _)
      | (with_reducible exact LeO.none _)
      | (with_reducible refine LeO.ite ?_ ?_)
      | (with_reducible refine LeO.bind ?_ (fun _ => ?_))
      | exact ih0 _ _ _ _ _ _ _
      | exact ih1 _ _ _ _ _ _
      | exact ih2 _ _ _ _ _ _ _ _ _
      | exact ih3 _ _ _ _ _ _ _ _ _ _
      | exact ih4 _ _ _ _ _ _ _
      | exact ih5 _ _ _ _ _ _ _ _
      | exact ih6 _ _ _ _ _ _ _ _
      | exact switchbacklaw17_code.mono _ _ _ _ _ _
      | exact switchbackref17_Places.mono _ _ _
      | exact LeO.none _
      | refine LeO.ite ?_ ?_
      | refine LeO.bind ?_ (fun _ => ?_)
    · intro y0 y1 y2 y3 y4 y5 y6 y7
      unfold switchbacklaw17_RelaxLeast.j6
      repeat' first
      | (with_reducible exact ih0 _ _ _ _ _ _ _)
      | (with_reducible exact ih1 _ _ _ _ _ _)
      | (with_reducible exact ih2 _ _ _ _ _ _ _ _ _)
      | (with_reducible exact ih3 _ _ _ _ _ _ _ _ _ _)
      | (with_reducible exact ih4 _ _ _ _ _ _ _)
      | (with_reducible exact ih5 _ _ _ _ _ _ _ _)
      | (with_reducible exact ih6 _ _ _ _ _ _ _ _)
      | (with_reducible exact switchbacklaw17_code.mono _ _ _ _ _ _)
      | (with_reducible exact switchbackref17_Places.mono _ _ _)
      | (with_reducible exact LeO.refl _)
      | (with_reducible exact LeO.none _)
      | (with_reducible refine LeO.ite ?_ ?_)
      | (with_reducible refine LeO.bind ?_ (fun _ => ?_))
      | exact ih0 _ _ _ _ _ _ _
      | exact ih1 _ _ _ _ _ _
      | exact ih2 _ _ _ _ _ _ _ _ _
      | exact ih3 _ _ _ _ _ _ _ _ _ _
      | exact ih4 _ _ _ _ _ _ _
      | exact ih5 _ _ _ _ _ _ _ _
      | exact ih6 _ _ _ _ _ _ _ _
      | exact switchbacklaw17_code.mono _ _ _ _ _ _
      | exact switchbackref17_Places.mono _ _ _
      | exact LeO.none _
      | refine LeO.ite ?_ ?_
      | refine LeO.bind ?_ (fun _ => ?_)
    · intro y0 y1 y2 y3 y4 y5 y6 y7
      unfold switchbacklaw17_RelaxLeast.l0
      repeat' first
      | (with_reducible exact ih0 _ _ _ _ _ _ _)
      | (with_reducible exact ih1 _ _ _ _ _ _)
      | (with_reducible exact ih2 _ _ _ _ _ _ _ _ _)
      | (with_reducible exact ih3 _ _ _ _ _ _ _ _ _ _)
      | (with_reducible exact ih4 _ _ _ _ _ _ _)
      | (with_reducible exact ih5 _ _ _ _ _ _ _ _)
      | (with_reducible exact ih6 _ _ _ _ _ _ _ _)
      | (with_reducible exact switchbacklaw17_code.mono _ _ _ _ _ _)
      | (with_reducible exact switchbackref17_Places.mono _ _ _)
      | (with_reducible exact LeO.refl _)
      | (with_reducible exact LeO.none _)
      | (with_reducible refine LeO.ite ?_ ?_)
      | (with_reducible refine LeO.bind ?_ (fun _ => ?_))
      | exact ih0 _ _ _ _ _ _ _
      | exact ih1 _ _ _ _ _ _
      | exact ih2 _ _ _ _ _ _ _ _ _
      | exact ih3 _ _ _ _ _ _ _ _ _ _
      | exact ih4 _ _ _ _ _ _ _
      | exact ih5 _ _ _ _ _ _ _ _
      | exact ih6 _ _ _ _ _ _ _ _
      | exact switchbacklaw17_code.mono _ _ _ _ _ _
      | exact switchbackref17_Places.mono _ _ _
      | exact LeO.none _
      | refine LeO.ite ?_ ?_
      | refine LeO.bind ?_ (fun _ => ?_)
theorem switchbacklaw17_RelaxLeast.mono : ∀ a0 a1 k, LeO (switchbacklaw17_RelaxLeast.f k a0 a1) (switchbacklaw17_RelaxLeast.f (k + 1) a0 a1) := by
  intro a0 a1 k
  obtain ⟨ih0, ih1, ih2, ih3, ih4, ih5, ih6⟩ := switchbacklaw17_RelaxLeast.mono_l k
  unfold switchbacklaw17_RelaxLeast.f
  repeat' first
      | (with_reducible exact ih0 _ _ _ _ _ _ _)
      | (with_reducible exact ih1 _ _ _ _ _ _)
      | (with_reducible exact ih2 _ _ _ _ _ _ _ _ _)
      | (with_reducible exact ih3 _ _ _ _ _ _ _ _ _ _)
      | (with_reducible exact ih4 _ _ _ _ _ _ _)
      | (with_reducible exact ih5 _ _ _ _ _ _ _ _)
      | (with_reducible exact ih6 _ _ _ _ _ _ _ _)
      | (with_reducible exact switchbacklaw17_code.mono _ _ _ _ _ _)
      | (with_reducible exact switchbackref17_Places.mono _ _ _)
      | (with_reducible exact LeO.refl _)
      | (with_reducible exact LeO.none _)
      | (with_reducible refine LeO.ite ?_ ?_)
      | (with_reducible refine LeO.bind ?_ (fun _ => ?_))
      | exact ih0 _ _ _ _ _ _ _
      | exact ih1 _ _ _ _ _ _
      | exact ih2 _ _ _ _ _ _ _ _ _
      | exact ih3 _ _ _ _ _ _ _ _ _ _
      | exact ih4 _ _ _ _ _ _ _
      | exact ih5 _ _ _ _ _ _ _ _
      | exact ih6 _ _ _ _ _ _ _ _
      | exact switchbacklaw17_code.mono _ _ _ _ _ _
      | exact switchbackref17_Places.mono _ _ _
      | exact LeO.none _
      | refine LeO.ite ?_ ?_
      | refine LeO.bind ?_ (fun _ => ?_)

end Go.Proofs.YtamimnaafiphcaaDoor.PR1C
