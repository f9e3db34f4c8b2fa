-- Written by gp.py for this claim.
import Derived.Test.YtamimnaafiphcaaDoorPR1DZ
import Derived.Test.YtamimnaafiphcaaDoorPR1DY
namespace Go.Proofs.YtamimnaafiphcaaDoor.PR1D
open Go.RowKit Go.Proofs.YtamimnaafiphcaaDoorW.PrintWords Go.Proofs.YtamimnaafiphcaaDoorW.PrintLast Go.Proofs.YtamimnaafiphcaaDoorW.PrintMore
attribute [local go_sem] max2_int min2_int max_two min_two max_three min_three max_four min_four   -- for this text's walks alone
set_option linter.unusedVariables false
set_option linter.unusedSimpArgs false

/-! ### switchbackref17_made: function 49 -/
mutual
def switchbackref17_made.j0 : Nat → Bool → Int → List Int → Bool → Int → Int → Int → Int → Int → Int → Int → List Int → Option (List Int × List Int)
  | 0, _, _, _, _, _, _, _, _, _, _, _, _ => none
  | k + 1, x1, x2, x3, x10, x11, x196000, x196001, x196002, x196003, x196004, x196005, x196006 => if x196000 = 0 then (some (([] : List Int), ([] : List Int))) else (if x10 = true then (switchbackref17_made.j1 k x1 x2 x3 x10 x11 x1 x196000 x196001 x196002 x196003 x196004 x196005 x196006) else (switchbackref17_made.j1 k x1 x2 x3 x10 x11 false x196000 x196001 x196002 x196003 x196004 x196005 x196006))
def switchbackref17_made.j1 : Nat → Bool → Int → List Int → Bool → Int → Bool → Int → Int → Int → Int → Int → Int → List Int → Option (List Int × List Int)
  | 0, _, _, _, _, _, _, _, _, _, _, _, _, _ => none
  | k + 1, x1, x2, x3, x10, x11, x31, x196000, x196001, x196002, x196003, x196004, x196005, x196006 => if x31 = true then ((switchbackref17_Other.f x196000).bind fun t199 => ((switchbackref17_word.f t199 x196001 x196002 2).bind fun t200 => ((switchbackref17_word.f 41 0 0 0).bind fun t201 => (some ((([t200, t201, (x11) % 4294967296] : List Int)), (([1, 1, 2] : List Int))))))) else (if x196000 = 40 then (if x1 = true then (switchbackref17_made.j2 k x2 x3 x10 x11 true x196000 x196001 x196002 x196003 x196004 x196005 x196006) else (switchbackref17_made.j2 k x2 x3 x10 x11 (x196000 == 41) x196000 x196001 x196002 x196003 x196004 x196005 x196006)) else (switchbackref17_made.j2 k x2 x3 x10 x11 (x196000 == 41) x196000 x196001 x196002 x196003 x196004 x196005 x196006))
def switchbackref17_made.j2 : Nat → Int → List Int → Bool → Int → Bool → Int → Int → Int → Int → Int → Int → List Int → Option (List Int × List Int)
  | 0, _, _, _, _, _, _, _, _, _, _, _, _ => none
  | k + 1, x2, x3, x10, x11, x49, x196000, x196001, x196002, x196003, x196004, x196005, x196006 => if x49 = true then ((switchbackref17_word.f 41 0 0 0).bind fun t208 => (some ((([t208, (x11) % 4294967296] : List Int)), (([1, 2] : List Int))))) else (if x10 = true then (switchbackref17_made.j3 k x2 x3 x11 true x196000 x196001 x196002 x196003 x196004 x196005 x196006) else (switchbackref17_made.j3 k x2 x3 x11 (x196000 == 40) x196000 x196001 x196002 x196003 x196004 x196005 x196006))
def switchbackref17_made.j3 : Nat → Int → List Int → Int → Bool → Int → Int → Int → Int → Int → Int → List Int → Option (List Int × List Int)
  | 0, _, _, _, _, _, _, _, _, _, _, _ => none
  | k + 1, x2, x3, x11, x66, x196000, x196001, x196002, x196003, x196004, x196005, x196006 => if x66 = true then ((switchbackref17_word.f x196000 x196001 x196002 (wrap64 ((wrap64 (x11 - x2)) - 1))).bind fun t215 => (some ((([t215] : List Int)), (([1] : List Int))))) else (if x196000 = 43 then ((switchbackref17_word.f 43 0 0 0).bind fun t222 => (some ((([t222, (x11) % 4294967296] : List Int)), (([1, 2] : List Int))))) else (if x196000 = 2 then ((switchbackref17_word.f 2 x196001 0 0).bind fun t229 => (some ((([t229, x196004] : List Int)), (([1, 2] : List Int))))) else (if x196000 = 42 then ((switchbackref17_word.f 42 x196001 0 0).bind fun t236 => (switchbackref17_made.l0 k x3 (([t236, ((x196006.length : Int)) % 4294967296] : List Int)) (([1, 3] : List Int)) 0 x196000 x196001 x196002 x196003 x196004 x196005 x196006)) else ((switchbackref17_word.f x196000 x196001 x196002 x196003).bind fun t251 => (some ((([t251] : List Int)), (([1] : List Int))))))))
def switchbackref17_made.l0 : Nat → List Int → List Int → List Int → Int → Int → Int → Int → Int → Int → Int → List Int → Option (List Int × List Int)
  | 0, _, _, _, _, _, _, _, _, _, _, _ => none
  | k + 1, x3, x13, x14, x15, x196000, x196001, x196002, x196003, x196004, x196005, x196006 => if x15 < (x196006.length : Int) then (if 0 ≤ x15 then (if 0 ≤ (rd x196006 x15) then (if (rd x196006 x15) < (x3.length : Int) then (if x13.length < 35184372088832 then (if x14.length < 17592186044416 then (switchbackref17_made.l0 k x3 (x13 ++ [(rd x3 (rd x196006 x15)) % 4294967296]) (x14 ++ [3]) (wrap64 (x15 + 1)) x196000 x196001 x196002 x196003 x196004 x196005 x196006) else (none)) else (none)) else (none)) else (none)) else (none)) else (some (x13, x14))
end
def switchbackref17_made.f (k : Nat) (a0_0 : Int) (a0_1 : Int) (a0_2 : Int) (a0_3 : Int) (a0_4 : Int) (a0_5 : Int) (l0_6 : List Int) (a1 : Bool) (a2 : Int) (l3 : List Int) : Option (List Int × List Int) := (switchbackref16_Branch.f a0_0).bind fun t196 => ((switchbackref17_Goes.f a0_0 a0_1 a0_2 a0_3 a0_4 a0_5 l0_6).bind fun t197 => (if t197 = true then (if 0 ≤ a0_5 then (if a0_5 < (l3.length : Int) then (switchbackref17_made.j0 k a1 a2 l3 t196 (rd l3 a0_5) a0_0 a0_1 a0_2 a0_3 a0_4 a0_5 l0_6) else (none)) else (none)) else (switchbackref17_made.j0 k a1 a2 l3 t196 0 a0_0 a0_1 a0_2 a0_3 a0_4 a0_5 l0_6)))
theorem switchbackref17_made.mono_l : ∀ k, (∀ y0 y1 y2 y3 y4 y5 y6 y7 y8 y9 y10 y11, LeO (switchbackref17_made.j0 k y0 y1 y2 y3 y4 y5 y6 y7 y8 y9 y10 y11) (switchbackref17_made.j0 (k + 1) y0 y1 y2 y3 y4 y5 y6 y7 y8 y9 y10 y11)) ∧ (∀ y0 y1 y2 y3 y4 y5 y6 y7 y8 y9 y10 y11 y12, LeO (switchbackref17_made.j1 k y0 y1 y2 y3 y4 y5 y6 y7 y8 y9 y10 y11 y12) (switchbackref17_made.j1 (k + 1) y0 y1 y2 y3 y4 y5 y6 y7 y8 y9 y10 y11 y12)) ∧ (∀ y0 y1 y2 y3 y4 y5 y6 y7 y8 y9 y10 y11, LeO (switchbackref17_made.j2 k y0 y1 y2 y3 y4 y5 y6 y7 y8 y9 y10 y11) (switchbackref17_made.j2 (k + 1) y0 y1 y2 y3 y4 y5 y6 y7 y8 y9 y10 y11)) ∧ (∀ y0 y1 y2 y3 y4 y5 y6 y7 y8 y9 y10, LeO (switchbackref17_made.j3 k y0 y1 y2 y3 y4 y5 y6 y7 y8 y9 y10) (switchbackref17_made.j3 (k + 1) y0 y1 y2 y3 y4 y5 y6 y7 y8 y9 y10)) ∧ (∀ y0 y1 y2 y3 y4 y5 y6 y7 y8 y9 y10, LeO (switchbackref17_made.l0 k y0 y1 y2 y3 y4 y5 y6 y7 y8 y9 y10) (switchbackref17_made.l0 (k + 1) y0 y1 y2 y3 y4 y5 y6 y7 y8 y9 y10))
  | 0 => ⟨fun _ _ _ _ _ _ _ _ _ _ _ _ r h => by simp [switchbackref17_made.j0] at h, fun _ _ _ _ _ _ _ _ _ _ _ _ _ r h => by simp [switchbackref17_made.j1] at h, fun _ _ _ _ _ _ _ _ _ _ _ _ r h => by simp [switchbackref17_made.j2] at h, fun _ _ _ _ _ _ _ _ _ _ _ r h => by simp [switchbackref17_made.j3] at h, fun _ _ _ _ _ _ _ _ _ _ _ r h => by simp [switchbackref17_made.l0] at h⟩
  | k + 1 => by
    obtain ⟨ih0, ih1, ih2, ih3, ih4⟩ := switchbackref17_made.mono_l k
    refine ⟨?_, ?_, ?_, ?_, ?_⟩
    · intro y0 y1 y2 y3 y4 y5 y6 y7 y8 y9 y10 y11
      unfold switchbackref17_made.j0
      repeat' first
      | (with_reducible exact ih0 _ _ _ _ _ _ _ _ _ _ _ _)
      | (with_reducible exact ih1 _ _ _ _ _ _ _ _ _ _ _ _ _)
      | (with_reducible exact ih2 _ _ _ _ _ _ _ _ _ _ _ _)
      | (with_reducible exact ih3 _ _ _ _ _ _ _ _ _ _ _)
      | (with_reducible exact ih4 _ _ _ _ _ _ _ _ _ _ _)
      | (with_reducible exact LeO.refl _)
      | (with_reducible exact LeO.none _)
      | (with_reducible refine LeO.ite ?_ ?_)
      | (with_reducible refine LeO.bind ?_ (fun _ => ?_))
      | exact ih0 _ _ _ _ _ _ _ _ _ _ _ _
      | exact ih1 _ _ _ _ _ _ _ _ _ _ _ _ _
      | exact ih2 _ _ _ _ _ _ _ _ _ _ _ _
      | exact ih3 _ _ _ _ _ _ _ _ _ _ _
      | exact ih4 _ _ _ _ _ _ _ _ _ _ _
      | exact LeO.none _
      | refine LeO.ite ?_ ?_
      | refine LeO.bind ?_ (fun _ => ?_)
    · intro y0 y1 y2 y3 y4 y5 y6 y7 y8 y9 y10 y11 y12
      unfold switchbackref17_made.j1
      repeat' first
      | (with_reducible exact ih0 _ _ _ _ _ _ _ _ _ _ _ _)
      | (with_reducible exact ih1 _ _ _ _ _ _ _ _ _ _ _ _ _)
      | (with_reducible exact ih2 _ _ _ _ _ _ _ _ _ _ _ _)
      | (with_reducible exact ih3 _ _ _ _ _ _ _ _ _ _ _)
      | (with_reducible exact ih4 _ _ _ _ _ _ _ _ _ _ _)
      | (with_reducible exact LeO.refl _)
      | (with_reducible exact LeO.none _)
      | (with_reducible refine LeO.ite ?_ ?_)
      | (with_reducible refine LeO.bind ?_ (fun _ => ?_))
      | exact ih0 _ _ _ _ _ _ _ _ _ _ _ _
      | exact ih1 _ _ _ _ _ _ _ _ _ _ _ _ _
      | exact ih2 _ _ _ _ _ _ _ _ _ _ _ _
      | exact ih3 _ _ _ _ _ _ _ _ _ _ _
      | exact ih4 _ _ _ _ _ _ _ _ _ _ _
      | exact LeO.none _
      | refine LeO.ite ?_ ?_
      | refine LeO.bind ?_ (fun _ => ?_)
    · intro y0 y1 y2 y3 y4 y5 y6 y7 y8 y9 y10 y11
      unfold switchbackref17_made.j2
      repeat' first
      | (with_reducible exact ih0 _ _ _ _ _ _ _ _ _ _ _ _)
      | (with_reducible exact ih1 _ _ _ _ _ _ _ _ _ _ _ _ _)
      | (with_reducible exact ih2 _ _ _ _ _ _ _ _ _ _ _ _)
      | (with_reducible exact ih3 _ _ _ _ _ _ _ _ _ _ _)
      | (with_reducible exact ih4 _ _ _ _ _ _ _ _ _ _ _)
      | (with_reducible exact LeO.refl _)
      | (with_reducible exact LeO.none _)
      | (with_reducible refine LeO.ite ?_ ?_)
      | (with_reducible refine LeO.bind ?_ (fun _ => ?_))
      | exact ih0 _ _ _ _ _ _ _ _ _ _ _ _
      | exact ih1 _ _ _ _ _ _ _ _ _ _ _ _ _
      | exact ih2 _ _ _ _ _ _ _ _ _ _ _ _
      | exact ih3 _ _ _ _ _ _ _ _ _ _ _
      | exact ih4 _ _ _ _ _ _ _ _ _ _ _
      | exact LeO.none _
      | refine LeO.ite ?_ ?_
      | refine LeO.bind ?_ (fun _ => ?_)
    · intro y0 y1 y2 y3 y4 y5 y6 y7 y8 y9 y10
      unfold switchbackref17_made.j3
      repeat' first
      | (with_reducible exact ih0 _ _ _ _ _ _ _ _ _ _ _ _)
      | (with_reducible exact ih1 _ _ _ _ _ _ _ _ _ _ _ _ _)
      | (with_reducible exact ih2 _ _ _ _ _ _ _ _ _ _ _ _)
      | (with_reducible exact ih3 _ _ _ _ _ _ _ _ _ _ _)
      | (with_reducible exact ih4 _ _ _ _ _ _ _ _ _ _ _)
      | (with_reducible exact LeO.refl _)
      | (with_reducible exact LeO.none _)
      | (with_reducible refine LeO.ite ?_ ?_)
      | (with_reducible refine LeO.bind ?_ (fun _ => ?_))
      | exact ih0 _ _ _ _ _ _ _ _ _ _ _ _
      | exact ih1 _ _ _ _ _ _ _ _ _ _ _ _ _
      | exact ih2 _ _ _ _ _ _ _ _ _ _ _ _
      | exact ih3 _ _ _ _ _ _ _ _ _ _ _
      | exact ih4 _ _ _ _ _ _ _ _ _ _ _
      | exact LeO.none _
      | refine LeO.ite ?_ ?_
      | refine LeO.bind ?_ (fun _ => ?_)
    · intro y0 y1 y2 y3 y4 y5 y6 y7 y8 y9 y10
      unfold switchbackref17_made.l0
      repeat' first
      | (with_reducible exact ih0 _ _ _ _ _ _ _ _ _ _ _ _)
      | (with_reducible exact ih1 _ _ _ _ _ _ _ _ _ _ _ _ _)
      | (with_reducible exact ih2 _ _ _ _ _ _ _ _ _ _ _ _)
      | (with_reducible exact ih3 _ _ _ _ _ _ _ _ _ _ _)
      | (with_reducible exact ih4 _ _ _ _ _ _ _ _ _ _ _)
      | (with_reducible exact LeO.refl _)
      | (with_reducible exact LeO.none _)
      | (with_reducible refine LeO.ite ?_ ?_)
      | (with_reducible refine LeO.bind ?_ (fun _ => ?_))
      | exact ih0 _ _ _ _ _ _ _ _ _ _ _ _
      | exact ih1 _ _ _ _ _ _ _ _ _ _ _ _ _
      | exact ih2 _ _ _ _ _ _ _ _ _ _ _ _
      | exact ih3 _ _ _ _ _ _ _ _ _ _ _
      | exact ih4 _ _ _ _ _ _ _ _ _ _ _
      | exact LeO.none _
      | refine LeO.ite ?_ ?_
      | refine LeO.bind ?_ (fun _ => ?_)
theorem switchbackref17_made.mono : ∀ a0 a1 a2 a3 a4 a5 a6 a7 a8 a9 k, LeO (switchbackref17_made.f k a0 a1 a2 a3 a4 a5 a6 a7 a8 a9) (switchbackref17_made.f (k + 1) a0 a1 a2 a3 a4 a5 a6 a7 a8 a9) := by
  intro a0 a1 a2 a3 a4 a5 a6 a7 a8 a9 k
  obtain ⟨ih0, ih1, ih2, ih3, ih4⟩ := switchbackref17_made.mono_l k
  unfold switchbackref17_made.f
  repeat' first
      | (with_reducible exact ih0 _ _ _ _ _ _ _ _ _ _ _ _)
      | (with_reducible exact ih1 _ _ _ _ _ _ _ _ _ _ _ _ _)
      | (with_reducible exact ih2 _ _ _ _ _ _ _ _ _ _ _ _)
      | (with_reducible exact ih3 _ _ _ _ _ _ _ _ _ _ _)
      | (with_reducible exact ih4 _ _ _ _ _ _ _ _ _ _ _)
      | (with_reducible exact LeO.refl _)
      | (with_reducible exact LeO.none _)
      | (with_reducible refine LeO.ite ?_ ?_)
      | (with_reducible refine LeO.bind ?_ (fun _ => ?_))
      | exact ih0 _ _ _ _ _ _ _ _ _ _ _ _
      | exact ih1 _ _ _ _ _ _ _ _ _ _ _ _ _
      | exact ih2 _ _ _ _ _ _ _ _ _ _ _ _
      | exact ih3 _ _ _ _ _ _ _ _ _ _ _
      | exact ih4 _ _ _ _ _ _ _ _ _ _ _
      | exact LeO.none _
      | refine LeO.ite ?_ ?_
      | refine LeO.bind ?_ (fun _ => ?_)

end Go.Proofs.YtamimnaafiphcaaDoor.PR1D
