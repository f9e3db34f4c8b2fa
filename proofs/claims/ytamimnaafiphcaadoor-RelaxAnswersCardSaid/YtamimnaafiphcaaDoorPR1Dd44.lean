-- Written by gp.py for this claim.
import Derived.Test.YtamimnaafiphcaaDoorPR1DZ
import Derived.Test.YtamimnaafiphcaaDoorPR1DX
import Derived.Test.YtamimnaafiphcaaDoorPR1Dd39
import Derived.Test.YtamimnaafiphcaaDoorPR1Dx43
namespace Go.Proofs.YtamimnaafiphcaaDoor.PR1D
open Go.RowKit Go.Proofs.YtamimnaafiphcaaDoorW.PrintWords Go.Proofs.YtamimnaafiphcaaDoorW.PrintLast Go.Proofs.YtamimnaafiphcaaDoorW.PrintMore
attribute [local go_sem] max2_int min2_int max_two min_two max_three min_three max_four min_four   -- for this text's walks alone
set_option linter.unusedVariables false
set_option linter.unusedSimpArgs false

/-! ### switchbacklaw17_RelaxAnswers: function 3 -/
def switchbacklaw17_RelaxAnswers.j0 : Nat → List (S40) → Int → Int → Bool → List Int → List Int → List Int → Int → List Int → List Int → List Int → Int → Option (Bool)
  | 0, _, _, _, _, _, _, _, _, _, _, _, _ => none
  | k + 1, x3, x8, x9, x50, x326000, x326001, x326002, x326003, x339000, x339001, x339002, x339003 => if x50 = true then (some false) else ((switchbacklaw17_written.f k x326000 x326001 x326002 x326003).bind fun t342 => ((relax_Assemble.f x3).bind fun bt343 => (if bt343.2.2.2.2.1 = x8 then (if bt343.2.2.2.2.2 = x9 then ((switchbacklaw17_Same.f bt343.1 bt343.2.1 bt343.2.2.1 bt343.2.2.2.1 x339000 x339001 x339002 x339003).bind fun t356 => (some t356)) else (some false)) else (some false))))
def switchbacklaw17_RelaxAnswers.f (k : Nat) (l0 : List (S40)) : Option (Bool) := (switchbacklaw17_Copy.f k l0).bind fun t310 => ((relax_Assemble.f t310).bind fun bt313 => ((switchbackref17_Assemble.f k l0).bind fun bt326 => ((switchbacklaw17_live.f).bind fun t339 => (if t339 = true then (if bt313.2.2.2.2.1 = bt326.2.2.2.2.1 then (if bt313.2.2.2.2.2 = bt326.2.2.2.2.2 then ((switchbacklaw17_Same.f bt313.1 bt313.2.1 bt313.2.2.1 bt313.2.2.2.1 bt326.1 bt326.2.1 bt326.2.2.1 bt326.2.2.2.1).bind fun t340 => (if t340 = true then ((switchbacklaw17_SameLines.f t310 l0).bind fun t341 => (switchbacklaw17_RelaxAnswers.j0 k t310 bt326.2.2.2.2.1 bt326.2.2.2.2.2 (!t341) bt313.1 bt313.2.1 bt313.2.2.1 bt313.2.2.2.1 bt326.1 bt326.2.1 bt326.2.2.1 bt326.2.2.2.1)) else (switchbacklaw17_RelaxAnswers.j0 k t310 bt326.2.2.2.2.1 bt326.2.2.2.2.2 true bt313.1 bt313.2.1 bt313.2.2.1 bt313.2.2.2.1 bt326.1 bt326.2.1 bt326.2.2.1 bt326.2.2.2.1))) else (switchbacklaw17_RelaxAnswers.j0 k t310 bt326.2.2.2.2.1 bt326.2.2.2.2.2 true bt313.1 bt313.2.1 bt313.2.2.1 bt313.2.2.2.1 bt326.1 bt326.2.1 bt326.2.2.1 bt326.2.2.2.1)) else (switchbacklaw17_RelaxAnswers.j0 k t310 bt326.2.2.2.2.1 bt326.2.2.2.2.2 true bt313.1 bt313.2.1 bt313.2.2.1 bt313.2.2.2.1 bt326.1 bt326.2.1 bt326.2.2.1 bt326.2.2.2.1)) else (switchbacklaw17_RelaxAnswers.j0 k t310 bt326.2.2.2.2.1 bt326.2.2.2.2.2 true bt313.1 bt313.2.1 bt313.2.2.1 bt313.2.2.2.1 bt326.1 bt326.2.1 bt326.2.2.1 bt326.2.2.2.1)))))
theorem switchbacklaw17_RelaxAnswers.mono_l : ∀ k, (∀ y0 y1 y2 y3 y4 y5 y6 y7 y8 y9 y10 y11, LeO (switchbacklaw17_RelaxAnswers.j0 k y0 y1 y2 y3 y4 y5 y6 y7 y8 y9 y10 y11) (switchbacklaw17_RelaxAnswers.j0 (k + 1) y0 y1 y2 y3 y4 y5 y6 y7 y8 y9 y10 y11))
  | 0 => fun _ _ _ _ _ _ _ _ _ _ _ _ r h => by simp [switchbacklaw17_RelaxAnswers.j0] at h
  | k + 1 => by
    have ih0 := switchbacklaw17_RelaxAnswers.mono_l k
    · intro y0 y1 y2 y3 y4 y5 y6 y7 y8 y9 y10 y11
      unfold switchbacklaw17_RelaxAnswers.j0
      repeat' first
      | (with_reducible exact ih0 _ _ _ _ _ _ _ _ _ _ _ _)
      | (with_reducible exact switchbacklaw17_Copy.mono _ _)
      | (with_reducible exact switchbacklaw17_written.mono _ _ _ _ _)
      | (with_reducible exact switchbackref17_Assemble.mono _ _)
      | (with_reducible exact LeO.refl _)
      | (with_reducible exact LeO.none _)
      | (with_reducible refine LeO.ite ?_ ?_)
      | (with_reducible refine LeO.bind ?_ (fun _ => ?_))
      | exact ih0 _ _ _ _ _ _ _ _ _ _ _ _
      | exact switchbacklaw17_Copy.mono _ _
      | exact switchbacklaw17_written.mono _ _ _ _ _
      | exact switchbackref17_Assemble.mono _ _
      | exact LeO.none _
      | refine LeO.ite ?_ ?_
      | refine LeO.bind ?_ (fun _ => ?_)
theorem switchbacklaw17_RelaxAnswers.mono : ∀ a0 k, LeO (switchbacklaw17_RelaxAnswers.f k a0) (switchbacklaw17_RelaxAnswers.f (k + 1) a0) := by
  intro a0 k
  have ih0 := switchbacklaw17_RelaxAnswers.mono_l k
  unfold switchbacklaw17_RelaxAnswers.f
  repeat' first
      | (with_reducible exact ih0 _ _ _ _ _ _ _ _ _ _ _ _)
      | (with_reducible exact switchbacklaw17_Copy.mono _ _)
      | (with_reducible exact switchbacklaw17_written.mono _ _ _ _ _)
      | (with_reducible exact switchbackref17_Assemble.mono _ _)
      | (with_reducible exact LeO.refl _)
      | (with_reducible exact LeO.none _)
      | (with_reducible refine LeO.ite ?_ ?_)
      | (with_reducible refine LeO.bind ?_ (fun _ => ?_))
      | exact ih0 _ _ _ _ _ _ _ _ _ _ _ _
      | exact switchbacklaw17_Copy.mono _ _
      | exact switchbacklaw17_written.mono _ _ _ _ _
      | exact switchbackref17_Assemble.mono _ _
      | exact LeO.none _
      | refine LeO.ite ?_ ?_
      | refine LeO.bind ?_ (fun _ => ?_)

end Go.Proofs.YtamimnaafiphcaaDoor.PR1D
