-- Written by gp.py for this claim.
import Derived.Test.YtamimnaafiphcaaDoorPR1CZ
import Derived.Test.YtamimnaafiphcaaDoorPR1Cx1
import Derived.Test.YtamimnaafiphcaaDoorPR1Cx26
import Derived.Test.YtamimnaafiphcaaDoorPR1Cx30
import Derived.Test.YtamimnaafiphcaaDoorPR1Cx31
import Derived.Test.YtamimnaafiphcaaDoorPR1Cx32
namespace Go.Proofs.YtamimnaafiphcaaDoor.PR1C
open Go.RowKit Go.Proofs.YtamimnaafiphcaaDoorW.PrintWords Go.Proofs.YtamimnaafiphcaaDoorW.PrintLast Go.Proofs.YtamimnaafiphcaaDoorW.PrintMore
attribute [local go_sem] max2_int min2_int max_two min_two max_three min_three max_four min_four   -- for this text's walks alone
set_option linter.unusedVariables false
set_option linter.unusedSimpArgs false

attribute [local go_sem high] eqA44
/-! ### switchbacklaw17_line: function 29 -/
mutual
def lineG.j0 : Nat → List (S40) → Int → Bool → Int → Bool → List Int → List Int → List Int → Int → Int → Int → Int → Int → Int → Int → List Int → Int → Int → Int → Int → Int → Int → Int → Int → Option (Int × Bool)
  | 0, _, _, _, _, _, _, _, _, _, _, _, _, _, _, _, _, _, _, _, _, _, _, _, _ => none
  | k + 1, x0, x3, x14, x15, x16, x175000, x175001, x175002, x175003, x177000, x177001, x177002, x177003, x177004, x177005, x177006, x183000, x183001, x183002, x183003, x184000, x184001, x184002, x184003 => if x14 = true then (lineG.j1 k x0 x3 x14 x15 x16 (x183000 == x177000) x175000 x175001 x175002 x175003 x177000 x177001 x177002 x177003 x177004 x177005 x177006 x183000 x183001 x183002 x183003 x184000 x184001 x184002 x184003) else (lineG.j1 k x0 x3 x14 x15 x16 false x175000 x175001 x175002 x175003 x177000 x177001 x177002 x177003 x177004 x177005 x177006 x183000 x183001 x183002 x183003 x184000 x184001 x184002 x184003)
def lineG.j1 : Nat → List (S40) → Int → Bool → Int → Bool → Bool → List Int → List Int → List Int → Int → Int → Int → Int → Int → Int → Int → List Int → Int → Int → Int → Int → Int → Int → Int → Int → Option (Int × Bool)
  | 0, _, _, _, _, _, _, _, _, _, _, _, _, _, _, _, _, _, _, _, _, _, _, _, _, _ => none
  | k + 1, x0, x3, x14, x15, x16, x55, x175000, x175001, x175002, x175003, x177000, x177001, x177002, x177003, x177004, x177005, x177006, x183000, x183001, x183002, x183003, x184000, x184001, x184002, x184003 => if x55 = true then (if (x183000 == x177000 && (x183001 == x177001 && (x183002 == x177002 && (x183003 == (wrap64 ((wrap64 (x15 - x3)) - 1)))))) = true then ((switchbackref17_Near.f x183003).bind fun t187 => (some (1, t187))) else (some (1, false))) else (if x177000 = 40 then (if (x183000 == 41 && (x183001 == 0 && (x183002 == 0 && (x183003 == 0)))) = true then ((switchbacklaw17_data.f x175000 x175001 x175002 x175003 (wrap64 (x3 + 1)) 2 x15).bind fun t188 => (some (2, t188))) else (some (2, false))) else (if x14 = true then ((switchbacklaw17_code.f k x175000 x175001 x175002 x175003 (wrap64 (x3 + 1))).bind fun bt189 => ((switchbackref17_Other.f x177000).bind fun t195 => (if (x183000 == t195 && (x183001 == x177001 && (x183002 == x177002 && (x183003 == 2)))) = true then (if bt189.2.2.2.2 = true then (if (bt189.1 == 41 && (bt189.2.1 == 0 && (bt189.2.2.1 == 0 && (bt189.2.2.2.1 == 0)))) = true then ((switchbacklaw17_data.f x175000 x175001 x175002 x175003 (wrap64 (x3 + 2)) 2 x15).bind fun t196 => (some (3, t196))) else (some (3, false))) else (some (3, false))) else (some (3, false))))) else (if x16 = true then (if (x183000 == x184000 && (x183001 == x184001 && (x183002 == x184002 && (x183003 == x184003)))) = true then ((switchbacklaw17_data.f x175000 x175001 x175002 x175003 (wrap64 (x3 + 1)) 2 x15).bind fun t197 => (some (2, t197))) else (some (2, false))) else (if x177000 = 2 then (if (x183000 == x184000 && (x183001 == x184001 && (x183002 == x184002 && (x183003 == x184003)))) = true then (if (wrap64 (x3 + 1)) < (x175000.length : Int) then (if 0 ≤ (wrap64 (x3 + 1)) then (if (wrap64 (x3 + 1)) < (x175001.length : Int) then (if (rd x175001 (wrap64 (x3 + 1))) = 2 then (some (2, ((rd x175000 (wrap64 (x3 + 1))) == x177004))) else (some (2, false))) else (none)) else (none)) else (some (2, false))) else (some (2, false))) else (if x177000 = 42 then ((switchbacklaw17_data.f x175000 x175001 x175002 x175003 (wrap64 (x3 + 1)) 3 (x177006.length : Int)).bind fun t200 => (lineG.l0 k x0 x3 t200 0 x175000 x175001 x175002 x175003 x177000 x177001 x177002 x177003 x177004 x177005 x177006 x183000 x183001 x183002 x183003 x184000 x184001 x184002 x184003)) else (some (1, (x183000 == x184000 && (x183001 == x184001 && (x183002 == x184002 && (x183003 == x184003)))))))))))
def lineG.l0 : Nat → List (S40) → Int → Bool → Int → List Int → List Int → List Int → Int → Int → Int → Int → Int → Int → Int → List Int → Int → Int → Int → Int → Int → Int → Int → Int → Option (Int × Bool)
  | 0, _, _, _, _, _, _, _, _, _, _, _, _, _, _, _, _, _, _, _, _, _, _, _ => none
  | k + 1, x0, x3, x19, x20, x175000, x175001, x175002, x175003, x177000, x177001, x177002, x177003, x177004, x177005, x177006, x183000, x183001, x183002, x183003, x184000, x184001, x184002, x184003 => if x20 < (x177006.length : Int) then (lineG.j3 k x0 x3 x19 x20 x19 x175000 x175001 x175002 x175003 x177000 x177001 x177002 x177003 x177004 x177005 x177006 x183000 x183001 x183002 x183003 x184000 x184001 x184002 x184003) else (lineG.j3 k x0 x3 x19 x20 false x175000 x175001 x175002 x175003 x177000 x177001 x177002 x177003 x177004 x177005 x177006 x183000 x183001 x183002 x183003 x184000 x184001 x184002 x184003)
def lineG.j3 : Nat → List (S40) → Int → Bool → Int → Bool → List Int → List Int → List Int → Int → Int → Int → Int → Int → Int → Int → List Int → Int → Int → Int → Int → Int → Int → Int → Int → Option (Int × Bool)
  | 0, _, _, _, _, _, _, _, _, _, _, _, _, _, _, _, _, _, _, _, _, _, _, _, _ => none
  | k + 1, x0, x3, x19, x20, x195, x175000, x175001, x175002, x175003, x177000, x177001, x177002, x177003, x177004, x177005, x177006, x183000, x183001, x183002, x183003, x184000, x184001, x184002, x184003 => if x195 = true then (if 0 ≤ x20 then (if x20 < (x177006.length : Int) then ((switchbacklaw17_at.f k x0 x175000 x175001 x175002 x175003 (rd x177006 x20)).bind fun t202 => ((switchbacklaw17_data.f x175000 x175001 x175002 x175003 (wrap64 ((wrap64 (x3 + 2)) + x20)) 3 t202).bind fun t203 => (lineG.l0 k x0 x3 t203 (wrap64 (x20 + 1)) x175000 x175001 x175002 x175003 x177000 x177001 x177002 x177003 x177004 x177005 x177006 x183000 x183001 x183002 x183003 x184000 x184001 x184002 x184003))) else (none)) else (none)) else (if (x183000 == x184000 && (x183001 == x184001 && (x183002 == x184002 && (x183003 == x184003)))) = true then (some (wrap64 (2 + (x177006.length : Int)), x19)) else (some (wrap64 (2 + (x177006.length : Int)), false)))
end
def lineG.f (k : Nat) (l0 : List (S40)) (l1_0 : List Int) (l1_1 : List Int) (l1_2 : List Int) (a1_3 : Int) (a2 : Int) (a3 : Int) : Option (Int × Bool) := if 0 ≤ a2 then (if a2 < (l0.length : Int) then (if ((rd_T40 l0 a2).f0) = 0 then (some (0, true)) else ((switchbacklaw17_code.f k l1_0 l1_1 l1_2 a1_3 a3).bind fun bt177 => (if bt177.2.2.2.2 = true then ((switchbackref17_Branch.f ((rd_T40 l0 a2).f0) ((rd_T40 l0 a2).f1) ((rd_T40 l0 a2).f2) ((rd_T40 l0 a2).f3) ((rd_T40 l0 a2).f4) ((rd_T40 l0 a2).f5) ((rd_T40 l0 a2).f6)).bind fun t184 => ((switchbackref17_Goes.f ((rd_T40 l0 a2).f0) ((rd_T40 l0 a2).f1) ((rd_T40 l0 a2).f2) ((rd_T40 l0 a2).f3) ((rd_T40 l0 a2).f4) ((rd_T40 l0 a2).f5) ((rd_T40 l0 a2).f6)).bind fun t185 => (if t185 = true then ((switchbacklaw17_at.f k l0 l1_0 l1_1 l1_2 a1_3 ((rd_T40 l0 a2).f5)).bind fun t186 => (lineG.j0 k l0 a3 t184 t186 t185 l1_0 l1_1 l1_2 a1_3 ((rd_T40 l0 a2).f0) ((rd_T40 l0 a2).f1) ((rd_T40 l0 a2).f2) ((rd_T40 l0 a2).f3) ((rd_T40 l0 a2).f4) ((rd_T40 l0 a2).f5) ((rd_T40 l0 a2).f6) bt177.1 bt177.2.1 bt177.2.2.1 bt177.2.2.2.1 ((rd_T40 l0 a2).f0) ((rd_T40 l0 a2).f1) ((rd_T40 l0 a2).f2) ((rd_T40 l0 a2).f3))) else (lineG.j0 k l0 a3 t184 (-1) t185 l1_0 l1_1 l1_2 a1_3 ((rd_T40 l0 a2).f0) ((rd_T40 l0 a2).f1) ((rd_T40 l0 a2).f2) ((rd_T40 l0 a2).f3) ((rd_T40 l0 a2).f4) ((rd_T40 l0 a2).f5) ((rd_T40 l0 a2).f6) bt177.1 bt177.2.1 bt177.2.2.1 bt177.2.2.2.1 ((rd_T40 l0 a2).f0) ((rd_T40 l0 a2).f1) ((rd_T40 l0 a2).f2) ((rd_T40 l0 a2).f3))))) else (some (0, false))))) else (none)) else (none)
theorem lineG.mono_l : ∀ k, (∀ y0 y1 y2 y3 y4 y5 y6 y7 y8 y9 y10 y11 y12 y13 y14 y15 y16 y17 y18 y19 y20 y21 y22 y23, LeO (lineG.j0 k y0 y1 y2 y3 y4 y5 y6 y7 y8 y9 y10 y11 y12 y13 y14 y15 y16 y17 y18 y19 y20 y21 y22 y23) (lineG.j0 (k + 1) y0 y1 y2 y3 y4 y5 y6 y7 y8 y9 y10 y11 y12 y13 y14 y15 y16 y17 y18 y19 y20 y21 y22 y23)) ∧ (∀ y0 y1 y2 y3 y4 y5 y6 y7 y8 y9 y10 y11 y12 y13 y14 y15 y16 y17 y18 y19 y20 y21 y22 y23 y24, LeO (lineG.j1 k y0 y1 y2 y3 y4 y5 y6 y7 y8 y9 y10 y11 y12 y13 y14 y15 y16 y17 y18 y19 y20 y21 y22 y23 y24) (lineG.j1 (k + 1) y0 y1 y2 y3 y4 y5 y6 y7 y8 y9 y10 y11 y12 y13 y14 y15 y16 y17 y18 y19 y20 y21 y22 y23 y24)) ∧ (∀ y0 y1 y2 y3 y4 y5 y6 y7 y8 y9 y10 y11 y12 y13 y14 y15 y16 y17 y18 y19 y20 y21 y22, LeO (lineG.l0 k y0 y1 y2 y3 y4 y5 y6 y7 y8 y9 y10 y11 y12 y13 y14 y15 y16 y17 y18 y19 y20 y21 y22) (lineG.l0 (k + 1) y0 y1 y2 y3 y4 y5 y6 y7 y8 y9 y10 y11 y12 y13 y14 y15 y16 y17 y18 y19 y20 y21 y22)) ∧ (∀ y0 y1 y2 y3 y4 y5 y6 y7 y8 y9 y10 y11 y12 y13 y14 y15 y16 y17 y18 y19 y20 y21 y22 y23, LeO (lineG.j3 k y0 y1 y2 y3 y4 y5 y6 y7 y8 y9 y10 y11 y12 y13 y14 y15 y16 y17 y18 y19 y20 y21 y22 y23) (lineG.j3 (k + 1) y0 y1 y2 y3 y4 y5 y6 y7 y8 y9 y10 y11 y12 y13 y14 y15 y16 y17 y18 y19 y20 y21 y22 y23))
  | 0 => ⟨fun _ _ _ _ _ _ _ _ _ _ _ _ _ _ _ _ _ _ _ _ _ _ _ _ r h => by simp [lineG.j0] at h, fun _ _ _ _ _ _ _ _ _ _ _ _ _ _ _ _ _ _ _ _ _ _ _ _ _ r h => by simp [lineG.j1] at h, fun _ _ _ _ _ _ _ _ _ _ _ _ _ _ _ _ _ _ _ _ _ _ _ r h => by simp [lineG.l0] at h, fun _ _ _ _ _ _ _ _ _ _ _ _ _ _ _ _ _ _ _ _ _ _ _ _ r h => by simp [lineG.j3] at h⟩
  | k + 1 => by
    obtain ⟨ih0, ih1, ih2, ih3⟩ := lineG.mono_l k
    refine ⟨?_, ?_, ?_, ?_⟩
    · intro y0 y1 y2 y3 y4 y5 y6 y7 y8 y9 y10 y11 y12 y13 y14 y15 y16 y17 y18 y19 y20 y21 y22 y23
      unfold lineG.j0
      repeat' first
      | (with_reducible exact ih0 _ _ _ _ _ _ _ _ _ _ _ _ _ _ _ _ _ _ _ _ _ _ _ _)
      | (with_reducible exact ih1 _ _ _ _ _ _ _ _ _ _ _ _ _ _ _ _ _ _ _ _ _ _ _ _ _)
      | (with_reducible exact ih2 _ _ _ _ _ _ _ _ _ _ _ _ _ _ _ _ _ _ _ _ _ _ _)
      | (with_reducible exact ih3 _ _ _ _ _ _ _ _ _ _ _ _ _ _ _ _ _ _ _ _ _ _ _ _)
      | (with_reducible exact switchbacklaw17_at.mono _ _ _ _ _ _ _)
      | (with_reducible exact switchbacklaw17_code.mono _ _ _ _ _ _)
      | (with_reducible exact LeO.refl _)
      | (with_reducible exact LeO.none _)
      | (with_reducible refine LeO.ite ?_ ?_)
      | (with_reducible refine LeO.bind ?_ (fun _ => ?_))
      | exact ih0 _ _ _ _ _ _ _ _ _ _ _ _ _ _ _ _ _ _ _ _ _ _ _ _
      | exact ih1 _ _ _ _ _ _ _ _ _ _ _ _ _ _ _ _ _ _ _ _ _ _ _ _ _
      | exact ih2 _ _ _ _ _ _ _ _ _ _ _ _ _ _ _ _ _ _ _ _ _ _ _
      | exact ih3 _ _ _ _ _ _ _ _ _ _ _ _ _ _ _ _ _ _ _ _ _ _ _ _
      | exact switchbacklaw17_at.mono _ _ _ _ _ _ _
      | exact switchbacklaw17_code.mono _ _ _ _ _ _
      | exact LeO.none _
      | refine LeO.ite ?_ ?_
      | refine LeO.bind ?_ (fun _ => ?_)
    · intro y0 y1 y2 y3 y4 y5 y6 y7 y8 y9 y10 y11 y12 y13 y14 y15 y16 y17 y18 y19 y20 y21 y22 y23 y24
      unfold lineG.j1
      repeat' first
      | (with_reducible exact ih0 _ _ _ _ _ _ _ _ _ _ _ _ _ _ _ _ _ _ _ _ _ _ _ _)
      | (with_reducible exact ih1 _ _ _ _ _ _ _ _ _ _ _ _ _ _ _ _ _ _ _ _ _ _ _ _ _)
      | (with_reducible exact ih2 _ _ _ _ _ _ _ _ _ _ _ _ _ _ _ _ _ _ _ _ _ _ _)
      | (with_reducible exact ih3 _ _ _ _ _ _ _ _ _ _ _ _ _ _ _ _ _ _ _ _ _ _ _ _)
      | (with_reducible exact switchbacklaw17_at.mono _ _ _ _ _ _ _)
      | (with_reducible exact switchbacklaw17_code.mono _ _ _ _ _ _)
      | (with_reducible exact LeO.refl _)
      | (with_reducible exact LeO.none _)
      | (with_reducible refine LeO.ite ?_ ?_)
      | (with_reducible refine LeO.bind ?_ (fun _ => ?_))
      | exact ih0 _ _ _ _ _ _ _ _ _ _ _ _ _ _ _ _ _ _ _ _ _ _ _ _
      | exact ih1 _ _ _ _ _ _ _ _ _ _ _ _ _ _ _ _ _ _ _ _ _ _ _ _ _
      | exact ih2 _ _ _ _ _ _ _ _ _ _ _ _ _ _ _ _ _ _ _ _ _ _ _
      | exact ih3 _ _ _ _ _ _ _ _ _ _ _ _ _ _ _ _ _ _ _ _ _ _ _ _
      | exact switchbacklaw17_at.mono _ _ _ _ _ _ _
      | exact switchbacklaw17_code.mono _ _ _ _ _ _
      | exact LeO.none _
      | refine LeO.ite ?_ ?_
      | refine LeO.bind ?_ (fun _ => ?_)
    · intro y0 y1 y2 y3 y4 y5 y6 y7 y8 y9 y10 y11 y12 y13 y14 y15 y16 y17 y18 y19 y20 y21 y22
      unfold lineG.l0
      repeat' first
      | (with_reducible exact ih0 _ _ _ _ _ _ _ _ _ _ _ _ _ _ _ _ _ _ _ _ _ _ _ _)
      | (with_reducible exact ih1 _ _ _ _ _ _ _ _ _ _ _ _ _ _ _ _ _ _ _ _ _ _ _ _ _)
      | (with_reducible exact ih2 _ _ _ _ _ _ _ _ _ _ _ _ _ _ _ _ _ _ _ _ _ _ _)
      | (with_reducible exact ih3 _ _ _ _ _ _ _ _ _ _ _ _ _ _ _ _ _ _ _ _ _ _ _ _)
      | (with_reducible exact switchbacklaw17_at.mono _ _ _ _ _ _ _)
      | (with_reducible exact switchbacklaw17_code.mono _ _ _ _ _ _)
      | (with_reducible exact LeO.refl _)
      | (with_reducible exact LeO.none _)
      | (with_reducible refine LeO.ite ?_ ?_)
      | (with_reducible refine LeO.bind ?_ (fun _ => ?_))
      | exact ih0 _ _ _ _ _ _ _ _ _ _ _ _ _ _ _ _ _ _ _ _ _ _ _ _
      | exact ih1 _ _ _ _ _ _ _ _ _ _ _ _ _ _ _ _ _ _ _ _ _ _ _ _ _
      | exact ih2 _ _ _ _ _ _ _ _ _ _ _ _ _ _ _ _ _ _ _ _ _ _ _
      | exact ih3 _ _ _ _ _ _ _ _ _ _ _ _ _ _ _ _ _ _ _ _ _ _ _ _
      | exact switchbacklaw17_at.mono _ _ _ _ _ _ _
      | exact switchbacklaw17_code.mono _ _ _ _ _ _
      | exact LeO.none _
      | refine LeO.ite ?_ ?_
      | refine LeO.bind ?_ (fun _ => ?_)
    · intro y0 y1 y2 y3 y4 y5 y6 y7 y8 y9 y10 y11 y12 y13 y14 y15 y16 y17 y18 y19 y20 y21 y22 y23
      unfold lineG.j3
      repeat' first
      | (with_reducible exact ih0 _ _ _ _ _ _ _ _ _ _ _ _ _ _ _ _ _ _ _ _ _ _ _ _)
      | (with_reducible exact ih1 _ _ _ _ _ _ _ _ _ _ _ _ _ _ _ _ _ _ _ _ _ _ _ _ _)
      | (with_reducible exact ih2 _ _ _ _ _ _ _ _ _ _ _ _ _ _ _ _ _ _ _ _ _ _ _)
      | (with_reducible exact ih3 _ _ _ _ _ _ _ _ _ _ _ _ _ _ _ _ _ _ _ _ _ _ _ _)
      | (with_reducible exact switchbacklaw17_at.mono _ _ _ _ _ _ _)
      | (with_reducible exact switchbacklaw17_code.mono _ _ _ _ _ _)
      | (with_reducible exact LeO.refl _)
      | (with_reducible exact LeO.none _)
      | (with_reducible refine LeO.ite ?_ ?_)
      | (with_reducible refine LeO.bind ?_ (fun _ => ?_))
      | exact ih0 _ _ _ _ _ _ _ _ _ _ _ _ _ _ _ _ _ _ _ _ _ _ _ _
      | exact ih1 _ _ _ _ _ _ _ _ _ _ _ _ _ _ _ _ _ _ _ _ _ _ _ _ _
      | exact ih2 _ _ _ _ _ _ _ _ _ _ _ _ _ _ _ _ _ _ _ _ _ _ _
      | exact ih3 _ _ _ _ _ _ _ _ _ _ _ _ _ _ _ _ _ _ _ _ _ _ _ _
      | exact switchbacklaw17_at.mono _ _ _ _ _ _ _
      | exact switchbacklaw17_code.mono _ _ _ _ _ _
      | exact LeO.none _
      | refine LeO.ite ?_ ?_
      | refine LeO.bind ?_ (fun _ => ?_)
theorem lineG.mono : ∀ a0 a1 a2 a3 a4 a5 a6 k, LeO (lineG.f k a0 a1 a2 a3 a4 a5 a6) (lineG.f (k + 1) a0 a1 a2 a3 a4 a5 a6) := by
  intro a0 a1 a2 a3 a4 a5 a6 k
  obtain ⟨ih0, ih1, ih2, ih3⟩ := lineG.mono_l k
  unfold lineG.f
  repeat' first
      | (with_reducible exact ih0 _ _ _ _ _ _ _ _ _ _ _ _ _ _ _ _ _ _ _ _ _ _ _ _)
      | (with_reducible exact ih1 _ _ _ _ _ _ _ _ _ _ _ _ _ _ _ _ _ _ _ _ _ _ _ _ _)
      | (with_reducible exact ih2 _ _ _ _ _ _ _ _ _ _ _ _ _ _ _ _ _ _ _ _ _ _ _)
      | (with_reducible exact ih3 _ _ _ _ _ _ _ _ _ _ _ _ _ _ _ _ _ _ _ _ _ _ _ _)
      | (with_reducible exact switchbacklaw17_at.mono _ _ _ _ _ _ _)
      | (with_reducible exact switchbacklaw17_code.mono _ _ _ _ _ _)
      | (with_reducible exact LeO.refl _)
      | (with_reducible exact LeO.none _)
      | (with_reducible refine LeO.ite ?_ ?_)
      | (with_reducible refine LeO.bind ?_ (fun _ => ?_))
      | exact ih0 _ _ _ _ _ _ _ _ _ _ _ _ _ _ _ _ _ _ _ _ _ _ _ _
      | exact ih1 _ _ _ _ _ _ _ _ _ _ _ _ _ _ _ _ _ _ _ _ _ _ _ _ _
      | exact ih2 _ _ _ _ _ _ _ _ _ _ _ _ _ _ _ _ _ _ _ _ _ _ _
      | exact ih3 _ _ _ _ _ _ _ _ _ _ _ _ _ _ _ _ _ _ _ _ _ _ _ _
      | exact switchbacklaw17_at.mono _ _ _ _ _ _ _
      | exact switchbacklaw17_code.mono _ _ _ _ _ _
      | exact LeO.none _
      | refine LeO.ite ?_ ?_
      | refine LeO.bind ?_ (fun _ => ?_)
def switchbacklaw17_line.f (k : Nat) (l0 : List (S40)) (l1_0 : List Int) (l1_1 : List Int) (l1_2 : List Int) (a1_3 : Int) (a2 : Int) (a3 : Int) : Option (Int × Bool) := (lineG.f k l0 l1_0 l1_1 l1_2 a1_3 a2 a3).bind fun x => if x.2 = true then some x else none
theorem switchbacklaw17_line.mono : ∀ a0 a1 a2 a3 a4 a5 a6 k, LeO (switchbacklaw17_line.f k a0 a1 a2 a3 a4 a5 a6) (switchbacklaw17_line.f (k + 1) a0 a1 a2 a3 a4 a5 a6) := by
  intro a0 a1 a2 a3 a4 a5 a6 k
  unfold switchbacklaw17_line.f
  exact LeO.bind (lineG.mono a0 a1 a2 a3 a4 a5 a6 k) (fun _ => LeO.refl _)

end Go.Proofs.YtamimnaafiphcaaDoor.PR1C
