-- Written by gp.py for this claim.
import Derived.Test.YtamimnaafiphcaaDoorPR18x0
import Derived.Test.YtamimnaafiphcaaDoorPR18x2
import Derived.Test.YtamimnaafiphcaaDoorPR18x21
import Derived.Test.YtamimnaafiphcaaDoorPR18x41
import Derived.Test.YtamimnaafiphcaaDoorPR18x44
import Derived.Test.YtamimnaafiphcaaDoorPR18x45
namespace Go.Proofs.YtamimnaafiphcaaDoor.PR18
open Go.RowKit Go.Proofs.YtamimnaafiphcaaDoorW.PrintWords Go.Proofs.YtamimnaafiphcaaDoorW.PrintLast Go.Proofs.YtamimnaafiphcaaDoorW.PrintMore
attribute [local go_sem] max2_int min2_int max_two min_two max_three min_three max_four min_four   -- for this text's walks alone
set_option linter.unusedVariables false
set_option linter.unusedSimpArgs false

attribute [local go_sem high] eqA62
/-! ### switchbacklaw18_EmuFuel: function 11 -/
mutual
def switchbacklaw18_EmuFuel.j0 : Nat → Int → Int → Int → Int → Int → Bool → Int → Int → ByteArray → Int → Int → Int → ByteArray → Int → Int → Int → ByteArray → Int → Option (Bool)
  | 0, _, _, _, _, _, _, _, _, _, _, _, _, _, _, _, _, _, _ => none
  | k + 1, x2, x3, x10, x12, x14, x56, x199000, x199001, x199002, x199003, x205000, x205001, x205002, x205003, x212000, x212001, x212002, x212003 => if x56 = true then ((switchbacklaw18_live.f).bind fun t212 => (if t212 = true then (if x10 = x12 then (if x10 = x14 then (some (x199000 == 0 && (x199001 == 0 && (x199002.toList == ([] : List UInt8) && (x199003 == 0))))) else (some false)) else (some false)) else (some false))) else (if x199000 = 3 then (if x199003 = x2 then (switchbacklaw18_EmuFuel.j1 k x3 (decide (x199003 > x2)) x199000 x199001 x199002 x199003 x205000 x205001 x205002 x205003 x212000 x212001 x212002 x212003) else (switchbacklaw18_EmuFuel.j1 k x3 true x199000 x199001 x199002 x199003 x205000 x205001 x205002 x205003 x212000 x212001 x212002 x212003)) else (if (!(x212000 == x199000) || (!(x212001 == x199001) || (!(x212002.toList == x199002.toList) || (!(x212003 == x199003))))) = true then (switchbacklaw18_EmuFuel.j1 k x3 true x199000 x199001 x199002 x199003 x205000 x205001 x205002 x205003 x212000 x212001 x212002 x212003) else (if x199003 < 1 then (switchbacklaw18_EmuFuel.j1 k x3 true x199000 x199001 x199002 x199003 x205000 x205001 x205002 x205003 x212000 x212001 x212002 x212003) else (switchbacklaw18_EmuFuel.j1 k x3 (decide (x199003 > x2)) x199000 x199001 x199002 x199003 x205000 x205001 x205002 x205003 x212000 x212001 x212002 x212003))))
def switchbacklaw18_EmuFuel.j1 : Nat → Int → Bool → Int → Int → ByteArray → Int → Int → Int → ByteArray → Int → Int → Int → ByteArray → Int → Option (Bool)
  | 0, _, _, _, _, _, _, _, _, _, _, _, _, _, _ => none
  | k + 1, x3, x102, x199000, x199001, x199002, x199003, x205000, x205001, x205002, x205003, x212000, x212001, x212002, x212003 => if x102 = true then (some false) else (if x199000 = 3 then (switchbacklaw18_EmuFuel.j2 k x3 false x199000 x199001 x199002 x199003 x205000 x205001 x205002 x205003 x212000 x212001 x212002 x212003) else (switchbacklaw18_EmuFuel.j2 k x3 (decide (x3 ≥ x199003)) x199000 x199001 x199002 x199003 x205000 x205001 x205002 x205003 x212000 x212001 x212002 x212003))
def switchbacklaw18_EmuFuel.j2 : Nat → Int → Bool → Int → Int → ByteArray → Int → Int → Int → ByteArray → Int → Int → Int → ByteArray → Int → Option (Bool)
  | 0, _, _, _, _, _, _, _, _, _, _, _, _, _, _ => none
  | k + 1, x3, x111, x199000, x199001, x199002, x199003, x205000, x205001, x205002, x205003, x212000, x212001, x212002, x212003 => if x111 = true then ((switchbacklaw18_live.f).bind fun t213 => (if t213 = true then (some (x205000 == x199000 && (x205001 == x199001 && (x205002.toList == x199002.toList && (x205003 == x199003))))) else (some false))) else ((switchbacklaw18_live.f).bind fun t214 => (if t214 = true then (if x205000 = 3 then (if x205001 = 0 then (if x205003 = x3 then ((switchbacklaw18_begins.f x205002 x199002).bind fun t215 => (if t215 = true then ((switchbacklaw18_begins.f x199002 x212002).bind fun t216 => (some t216)) else (some false))) else (some false)) else (some false)) else (some false)) else (some false)))
end
def switchbacklaw18_EmuFuel.f (k : Nat) (l0_0 : List Int) (l0_1 : List Int) (l0_2 : List Int) (a0_3 : Int) (a1 : ByteArray) (a2 : Int) (a3 : Int) : Option (Bool) := (switchbacklaw18_pick.f a2 30000).bind fun t191 => ((switchbacklaw18_pick.f a3 (wrap64 (t191 + 1))).bind fun t192 => ((emu_Run.f l0_0 l0_1 l0_2 a0_3 a1 t191).bind fun bt193 => ((emu_Run.f l0_0 l0_1 l0_2 a0_3 a1 t192).bind fun bt199 => ((switchbacklaw18_pick.f t192 100).bind fun t205 => ((emu_Run.f l0_0 l0_1 l0_2 a0_3 a1 (wrap64 (t191 + t205))).bind fun bt206 => (if bt193.2.2.2.2 = bt199.2.2.2.2 then (if bt193.2.2.2.2 = bt206.2.2.2.2 then (switchbacklaw18_EmuFuel.j0 k t191 t192 bt193.2.2.2.2 bt199.2.2.2.2 bt206.2.2.2.2 (bt193.2.2.2.2 != 0) bt193.1 bt193.2.1 bt193.2.2.1 bt193.2.2.2.1 bt199.1 bt199.2.1 bt199.2.2.1 bt199.2.2.2.1 bt206.1 bt206.2.1 bt206.2.2.1 bt206.2.2.2.1) else (switchbacklaw18_EmuFuel.j0 k t191 t192 bt193.2.2.2.2 bt199.2.2.2.2 bt206.2.2.2.2 true bt193.1 bt193.2.1 bt193.2.2.1 bt193.2.2.2.1 bt199.1 bt199.2.1 bt199.2.2.1 bt199.2.2.2.1 bt206.1 bt206.2.1 bt206.2.2.1 bt206.2.2.2.1)) else (switchbacklaw18_EmuFuel.j0 k t191 t192 bt193.2.2.2.2 bt199.2.2.2.2 bt206.2.2.2.2 true bt193.1 bt193.2.1 bt193.2.2.1 bt193.2.2.2.1 bt199.1 bt199.2.1 bt199.2.2.1 bt199.2.2.2.1 bt206.1 bt206.2.1 bt206.2.2.1 bt206.2.2.2.1)))))))
theorem switchbacklaw18_EmuFuel.mono_l : ∀ k, (∀ y0 y1 y2 y3 y4 y5 y6 y7 y8 y9 y10 y11 y12 y13 y14 y15 y16 y17, LeO (switchbacklaw18_EmuFuel.j0 k y0 y1 y2 y3 y4 y5 y6 y7 y8 y9 y10 y11 y12 y13 y14 y15 y16 y17) (switchbacklaw18_EmuFuel.j0 (k + 1) y0 y1 y2 y3 y4 y5 y6 y7 y8 y9 y10 y11 y12 y13 y14 y15 y16 y17)) ∧ (∀ y0 y1 y2 y3 y4 y5 y6 y7 y8 y9 y10 y11 y12 y13, LeO (switchbacklaw18_EmuFuel.j1 k y0 y1 y2 y3 y4 y5 y6 y7 y8 y9 y10 y11 y12 y13) (switchbacklaw18_EmuFuel.j1 (k + 1) y0 y1 y2 y3 y4 y5 y6 y7 y8 y9 y10 y11 y12 y13)) ∧ (∀ y0 y1 y2 y3 y4 y5 y6 y7 y8 y9 y10 y11 y12 y13, LeO (switchbacklaw18_EmuFuel.j2 k y0 y1 y2 y3 y4 y5 y6 y7 y8 y9 y10 y11 y12 y13) (switchbacklaw18_EmuFuel.j2 (k + 1) y0 y1 y2 y3 y4 y5 y6 y7 y8 y9 y10 y11 y12 y13))
  | 0 => ⟨fun _ _ _ _ _ _ _ _ _ _ _ _ _ _ _ _ _ _ r h => by simp [switchbacklaw18_EmuFuel.j0] at h, fun _ _ _ _ _ _ _ _ _ _ _ _ _ _ r h => by simp [switchbacklaw18_EmuFuel.j1] at h, fun _ _ _ _ _ _ _ _ _ _ _ _ _ _ r h => by simp [switchbacklaw18_EmuFuel.j2] at h⟩
  | k + 1 => by
    obtain ⟨ih0, ih1, ih2⟩ := switchbacklaw18_EmuFuel.mono_l k
    refine ⟨?_, ?_, ?_⟩
    · intro y0 y1 y2 y3 y4 y5 y6 y7 y8 y9 y10 y11 y12 y13 y14 y15 y16 y17
      unfold switchbacklaw18_EmuFuel.j0
      repeat' first
      | (with_reducible exact ih0 _ _ _ _ _ _ _ _ _ _ _ _ _ _ _ _ _ _)
      | (with_reducible exact ih1 _ _ _ _ _ _ _ _ _ _ _ _ _ _)
      | (with_reducible exact ih2 _ _ _ _ _ _ _ _ _ _ _ _ _ _)
      | (with_reducible exact LeO.refl _)
      | (with_reducible exact LeO.none _)
      | (with_reducible refine LeO.ite ?_ ?_)
      | (with_reducible refine LeO.bind ?_ (fun _ => ?_))
      | exact ih0 _ _ _ _ _ _ _ _ _ _ _ _ _ _ _ _ _ _
      | exact ih1 _ _ _ _ _ _ _ _ _ _ _ _ _ _
      | exact ih2 _ _ _ _ _ _ _ _ _ _ _ _ _ _
      | exact LeO.none _
      | refine LeO.ite ?_ ?_
      | refine LeO.bind ?_ (fun _ => ?_)
    · intro y0 y1 y2 y3 y4 y5 y6 y7 y8 y9 y10 y11 y12 y13
      unfold switchbacklaw18_EmuFuel.j1
      repeat' first
      | (with_reducible exact ih0 _ _ _ _ _ _ _ _ _ _ _ _ _ _ _ _ _ _)
      | (with_reducible exact ih1 _ _ _ _ _ _ _ _ _ _ _ _ _ _)
      | (with_reducible exact ih2 _ _ _ _ _ _ _ _ _ _ _ _ _ _)
      | (with_reducible exact LeO.refl _)
      | (with_reducible exact LeO.none _)
      | (with_reducible refine LeO.ite ?_ ?_)
      | (with_reducible refine LeO.bind ?_ (fun _ => ?_))
      | exact ih0 _ _ _ _ _ _ _ _ _ _ _ _ _ _ _ _ _ _
      | exact ih1 _ _ _ _ _ _ _ _ _ _ _ _ _ _
      | exact ih2 _ _ _ _ _ _ _ _ _ _ _ _ _ _
      | exact LeO.none _
      | refine LeO.ite ?_ ?_
      | refine LeO.bind ?_ (fun _ => ?_)
    · intro y0 y1 y2 y3 y4 y5 y6 y7 y8 y9 y10 y11 y12 y13
      unfold switchbacklaw18_EmuFuel.j2
      repeat' first
      | (with_reducible exact ih0 _ _ _ _ _ _ _ _ _ _ _ _ _ _ _ _ _ _)
      | (with_reducible exact ih1 _ _ _ _ _ _ _ _ _ _ _ _ _ _)
      | (with_reducible exact ih2 _ _ _ _ _ _ _ _ _ _ _ _ _ _)
      | (with_reducible exact LeO.refl _)
      | (with_reducible exact LeO.none _)
      | (with_reducible refine LeO.ite ?_ ?_)
      | (with_reducible refine LeO.bind ?_ (fun _ => ?_))
      | exact ih0 _ _ _ _ _ _ _ _ _ _ _ _ _ _ _ _ _ _
      | exact ih1 _ _ _ _ _ _ _ _ _ _ _ _ _ _
      | exact ih2 _ _ _ _ _ _ _ _ _ _ _ _ _ _
      | exact LeO.none _
      | refine LeO.ite ?_ ?_
      | refine LeO.bind ?_ (fun _ => ?_)
theorem switchbacklaw18_EmuFuel.mono : ∀ a0 a1 a2 a3 a4 a5 a6 k, LeO (switchbacklaw18_EmuFuel.f k a0 a1 a2 a3 a4 a5 a6) (switchbacklaw18_EmuFuel.f (k + 1) a0 a1 a2 a3 a4 a5 a6) := by
  intro a0 a1 a2 a3 a4 a5 a6 k
  obtain ⟨ih0, ih1, ih2⟩ := switchbacklaw18_EmuFuel.mono_l k
  unfold switchbacklaw18_EmuFuel.f
  repeat' first
      | (with_reducible exact ih0 _ _ _ _ _ _ _ _ _ _ _ _ _ _ _ _ _ _)
      | (with_reducible exact ih1 _ _ _ _ _ _ _ _ _ _ _ _ _ _)
      | (with_reducible exact ih2 _ _ _ _ _ _ _ _ _ _ _ _ _ _)
      | (with_reducible exact LeO.refl _)
      | (with_reducible exact LeO.none _)
      | (with_reducible refine LeO.ite ?_ ?_)
      | (with_reducible refine LeO.bind ?_ (fun _ => ?_))
      | exact ih0 _ _ _ _ _ _ _ _ _ _ _ _ _ _ _ _ _ _
      | exact ih1 _ _ _ _ _ _ _ _ _ _ _ _ _ _
      | exact ih2 _ _ _ _ _ _ _ _ _ _ _ _ _ _
      | exact LeO.none _
      | refine LeO.ite ?_ ?_
      | refine LeO.bind ?_ (fun _ => ?_)
def switchbacklaw18_EmuFuel.T5 : Bool × List (List Nat × List Nat) := (true, [([], []), ([], []), ([], []), ([], []), ([3], [3]), ([2, 4], [2, 4]), ([0, 1, 5, 4], [0, 1, 5]), ([6], [6]), ([7], [7]), ([7], [7]), ([], []), ([10, 8, 6, 0, 1, 2, 3, 4, 5, 6, 7, 8, 10], [8, 10]), ([9, 11, 0, 1, 2, 3, 4, 5, 6, 7, 8, 9, 10, 11], [9])])
def switchbacklaw18_EmuFuel.B5 : List Nat := [0, 0, 0, 0, 8, 28, 63, 127, 255, 255, 0, 1535, 4095]
theorem switchbacklaw18_EmuFuel.tab5 : rtab .any (opsOf Tryd.f11 5) = switchbacklaw18_EmuFuel.T5 := by kernel_rfl
theorem switchbacklaw18_EmuFuel.bits5 : waitsOk switchbacklaw18_EmuFuel.T5.2 switchbacklaw18_EmuFuel.B5 = true := by kernel_rfl
set_option maxHeartbeats 8000000 in
set_option maxRecDepth 100000 in
theorem switchbacklaw18_EmuFuel.calls (k : Nat) (A0_0 : Option Addr) (c0_0 : Nat) (l0_0 : List Int) (A0_1 : Option Addr) (c0_1 : Nat) (l0_1 : List Int) (A0_2 : Option Addr) (c0_2 : Nat) (l0_2 : List Int) (a0_3 : Int) (a1 : ByteArray) (a2 : Int) (a3 : Int) (r : Bool) (w : World) (hr0_0 : Kd.C (Kd.int .u32) w A0_0 l0_0.length l0_0) (hc0_0 : l0_0.length ≤ c0_0) (hr0_1 : Kd.C (Kd.int .i64) w A0_1 l0_1.length l0_1) (hc0_1 : l0_1.length ≤ c0_1) (hr0_2 : Kd.C (Kd.int .u32) w A0_2 l0_2.length l0_2) (hc0_2 : l0_2.length ≤ c0_2) (hLaid_ : Aside0 (Laid w)) (h : switchbacklaw18_EmuFuel.f k l0_0 l0_1 l0_2 a0_3 a1 a2 a3 = some r) :
    Calls Tryd.prog 11 #[.agg #[.slice A0_0 l0_0.length c0_0, .slice A0_1 l0_1.length c0_1, .slice A0_2 l0_2.length c0_2, .int .i64 a0_3], .string a1, .int .i64 a2, .int .i64 a3] w fun e w' => e = .returned (.bool r) ∧ Below w.heap.size w w' := by
  have hu59 := Tryd.underlying59
  have hu62 := Tryd.underlying62
  have HR0_0 := Aside0.mk hr0_0
  have HC0_0 := Aside0.mk hc0_0
  clear hr0_0 hc0_0
  have HR0_1 := Aside0.mk hr0_1
  have HC0_1 := Aside0.mk hc0_1
  clear hr0_1 hc0_1
  have HR0_2 := Aside0.mk hr0_2
  have HC0_2 := Aside0.mk hc0_2
  clear hr0_2 hc0_2
  have HB := Aside0.mk (Below.refl w.heap.size w)
  have H : ((switchbacklaw18_pick.f a2 30000).bind fun t191 => ((switchbacklaw18_pick.f a3 (wrap64 (t191 + 1))).bind fun t192 => ((emu_Run.f l0_0 l0_1 l0_2 a0_3 a1 t191).bind fun bt193 => ((emu_Run.f l0_0 l0_1 l0_2 a0_3 a1 t192).bind fun bt199 => ((switchbacklaw18_pick.f t192 100).bind fun t205 => ((emu_Run.f l0_0 l0_1 l0_2 a0_3 a1 (wrap64 (t191 + t205))).bind fun bt206 => (if bt193.2.2.2.2 = bt199.2.2.2.2 then (if bt193.2.2.2.2 = bt206.2.2.2.2 then (switchbacklaw18_EmuFuel.j0 k t191 t192 bt193.2.2.2.2 bt199.2.2.2.2 bt206.2.2.2.2 (bt193.2.2.2.2 != 0) bt193.1 bt193.2.1 bt193.2.2.1 bt193.2.2.2.1 bt199.1 bt199.2.1 bt199.2.2.1 bt199.2.2.2.1 bt206.1 bt206.2.1 bt206.2.2.1 bt206.2.2.2.1) else (switchbacklaw18_EmuFuel.j0 k t191 t192 bt193.2.2.2.2 bt199.2.2.2.2 bt206.2.2.2.2 true bt193.1 bt193.2.1 bt193.2.2.1 bt193.2.2.2.1 bt199.1 bt199.2.1 bt199.2.2.1 bt199.2.2.2.1 bt206.1 bt206.2.1 bt206.2.2.1 bt206.2.2.2.1)) else (switchbacklaw18_EmuFuel.j0 k t191 t192 bt193.2.2.2.2 bt199.2.2.2.2 bt206.2.2.2.2 true bt193.1 bt193.2.1 bt193.2.2.1 bt193.2.2.2.1 bt199.1 bt199.2.1 bt199.2.2.1 bt199.2.2.2.1 bt206.1 bt206.2.1 bt206.2.2.1 bt206.2.2.2.1)))))))) = some r := h
  clear h
  replace H := Option.bind_eq_some_iff.mp H
  obtain ⟨t191, A50, H⟩ := H
  replace H : ((switchbacklaw18_pick.f a3 (wrap64 (t191 + 1))).bind fun t192 => ((emu_Run.f l0_0 l0_1 l0_2 a0_3 a1 t191).bind fun bt193 => ((emu_Run.f l0_0 l0_1 l0_2 a0_3 a1 t192).bind fun bt199 => ((switchbacklaw18_pick.f t192 100).bind fun t205 => ((emu_Run.f l0_0 l0_1 l0_2 a0_3 a1 (wrap64 (t191 + t205))).bind fun bt206 => (if bt193.2.2.2.2 = bt199.2.2.2.2 then (if bt193.2.2.2.2 = bt206.2.2.2.2 then (switchbacklaw18_EmuFuel.j0 k t191 t192 bt193.2.2.2.2 bt199.2.2.2.2 bt206.2.2.2.2 (bt193.2.2.2.2 != 0) bt193.1 bt193.2.1 bt193.2.2.1 bt193.2.2.2.1 bt199.1 bt199.2.1 bt199.2.2.1 bt199.2.2.2.1 bt206.1 bt206.2.1 bt206.2.2.1 bt206.2.2.2.1) else (switchbacklaw18_EmuFuel.j0 k t191 t192 bt193.2.2.2.2 bt199.2.2.2.2 bt206.2.2.2.2 true bt193.1 bt193.2.1 bt193.2.2.1 bt193.2.2.2.1 bt199.1 bt199.2.1 bt199.2.2.1 bt199.2.2.2.1 bt206.1 bt206.2.1 bt206.2.2.1 bt206.2.2.2.1)) else (switchbacklaw18_EmuFuel.j0 k t191 t192 bt193.2.2.2.2 bt199.2.2.2.2 bt206.2.2.2.2 true bt193.1 bt193.2.1 bt193.2.2.1 bt193.2.2.2.1 bt199.1 bt199.2.1 bt199.2.2.1 bt199.2.2.2.1 bt206.1 bt206.2.1 bt206.2.2.1 bt206.2.2.2.1))))))) = some r := H
  have A5 := Aside0.mk A50
  clear A50
  replace H := Option.bind_eq_some_iff.mp H
  obtain ⟨t192, A60, H⟩ := H
  replace H : ((emu_Run.f l0_0 l0_1 l0_2 a0_3 a1 t191).bind fun bt193 => ((emu_Run.f l0_0 l0_1 l0_2 a0_3 a1 t192).bind fun bt199 => ((switchbacklaw18_pick.f t192 100).bind fun t205 => ((emu_Run.f l0_0 l0_1 l0_2 a0_3 a1 (wrap64 (t191 + t205))).bind fun bt206 => (if bt193.2.2.2.2 = bt199.2.2.2.2 then (if bt193.2.2.2.2 = bt206.2.2.2.2 then (switchbacklaw18_EmuFuel.j0 k t191 t192 bt193.2.2.2.2 bt199.2.2.2.2 bt206.2.2.2.2 (bt193.2.2.2.2 != 0) bt193.1 bt193.2.1 bt193.2.2.1 bt193.2.2.2.1 bt199.1 bt199.2.1 bt199.2.2.1 bt199.2.2.2.1 bt206.1 bt206.2.1 bt206.2.2.1 bt206.2.2.2.1) else (switchbacklaw18_EmuFuel.j0 k t191 t192 bt193.2.2.2.2 bt199.2.2.2.2 bt206.2.2.2.2 true bt193.1 bt193.2.1 bt193.2.2.1 bt193.2.2.2.1 bt199.1 bt199.2.1 bt199.2.2.1 bt199.2.2.2.1 bt206.1 bt206.2.1 bt206.2.2.1 bt206.2.2.2.1)) else (switchbacklaw18_EmuFuel.j0 k t191 t192 bt193.2.2.2.2 bt199.2.2.2.2 bt206.2.2.2.2 true bt193.1 bt193.2.1 bt193.2.2.1 bt193.2.2.2.1 bt199.1 bt199.2.1 bt199.2.2.1 bt199.2.2.2.1 bt206.1 bt206.2.1 bt206.2.2.1 bt206.2.2.2.1)))))) = some r := H
  have A6 := Aside0.mk A60
  clear A60
  replace H := Option.bind_eq_some_iff.mp H
  obtain ⟨⟨t193, t194, t195, t196, t197⟩, A70, H⟩ := H
  replace H : ((emu_Run.f l0_0 l0_1 l0_2 a0_3 a1 t192).bind fun bt199 => ((switchbacklaw18_pick.f t192 100).bind fun t205 => ((emu_Run.f l0_0 l0_1 l0_2 a0_3 a1 (wrap64 (t191 + t205))).bind fun bt206 => (if t197 = bt199.2.2.2.2 then (if t197 = bt206.2.2.2.2 then (switchbacklaw18_EmuFuel.j0 k t191 t192 t197 bt199.2.2.2.2 bt206.2.2.2.2 (t197 != 0) t193 t194 t195 t196 bt199.1 bt199.2.1 bt199.2.2.1 bt199.2.2.2.1 bt206.1 bt206.2.1 bt206.2.2.1 bt206.2.2.2.1) else (switchbacklaw18_EmuFuel.j0 k t191 t192 t197 bt199.2.2.2.2 bt206.2.2.2.2 true t193 t194 t195 t196 bt199.1 bt199.2.1 bt199.2.2.1 bt199.2.2.2.1 bt206.1 bt206.2.1 bt206.2.2.1 bt206.2.2.2.1)) else (switchbacklaw18_EmuFuel.j0 k t191 t192 t197 bt199.2.2.2.2 bt206.2.2.2.2 true t193 t194 t195 t196 bt199.1 bt199.2.1 bt199.2.2.1 bt199.2.2.2.1 bt206.1 bt206.2.1 bt206.2.2.1 bt206.2.2.2.1))))) = some r := H
  have A7 := Aside0.mk A70
  clear A70
  replace H := Option.bind_eq_some_iff.mp H
  obtain ⟨⟨t199, t200, t201, t202, t203⟩, A80, H⟩ := H
  replace H : ((switchbacklaw18_pick.f t192 100).bind fun t205 => ((emu_Run.f l0_0 l0_1 l0_2 a0_3 a1 (wrap64 (t191 + t205))).bind fun bt206 => (if t197 = t203 then (if t197 = bt206.2.2.2.2 then (switchbacklaw18_EmuFuel.j0 k t191 t192 t197 t203 bt206.2.2.2.2 (t197 != 0) t193 t194 t195 t196 t199 t200 t201 t202 bt206.1 bt206.2.1 bt206.2.2.1 bt206.2.2.2.1) else (switchbacklaw18_EmuFuel.j0 k t191 t192 t197 t203 bt206.2.2.2.2 true t193 t194 t195 t196 t199 t200 t201 t202 bt206.1 bt206.2.1 bt206.2.2.1 bt206.2.2.2.1)) else (switchbacklaw18_EmuFuel.j0 k t191 t192 t197 t203 bt206.2.2.2.2 true t193 t194 t195 t196 t199 t200 t201 t202 bt206.1 bt206.2.1 bt206.2.2.1 bt206.2.2.2.1)))) = some r := H
  have A8 := Aside0.mk A80
  clear A80
  replace H := Option.bind_eq_some_iff.mp H
  obtain ⟨t205, A90, H⟩ := H
  replace H : ((emu_Run.f l0_0 l0_1 l0_2 a0_3 a1 (wrap64 (t191 + t205))).bind fun bt206 => (if t197 = t203 then (if t197 = bt206.2.2.2.2 then (switchbacklaw18_EmuFuel.j0 k t191 t192 t197 t203 bt206.2.2.2.2 (t197 != 0) t193 t194 t195 t196 t199 t200 t201 t202 bt206.1 bt206.2.1 bt206.2.2.1 bt206.2.2.2.1) else (switchbacklaw18_EmuFuel.j0 k t191 t192 t197 t203 bt206.2.2.2.2 true t193 t194 t195 t196 t199 t200 t201 t202 bt206.1 bt206.2.1 bt206.2.2.1 bt206.2.2.2.1)) else (switchbacklaw18_EmuFuel.j0 k t191 t192 t197 t203 bt206.2.2.2.2 true t193 t194 t195 t196 t199 t200 t201 t202 bt206.1 bt206.2.1 bt206.2.2.1 bt206.2.2.2.1))) = some r := H
  have A9 := Aside0.mk A90
  clear A90
  replace H := Option.bind_eq_some_iff.mp H
  obtain ⟨⟨t206, t207, t208, t209, t210⟩, A100, H⟩ := H
  replace H : (if t197 = t203 then (if t197 = t210 then (switchbacklaw18_EmuFuel.j0 k t191 t192 t197 t203 t210 (t197 != 0) t193 t194 t195 t196 t199 t200 t201 t202 t206 t207 t208 t209) else (switchbacklaw18_EmuFuel.j0 k t191 t192 t197 t203 t210 true t193 t194 t195 t196 t199 t200 t201 t202 t206 t207 t208 t209)) else (switchbacklaw18_EmuFuel.j0 k t191 t192 t197 t203 t210 true t193 t194 t195 t196 t199 t200 t201 t202 t206 t207 t208 t209)) = some r := H
  have A10 := Aside0.mk A100
  clear A100
  have HC11 := Aside0.mk H
  clear H
  go_enter Tryd.func11, Tryd.ntmps11
  try go_wp2_with (first | ((with_reducible refine gate_dst (N := 4) rfl ?_); refine box_event ?hg (N := 4) ?hd (cs := #[.slice A0_0 l0_0.length c0_0, .slice A0_1 l0_1.length c0_1, .slice A0_2 l0_2.length c0_2, .int .i64 a0_3]) (t := 59) ?hr ?_; (case hd => rfl); (case hg => rfl); (case hr => first | (go_simp; done) | (go_simp; rfl)); intro gb190 hg w12 hbox hb; have n0_ := Aside0.mk (below_step (by repeat (first | (with_reducible first | exact HB.out | apply below_alloc | apply pw_below_drewN | apply below_drew1) | exact HB.out)) hb); have n1_ := Aside0.mk (hbox); have n2_ := Aside0.mk ((by rw [hg]; exact (below_size (by repeat (first | (with_reducible first | exact HB.out | apply below_alloc | apply pw_below_drewN | apply below_drew1) | exact HB.out))) : w.heap.size ≤ gb190)); have n3_ := Aside0.mk ((by rw [hg]; exact (below_size (by repeat (first | (with_reducible first | exact HB.out | apply below_alloc | apply pw_below_drewN | apply below_drew1) | exact HB.out))) : w.heap.size ≤ gb190)); clear HB; have HB := n0_; have BK190 := n1_; have GW190 := n2_; have GE190 := n3_; clear n0_ n1_ n2_ n3_; clear hb hbox hg) | ((with_reducible refine gate_callee (f := 40) rfl ?_); refine goesL_ (some 16) rfl rfl Tryd.func40 (by kernel_rfl) rfl #[.int .i64 a2, .int .i64 30000] rfl (by (try simp only [List.map_toArray, List.map_cons, List.map_nil]); first | done | rfl | (simp only [List.length_drop, List.length_take]; rfl)) ?_; (with_reducible refine (switchbacklaw18_pick.calls a2 30000 t191 _ A5.out).mono ?_); rintro e w' ⟨rfl, ⟨nd, rfl⟩⟩; refine ⟨_, rfl, ?_⟩; (try (rw [drewN_self w12]; generalize hq_ : World.drewN w12 _ = w12; have n0_ : Aside0 (w12.heap[gb190]? = some (.cells #[.slice A0_0 l0_0.length c0_0, .slice A0_1 l0_1.length c0_1, .slice A0_2 l0_2.length c0_2, .int .i64 a0_3] 59 (0, 0))) := ⟨by rw [← hq_]; exact (by (with_reducible repeat (first | refine blk_drewN ?_ _ | refine blk_drew ?_ | refine blk_alloc ?_ _)); exact BK190.out)⟩; have n1_ : Aside0 (Below w.heap.size w w12) := ⟨by rw [← hq_]; exact (by repeat (first | (with_reducible first | exact HB.out | apply below_alloc | apply pw_below_drewN | apply below_drew1 | refine below_set ?_ GE190.out) | exact HB.out))⟩; clear BK190 HB hq_; have BK190 := n0_; have HB := n1_; clear n0_ n1_))) | ((with_reducible refine gate_callee (f := 40) rfl ?_); refine goesL_ (some 20) rfl rfl Tryd.func40 (by kernel_rfl) rfl #[.int .i64 a3, .int .i64 (wrap64 (t191 + 1))] rfl (by (try simp only [List.map_toArray, List.map_cons, List.map_nil]); first | done | rfl | (simp only [List.length_drop, List.length_take]; rfl)) ?_; (with_reducible refine (switchbacklaw18_pick.calls a3 (wrap64 (t191 + 1)) t192 _ A6.out).mono ?_); rintro e w' ⟨rfl, ⟨nd, rfl⟩⟩; refine ⟨_, rfl, ?_⟩; (try (rw [drewN_self w12]; generalize hq_ : World.drewN w12 _ = w12; have n0_ : Aside0 (w12.heap[gb190]? = some (.cells #[.slice A0_0 l0_0.length c0_0, .slice A0_1 l0_1.length c0_1, .slice A0_2 l0_2.length c0_2, .int .i64 a0_3] 59 (0, 0))) := ⟨by rw [← hq_]; exact (by (with_reducible repeat (first | refine blk_drewN ?_ _ | refine blk_drew ?_ | refine blk_alloc ?_ _)); exact BK190.out)⟩; have n1_ : Aside0 (Below w.heap.size w w12) := ⟨by rw [← hq_]; exact (by repeat (first | (with_reducible first | exact HB.out | apply below_alloc | apply pw_below_drewN | apply below_drew1 | refine below_set ?_ GE190.out) | exact HB.out))⟩; clear BK190 HB hq_; have BK190 := n0_; have HB := n1_; clear n0_ n1_)); have hcz13_0 : w12.cell? ⟨gb190, 0, none⟩ = some (.slice A0_0 l0_0.length c0_0) := (blk_cell BK190.out 0).trans rfl; have hcz13_1 : w12.cell? ⟨gb190, 1, none⟩ = some (.slice A0_1 l0_1.length c0_1) := (blk_cell BK190.out 1).trans rfl; have hcz13_2 : w12.cell? ⟨gb190, 2, none⟩ = some (.slice A0_2 l0_2.length c0_2) := (blk_cell BK190.out 2).trans rfl; have hcz13_3 : w12.cell? ⟨gb190, 3, none⟩ = some (.int .i64 a0_3) := (blk_cell BK190.out 3).trans rfl; have hfz13_0 := blk_frozen BK190.out 0; have hfz13_1 := blk_frozen BK190.out 1; have hfz13_2 := blk_frozen BK190.out 2; have hfz13_3 := blk_frozen BK190.out 3) | ((with_reducible refine gate_callee (f := 36) rfl ?_); refine goesL_ (some 25) rfl rfl Tryd.func36 (by kernel_rfl) rfl #[.agg #[.slice A0_0 l0_0.length c0_0, .slice A0_1 l0_1.length c0_1, .slice A0_2 l0_2.length c0_2, .int .i64 a0_3], .string a1, .int .i64 t191] rfl (by (try simp only [List.map_toArray, List.map_cons, List.map_nil]); first | done | rfl | (simp only [List.length_drop, List.length_take]; rfl)) ?_; (with_reducible refine (emu_Run.calls _ _ l0_0 _ _ l0_1 _ _ l0_2 a0_3 a1 t191 t193 t194 t195 t196 t197 _ ?side1 ?side2 ?side3 ?side4 ?side5 ?side6 (Aside0.mk (hLaid_.out.below (by repeat (first | (with_reducible first | exact HB.out | apply below_alloc | apply pw_below_drewN | apply below_drew1) | refine below_set ?_ (Aside0.out (by assumption)) | exact HB.out)))) A7.out).mono ?_); (case side1 => repeat (first | exact (Kd.C_below HR0_0.out HB.out) | (with_reducible refine Kd.C_alloc ?_ _) | (with_reducible refine Kd.C_drewN ?_ _) | (with_reducible refine Kd.C_drew ?_))); (case side2 => exact HC0_0.out); (case side3 => repeat (first | exact (Kd.C_below HR0_1.out HB.out) | (with_reducible refine Kd.C_alloc ?_ _) | (with_reducible refine Kd.C_drewN ?_ _) | (with_reducible refine Kd.C_drew ?_))); (case side4 => exact HC0_1.out); (case side5 => repeat (first | exact (Kd.C_below HR0_2.out HB.out) | (with_reducible refine Kd.C_alloc ?_ _) | (with_reducible refine Kd.C_drewN ?_ _) | (with_reducible refine Kd.C_drew ?_))); (case side6 => exact HC0_2.out); rintro e w14 ⟨rfl, hb⟩; refine ⟨_, rfl, ?_⟩; have n0_ := Aside0.mk (blk_below (g := gb190) (o := .cells #[.slice A0_0 l0_0.length c0_0, .slice A0_1 l0_1.length c0_1, .slice A0_2 l0_2.length c0_2, .int .i64 a0_3] 59 (0, 0)) (by (with_reducible repeat (first | refine blk_drewN ?_ _ | refine blk_drew ?_ | refine blk_alloc ?_ _)); exact BK190.out) hb); have n1_ := Aside0.mk (below_step (by repeat (first | (with_reducible first | exact HB.out | apply below_alloc | apply pw_below_drewN | apply below_drew1 | refine below_set ?_ GE190.out) | exact HB.out)) hb); clear BK190; clear HB; have BK190 := n0_; have HB := n1_; clear n0_ n1_; (try clear hb); (try clear hb2); (try clear hk); (try clear hi)) | ((with_reducible refine gate_dst (N := 9) rfl ?_); refine box_event ?hg (N := 9) ?hd (cs := #[.int .i64 0, .int .u32 0, .string (⟨#[]⟩ : ByteArray), .int .i64 0]) (t := 62) ?hr ?_; (case hd => rfl); (case hg => rfl); (case hr => first | (go_simp; done) | (go_simp; rfl)); intro gb198 hg w15 hbox hb; have n0_ := Aside0.mk (blk_below (g := gb190) (o := .cells #[.slice A0_0 l0_0.length c0_0, .slice A0_1 l0_1.length c0_1, .slice A0_2 l0_2.length c0_2, .int .i64 a0_3] 59 (0, 0)) (by (with_reducible repeat (first | refine blk_drewN ?_ _ | refine blk_drew ?_ | refine blk_alloc ?_ _)); exact BK190.out) hb); have n1_ := Aside0.mk (below_step (by repeat (first | (with_reducible first | exact HB.out | apply below_alloc | apply pw_below_drewN | apply below_drew1 | refine below_set ?_ GE190.out) | exact HB.out)) hb); have n2_ := Aside0.mk (hbox); have n3_ := Aside0.mk ((by rw [hg]; exact (below_size (by repeat (first | (with_reducible first | exact HB.out | apply below_alloc | apply pw_below_drewN | apply below_drew1 | refine below_set ?_ GE190.out) | exact HB.out))) : w.heap.size ≤ gb198)); have n4_ := Aside0.mk ((by rw [hg]; exact (below_size (by repeat (first | (with_reducible first | exact HB.out | apply below_alloc | apply pw_below_drewN | apply below_drew1 | refine below_set ?_ GE190.out) | exact HB.out))) : w.heap.size ≤ gb198)); have n5_ := Aside0.mk ((by rw [hg]; exact Nat.ne_of_lt (blk_lt (g := gb190) (o := .cells #[.slice A0_0 l0_0.length c0_0, .slice A0_1 l0_1.length c0_1, .slice A0_2 l0_2.length c0_2, .int .i64 a0_3] 59 (0, 0)) (by (with_reducible repeat (first | refine blk_drewN ?_ _ | refine blk_drew ?_ | refine blk_alloc ?_ _)); exact BK190.out)) : gb190 ≠ gb198)); have n6_ := Aside0.mk ((by rw [hg]; exact Nat.ne_of_gt (blk_lt (g := gb190) (o := .cells #[.slice A0_0 l0_0.length c0_0, .slice A0_1 l0_1.length c0_1, .slice A0_2 l0_2.length c0_2, .int .i64 a0_3] 59 (0, 0)) (by (with_reducible repeat (first | refine blk_drewN ?_ _ | refine blk_drew ?_ | refine blk_alloc ?_ _)); exact BK190.out)) : gb198 ≠ gb190)); clear BK190; clear HB; have BK190 := n0_; have HB := n1_; have BK198 := n2_; have GW198 := n3_; have GE198 := n4_; have NB190_198 := n5_; have NB198_190 := n6_; clear n0_ n1_ n2_ n3_ n4_ n5_ n6_; clear hb hbox hg; have hnb16 := NB198_190.out; have hnc16 := NB190_198.out; have hcz17_0 : w15.cell? ⟨gb198, 0, none⟩ = some (.int .i64 0) := (blk_cell BK198.out 0).trans rfl; have hcz17_1 : w15.cell? ⟨gb198, 1, none⟩ = some (.int .u32 0) := (blk_cell BK198.out 1).trans rfl; have hcz17_2 : w15.cell? ⟨gb198, 2, none⟩ = some (.string (⟨#[]⟩ : ByteArray)) := (blk_cell BK198.out 2).trans rfl; have hcz17_3 : w15.cell? ⟨gb198, 3, none⟩ = some (.int .i64 0) := (blk_cell BK198.out 3).trans rfl; have hfz17_0 := blk_frozen BK198.out 0; have hfz17_1 := blk_frozen BK198.out 1; have hfz17_2 := blk_frozen BK198.out 2; have hfz17_3 := blk_frozen BK198.out 3; have hcz18_0 : w15.cell? ⟨gb190, 0, none⟩ = some (.slice A0_0 l0_0.length c0_0) := (blk_cell BK190.out 0).trans rfl; have hcz18_1 : w15.cell? ⟨gb190, 1, none⟩ = some (.slice A0_1 l0_1.length c0_1) := (blk_cell BK190.out 1).trans rfl; have hcz18_2 : w15.cell? ⟨gb190, 2, none⟩ = some (.slice A0_2 l0_2.length c0_2) := (blk_cell BK190.out 2).trans rfl; have hcz18_3 : w15.cell? ⟨gb190, 3, none⟩ = some (.int .i64 a0_3) := (blk_cell BK190.out 3).trans rfl; have hfz18_0 := blk_frozen BK190.out 0; have hfz18_1 := blk_frozen BK190.out 1; have hfz18_2 := blk_frozen BK190.out 2; have hfz18_3 := blk_frozen BK190.out 3) | ((with_reducible refine gate_callee (f := 36) rfl ?_); refine goesL_ (some 32) rfl rfl Tryd.func36 (by kernel_rfl) rfl #[.agg #[.slice A0_0 l0_0.length c0_0, .slice A0_1 l0_1.length c0_1, .slice A0_2 l0_2.length c0_2, .int .i64 a0_3], .string a1, .int .i64 t192] rfl (by (try simp only [List.map_toArray, List.map_cons, List.map_nil]); first | done | rfl | (simp only [List.length_drop, List.length_take]; rfl)) ?_; (with_reducible refine (emu_Run.calls _ _ l0_0 _ _ l0_1 _ _ l0_2 a0_3 a1 t192 t199 t200 t201 t202 t203 _ ?side1 ?side2 ?side3 ?side4 ?side5 ?side6 (Aside0.mk (hLaid_.out.below (by repeat (first | (with_reducible first | exact HB.out | apply below_alloc | apply pw_below_drewN | apply below_drew1) | refine below_set ?_ (Aside0.out (by assumption)) | exact HB.out)))) A8.out).mono ?_); (case side1 => exact Kd.C_below HR0_0.out (by repeat (first | (with_reducible first | exact HB.out | apply below_alloc | apply pw_below_drewN | apply below_drew1 | refine below_set ?_ GE190.out | refine below_set ?_ GE198.out) | exact HB.out))); (case side2 => exact HC0_0.out); (case side3 => exact Kd.C_below HR0_1.out (by repeat (first | (with_reducible first | exact HB.out | apply below_alloc | apply pw_below_drewN | apply below_drew1 | refine below_set ?_ GE190.out | refine below_set ?_ GE198.out) | exact HB.out))); (case side4 => exact HC0_1.out); (case side5 => exact Kd.C_below HR0_2.out (by repeat (first | (with_reducible first | exact HB.out | apply below_alloc | apply pw_below_drewN | apply below_drew1 | refine below_set ?_ GE190.out | refine below_set ?_ GE198.out) | exact HB.out))); (case side6 => exact HC0_2.out); rintro e w19 ⟨rfl, hb⟩; refine ⟨_, rfl, ?_⟩; have n0_ := Aside0.mk (blk_below (g := gb190) (o := .cells #[.slice A0_0 l0_0.length c0_0, .slice A0_1 l0_1.length c0_1, .slice A0_2 l0_2.length c0_2, .int .i64 a0_3] 59 (0, 0)) (by (with_reducible repeat (first | refine blk_drewN ?_ _ | refine blk_drew ?_ | refine blk_alloc ?_ _)); refine blk_far ?_ NB190_198.out _; (with_reducible repeat (first | refine blk_drewN ?_ _ | refine blk_drew ?_ | refine blk_alloc ?_ _)); refine blk_far ?_ NB190_198.out _; (with_reducible repeat (first | refine blk_drewN ?_ _ | refine blk_drew ?_ | refine blk_alloc ?_ _)); refine blk_far ?_ NB190_198.out _; (with_reducible repeat (first | refine blk_drewN ?_ _ | refine blk_drew ?_ | refine blk_alloc ?_ _)); refine blk_far ?_ NB190_198.out _; (with_reducible repeat (first | refine blk_drewN ?_ _ | refine blk_drew ?_ | refine blk_alloc ?_ _)); exact BK190.out) hb); have n1_ := Aside0.mk (blk_below (g := gb198) (o := .cells #[.int .i64 t193, .int .u32 t194, .string t195, .int .i64 t196] 62 (0, 0)) (by (with_reducible repeat (first | refine blk_drewN ?_ _ | refine blk_drew ?_ | refine blk_alloc ?_ _)); refine blk_put (cs := #[.int .i64 t193, .int .u32 t194, .string t195, .int .i64 0]) ?_ 3 _ rfl; (with_reducible repeat (first | refine blk_drewN ?_ _ | refine blk_drew ?_ | refine blk_alloc ?_ _)); refine blk_put (cs := #[.int .i64 t193, .int .u32 t194, .string (⟨#[]⟩ : ByteArray), .int .i64 0]) ?_ 2 _ rfl; (with_reducible repeat (first | refine blk_drewN ?_ _ | refine blk_drew ?_ | refine blk_alloc ?_ _)); refine blk_put (cs := #[.int .i64 t193, .int .u32 0, .string (⟨#[]⟩ : ByteArray), .int .i64 0]) ?_ 1 _ rfl; (with_reducible repeat (first | refine blk_drewN ?_ _ | refine blk_drew ?_ | refine blk_alloc ?_ _)); refine blk_put (cs := #[.int .i64 0, .int .u32 0, .string (⟨#[]⟩ : ByteArray), .int .i64 0]) ?_ 0 _ rfl; (with_reducible repeat (first | refine blk_drewN ?_ _ | refine blk_drew ?_ | refine blk_alloc ?_ _)); exact BK198.out) hb); have n2_ := Aside0.mk (below_step (by repeat (first | (with_reducible first | exact HB.out | apply below_alloc | apply pw_below_drewN | apply below_drew1 | refine below_set ?_ GE190.out | refine below_set ?_ GE198.out) | exact HB.out)) hb); clear BK190; clear BK198; clear HB; have BK190 := n0_; have BK198 := n1_; have HB := n2_; clear n0_ n1_ n2_; (try clear hb); (try clear hb2); (try clear hk); (try clear hi)) | ((with_reducible refine gate_dst (N := 11) rfl ?_); refine box_event ?hg (N := 11) ?hd (cs := #[.int .i64 0, .int .u32 0, .string (⟨#[]⟩ : ByteArray), .int .i64 0]) (t := 62) ?hr ?_; (case hd => rfl); (case hg => rfl); (case hr => first | (go_simp; done) | (go_simp; rfl)); intro gb204 hg w20 hbox hb; have n0_ := Aside0.mk (blk_below (g := gb190) (o := .cells #[.slice A0_0 l0_0.length c0_0, .slice A0_1 l0_1.length c0_1, .slice A0_2 l0_2.length c0_2, .int .i64 a0_3] 59 (0, 0)) (by (with_reducible repeat (first | refine blk_drewN ?_ _ | refine blk_drew ?_ | refine blk_alloc ?_ _)); exact BK190.out) hb); have n1_ := Aside0.mk (blk_below (g := gb198) (o := .cells #[.int .i64 t193, .int .u32 t194, .string t195, .int .i64 t196] 62 (0, 0)) (by (with_reducible repeat (first | refine blk_drewN ?_ _ | refine blk_drew ?_ | refine blk_alloc ?_ _)); exact BK198.out) hb); have n2_ := Aside0.mk (below_step (by repeat (first | (with_reducible first | exact HB.out | apply below_alloc | apply pw_below_drewN | apply below_drew1 | refine below_set ?_ GE190.out | refine below_set ?_ GE198.out) | exact HB.out)) hb); have n3_ := Aside0.mk (hbox); have n4_ := Aside0.mk ((by rw [hg]; exact (below_size (by repeat (first | (with_reducible first | exact HB.out | apply below_alloc | apply pw_below_drewN | apply below_drew1 | refine below_set ?_ GE190.out | refine below_set ?_ GE198.out) | exact HB.out))) : w.heap.size ≤ gb204)); have n5_ := Aside0.mk ((by rw [hg]; exact (below_size (by repeat (first | (with_reducible first | exact HB.out | apply below_alloc | apply pw_below_drewN | apply below_drew1 | refine below_set ?_ GE190.out | refine below_set ?_ GE198.out) | exact HB.out))) : w.heap.size ≤ gb204)); have n6_ := Aside0.mk ((by rw [hg]; exact Nat.ne_of_lt (blk_lt (g := gb190) (o := .cells #[.slice A0_0 l0_0.length c0_0, .slice A0_1 l0_1.length c0_1, .slice A0_2 l0_2.length c0_2, .int .i64 a0_3] 59 (0, 0)) (by (with_reducible repeat (first | refine blk_drewN ?_ _ | refine blk_drew ?_ | refine blk_alloc ?_ _)); exact BK190.out)) : gb190 ≠ gb204)); have n7_ := Aside0.mk ((by rw [hg]; exact Nat.ne_of_gt (blk_lt (g := gb190) (o := .cells #[.slice A0_0 l0_0.length c0_0, .slice A0_1 l0_1.length c0_1, .slice A0_2 l0_2.length c0_2, .int .i64 a0_3] 59 (0, 0)) (by (with_reducible repeat (first | refine blk_drewN ?_ _ | refine blk_drew ?_ | refine blk_alloc ?_ _)); exact BK190.out)) : gb204 ≠ gb190)); have n8_ := Aside0.mk ((by rw [hg]; exact Nat.ne_of_lt (blk_lt (g := gb198) (o := .cells #[.int .i64 t193, .int .u32 t194, .string t195, .int .i64 t196] 62 (0, 0)) (by (with_reducible repeat (first | refine blk_drewN ?_ _ | refine blk_drew ?_ | refine blk_alloc ?_ _)); exact BK198.out)) : gb198 ≠ gb204)); have n9_ := Aside0.mk ((by rw [hg]; exact Nat.ne_of_gt (blk_lt (g := gb198) (o := .cells #[.int .i64 t193, .int .u32 t194, .string t195, .int .i64 t196] 62 (0, 0)) (by (with_reducible repeat (first | refine blk_drewN ?_ _ | refine blk_drew ?_ | refine blk_alloc ?_ _)); exact BK198.out)) : gb204 ≠ gb198)); clear BK190; clear BK198; clear HB; have BK190 := n0_; have BK198 := n1_; have HB := n2_; have BK204 := n3_; have GW204 := n4_; have GE204 := n5_; have NB190_204 := n6_; have NB204_190 := n7_; have NB198_204 := n8_; have NB204_198 := n9_; clear n0_ n1_ n2_ n3_ n4_ n5_ n6_ n7_ n8_ n9_; clear hb hbox hg; have hnb21 := NB204_190.out; have hnc21 := NB190_204.out; have hnb22 := NB204_198.out; have hnc22 := NB198_204.out; have hcz23_0 : w20.cell? ⟨gb204, 0, none⟩ = some (.int .i64 0) := (blk_cell BK204.out 0).trans rfl; have hcz23_1 : w20.cell? ⟨gb204, 1, none⟩ = some (.int .u32 0) := (blk_cell BK204.out 1).trans rfl; have hcz23_2 : w20.cell? ⟨gb204, 2, none⟩ = some (.string (⟨#[]⟩ : ByteArray)) := (blk_cell BK204.out 2).trans rfl; have hcz23_3 : w20.cell? ⟨gb204, 3, none⟩ = some (.int .i64 0) := (blk_cell BK204.out 3).trans rfl; have hfz23_0 := blk_frozen BK204.out 0; have hfz23_1 := blk_frozen BK204.out 1; have hfz23_2 := blk_frozen BK204.out 2; have hfz23_3 := blk_frozen BK204.out 3))
  have n0_ : Aside0 (((((w20.setCell ⟨gb204, 0, none⟩ (.int .i64 t199)).setCell ⟨gb204, 1, none⟩ (.int .u32 t200)).setCell ⟨gb204, 2, none⟩ (.string t201)).setCell ⟨gb204, 3, none⟩ (.int .i64 t202)).heap[gb190]? = some (.cells #[.slice A0_0 l0_0.length c0_0, .slice A0_1 l0_1.length c0_1, .slice A0_2 l0_2.length c0_2, .int .i64 a0_3] 59 (0, 0))) := ⟨by (with_reducible repeat (first | refine blk_drewN ?_ _ | refine blk_drew ?_ | refine blk_alloc ?_ _)); refine blk_far ?_ NB190_204.out _; (with_reducible repeat (first | refine blk_drewN ?_ _ | refine blk_drew ?_ | refine blk_alloc ?_ _)); refine blk_far ?_ NB190_204.out _; (with_reducible repeat (first | refine blk_drewN ?_ _ | refine blk_drew ?_ | refine blk_alloc ?_ _)); refine blk_far ?_ NB190_204.out _; (with_reducible repeat (first | refine blk_drewN ?_ _ | refine blk_drew ?_ | refine blk_alloc ?_ _)); refine blk_far ?_ NB190_204.out _; (with_reducible repeat (first | refine blk_drewN ?_ _ | refine blk_drew ?_ | refine blk_alloc ?_ _)); exact BK190.out⟩
  have n1_ : Aside0 (((((w20.setCell ⟨gb204, 0, none⟩ (.int .i64 t199)).setCell ⟨gb204, 1, none⟩ (.int .u32 t200)).setCell ⟨gb204, 2, none⟩ (.string t201)).setCell ⟨gb204, 3, none⟩ (.int .i64 t202)).heap[gb198]? = some (.cells #[.int .i64 t193, .int .u32 t194, .string t195, .int .i64 t196] 62 (0, 0))) := ⟨by (with_reducible repeat (first | refine blk_drewN ?_ _ | refine blk_drew ?_ | refine blk_alloc ?_ _)); refine blk_far ?_ NB198_204.out _; (with_reducible repeat (first | refine blk_drewN ?_ _ | refine blk_drew ?_ | refine blk_alloc ?_ _)); refine blk_far ?_ NB198_204.out _; (with_reducible repeat (first | refine blk_drewN ?_ _ | refine blk_drew ?_ | refine blk_alloc ?_ _)); refine blk_far ?_ NB198_204.out _; (with_reducible repeat (first | refine blk_drewN ?_ _ | refine blk_drew ?_ | refine blk_alloc ?_ _)); refine blk_far ?_ NB198_204.out _; (with_reducible repeat (first | refine blk_drewN ?_ _ | refine blk_drew ?_ | refine blk_alloc ?_ _)); exact BK198.out⟩
  have n2_ : Aside0 (((((w20.setCell ⟨gb204, 0, none⟩ (.int .i64 t199)).setCell ⟨gb204, 1, none⟩ (.int .u32 t200)).setCell ⟨gb204, 2, none⟩ (.string t201)).setCell ⟨gb204, 3, none⟩ (.int .i64 t202)).heap[gb204]? = some (.cells #[.int .i64 t199, .int .u32 t200, .string t201, .int .i64 t202] 62 (0, 0))) := ⟨by (with_reducible repeat (first | refine blk_drewN ?_ _ | refine blk_drew ?_ | refine blk_alloc ?_ _)); refine blk_put (cs := #[.int .i64 t199, .int .u32 t200, .string t201, .int .i64 0]) ?_ 3 _ rfl; (with_reducible repeat (first | refine blk_drewN ?_ _ | refine blk_drew ?_ | refine blk_alloc ?_ _)); refine blk_put (cs := #[.int .i64 t199, .int .u32 t200, .string (⟨#[]⟩ : ByteArray), .int .i64 0]) ?_ 2 _ rfl; (with_reducible repeat (first | refine blk_drewN ?_ _ | refine blk_drew ?_ | refine blk_alloc ?_ _)); refine blk_put (cs := #[.int .i64 t199, .int .u32 0, .string (⟨#[]⟩ : ByteArray), .int .i64 0]) ?_ 1 _ rfl; (with_reducible repeat (first | refine blk_drewN ?_ _ | refine blk_drew ?_ | refine blk_alloc ?_ _)); refine blk_put (cs := #[.int .i64 0, .int .u32 0, .string (⟨#[]⟩ : ByteArray), .int .i64 0]) ?_ 0 _ rfl; (with_reducible repeat (first | refine blk_drewN ?_ _ | refine blk_drew ?_ | refine blk_alloc ?_ _)); exact BK204.out⟩
  have n3_ : Aside0 (Below w.heap.size w ((((w20.setCell ⟨gb204, 0, none⟩ (.int .i64 t199)).setCell ⟨gb204, 1, none⟩ (.int .u32 t200)).setCell ⟨gb204, 2, none⟩ (.string t201)).setCell ⟨gb204, 3, none⟩ (.int .i64 t202))) := ⟨by repeat (first | (with_reducible first | exact HB.out | apply below_alloc | apply pw_below_drewN | apply below_drew1 | refine below_set ?_ GE190.out | refine below_set ?_ GE198.out | refine below_set ?_ GE204.out) | exact HB.out)⟩
  (try clear BK190)
  (try clear BK198)
  (try clear BK204)
  (try clear HB)
  generalize ((((w20.setCell ⟨gb204, 0, none⟩ (.int .i64 t199)).setCell ⟨gb204, 1, none⟩ (.int .u32 t200)).setCell ⟨gb204, 2, none⟩ (.string t201)).setCell ⟨gb204, 3, none⟩ (.int .i64 t202)) = w24 at n0_ n1_ n2_ n3_ ⊢
  have BK190 := n0_
  have BK198 := n1_
  have BK204 := n2_
  have HB := n3_
  clear n0_ n1_ n2_ n3_
  have n0_ := Aside0.mk (blk_drew BK190.out)
  have n1_ := Aside0.mk (blk_drew BK198.out)
  have n2_ := Aside0.mk (blk_drew BK204.out)
  have n3_ := Aside0.mk (below_drew1 HB.out)
  clear BK190
  clear BK198
  clear BK204
  clear HB
  have BK190 := n0_
  have BK198 := n1_
  have BK204 := n2_
  have HB := n3_
  clear n0_ n1_ n2_ n3_
  refine start_ (n := 13) (S := fun w' => w'.cell? ⟨gb190, 0, none⟩ = some (.slice A0_0 l0_0.length c0_0) ∧ w'.cell? ⟨gb190, 1, none⟩ = some (.slice A0_1 l0_1.length c0_1) ∧ w'.cell? ⟨gb190, 2, none⟩ = some (.slice A0_2 l0_2.length c0_2) ∧ w'.cell? ⟨gb190, 3, none⟩ = some (.int .i64 a0_3)) (ds := []) #[false, false, false, false, false, false, false, false, false, false, false, false, false] (by kernel_rfl) rfl rfl ⟨(blk_cell BK190.out 0).trans rfl, (blk_cell BK190.out 1).trans rfl, (blk_cell BK190.out 2).trans rfl, (blk_cell BK190.out 3).trans rfl⟩ (fun hHeld => ?_); refine with_tabW switchbacklaw18_EmuFuel.tab5 switchbacklaw18_EmuFuel.bits5 (fun HT_ HW_ => ?_)
  generalize w24.drew = w25 at BK190 BK198 BK204 HB hHeld ⊢
  refine pure_ (i := 1) (N := some 37) (v := ?_) (a' := ?_) #[false, true, false, false, false, false, false, false, false, false, false, false, false] rfl rfl (any_of HT_.out (by kernel_rfl)) (fun _ _ _ h => h) (Or.inl ⟨by rfl, ?_⟩) ?_ ?_
  rotate_left
  · intro w'
    go_simp
    with_reducible rfl
  rotate_left
  · simp only [Act.put, List.setIfInBounds_toArray, List.set_cons_zero, List.set_cons_succ, i64_w, i32_w]
    rfl
  refine pure_ (i := 2) (N := some 38) (v := ?_) (a' := ?_) #[false, true, true, false, false, false, false, false, false, false, false, false, false] rfl rfl (any_of HT_.out (by kernel_rfl)) (fun _ _ _ h => h) (Or.inl ⟨by rfl, ?_⟩) ?_ ?_
  rotate_left
  · intro w'
    go_simp
    with_reducible rfl
  rotate_left
  · simp only [Act.put, List.setIfInBounds_toArray, List.set_cons_zero, List.set_cons_succ, i64_w, i32_w]
    rfl
  refine pure_ (i := 3) (N := some 39) (v := ?_) (a' := ?_) #[false, true, true, true, false, false, false, false, false, false, false, false, false] rfl rfl (any_of HT_.out (by kernel_rfl)) (fun _ _ _ h => h) (Or.inl ⟨by rfl, ?_⟩) ?_ ?_
  rotate_left
  · intro w'
    go_simp
    with_reducible rfl
  rotate_left
  · simp only [Act.put, List.setIfInBounds_toArray, List.set_cons_zero, List.set_cons_succ, i64_w, i32_w]
    rfl
  refine take_ (i := 0) (N := some 36) (v := ?_) (a' := ?_) #[true, true, true, true, false, false, false, false, false, false, false, false, false] rfl rfl (take_ofW HT_.out HW_.out (by kernel_rfl)) (fun _ _ _ h => h) (Or.inl ⟨by rfl, ?_⟩) hHeld ?_ ?_
  rotate_left
  · rintro w' ⟨s0, s1, s2, s3⟩
    go_simp
    with_reducible rfl
  rotate_left
  · simp only [Act.put, List.setIfInBounds_toArray, List.set_cons_zero, List.set_cons_succ, i64_w, i32_w]
    rfl
  refine join_ (σ := Nat) 2 #[true, true, true, true, true, true, true, true, true, true, true, false, false] (fun s_ => [(40, .int .i64 t205), (42, .tuple #[.agg #[.int .i64 t206, .int .u32 t207, .string t208, .int .i64 t209], .int .i64 t210]), (13, .pointer (some ⟨s_, 0, none⟩)), (41, .int .i64 (wrap64 (t191 + t205))), (35, .tuple #[.agg #[.int .i64 t206, .int .u32 t207, .string t208, .int .i64 t209], .int .i64 t210]), (43, .agg #[.int .i64 t206, .int .u32 t207, .string t208, .int .i64 t209]), (44, .int .i64 t210)]) (fun s_ w' => (w'.cell? ⟨gb190, 0, none⟩ = some (.slice A0_0 l0_0.length c0_0) ∧ w'.cell? ⟨gb190, 1, none⟩ = some (.slice A0_1 l0_1.length c0_1) ∧ w'.cell? ⟨gb190, 2, none⟩ = some (.slice A0_2 l0_2.length c0_2) ∧ w'.cell? ⟨gb190, 3, none⟩ = some (.int .i64 a0_3)) ∧ (w'.heap[gb190]? = some (.cells #[.slice A0_0 l0_0.length c0_0, .slice A0_1 l0_1.length c0_1, .slice A0_2 l0_2.length c0_2, .int .i64 a0_3] 59 (0, 0))) ∧ (w'.heap[gb198]? = some (.cells #[.int .i64 t193, .int .u32 t194, .string t195, .int .i64 t196] 62 (0, 0))) ∧ (w'.heap[gb204]? = some (.cells #[.int .i64 t199, .int .u32 t200, .string t201, .int .i64 t202] 62 (0, 0))) ∧ (w'.heap[s_]? = some (.cells #[.int .i64 0, .int .u32 0, .string (⟨#[]⟩ : ByteArray), .int .i64 0] 62 (0, 0))) ∧ (w.heap.size ≤ s_) ∧ (w.heap.size ≤ s_) ∧ (gb190 ≠ s_) ∧ (s_ ≠ gb190) ∧ (gb198 ≠ s_) ∧ (s_ ≠ gb198) ∧ (gb204 ≠ s_) ∧ (s_ ≠ gb204) ∧ (Below w.heap.size w w')) ?_ ?_
  rotate_left
  · intro hCont
    refine two_ (i := 4) (j := 10) (Ni := some 40) (Nj := some 13) #[true, true, true, true, true, false, false, false, false, false, false, false, false] #[true, true, true, true, false, false, false, false, false, false, true, false, false] rfl rfl rfl rfl (two_of HT_.out (by kernel_rfl)) (by decide) (by decide) (fun K hK => ?_) (fun K hK => ?_)
    · skip
      refine goes_ Tryd.func40 (by kernel_rfl) rfl #[.int .i64 t192, .int .i64 100] (by rfl) rfl rfl (by (try simp only [List.map_toArray, List.map_cons, List.map_nil]); first | done | rfl | (simp only [List.length_drop, List.length_take]; rfl)) ?_
      with_reducible refine (switchbacklaw18_pick.calls t192 100 t205 _ A9.out).mono ?_
      rintro e w' ⟨rfl, ⟨nd, rfl⟩⟩
      refine ⟨_, rfl, ?_⟩
      refine hK.out _ _ ⟨(blk_cell BK190.out 0).trans rfl, (blk_cell BK190.out 1).trans rfl, (blk_cell BK190.out 2).trans rfl, (blk_cell BK190.out 3).trans rfl⟩ (fun hHeld => ?_)
      clear hK K
      refine norm_ (a' := ?_) ?_ ?_
      rotate_left
      · show Act.put _ (some 40) _ = _
        simp only [Act.put, List.setIfInBounds_toArray, List.set_cons_zero, List.set_cons_succ, i64_w, i32_w]
        rfl
      refine pure_ (i := 5) (N := some 41) (v := ?_) (a' := ?_) #[true, true, true, true, true, true, false, false, false, false, false, false, false] rfl rfl (any_of HT_.out (by kernel_rfl)) (fun _ _ _ h => h) (Or.inl ⟨by rfl, ?_⟩) ?_ ?_
      rotate_left
      · intro w'
        go_simp
        with_reducible rfl
      rotate_left
      · simp only [Act.put, List.setIfInBounds_toArray, List.set_cons_zero, List.set_cons_succ, i64_w, i32_w]
        rfl
      refine two_ (i := 6) (j := 10) (Ni := some 42) (Nj := some 13) #[true, true, true, true, true, true, true, false, false, false, false, false, false] #[true, true, true, true, true, true, false, false, false, false, true, false, false] rfl rfl rfl rfl (two_of HT_.out (by kernel_rfl)) (by decide) (by decide) (fun K hK => ?_) (fun K hK => ?_)
      · skip
        refine goes_ Tryd.func36 (by kernel_rfl) rfl #[.agg #[.slice A0_0 l0_0.length c0_0, .slice A0_1 l0_1.length c0_1, .slice A0_2 l0_2.length c0_2, .int .i64 a0_3], .string a1, .int .i64 (wrap64 (t191 + t205))] (by rfl) rfl rfl (by (try simp only [List.map_toArray, List.map_cons, List.map_nil]); first | done | rfl | (simp only [List.length_drop, List.length_take]; rfl)) ?_
        with_reducible refine (emu_Run.calls _ _ l0_0 _ _ l0_1 _ _ l0_2 a0_3 a1 (wrap64 (t191 + t205)) t206 t207 t208 t209 t210 _ ?side1 ?side2 ?side3 ?side4 ?side5 ?side6 (Aside0.mk (hLaid_.out.below (by repeat (first | (with_reducible first | exact HB.out | apply below_alloc | apply pw_below_drewN | apply below_drew1) | refine below_set ?_ (Aside0.out (by assumption)) | exact HB.out)))) A10.out).mono ?_
        (case side1 => repeat (first | exact (Kd.C_below HR0_0.out (by repeat (first | (with_reducible first | exact HB.out | apply below_alloc | apply pw_below_drewN | apply below_drew1 | refine below_set ?_ GE190.out | refine below_set ?_ GE198.out | refine below_set ?_ GE204.out) | exact HB.out))) | (with_reducible refine Kd.C_alloc ?_ _) | (with_reducible refine Kd.C_drewN ?_ _) | (with_reducible refine Kd.C_drew ?_)))
        (case side2 => exact HC0_0.out)
        (case side3 => repeat (first | exact (Kd.C_below HR0_1.out (by repeat (first | (with_reducible first | exact HB.out | apply below_alloc | apply pw_below_drewN | apply below_drew1 | refine below_set ?_ GE190.out | refine below_set ?_ GE198.out | refine below_set ?_ GE204.out) | exact HB.out))) | (with_reducible refine Kd.C_alloc ?_ _) | (with_reducible refine Kd.C_drewN ?_ _) | (with_reducible refine Kd.C_drew ?_)))
        (case side4 => exact HC0_1.out)
        (case side5 => repeat (first | exact (Kd.C_below HR0_2.out (by repeat (first | (with_reducible first | exact HB.out | apply below_alloc | apply pw_below_drewN | apply below_drew1 | refine below_set ?_ GE190.out | refine below_set ?_ GE198.out | refine below_set ?_ GE204.out) | exact HB.out))) | (with_reducible refine Kd.C_alloc ?_ _) | (with_reducible refine Kd.C_drewN ?_ _) | (with_reducible refine Kd.C_drew ?_)))
        (case side6 => exact HC0_2.out)
        rintro e w26 ⟨rfl, hb⟩
        refine ⟨_, rfl, ?_⟩
        have n0_ := Aside0.mk (blk_below (g := gb190) (o := .cells #[.slice A0_0 l0_0.length c0_0, .slice A0_1 l0_1.length c0_1, .slice A0_2 l0_2.length c0_2, .int .i64 a0_3] 59 (0, 0)) (by (with_reducible repeat (first | refine blk_drewN ?_ _ | refine blk_drew ?_ | refine blk_alloc ?_ _)); exact BK190.out) hb)
        have n1_ := Aside0.mk (blk_below (g := gb198) (o := .cells #[.int .i64 t193, .int .u32 t194, .string t195, .int .i64 t196] 62 (0, 0)) (by (with_reducible repeat (first | refine blk_drewN ?_ _ | refine blk_drew ?_ | refine blk_alloc ?_ _)); exact BK198.out) hb)
        have n2_ := Aside0.mk (blk_below (g := gb204) (o := .cells #[.int .i64 t199, .int .u32 t200, .string t201, .int .i64 t202] 62 (0, 0)) (by (with_reducible repeat (first | refine blk_drewN ?_ _ | refine blk_drew ?_ | refine blk_alloc ?_ _)); exact BK204.out) hb)
        have n3_ := Aside0.mk (below_step (by repeat (first | (with_reducible first | exact HB.out | apply below_alloc | apply pw_below_drewN | apply below_drew1 | refine below_set ?_ GE190.out | refine below_set ?_ GE198.out | refine below_set ?_ GE204.out) | exact HB.out)) hb)
        clear BK190
        clear BK198
        clear BK204
        clear HB
        have BK190 := n0_
        have BK198 := n1_
        have BK204 := n2_
        have HB := n3_
        clear n0_ n1_ n2_ n3_
        (try clear hb)
        (try clear hb2)
        (try clear hk)
        (try clear hi)
        refine hK.out _ _ ⟨(blk_cell BK190.out 0).trans rfl, (blk_cell BK190.out 1).trans rfl, (blk_cell BK190.out 2).trans rfl, (blk_cell BK190.out 3).trans rfl⟩ (fun hHeld => ?_)
        clear hK K
        refine norm_ (a' := ?_) ?_ ?_
        rotate_left
        · show Act.put _ (some 42) _ = _
          simp only [Act.put, List.setIfInBounds_toArray, List.set_cons_zero, List.set_cons_succ, i64_w, i32_w]
          rfl
        refine pure_ (i := 7) (N := some 35) (v := ?_) (a' := ?_) #[true, true, true, true, true, true, true, true, false, false, false, false, false] rfl rfl (any_of HT_.out (by kernel_rfl)) (fun _ _ _ h => h) (Or.inl ⟨by rfl, ?_⟩) ?_ ?_
        rotate_left
        · intro w'
          go_simp
          with_reducible rfl
        rotate_left
        · simp only [Act.put, List.setIfInBounds_toArray, List.set_cons_zero, List.set_cons_succ, i64_w, i32_w]
          rfl
        refine pure_ (i := 8) (N := some 43) (v := ?_) (a' := ?_) #[true, true, true, true, true, true, true, true, true, false, false, false, false] rfl rfl (any_of HT_.out (by kernel_rfl)) (fun _ _ _ h => h) (Or.inl ⟨by rfl, ?_⟩) ?_ ?_
        rotate_left
        · intro w'
          go_simp
          with_reducible rfl
        rotate_left
        · simp only [Act.put, List.setIfInBounds_toArray, List.set_cons_zero, List.set_cons_succ, i64_w, i32_w]
          rfl
        refine pure_ (i := 9) (N := some 44) (v := ?_) (a' := ?_) #[true, true, true, true, true, true, true, true, true, true, false, false, false] rfl rfl (any_of HT_.out (by kernel_rfl)) (fun _ _ _ h => h) (Or.inl ⟨by rfl, ?_⟩) ?_ ?_
        rotate_left
        · intro w'
          go_simp
          with_reducible rfl
        rotate_left
        · simp only [Act.put, List.setIfInBounds_toArray, List.set_cons_zero, List.set_cons_succ, i64_w, i32_w]
          rfl
        refine one_ (i := 10) (N := some 13) #[true, true, true, true, true, true, true, true, true, true, true, false, false] rfl rfl (one_of HT_.out (by kernel_rfl)) (by decide) (fun K hK => ?_)
        refine box_step ?hg (N := 13) ?hd (cs := #[.int .i64 0, .int .u32 0, .string (⟨#[]⟩ : ByteArray), .int .i64 0]) (t := 62) ?hr ?_; (case hd => rfl); (case hg => rfl); (case hr => first | (go_simp; done) | (go_simp; rfl))
        intro gb211 hg w27 hbox hb
        have n0_ := Aside0.mk (blk_below (g := gb190) (o := .cells #[.slice A0_0 l0_0.length c0_0, .slice A0_1 l0_1.length c0_1, .slice A0_2 l0_2.length c0_2, .int .i64 a0_3] 59 (0, 0)) (by (with_reducible repeat (first | refine blk_drewN ?_ _ | refine blk_drew ?_ | refine blk_alloc ?_ _)); exact BK190.out) hb)
        have n1_ := Aside0.mk (blk_below (g := gb198) (o := .cells #[.int .i64 t193, .int .u32 t194, .string t195, .int .i64 t196] 62 (0, 0)) (by (with_reducible repeat (first | refine blk_drewN ?_ _ | refine blk_drew ?_ | refine blk_alloc ?_ _)); exact BK198.out) hb)
        have n2_ := Aside0.mk (blk_below (g := gb204) (o := .cells #[.int .i64 t199, .int .u32 t200, .string t201, .int .i64 t202] 62 (0, 0)) (by (with_reducible repeat (first | refine blk_drewN ?_ _ | refine blk_drew ?_ | refine blk_alloc ?_ _)); exact BK204.out) hb)
        have n3_ := Aside0.mk (below_step (by repeat (first | (with_reducible first | exact HB.out | apply below_alloc | apply pw_below_drewN | apply below_drew1 | refine below_set ?_ GE190.out | refine below_set ?_ GE198.out | refine below_set ?_ GE204.out) | exact HB.out)) hb)
        have n4_ := Aside0.mk (hbox)
        have n5_ := Aside0.mk ((by rw [hg]; exact (below_size (by repeat (first | (with_reducible first | exact HB.out | apply below_alloc | apply pw_below_drewN | apply below_drew1 | refine below_set ?_ GE190.out | refine below_set ?_ GE198.out | refine below_set ?_ GE204.out) | exact HB.out))) : w.heap.size ≤ gb211))
        have n6_ := Aside0.mk ((by rw [hg]; exact (below_size (by repeat (first | (with_reducible first | exact HB.out | apply below_alloc | apply pw_below_drewN | apply below_drew1 | refine below_set ?_ GE190.out | refine below_set ?_ GE198.out | refine below_set ?_ GE204.out) | exact HB.out))) : w.heap.size ≤ gb211))
        have n7_ := Aside0.mk ((by rw [hg]; exact Nat.ne_of_lt (blk_lt (g := gb190) (o := .cells #[.slice A0_0 l0_0.length c0_0, .slice A0_1 l0_1.length c0_1, .slice A0_2 l0_2.length c0_2, .int .i64 a0_3] 59 (0, 0)) (by (with_reducible repeat (first | refine blk_drewN ?_ _ | refine blk_drew ?_ | refine blk_alloc ?_ _)); exact BK190.out)) : gb190 ≠ gb211))
        have n8_ := Aside0.mk ((by rw [hg]; exact Nat.ne_of_gt (blk_lt (g := gb190) (o := .cells #[.slice A0_0 l0_0.length c0_0, .slice A0_1 l0_1.length c0_1, .slice A0_2 l0_2.length c0_2, .int .i64 a0_3] 59 (0, 0)) (by (with_reducible repeat (first | refine blk_drewN ?_ _ | refine blk_drew ?_ | refine blk_alloc ?_ _)); exact BK190.out)) : gb211 ≠ gb190))
        have n9_ := Aside0.mk ((by rw [hg]; exact Nat.ne_of_lt (blk_lt (g := gb198) (o := .cells #[.int .i64 t193, .int .u32 t194, .string t195, .int .i64 t196] 62 (0, 0)) (by (with_reducible repeat (first | refine blk_drewN ?_ _ | refine blk_drew ?_ | refine blk_alloc ?_ _)); exact BK198.out)) : gb198 ≠ gb211))
        have n10_ := Aside0.mk ((by rw [hg]; exact Nat.ne_of_gt (blk_lt (g := gb198) (o := .cells #[.int .i64 t193, .int .u32 t194, .string t195, .int .i64 t196] 62 (0, 0)) (by (with_reducible repeat (first | refine blk_drewN ?_ _ | refine blk_drew ?_ | refine blk_alloc ?_ _)); exact BK198.out)) : gb211 ≠ gb198))
        have n11_ := Aside0.mk ((by rw [hg]; exact Nat.ne_of_lt (blk_lt (g := gb204) (o := .cells #[.int .i64 t199, .int .u32 t200, .string t201, .int .i64 t202] 62 (0, 0)) (by (with_reducible repeat (first | refine blk_drewN ?_ _ | refine blk_drew ?_ | refine blk_alloc ?_ _)); exact BK204.out)) : gb204 ≠ gb211))
        have n12_ := Aside0.mk ((by rw [hg]; exact Nat.ne_of_gt (blk_lt (g := gb204) (o := .cells #[.int .i64 t199, .int .u32 t200, .string t201, .int .i64 t202] 62 (0, 0)) (by (with_reducible repeat (first | refine blk_drewN ?_ _ | refine blk_drew ?_ | refine blk_alloc ?_ _)); exact BK204.out)) : gb211 ≠ gb204))
        clear BK190
        clear BK198
        clear BK204
        clear HB
        have BK190 := n0_
        have BK198 := n1_
        have BK204 := n2_
        have HB := n3_
        have BK211 := n4_
        have GW211 := n5_
        have GE211 := n6_
        have NB190_211 := n7_
        have NB211_190 := n8_
        have NB198_211 := n9_
        have NB211_198 := n10_
        have NB204_211 := n11_
        have NB211_204 := n12_
        clear n0_ n1_ n2_ n3_ n4_ n5_ n6_ n7_ n8_ n9_ n10_ n11_ n12_
        clear hb hbox hg
        refine hK.out _ _ ⟨(blk_cell BK190.out 0).trans rfl, (blk_cell BK190.out 1).trans rfl, (blk_cell BK190.out 2).trans rfl, (blk_cell BK190.out 3).trans rfl⟩ (fun hHeld => ?_)
        clear hK K
        refine norm_ (a' := ?_) ?_ ?_
        rotate_left
        · show Act.put _ (some 13) _ = _
          simp only [Act.put, List.setIfInBounds_toArray, List.set_cons_zero, List.set_cons_succ, i64_w, i32_w]
          rfl
        exact norm_ (by simp only [putAll, Act.put, List.setIfInBounds_toArray, List.set_cons_zero, List.set_cons_succ]) (hCont (gb211) _ ⟨hHeld, (by (with_reducible repeat (first | refine blk_drewN ?_ _ | refine blk_drew ?_ | refine blk_alloc ?_ _)); exact BK190.out), (by (with_reducible repeat (first | refine blk_drewN ?_ _ | refine blk_drew ?_ | refine blk_alloc ?_ _)); exact BK198.out), (by (with_reducible repeat (first | refine blk_drewN ?_ _ | refine blk_drew ?_ | refine blk_alloc ?_ _)); exact BK204.out), (by (with_reducible repeat (first | refine blk_drewN ?_ _ | refine blk_drew ?_ | refine blk_alloc ?_ _)); exact BK211.out), GW211.out, GE211.out, NB190_211.out, NB211_190.out, NB198_211.out, NB211_198.out, NB204_211.out, NB211_204.out, (by repeat (first | (with_reducible first | exact HB.out | apply below_alloc | apply pw_below_drewN | apply below_drew1 | refine below_set ?_ GE190.out | refine below_set ?_ GE198.out | refine below_set ?_ GE204.out | refine below_set ?_ GE211.out) | exact HB.out))⟩)
      · skip
        refine box_step ?hg (N := 13) ?hd (cs := #[.int .i64 0, .int .u32 0, .string (⟨#[]⟩ : ByteArray), .int .i64 0]) (t := 62) ?hr ?_; (case hd => rfl); (case hg => rfl); (case hr => first | (go_simp; done) | (go_simp; rfl))
        intro gb211 hg w26 hbox hb
        have n0_ := Aside0.mk (blk_below (g := gb190) (o := .cells #[.slice A0_0 l0_0.length c0_0, .slice A0_1 l0_1.length c0_1, .slice A0_2 l0_2.length c0_2, .int .i64 a0_3] 59 (0, 0)) (by (with_reducible repeat (first | refine blk_drewN ?_ _ | refine blk_drew ?_ | refine blk_alloc ?_ _)); exact BK190.out) hb)
        have n1_ := Aside0.mk (blk_below (g := gb198) (o := .cells #[.int .i64 t193, .int .u32 t194, .string t195, .int .i64 t196] 62 (0, 0)) (by (with_reducible repeat (first | refine blk_drewN ?_ _ | refine blk_drew ?_ | refine blk_alloc ?_ _)); exact BK198.out) hb)
        have n2_ := Aside0.mk (blk_below (g := gb204) (o := .cells #[.int .i64 t199, .int .u32 t200, .string t201, .int .i64 t202] 62 (0, 0)) (by (with_reducible repeat (first | refine blk_drewN ?_ _ | refine blk_drew ?_ | refine blk_alloc ?_ _)); exact BK204.out) hb)
        have n3_ := Aside0.mk (below_step (by repeat (first | (with_reducible first | exact HB.out | apply below_alloc | apply pw_below_drewN | apply below_drew1 | refine below_set ?_ GE190.out | refine below_set ?_ GE198.out | refine below_set ?_ GE204.out) | exact HB.out)) hb)
        have n4_ := Aside0.mk (hbox)
        have n5_ := Aside0.mk ((by rw [hg]; exact (below_size (by repeat (first | (with_reducible first | exact HB.out | apply below_alloc | apply pw_below_drewN | apply below_drew1 | refine below_set ?_ GE190.out | refine below_set ?_ GE198.out | refine below_set ?_ GE204.out) | exact HB.out))) : w.heap.size ≤ gb211))
        have n6_ := Aside0.mk ((by rw [hg]; exact (below_size (by repeat (first | (with_reducible first | exact HB.out | apply below_alloc | apply pw_below_drewN | apply below_drew1 | refine below_set ?_ GE190.out | refine below_set ?_ GE198.out | refine below_set ?_ GE204.out) | exact HB.out))) : w.heap.size ≤ gb211))
        have n7_ := Aside0.mk ((by rw [hg]; exact Nat.ne_of_lt (blk_lt (g := gb190) (o := .cells #[.slice A0_0 l0_0.length c0_0, .slice A0_1 l0_1.length c0_1, .slice A0_2 l0_2.length c0_2, .int .i64 a0_3] 59 (0, 0)) (by (with_reducible repeat (first | refine blk_drewN ?_ _ | refine blk_drew ?_ | refine blk_alloc ?_ _)); exact BK190.out)) : gb190 ≠ gb211))
        have n8_ := Aside0.mk ((by rw [hg]; exact Nat.ne_of_gt (blk_lt (g := gb190) (o := .cells #[.slice A0_0 l0_0.length c0_0, .slice A0_1 l0_1.length c0_1, .slice A0_2 l0_2.length c0_2, .int .i64 a0_3] 59 (0, 0)) (by (with_reducible repeat (first | refine blk_drewN ?_ _ | refine blk_drew ?_ | refine blk_alloc ?_ _)); exact BK190.out)) : gb211 ≠ gb190))
        have n9_ := Aside0.mk ((by rw [hg]; exact Nat.ne_of_lt (blk_lt (g := gb198) (o := .cells #[.int .i64 t193, .int .u32 t194, .string t195, .int .i64 t196] 62 (0, 0)) (by (with_reducible repeat (first | refine blk_drewN ?_ _ | refine blk_drew ?_ | refine blk_alloc ?_ _)); exact BK198.out)) : gb198 ≠ gb211))
        have n10_ := Aside0.mk ((by rw [hg]; exact Nat.ne_of_gt (blk_lt (g := gb198) (o := .cells #[.int .i64 t193, .int .u32 t194, .string t195, .int .i64 t196] 62 (0, 0)) (by (with_reducible repeat (first | refine blk_drewN ?_ _ | refine blk_drew ?_ | refine blk_alloc ?_ _)); exact BK198.out)) : gb211 ≠ gb198))
        have n11_ := Aside0.mk ((by rw [hg]; exact Nat.ne_of_lt (blk_lt (g := gb204) (o := .cells #[.int .i64 t199, .int .u32 t200, .string t201, .int .i64 t202] 62 (0, 0)) (by (with_reducible repeat (first | refine blk_drewN ?_ _ | refine blk_drew ?_ | refine blk_alloc ?_ _)); exact BK204.out)) : gb204 ≠ gb211))
        have n12_ := Aside0.mk ((by rw [hg]; exact Nat.ne_of_gt (blk_lt (g := gb204) (o := .cells #[.int .i64 t199, .int .u32 t200, .string t201, .int .i64 t202] 62 (0, 0)) (by (with_reducible repeat (first | refine blk_drewN ?_ _ | refine blk_drew ?_ | refine blk_alloc ?_ _)); exact BK204.out)) : gb211 ≠ gb204))
        clear BK190
        clear BK198
        clear BK204
        clear HB
        have BK190 := n0_
        have BK198 := n1_
        have BK204 := n2_
        have HB := n3_
        have BK211 := n4_
        have GW211 := n5_
        have GE211 := n6_
        have NB190_211 := n7_
        have NB211_190 := n8_
        have NB198_211 := n9_
        have NB211_198 := n10_
        have NB204_211 := n11_
        have NB211_204 := n12_
        clear n0_ n1_ n2_ n3_ n4_ n5_ n6_ n7_ n8_ n9_ n10_ n11_ n12_
        clear hb hbox hg
        refine hK.out _ _ ⟨(blk_cell BK190.out 0).trans rfl, (blk_cell BK190.out 1).trans rfl, (blk_cell BK190.out 2).trans rfl, (blk_cell BK190.out 3).trans rfl⟩ (fun hHeld => ?_)
        clear hK K
        refine norm_ (a' := ?_) ?_ ?_
        rotate_left
        · show Act.put _ (some 13) _ = _
          simp only [Act.put, List.setIfInBounds_toArray, List.set_cons_zero, List.set_cons_succ, i64_w, i32_w]
          rfl
        refine one_ (i := 6) (N := some 42) #[true, true, true, true, true, true, true, false, false, false, true, false, false] rfl rfl (one_of HT_.out (by kernel_rfl)) (by decide) (fun K hK => ?_)
        refine goes_ Tryd.func36 (by kernel_rfl) rfl #[.agg #[.slice A0_0 l0_0.length c0_0, .slice A0_1 l0_1.length c0_1, .slice A0_2 l0_2.length c0_2, .int .i64 a0_3], .string a1, .int .i64 (wrap64 (t191 + t205))] (by rfl) rfl rfl (by (try simp only [List.map_toArray, List.map_cons, List.map_nil]); first | done | rfl | (simp only [List.length_drop, List.length_take]; rfl)) ?_
        with_reducible refine (emu_Run.calls _ _ l0_0 _ _ l0_1 _ _ l0_2 a0_3 a1 (wrap64 (t191 + t205)) t206 t207 t208 t209 t210 _ ?side1 ?side2 ?side3 ?side4 ?side5 ?side6 (Aside0.mk (hLaid_.out.below (by repeat (first | (with_reducible first | exact HB.out | apply below_alloc | apply pw_below_drewN | apply below_drew1) | refine below_set ?_ (Aside0.out (by assumption)) | exact HB.out)))) A10.out).mono ?_
        (case side1 => repeat (first | exact (Kd.C_below HR0_0.out HB.out) | (with_reducible refine Kd.C_alloc ?_ _) | (with_reducible refine Kd.C_drewN ?_ _) | (with_reducible refine Kd.C_drew ?_)))
        (case side2 => exact HC0_0.out)
        (case side3 => repeat (first | exact (Kd.C_below HR0_1.out HB.out) | (with_reducible refine Kd.C_alloc ?_ _) | (with_reducible refine Kd.C_drewN ?_ _) | (with_reducible refine Kd.C_drew ?_)))
        (case side4 => exact HC0_1.out)
        (case side5 => repeat (first | exact (Kd.C_below HR0_2.out HB.out) | (with_reducible refine Kd.C_alloc ?_ _) | (with_reducible refine Kd.C_drewN ?_ _) | (with_reducible refine Kd.C_drew ?_)))
        (case side6 => exact HC0_2.out)
        rintro e w27 ⟨rfl, hb⟩
        refine ⟨_, rfl, ?_⟩
        have n0_ := Aside0.mk (blk_below (g := gb190) (o := .cells #[.slice A0_0 l0_0.length c0_0, .slice A0_1 l0_1.length c0_1, .slice A0_2 l0_2.length c0_2, .int .i64 a0_3] 59 (0, 0)) (by (with_reducible repeat (first | refine blk_drewN ?_ _ | refine blk_drew ?_ | refine blk_alloc ?_ _)); exact BK190.out) hb)
        have n1_ := Aside0.mk (blk_below (g := gb198) (o := .cells #[.int .i64 t193, .int .u32 t194, .string t195, .int .i64 t196] 62 (0, 0)) (by (with_reducible repeat (first | refine blk_drewN ?_ _ | refine blk_drew ?_ | refine blk_alloc ?_ _)); exact BK198.out) hb)
        have n2_ := Aside0.mk (blk_below (g := gb204) (o := .cells #[.int .i64 t199, .int .u32 t200, .string t201, .int .i64 t202] 62 (0, 0)) (by (with_reducible repeat (first | refine blk_drewN ?_ _ | refine blk_drew ?_ | refine blk_alloc ?_ _)); exact BK204.out) hb)
        have n3_ := Aside0.mk (blk_below (g := gb211) (o := .cells #[.int .i64 0, .int .u32 0, .string (⟨#[]⟩ : ByteArray), .int .i64 0] 62 (0, 0)) (by (with_reducible repeat (first | refine blk_drewN ?_ _ | refine blk_drew ?_ | refine blk_alloc ?_ _)); exact BK211.out) hb)
        have n4_ := Aside0.mk (below_step (by repeat (first | (with_reducible first | exact HB.out | apply below_alloc | apply pw_below_drewN | apply below_drew1 | refine below_set ?_ GE190.out | refine below_set ?_ GE198.out | refine below_set ?_ GE204.out | refine below_set ?_ GE211.out) | exact HB.out)) hb)
        clear BK190
        clear BK198
        clear BK204
        clear BK211
        clear HB
        have BK190 := n0_
        have BK198 := n1_
        have BK204 := n2_
        have BK211 := n3_
        have HB := n4_
        clear n0_ n1_ n2_ n3_ n4_
        (try clear hb)
        (try clear hb2)
        (try clear hk)
        (try clear hi)
        refine hK.out _ _ ⟨(blk_cell BK190.out 0).trans rfl, (blk_cell BK190.out 1).trans rfl, (blk_cell BK190.out 2).trans rfl, (blk_cell BK190.out 3).trans rfl⟩ (fun hHeld => ?_)
        clear hK K
        refine norm_ (a' := ?_) ?_ ?_
        rotate_left
        · show Act.put _ (some 42) _ = _
          simp only [Act.put, List.setIfInBounds_toArray, List.set_cons_zero, List.set_cons_succ, i64_w, i32_w]
          rfl
        refine pure_ (i := 7) (N := some 35) (v := ?_) (a' := ?_) #[true, true, true, true, true, true, true, true, false, false, true, false, false] rfl rfl (any_of HT_.out (by kernel_rfl)) (fun _ _ _ h => h) (Or.inl ⟨by rfl, ?_⟩) ?_ ?_
        rotate_left
        · intro w'
          go_simp
          with_reducible rfl
        rotate_left
        · simp only [Act.put, List.setIfInBounds_toArray, List.set_cons_zero, List.set_cons_succ, i64_w, i32_w]
          rfl
        refine pure_ (i := 8) (N := some 43) (v := ?_) (a' := ?_) #[true, true, true, true, true, true, true, true, true, false, true, false, false] rfl rfl (any_of HT_.out (by kernel_rfl)) (fun _ _ _ h => h) (Or.inl ⟨by rfl, ?_⟩) ?_ ?_
        rotate_left
        · intro w'
          go_simp
          with_reducible rfl
        rotate_left
        · simp only [Act.put, List.setIfInBounds_toArray, List.set_cons_zero, List.set_cons_succ, i64_w, i32_w]
          rfl
        refine pure_ (i := 9) (N := some 44) (v := ?_) (a' := ?_) #[true, true, true, true, true, true, true, true, true, true, true, false, false] rfl rfl (any_of HT_.out (by kernel_rfl)) (fun _ _ _ h => h) (Or.inl ⟨by rfl, ?_⟩) ?_ ?_
        rotate_left
        · intro w'
          go_simp
          with_reducible rfl
        rotate_left
        · simp only [Act.put, List.setIfInBounds_toArray, List.set_cons_zero, List.set_cons_succ, i64_w, i32_w]
          rfl
        exact norm_ (by simp only [putAll, Act.put, List.setIfInBounds_toArray, List.set_cons_zero, List.set_cons_succ]) (hCont (gb211) _ ⟨hHeld, (by (with_reducible repeat (first | refine blk_drewN ?_ _ | refine blk_drew ?_ | refine blk_alloc ?_ _)); exact BK190.out), (by (with_reducible repeat (first | refine blk_drewN ?_ _ | refine blk_drew ?_ | refine blk_alloc ?_ _)); exact BK198.out), (by (with_reducible repeat (first | refine blk_drewN ?_ _ | refine blk_drew ?_ | refine blk_alloc ?_ _)); exact BK204.out), (by (with_reducible repeat (first | refine blk_drewN ?_ _ | refine blk_drew ?_ | refine blk_alloc ?_ _)); exact BK211.out), GW211.out, GE211.out, NB190_211.out, NB211_190.out, NB198_211.out, NB211_198.out, NB204_211.out, NB211_204.out, (by repeat (first | (with_reducible first | exact HB.out | apply below_alloc | apply pw_below_drewN | apply below_drew1 | refine below_set ?_ GE190.out | refine below_set ?_ GE198.out | refine below_set ?_ GE204.out | refine below_set ?_ GE211.out) | exact HB.out))⟩)
    · skip
      refine box_step ?hg (N := 13) ?hd (cs := #[.int .i64 0, .int .u32 0, .string (⟨#[]⟩ : ByteArray), .int .i64 0]) (t := 62) ?hr ?_; (case hd => rfl); (case hg => rfl); (case hr => first | (go_simp; done) | (go_simp; rfl))
      intro gb211 hg w26 hbox hb
      have n0_ := Aside0.mk (blk_below (g := gb190) (o := .cells #[.slice A0_0 l0_0.length c0_0, .slice A0_1 l0_1.length c0_1, .slice A0_2 l0_2.length c0_2, .int .i64 a0_3] 59 (0, 0)) (by (with_reducible repeat (first | refine blk_drewN ?_ _ | refine blk_drew ?_ | refine blk_alloc ?_ _)); exact BK190.out) hb)
      have n1_ := Aside0.mk (blk_below (g := gb198) (o := .cells #[.int .i64 t193, .int .u32 t194, .string t195, .int .i64 t196] 62 (0, 0)) (by (with_reducible repeat (first | refine blk_drewN ?_ _ | refine blk_drew ?_ | refine blk_alloc ?_ _)); exact BK198.out) hb)
      have n2_ := Aside0.mk (blk_below (g := gb204) (o := .cells #[.int .i64 t199, .int .u32 t200, .string t201, .int .i64 t202] 62 (0, 0)) (by (with_reducible repeat (first | refine blk_drewN ?_ _ | refine blk_drew ?_ | refine blk_alloc ?_ _)); exact BK204.out) hb)
      have n3_ := Aside0.mk (below_step (by repeat (first | (with_reducible first | exact HB.out | apply below_alloc | apply pw_below_drewN | apply below_drew1 | refine below_set ?_ GE190.out | refine below_set ?_ GE198.out | refine below_set ?_ GE204.out) | exact HB.out)) hb)
      have n4_ := Aside0.mk (hbox)
      have n5_ := Aside0.mk ((by rw [hg]; exact (below_size (by repeat (first | (with_reducible first | exact HB.out | apply below_alloc | apply pw_below_drewN | apply below_drew1 | refine below_set ?_ GE190.out | refine below_set ?_ GE198.out | refine below_set ?_ GE204.out) | exact HB.out))) : w.heap.size ≤ gb211))
      have n6_ := Aside0.mk ((by rw [hg]; exact (below_size (by repeat (first | (with_reducible first | exact HB.out | apply below_alloc | apply pw_below_drewN | apply below_drew1 | refine below_set ?_ GE190.out | refine below_set ?_ GE198.out | refine below_set ?_ GE204.out) | exact HB.out))) : w.heap.size ≤ gb211))
      have n7_ := Aside0.mk ((by rw [hg]; exact Nat.ne_of_lt (blk_lt (g := gb190) (o := .cells #[.slice A0_0 l0_0.length c0_0, .slice A0_1 l0_1.length c0_1, .slice A0_2 l0_2.length c0_2, .int .i64 a0_3] 59 (0, 0)) (by (with_reducible repeat (first | refine blk_drewN ?_ _ | refine blk_drew ?_ | refine blk_alloc ?_ _)); exact BK190.out)) : gb190 ≠ gb211))
      have n8_ := Aside0.mk ((by rw [hg]; exact Nat.ne_of_gt (blk_lt (g := gb190) (o := .cells #[.slice A0_0 l0_0.length c0_0, .slice A0_1 l0_1.length c0_1, .slice A0_2 l0_2.length c0_2, .int .i64 a0_3] 59 (0, 0)) (by (with_reducible repeat (first | refine blk_drewN ?_ _ | refine blk_drew ?_ | refine blk_alloc ?_ _)); exact BK190.out)) : gb211 ≠ gb190))
      have n9_ := Aside0.mk ((by rw [hg]; exact Nat.ne_of_lt (blk_lt (g := gb198) (o := .cells #[.int .i64 t193, .int .u32 t194, .string t195, .int .i64 t196] 62 (0, 0)) (by (with_reducible repeat (first | refine blk_drewN ?_ _ | refine blk_drew ?_ | refine blk_alloc ?_ _)); exact BK198.out)) : gb198 ≠ gb211))
      have n10_ := Aside0.mk ((by rw [hg]; exact Nat.ne_of_gt (blk_lt (g := gb198) (o := .cells #[.int .i64 t193, .int .u32 t194, .string t195, .int .i64 t196] 62 (0, 0)) (by (with_reducible repeat (first | refine blk_drewN ?_ _ | refine blk_drew ?_ | refine blk_alloc ?_ _)); exact BK198.out)) : gb211 ≠ gb198))
      have n11_ := Aside0.mk ((by rw [hg]; exact Nat.ne_of_lt (blk_lt (g := gb204) (o := .cells #[.int .i64 t199, .int .u32 t200, .string t201, .int .i64 t202] 62 (0, 0)) (by (with_reducible repeat (first | refine blk_drewN ?_ _ | refine blk_drew ?_ | refine blk_alloc ?_ _)); exact BK204.out)) : gb204 ≠ gb211))
      have n12_ := Aside0.mk ((by rw [hg]; exact Nat.ne_of_gt (blk_lt (g := gb204) (o := .cells #[.int .i64 t199, .int .u32 t200, .string t201, .int .i64 t202] 62 (0, 0)) (by (with_reducible repeat (first | refine blk_drewN ?_ _ | refine blk_drew ?_ | refine blk_alloc ?_ _)); exact BK204.out)) : gb211 ≠ gb204))
      clear BK190
      clear BK198
      clear BK204
      clear HB
      have BK190 := n0_
      have BK198 := n1_
      have BK204 := n2_
      have HB := n3_
      have BK211 := n4_
      have GW211 := n5_
      have GE211 := n6_
      have NB190_211 := n7_
      have NB211_190 := n8_
      have NB198_211 := n9_
      have NB211_198 := n10_
      have NB204_211 := n11_
      have NB211_204 := n12_
      clear n0_ n1_ n2_ n3_ n4_ n5_ n6_ n7_ n8_ n9_ n10_ n11_ n12_
      clear hb hbox hg
      refine hK.out _ _ ⟨(blk_cell BK190.out 0).trans rfl, (blk_cell BK190.out 1).trans rfl, (blk_cell BK190.out 2).trans rfl, (blk_cell BK190.out 3).trans rfl⟩ (fun hHeld => ?_)
      clear hK K
      refine norm_ (a' := ?_) ?_ ?_
      rotate_left
      · show Act.put _ (some 13) _ = _
        simp only [Act.put, List.setIfInBounds_toArray, List.set_cons_zero, List.set_cons_succ, i64_w, i32_w]
        rfl
      refine one_ (i := 4) (N := some 40) #[true, true, true, true, true, false, false, false, false, false, true, false, false] rfl rfl (one_of HT_.out (by kernel_rfl)) (by decide) (fun K hK => ?_)
      refine goes_ Tryd.func40 (by kernel_rfl) rfl #[.int .i64 t192, .int .i64 100] (by rfl) rfl rfl (by (try simp only [List.map_toArray, List.map_cons, List.map_nil]); first | done | rfl | (simp only [List.length_drop, List.length_take]; rfl)) ?_
      with_reducible refine (switchbacklaw18_pick.calls t192 100 t205 _ A9.out).mono ?_
      rintro e w' ⟨rfl, ⟨nd, rfl⟩⟩
      refine ⟨_, rfl, ?_⟩
      refine hK.out _ _ ⟨(blk_cell BK190.out 0).trans rfl, (blk_cell BK190.out 1).trans rfl, (blk_cell BK190.out 2).trans rfl, (blk_cell BK190.out 3).trans rfl⟩ (fun hHeld => ?_)
      clear hK K
      refine norm_ (a' := ?_) ?_ ?_
      rotate_left
      · show Act.put _ (some 40) _ = _
        simp only [Act.put, List.setIfInBounds_toArray, List.set_cons_zero, List.set_cons_succ, i64_w, i32_w]
        rfl
      refine pure_ (i := 5) (N := some 41) (v := ?_) (a' := ?_) #[true, true, true, true, true, true, false, false, false, false, true, false, false] rfl rfl (any_of HT_.out (by kernel_rfl)) (fun _ _ _ h => h) (Or.inl ⟨by rfl, ?_⟩) ?_ ?_
      rotate_left
      · intro w'
        go_simp
        with_reducible rfl
      rotate_left
      · simp only [Act.put, List.setIfInBounds_toArray, List.set_cons_zero, List.set_cons_succ, i64_w, i32_w]
        rfl
      refine one_ (i := 6) (N := some 42) #[true, true, true, true, true, true, true, false, false, false, true, false, false] rfl rfl (one_of HT_.out (by kernel_rfl)) (by decide) (fun K hK => ?_)
      refine goes_ Tryd.func36 (by kernel_rfl) rfl #[.agg #[.slice A0_0 l0_0.length c0_0, .slice A0_1 l0_1.length c0_1, .slice A0_2 l0_2.length c0_2, .int .i64 a0_3], .string a1, .int .i64 (wrap64 (t191 + t205))] (by rfl) rfl rfl (by (try simp only [List.map_toArray, List.map_cons, List.map_nil]); first | done | rfl | (simp only [List.length_drop, List.length_take]; rfl)) ?_
      with_reducible refine (emu_Run.calls _ _ l0_0 _ _ l0_1 _ _ l0_2 a0_3 a1 (wrap64 (t191 + t205)) t206 t207 t208 t209 t210 _ ?side1 ?side2 ?side3 ?side4 ?side5 ?side6 (Aside0.mk (hLaid_.out.below (by repeat (first | (with_reducible first | exact HB.out | apply below_alloc | apply pw_below_drewN | apply below_drew1) | refine below_set ?_ (Aside0.out (by assumption)) | exact HB.out)))) A10.out).mono ?_
      (case side1 => repeat (first | exact (Kd.C_below HR0_0.out (by repeat (first | (with_reducible first | exact HB.out | apply below_alloc | apply pw_below_drewN | apply below_drew1 | refine below_set ?_ GE190.out | refine below_set ?_ GE198.out | refine below_set ?_ GE204.out | refine below_set ?_ GE211.out) | exact HB.out))) | (with_reducible refine Kd.C_alloc ?_ _) | (with_reducible refine Kd.C_drewN ?_ _) | (with_reducible refine Kd.C_drew ?_)))
      (case side2 => exact HC0_0.out)
      (case side3 => repeat (first | exact (Kd.C_below HR0_1.out (by repeat (first | (with_reducible first | exact HB.out | apply below_alloc | apply pw_below_drewN | apply below_drew1 | refine below_set ?_ GE190.out | refine below_set ?_ GE198.out | refine below_set ?_ GE204.out | refine below_set ?_ GE211.out) | exact HB.out))) | (with_reducible refine Kd.C_alloc ?_ _) | (with_reducible refine Kd.C_drewN ?_ _) | (with_reducible refine Kd.C_drew ?_)))
      (case side4 => exact HC0_1.out)
      (case side5 => repeat (first | exact (Kd.C_below HR0_2.out (by repeat (first | (with_reducible first | exact HB.out | apply below_alloc | apply pw_below_drewN | apply below_drew1 | refine below_set ?_ GE190.out | refine below_set ?_ GE198.out | refine below_set ?_ GE204.out | refine below_set ?_ GE211.out) | exact HB.out))) | (with_reducible refine Kd.C_alloc ?_ _) | (with_reducible refine Kd.C_drewN ?_ _) | (with_reducible refine Kd.C_drew ?_)))
      (case side6 => exact HC0_2.out)
      rintro e w27 ⟨rfl, hb⟩
      refine ⟨_, rfl, ?_⟩
      have n0_ := Aside0.mk (blk_below (g := gb190) (o := .cells #[.slice A0_0 l0_0.length c0_0, .slice A0_1 l0_1.length c0_1, .slice A0_2 l0_2.length c0_2, .int .i64 a0_3] 59 (0, 0)) (by (with_reducible repeat (first | refine blk_drewN ?_ _ | refine blk_drew ?_ | refine blk_alloc ?_ _)); exact BK190.out) hb)
      have n1_ := Aside0.mk (blk_below (g := gb198) (o := .cells #[.int .i64 t193, .int .u32 t194, .string t195, .int .i64 t196] 62 (0, 0)) (by (with_reducible repeat (first | refine blk_drewN ?_ _ | refine blk_drew ?_ | refine blk_alloc ?_ _)); exact BK198.out) hb)
      have n2_ := Aside0.mk (blk_below (g := gb204) (o := .cells #[.int .i64 t199, .int .u32 t200, .string t201, .int .i64 t202] 62 (0, 0)) (by (with_reducible repeat (first | refine blk_drewN ?_ _ | refine blk_drew ?_ | refine blk_alloc ?_ _)); exact BK204.out) hb)
      have n3_ := Aside0.mk (blk_below (g := gb211) (o := .cells #[.int .i64 0, .int .u32 0, .string (⟨#[]⟩ : ByteArray), .int .i64 0] 62 (0, 0)) (by (with_reducible repeat (first | refine blk_drewN ?_ _ | refine blk_drew ?_ | refine blk_alloc ?_ _)); exact BK211.out) hb)
      have n4_ := Aside0.mk (below_step (by repeat (first | (with_reducible first | exact HB.out | apply below_alloc | apply pw_below_drewN | apply below_drew1 | refine below_set ?_ GE190.out | refine below_set ?_ GE198.out | refine below_set ?_ GE204.out | refine below_set ?_ GE211.out) | exact HB.out)) hb)
      clear BK190
      clear BK198
      clear BK204
      clear BK211
      clear HB
      have BK190 := n0_
      have BK198 := n1_
      have BK204 := n2_
      have BK211 := n3_
      have HB := n4_
      clear n0_ n1_ n2_ n3_ n4_
      (try clear hb)
      (try clear hb2)
      (try clear hk)
      (try clear hi)
      refine hK.out _ _ ⟨(blk_cell BK190.out 0).trans rfl, (blk_cell BK190.out 1).trans rfl, (blk_cell BK190.out 2).trans rfl, (blk_cell BK190.out 3).trans rfl⟩ (fun hHeld => ?_)
      clear hK K
      refine norm_ (a' := ?_) ?_ ?_
      rotate_left
      · show Act.put _ (some 42) _ = _
        simp only [Act.put, List.setIfInBounds_toArray, List.set_cons_zero, List.set_cons_succ, i64_w, i32_w]
        rfl
      refine pure_ (i := 7) (N := some 35) (v := ?_) (a' := ?_) #[true, true, true, true, true, true, true, true, false, false, true, false, false] rfl rfl (any_of HT_.out (by kernel_rfl)) (fun _ _ _ h => h) (Or.inl ⟨by rfl, ?_⟩) ?_ ?_
      rotate_left
      · intro w'
        go_simp
        with_reducible rfl
      rotate_left
      · simp only [Act.put, List.setIfInBounds_toArray, List.set_cons_zero, List.set_cons_succ, i64_w, i32_w]
        rfl
      refine pure_ (i := 8) (N := some 43) (v := ?_) (a' := ?_) #[true, true, true, true, true, true, true, true, true, false, true, false, false] rfl rfl (any_of HT_.out (by kernel_rfl)) (fun _ _ _ h => h) (Or.inl ⟨by rfl, ?_⟩) ?_ ?_
      rotate_left
      · intro w'
        go_simp
        with_reducible rfl
      rotate_left
      · simp only [Act.put, List.setIfInBounds_toArray, List.set_cons_zero, List.set_cons_succ, i64_w, i32_w]
        rfl
      refine pure_ (i := 9) (N := some 44) (v := ?_) (a' := ?_) #[true, true, true, true, true, true, true, true, true, true, true, false, false] rfl rfl (any_of HT_.out (by kernel_rfl)) (fun _ _ _ h => h) (Or.inl ⟨by rfl, ?_⟩) ?_ ?_
      rotate_left
      · intro w'
        go_simp
        with_reducible rfl
      rotate_left
      · simp only [Act.put, List.setIfInBounds_toArray, List.set_cons_zero, List.set_cons_succ, i64_w, i32_w]
        rfl
      exact norm_ (by simp only [putAll, Act.put, List.setIfInBounds_toArray, List.set_cons_zero, List.set_cons_succ]) (hCont (gb211) _ ⟨hHeld, (by (with_reducible repeat (first | refine blk_drewN ?_ _ | refine blk_drew ?_ | refine blk_alloc ?_ _)); exact BK190.out), (by (with_reducible repeat (first | refine blk_drewN ?_ _ | refine blk_drew ?_ | refine blk_alloc ?_ _)); exact BK198.out), (by (with_reducible repeat (first | refine blk_drewN ?_ _ | refine blk_drew ?_ | refine blk_alloc ?_ _)); exact BK204.out), (by (with_reducible repeat (first | refine blk_drewN ?_ _ | refine blk_drew ?_ | refine blk_alloc ?_ _)); exact BK211.out), GW211.out, GE211.out, NB190_211.out, NB211_190.out, NB198_211.out, NB211_198.out, NB204_211.out, NB211_204.out, (by repeat (first | (with_reducible first | exact HB.out | apply below_alloc | apply pw_below_drewN | apply below_drew1 | refine below_set ?_ GE190.out | refine below_set ?_ GE198.out | refine below_set ?_ GE204.out | refine below_set ?_ GE211.out) | exact HB.out))⟩)
  rintro gb211 w28 ⟨hS_, h0_, h1_, h2_, h3_, h4_, h5_, h6_, h7_, h8_, h9_, h10_, h11_, h12_⟩
  have n0_ : Aside0 (w28.heap[gb190]? = some (.cells #[.slice A0_0 l0_0.length c0_0, .slice A0_1 l0_1.length c0_1, .slice A0_2 l0_2.length c0_2, .int .i64 a0_3] 59 (0, 0))) := ⟨h0_⟩
  have n1_ : Aside0 (w28.heap[gb198]? = some (.cells #[.int .i64 t193, .int .u32 t194, .string t195, .int .i64 t196] 62 (0, 0))) := ⟨h1_⟩
  have n2_ : Aside0 (w28.heap[gb204]? = some (.cells #[.int .i64 t199, .int .u32 t200, .string t201, .int .i64 t202] 62 (0, 0))) := ⟨h2_⟩
  have n3_ : Aside0 (w28.heap[gb211]? = some (.cells #[.int .i64 0, .int .u32 0, .string (⟨#[]⟩ : ByteArray), .int .i64 0] 62 (0, 0))) := ⟨h3_⟩
  have n4_ : Aside0 (w.heap.size ≤ gb211) := ⟨h4_⟩
  have n5_ : Aside0 (w.heap.size ≤ gb211) := ⟨h5_⟩
  have n6_ : Aside0 (gb190 ≠ gb211) := ⟨h6_⟩
  have n7_ : Aside0 (gb211 ≠ gb190) := ⟨h7_⟩
  have n8_ : Aside0 (gb198 ≠ gb211) := ⟨h8_⟩
  have n9_ : Aside0 (gb211 ≠ gb198) := ⟨h9_⟩
  have n10_ : Aside0 (gb204 ≠ gb211) := ⟨h10_⟩
  have n11_ : Aside0 (gb211 ≠ gb204) := ⟨h11_⟩
  have n12_ : Aside0 (Below w.heap.size w w28) := ⟨h12_⟩
  clear BK190
  clear BK198
  clear BK204
  clear HB
  clear h0_ h1_ h2_ h3_ h4_ h5_ h6_ h7_ h8_ h9_ h10_ h11_ h12_
  have BK190 := n0_
  have BK198 := n1_
  have BK204 := n2_
  have BK211 := n3_
  have GW211 := n4_
  have GE211 := n5_
  have NB190_211 := n6_
  have NB211_190 := n7_
  have NB198_211 := n8_
  have NB211_198 := n9_
  have NB204_211 := n10_
  have NB211_204 := n11_
  have HB := n12_
  clear n0_ n1_ n2_ n3_ n4_ n5_ n6_ n7_ n8_ n9_ n10_ n11_ n12_
  have hHeld : w28.cell? ⟨gb190, 0, none⟩ = some (.slice A0_0 l0_0.length c0_0) ∧ w28.cell? ⟨gb190, 1, none⟩ = some (.slice A0_1 l0_1.length c0_1) ∧ w28.cell? ⟨gb190, 2, none⟩ = some (.slice A0_2 l0_2.length c0_2) ∧ w28.cell? ⟨gb190, 3, none⟩ = some (.int .i64 a0_3) := hS_
  refine norm_ (a' := ?_) ?_ ?_
  rotate_left
  · simp only [putAll, Act.put, List.setIfInBounds_toArray, List.set_cons_zero, List.set_cons_succ]
    rfl
  refine one_ (i := 11) (N := none) #[true, true, true, true, true, true, true, true, true, true, true, true, false] rfl rfl (one_of HT_.out (by kernel_rfl)) (by decide) (fun K hK => ?_)
  have hs29 : w28.cell? ⟨gb211, 0, none⟩ = some (.int .i64 0) := (blk_cell BK211.out 0).trans rfl
  have hfs29 := blk_frozen BK211.out 0
  have hns29_0 := NB190_211.out
  have hns29_1 := NB198_211.out
  have hns29_2 := NB204_211.out
  have hms29_0 := NB211_190.out
  have hms29_1 := NB211_198.out
  have hms29_2 := NB211_204.out
  have hs30 : w28.cell? ⟨gb211, 1, none⟩ = some (.int .u32 0) := (blk_cell BK211.out 1).trans rfl
  have hfs30 := blk_frozen BK211.out 1
  have hns30_0 := NB190_211.out
  have hns30_1 := NB198_211.out
  have hns30_2 := NB204_211.out
  have hms30_0 := NB211_190.out
  have hms30_1 := NB211_198.out
  have hms30_2 := NB211_204.out
  have hs31 : w28.cell? ⟨gb211, 2, none⟩ = some (.string (⟨#[]⟩ : ByteArray)) := (blk_cell BK211.out 2).trans rfl
  have hfs31 := blk_frozen BK211.out 2
  have hns31_0 := NB190_211.out
  have hns31_1 := NB198_211.out
  have hns31_2 := NB204_211.out
  have hms31_0 := NB211_190.out
  have hms31_1 := NB211_198.out
  have hms31_2 := NB211_204.out
  have hs32 : w28.cell? ⟨gb211, 3, none⟩ = some (.int .i64 0) := (blk_cell BK211.out 3).trans rfl
  have hfs32 := blk_frozen BK211.out 3
  have hns32_0 := NB190_211.out
  have hns32_1 := NB198_211.out
  have hns32_2 := NB204_211.out
  have hms32_0 := NB211_190.out
  have hms32_1 := NB211_198.out
  have hms32_2 := NB211_204.out
  refine skip_ (w1 := ?_) (by rfl) rfl ?_ ?_
  rotate_left
  · go_simp
    rfl
  refine hK.out _ _ ⟨((cell_far (p := ⟨gb211, _, none⟩) NB190_211.out _).trans (((cell_far (p := ⟨gb211, _, none⟩) NB190_211.out _).trans (((cell_far (p := ⟨gb211, _, none⟩) NB190_211.out _).trans (((cell_far (p := ⟨gb211, _, none⟩) NB190_211.out _).trans (hHeld.1)))))))), ((cell_far (p := ⟨gb211, _, none⟩) NB190_211.out _).trans (((cell_far (p := ⟨gb211, _, none⟩) NB190_211.out _).trans (((cell_far (p := ⟨gb211, _, none⟩) NB190_211.out _).trans (((cell_far (p := ⟨gb211, _, none⟩) NB190_211.out _).trans (hHeld.2.1)))))))), ((cell_far (p := ⟨gb211, _, none⟩) NB190_211.out _).trans (((cell_far (p := ⟨gb211, _, none⟩) NB190_211.out _).trans (((cell_far (p := ⟨gb211, _, none⟩) NB190_211.out _).trans (((cell_far (p := ⟨gb211, _, none⟩) NB190_211.out _).trans (hHeld.2.2.1)))))))), ((cell_far (p := ⟨gb211, _, none⟩) NB190_211.out _).trans (((cell_far (p := ⟨gb211, _, none⟩) NB190_211.out _).trans (((cell_far (p := ⟨gb211, _, none⟩) NB190_211.out _).trans (((cell_far (p := ⟨gb211, _, none⟩) NB190_211.out _).trans (hHeld.2.2.2))))))))⟩ (fun hHeld => ?_)
  clear hK K
  refine pure_ (i := 12) (N := some 14) (v := ?_) (a' := ?_) #[true, true, true, true, true, true, true, true, true, true, true, true, true] rfl rfl (any_of HT_.out (by kernel_rfl)) (fun _ _ _ h => h) (Or.inl ⟨by rfl, ?_⟩) ?_ ?_
  rotate_left
  · intro w'
    go_simp
    with_reducible rfl
  rotate_left
  · simp only [Act.put, List.setIfInBounds_toArray, List.set_cons_zero, List.set_cons_succ, i64_w, i32_w]
    rfl
  refine done_ (done_of HT_.out (by kernel_rfl)) ?_
  go_upto_region 6 with (fail)
  go_cut [56] (fun v56 wc => ∃ (kq : Nat) (x56_10 : Bool), v56 = .bool x56_10 ∧ Aside0 (switchbacklaw18_EmuFuel.j0 kq t191 t192 t197 t203 t210 x56_10 t193 t194 t195 t196 t199 t200 t201 t202 t206 t207 t208 t209 = some r) ∧ Aside0 (kq ≤ k) ∧ Aside0 (wc.heap[gb190]? = some (.cells #[(.slice A0_0 l0_0.length c0_0), (.slice A0_1 l0_1.length c0_1), (.slice A0_2 l0_2.length c0_2), .int .i64 a0_3] 59 (0, 0))) ∧ Aside0 (wc.heap[gb198]? = some (.cells #[.int .i64 t193, .int .u32 t194, .string t195, .int .i64 t196] 62 (0, 0))) ∧ Aside0 (wc.heap[gb204]? = some (.cells #[.int .i64 t199, .int .u32 t200, .string t201, .int .i64 t202] 62 (0, 0))) ∧ Aside0 (wc.heap[gb211]? = some (.cells #[.int .i64 t206, .int .u32 t207, .string t208, .int .i64 t209] 62 (0, 0))) ∧ Aside0 (Below w.heap.size w wc))
  case first =>
    have H := HC11.out
    clear HC11
    by_cases c33 : t197 = t203
    · rw [if_pos c33] at H
      have c33b0 : (t197 == t203) = true := beq_iff_eq.mpr c33
      have c33b1 : (t197 != t203) = false := bne_eq_false_iff_eq.mpr c33
      clear c33
      (first | rw [c33b0] | (simp only [i64_w, i32_w]; rw [c33b0]) | skip)
      by_cases c34 : t197 = t210
      · rw [if_pos c34] at H
        have c34b0 : (t197 == t210) = true := beq_iff_eq.mpr c34
        have c34b1 : (t197 != t210) = false := bne_eq_false_iff_eq.mpr c34
        clear c34
        have H' := Aside0.mk H
        clear H
        go_wp2
        go_meet
        case rel => exact ⟨_, ((t197 != 0)), (by first | rfl | (simp; done) | (simp [*]; done)), H', ⟨by first | omega | exact Nat.le_refl _⟩, ⟨by (with_reducible repeat (first | refine blk_drewN ?_ _ | refine blk_drew ?_ | refine blk_alloc ?_ _)); refine blk_far ?_ NB190_211.out _; (with_reducible repeat (first | refine blk_drewN ?_ _ | refine blk_drew ?_ | refine blk_alloc ?_ _)); refine blk_far ?_ NB190_211.out _; (with_reducible repeat (first | refine blk_drewN ?_ _ | refine blk_drew ?_ | refine blk_alloc ?_ _)); refine blk_far ?_ NB190_211.out _; (with_reducible repeat (first | refine blk_drewN ?_ _ | refine blk_drew ?_ | refine blk_alloc ?_ _)); refine blk_far ?_ NB190_211.out _; (with_reducible repeat (first | refine blk_drewN ?_ _ | refine blk_drew ?_ | refine blk_alloc ?_ _)); exact BK190.out⟩, ⟨by (with_reducible repeat (first | refine blk_drewN ?_ _ | refine blk_drew ?_ | refine blk_alloc ?_ _)); refine blk_far ?_ NB198_211.out _; (with_reducible repeat (first | refine blk_drewN ?_ _ | refine blk_drew ?_ | refine blk_alloc ?_ _)); refine blk_far ?_ NB198_211.out _; (with_reducible repeat (first | refine blk_drewN ?_ _ | refine blk_drew ?_ | refine blk_alloc ?_ _)); refine blk_far ?_ NB198_211.out _; (with_reducible repeat (first | refine blk_drewN ?_ _ | refine blk_drew ?_ | refine blk_alloc ?_ _)); refine blk_far ?_ NB198_211.out _; (with_reducible repeat (first | refine blk_drewN ?_ _ | refine blk_drew ?_ | refine blk_alloc ?_ _)); exact BK198.out⟩, ⟨by (with_reducible repeat (first | refine blk_drewN ?_ _ | refine blk_drew ?_ | refine blk_alloc ?_ _)); refine blk_far ?_ NB204_211.out _; (with_reducible repeat (first | refine blk_drewN ?_ _ | refine blk_drew ?_ | refine blk_alloc ?_ _)); refine blk_far ?_ NB204_211.out _; (with_reducible repeat (first | refine blk_drewN ?_ _ | refine blk_drew ?_ | refine blk_alloc ?_ _)); refine blk_far ?_ NB204_211.out _; (with_reducible repeat (first | refine blk_drewN ?_ _ | refine blk_drew ?_ | refine blk_alloc ?_ _)); refine blk_far ?_ NB204_211.out _; (with_reducible repeat (first | refine blk_drewN ?_ _ | refine blk_drew ?_ | refine blk_alloc ?_ _)); exact BK204.out⟩, ⟨by (with_reducible repeat (first | refine blk_drewN ?_ _ | refine blk_drew ?_ | refine blk_alloc ?_ _)); refine blk_put (cs := #[.int .i64 t206, .int .u32 t207, .string t208, .int .i64 0]) ?_ 3 _ rfl; (with_reducible repeat (first | refine blk_drewN ?_ _ | refine blk_drew ?_ | refine blk_alloc ?_ _)); refine blk_put (cs := #[.int .i64 t206, .int .u32 t207, .string (⟨#[]⟩ : ByteArray), .int .i64 0]) ?_ 2 _ rfl; (with_reducible repeat (first | refine blk_drewN ?_ _ | refine blk_drew ?_ | refine blk_alloc ?_ _)); refine blk_put (cs := #[.int .i64 t206, .int .u32 0, .string (⟨#[]⟩ : ByteArray), .int .i64 0]) ?_ 1 _ rfl; (with_reducible repeat (first | refine blk_drewN ?_ _ | refine blk_drew ?_ | refine blk_alloc ?_ _)); refine blk_put (cs := #[.int .i64 0, .int .u32 0, .string (⟨#[]⟩ : ByteArray), .int .i64 0]) ?_ 0 _ rfl; (with_reducible repeat (first | refine blk_drewN ?_ _ | refine blk_drew ?_ | refine blk_alloc ?_ _)); exact BK211.out⟩, ⟨by repeat (first | (with_reducible first | exact HB.out | apply below_alloc | apply pw_below_drewN | apply below_drew1 | refine below_set ?_ GE190.out | refine below_set ?_ GE198.out | refine below_set ?_ GE204.out | refine below_set ?_ GE211.out) | exact HB.out)⟩⟩
      · rw [if_neg c34] at H
        have c34b0 : (t197 == t210) = false := beq_eq_false_iff_ne.mpr c34
        have c34b1 : (t197 != t210) = true := bne_iff_ne.mpr c34
        have H' := Aside0.mk H
        clear H
        go_wp2
        go_meet
        case rel => exact ⟨_, (true), (by first | rfl | (simp; done) | (simp [*]; done)), H', ⟨by first | omega | exact Nat.le_refl _⟩, ⟨by (with_reducible repeat (first | refine blk_drewN ?_ _ | refine blk_drew ?_ | refine blk_alloc ?_ _)); refine blk_far ?_ NB190_211.out _; (with_reducible repeat (first | refine blk_drewN ?_ _ | refine blk_drew ?_ | refine blk_alloc ?_ _)); refine blk_far ?_ NB190_211.out _; (with_reducible repeat (first | refine blk_drewN ?_ _ | refine blk_drew ?_ | refine blk_alloc ?_ _)); refine blk_far ?_ NB190_211.out _; (with_reducible repeat (first | refine blk_drewN ?_ _ | refine blk_drew ?_ | refine blk_alloc ?_ _)); refine blk_far ?_ NB190_211.out _; (with_reducible repeat (first | refine blk_drewN ?_ _ | refine blk_drew ?_ | refine blk_alloc ?_ _)); exact BK190.out⟩, ⟨by (with_reducible repeat (first | refine blk_drewN ?_ _ | refine blk_drew ?_ | refine blk_alloc ?_ _)); refine blk_far ?_ NB198_211.out _; (with_reducible repeat (first | refine blk_drewN ?_ _ | refine blk_drew ?_ | refine blk_alloc ?_ _)); refine blk_far ?_ NB198_211.out _; (with_reducible repeat (first | refine blk_drewN ?_ _ | refine blk_drew ?_ | refine blk_alloc ?_ _)); refine blk_far ?_ NB198_211.out _; (with_reducible repeat (first | refine blk_drewN ?_ _ | refine blk_drew ?_ | refine blk_alloc ?_ _)); refine blk_far ?_ NB198_211.out _; (with_reducible repeat (first | refine blk_drewN ?_ _ | refine blk_drew ?_ | refine blk_alloc ?_ _)); exact BK198.out⟩, ⟨by (with_reducible repeat (first | refine blk_drewN ?_ _ | refine blk_drew ?_ | refine blk_alloc ?_ _)); refine blk_far ?_ NB204_211.out _; (with_reducible repeat (first | refine blk_drewN ?_ _ | refine blk_drew ?_ | refine blk_alloc ?_ _)); refine blk_far ?_ NB204_211.out _; (with_reducible repeat (first | refine blk_drewN ?_ _ | refine blk_drew ?_ | refine blk_alloc ?_ _)); refine blk_far ?_ NB204_211.out _; (with_reducible repeat (first | refine blk_drewN ?_ _ | refine blk_drew ?_ | refine blk_alloc ?_ _)); refine blk_far ?_ NB204_211.out _; (with_reducible repeat (first | refine blk_drewN ?_ _ | refine blk_drew ?_ | refine blk_alloc ?_ _)); exact BK204.out⟩, ⟨by (with_reducible repeat (first | refine blk_drewN ?_ _ | refine blk_drew ?_ | refine blk_alloc ?_ _)); refine blk_put (cs := #[.int .i64 t206, .int .u32 t207, .string t208, .int .i64 0]) ?_ 3 _ rfl; (with_reducible repeat (first | refine blk_drewN ?_ _ | refine blk_drew ?_ | refine blk_alloc ?_ _)); refine blk_put (cs := #[.int .i64 t206, .int .u32 t207, .string (⟨#[]⟩ : ByteArray), .int .i64 0]) ?_ 2 _ rfl; (with_reducible repeat (first | refine blk_drewN ?_ _ | refine blk_drew ?_ | refine blk_alloc ?_ _)); refine blk_put (cs := #[.int .i64 t206, .int .u32 0, .string (⟨#[]⟩ : ByteArray), .int .i64 0]) ?_ 1 _ rfl; (with_reducible repeat (first | refine blk_drewN ?_ _ | refine blk_drew ?_ | refine blk_alloc ?_ _)); refine blk_put (cs := #[.int .i64 0, .int .u32 0, .string (⟨#[]⟩ : ByteArray), .int .i64 0]) ?_ 0 _ rfl; (with_reducible repeat (first | refine blk_drewN ?_ _ | refine blk_drew ?_ | refine blk_alloc ?_ _)); exact BK211.out⟩, ⟨by repeat (first | (with_reducible first | exact HB.out | apply below_alloc | apply pw_below_drewN | apply below_drew1 | refine below_set ?_ GE190.out | refine below_set ?_ GE198.out | refine below_set ?_ GE204.out | refine below_set ?_ GE211.out) | exact HB.out)⟩⟩
    · rw [if_neg c33] at H
      have c33b0 : (t197 == t203) = false := beq_eq_false_iff_ne.mpr c33
      have c33b1 : (t197 != t203) = true := bne_iff_ne.mpr c33
      (first | rw [c33b0] | (simp only [i64_w, i32_w]; rw [c33b0]) | skip)
      have H' := Aside0.mk H
      clear H
      go_wp2
      go_meet
      case rel => exact ⟨_, (true), (by first | rfl | (simp; done) | (simp [*]; done)), H', ⟨by first | omega | exact Nat.le_refl _⟩, ⟨by (with_reducible repeat (first | refine blk_drewN ?_ _ | refine blk_drew ?_ | refine blk_alloc ?_ _)); refine blk_far ?_ NB190_211.out _; (with_reducible repeat (first | refine blk_drewN ?_ _ | refine blk_drew ?_ | refine blk_alloc ?_ _)); refine blk_far ?_ NB190_211.out _; (with_reducible repeat (first | refine blk_drewN ?_ _ | refine blk_drew ?_ | refine blk_alloc ?_ _)); refine blk_far ?_ NB190_211.out _; (with_reducible repeat (first | refine blk_drewN ?_ _ | refine blk_drew ?_ | refine blk_alloc ?_ _)); refine blk_far ?_ NB190_211.out _; (with_reducible repeat (first | refine blk_drewN ?_ _ | refine blk_drew ?_ | refine blk_alloc ?_ _)); exact BK190.out⟩, ⟨by (with_reducible repeat (first | refine blk_drewN ?_ _ | refine blk_drew ?_ | refine blk_alloc ?_ _)); refine blk_far ?_ NB198_211.out _; (with_reducible repeat (first | refine blk_drewN ?_ _ | refine blk_drew ?_ | refine blk_alloc ?_ _)); refine blk_far ?_ NB198_211.out _; (with_reducible repeat (first | refine blk_drewN ?_ _ | refine blk_drew ?_ | refine blk_alloc ?_ _)); refine blk_far ?_ NB198_211.out _; (with_reducible repeat (first | refine blk_drewN ?_ _ | refine blk_drew ?_ | refine blk_alloc ?_ _)); refine blk_far ?_ NB198_211.out _; (with_reducible repeat (first | refine blk_drewN ?_ _ | refine blk_drew ?_ | refine blk_alloc ?_ _)); exact BK198.out⟩, ⟨by (with_reducible repeat (first | refine blk_drewN ?_ _ | refine blk_drew ?_ | refine blk_alloc ?_ _)); refine blk_far ?_ NB204_211.out _; (with_reducible repeat (first | refine blk_drewN ?_ _ | refine blk_drew ?_ | refine blk_alloc ?_ _)); refine blk_far ?_ NB204_211.out _; (with_reducible repeat (first | refine blk_drewN ?_ _ | refine blk_drew ?_ | refine blk_alloc ?_ _)); refine blk_far ?_ NB204_211.out _; (with_reducible repeat (first | refine blk_drewN ?_ _ | refine blk_drew ?_ | refine blk_alloc ?_ _)); refine blk_far ?_ NB204_211.out _; (with_reducible repeat (first | refine blk_drewN ?_ _ | refine blk_drew ?_ | refine blk_alloc ?_ _)); exact BK204.out⟩, ⟨by (with_reducible repeat (first | refine blk_drewN ?_ _ | refine blk_drew ?_ | refine blk_alloc ?_ _)); refine blk_put (cs := #[.int .i64 t206, .int .u32 t207, .string t208, .int .i64 0]) ?_ 3 _ rfl; (with_reducible repeat (first | refine blk_drewN ?_ _ | refine blk_drew ?_ | refine blk_alloc ?_ _)); refine blk_put (cs := #[.int .i64 t206, .int .u32 t207, .string (⟨#[]⟩ : ByteArray), .int .i64 0]) ?_ 2 _ rfl; (with_reducible repeat (first | refine blk_drewN ?_ _ | refine blk_drew ?_ | refine blk_alloc ?_ _)); refine blk_put (cs := #[.int .i64 t206, .int .u32 0, .string (⟨#[]⟩ : ByteArray), .int .i64 0]) ?_ 1 _ rfl; (with_reducible repeat (first | refine blk_drewN ?_ _ | refine blk_drew ?_ | refine blk_alloc ?_ _)); refine blk_put (cs := #[.int .i64 0, .int .u32 0, .string (⟨#[]⟩ : ByteArray), .int .i64 0]) ?_ 0 _ rfl; (with_reducible repeat (first | refine blk_drewN ?_ _ | refine blk_drew ?_ | refine blk_alloc ?_ _)); exact BK211.out⟩, ⟨by repeat (first | (with_reducible first | exact HB.out | apply below_alloc | apply pw_below_drewN | apply below_drew1 | refine below_set ?_ GE190.out | refine below_set ?_ GE198.out | refine below_set ?_ GE204.out | refine below_set ?_ GE211.out) | exact HB.out)⟩⟩
  case rest =>
    clear HC11
    try clear c1
    try clear c2
    try clear p2
    try clear c3
    try clear c4
    try clear p6
    try clear c11
    try clear c16
    try clear c21
    try clear c22
    try clear c33
    try clear c33b0
    try clear c33b1
    try clear c34
    try clear c34b0
    try clear c34b1
    try clear hcz13_0
    try clear hcz13_1
    try clear hcz13_2
    try clear hcz13_3
    try clear hcz17_0
    try clear hcz17_1
    try clear hcz17_2
    try clear hcz17_3
    try clear hcz18_0
    try clear hcz18_1
    try clear hcz18_2
    try clear hcz18_3
    try clear hcz23_0
    try clear hcz23_1
    try clear hcz23_2
    try clear hcz23_3
    try clear hfz13_0
    try clear hfz13_1
    try clear hfz13_2
    try clear hfz13_3
    try clear hfz17_0
    try clear hfz17_1
    try clear hfz17_2
    try clear hfz17_3
    try clear hfz18_0
    try clear hfz18_1
    try clear hfz18_2
    try clear hfz18_3
    try clear hfz23_0
    try clear hfz23_1
    try clear hfz23_2
    try clear hfz23_3
    obtain ⟨kq, x56_10, rfl, HA, HJ10, BK190, BK198, BK204, BK211, HB⟩ := hcut
    cases kq with
    | zero => exact absurd HA.out (by simp [switchbacklaw18_EmuFuel.j0])
    | succ kj10 =>
      have H := HA.out
      clear HA
      simp only [switchbacklaw18_EmuFuel.j0] at H
      by_cases c35 : x56_10 = true
      · subst c35
        have H1 : ((switchbacklaw18_live.f).bind fun t212 => (if t212 = true then (if t197 = t203 then (if t197 = t210 then (some (t193 == 0 && (t194 == 0 && (t195.toList == ([] : List UInt8) && (t196 == 0))))) else (some false)) else (some false)) else (some false))) = some r := by rw [if_pos rfl] at H; exact H
        clear H
        have H := H1
        clear H1
        replace H := Option.bind_eq_some_iff.mp H
        obtain ⟨t212, A360, H⟩ := H
        replace H : (if t212 = true then (if t197 = t203 then (if t197 = t210 then (some (t193 == 0 && (t194 == 0 && (t195.toList == ([] : List UInt8) && (t196 == 0))))) else (some false)) else (some false)) else (some false)) = some r := H
        have A36 := Aside0.mk A360
        clear A360
        by_cases c37 : t212 = true
        · subst c37
          have H1 : (if t197 = t203 then (if t197 = t210 then (some (t193 == 0 && (t194 == 0 && (t195.toList == ([] : List UInt8) && (t196 == 0))))) else (some false)) else (some false)) = some r := by rw [if_pos rfl] at H; exact H
          clear H
          have H := H1
          clear H1
          by_cases c38 : t197 = t203
          · rw [if_pos c38] at H
            have c38b0 : (t197 == t203) = true := beq_iff_eq.mpr c38
            have c38b1 : (t197 != t203) = false := bne_eq_false_iff_eq.mpr c38
            clear c38
            by_cases c39 : t197 = t210
            · rw [if_pos c39] at H
              have c39b0 : (t197 == t210) = true := beq_iff_eq.mpr c39
              have c39b1 : (t197 != t210) = false := bne_eq_false_iff_eq.mpr c39
              clear c39
              obtain rfl := Option.some.inj H
              go_wp2_with (first | ((with_reducible refine gate_callee (f := 38) rfl ?_); refine goesL_ (some 57) rfl rfl Tryd.func38 (by kernel_rfl) rfl #[] rfl (by (try simp only [List.map_toArray, List.map_cons, List.map_nil]); first | done | rfl | (simp only [List.length_drop, List.length_take]; rfl)) ?_; (with_reducible refine (switchbacklaw18_live.calls  true _ (Aside0.mk (hLaid_.out.below (by repeat (first | (with_reducible first | exact HB.out | apply below_alloc | apply pw_below_drewN | apply below_drew1) | refine below_set ?_ (Aside0.out (by assumption)) | exact HB.out)))) A36.out).mono ?_); rintro e w40 ⟨rfl, hb⟩; refine ⟨_, rfl, ?_⟩; have n0_ := Aside0.mk (blk_below (g := gb190) (o := .cells #[.slice A0_0 l0_0.length c0_0, .slice A0_1 l0_1.length c0_1, .slice A0_2 l0_2.length c0_2, .int .i64 a0_3] 59 (0, 0)) (by (with_reducible repeat (first | refine blk_drewN ?_ _ | refine blk_drew ?_ | refine blk_alloc ?_ _)); exact BK190.out) hb); have n1_ := Aside0.mk (blk_below (g := gb198) (o := .cells #[.int .i64 t193, .int .u32 t194, .string t195, .int .i64 t196] 62 (0, 0)) (by (with_reducible repeat (first | refine blk_drewN ?_ _ | refine blk_drew ?_ | refine blk_alloc ?_ _)); exact BK198.out) hb); have n2_ := Aside0.mk (blk_below (g := gb204) (o := .cells #[.int .i64 t199, .int .u32 t200, .string t201, .int .i64 t202] 62 (0, 0)) (by (with_reducible repeat (first | refine blk_drewN ?_ _ | refine blk_drew ?_ | refine blk_alloc ?_ _)); exact BK204.out) hb); have n3_ := Aside0.mk (blk_below (g := gb211) (o := .cells #[.int .i64 t206, .int .u32 t207, .string t208, .int .i64 t209] 62 (0, 0)) (by (with_reducible repeat (first | refine blk_drewN ?_ _ | refine blk_drew ?_ | refine blk_alloc ?_ _)); exact BK211.out) hb); have n4_ := Aside0.mk (below_step (by repeat (first | (with_reducible first | exact HB.out | apply below_alloc | apply pw_below_drewN | apply below_drew1 | refine below_set ?_ GE190.out | refine below_set ?_ GE198.out | refine below_set ?_ GE204.out | refine below_set ?_ GE211.out) | exact HB.out)) hb); clear BK190; clear BK198; clear BK204; clear BK211; clear HB; have BK190 := n0_; have BK198 := n1_; have BK204 := n2_; have BK211 := n3_; have HB := n4_; clear n0_ n1_ n2_ n3_ n4_; (try clear hb); (try clear hb2); (try clear hk); (try clear hi); have hnb41 := NB198_190.out; have hnc41 := NB190_198.out; have hnb42 := NB198_204.out; have hnc42 := NB204_198.out; have hnb43 := NB198_211.out; have hnc43 := NB211_198.out; have hcz44_0 : w40.cell? ⟨gb198, 0, none⟩ = some (.int .i64 t193) := (blk_cell BK198.out 0).trans rfl; have hcz44_1 : w40.cell? ⟨gb198, 1, none⟩ = some (.int .u32 t194) := (blk_cell BK198.out 1).trans rfl; have hcz44_2 : w40.cell? ⟨gb198, 2, none⟩ = some (.string t195) := (blk_cell BK198.out 2).trans rfl; have hcz44_3 : w40.cell? ⟨gb198, 3, none⟩ = some (.int .i64 t196) := (blk_cell BK198.out 3).trans rfl; have hfz44_0 := blk_frozen BK198.out 0; have hfz44_1 := blk_frozen BK198.out 1; have hfz44_2 := blk_frozen BK198.out 2; have hfz44_3 := blk_frozen BK198.out 3))
              go_ret
              exact ⟨by first | rfl | (simp [errW_none, errW_some] <;> rfl) | (simp [*, errW_none, errW_some] <;> rfl), by repeat (first | (with_reducible first | exact HB.out | apply below_alloc | apply pw_below_drewN | apply below_drew1 | refine below_set ?_ GE190.out | refine below_set ?_ GE198.out | refine below_set ?_ GE204.out | refine below_set ?_ GE211.out) | exact HB.out)⟩
            · rw [if_neg c39] at H
              have c39b0 : (t197 == t210) = false := beq_eq_false_iff_ne.mpr c39
              have c39b1 : (t197 != t210) = true := bne_iff_ne.mpr c39
              obtain rfl := Option.some.inj H
              go_wp2_with (first | ((with_reducible refine gate_callee (f := 38) rfl ?_); refine goesL_ (some 57) rfl rfl Tryd.func38 (by kernel_rfl) rfl #[] rfl (by (try simp only [List.map_toArray, List.map_cons, List.map_nil]); first | done | rfl | (simp only [List.length_drop, List.length_take]; rfl)) ?_; (with_reducible refine (switchbacklaw18_live.calls  true _ (Aside0.mk (hLaid_.out.below (by repeat (first | (with_reducible first | exact HB.out | apply below_alloc | apply pw_below_drewN | apply below_drew1) | refine below_set ?_ (Aside0.out (by assumption)) | exact HB.out)))) A36.out).mono ?_); rintro e w45 ⟨rfl, hb⟩; refine ⟨_, rfl, ?_⟩; have n0_ := Aside0.mk (blk_below (g := gb190) (o := .cells #[.slice A0_0 l0_0.length c0_0, .slice A0_1 l0_1.length c0_1, .slice A0_2 l0_2.length c0_2, .int .i64 a0_3] 59 (0, 0)) (by (with_reducible repeat (first | refine blk_drewN ?_ _ | refine blk_drew ?_ | refine blk_alloc ?_ _)); exact BK190.out) hb); have n1_ := Aside0.mk (blk_below (g := gb198) (o := .cells #[.int .i64 t193, .int .u32 t194, .string t195, .int .i64 t196] 62 (0, 0)) (by (with_reducible repeat (first | refine blk_drewN ?_ _ | refine blk_drew ?_ | refine blk_alloc ?_ _)); exact BK198.out) hb); have n2_ := Aside0.mk (blk_below (g := gb204) (o := .cells #[.int .i64 t199, .int .u32 t200, .string t201, .int .i64 t202] 62 (0, 0)) (by (with_reducible repeat (first | refine blk_drewN ?_ _ | refine blk_drew ?_ | refine blk_alloc ?_ _)); exact BK204.out) hb); have n3_ := Aside0.mk (blk_below (g := gb211) (o := .cells #[.int .i64 t206, .int .u32 t207, .string t208, .int .i64 t209] 62 (0, 0)) (by (with_reducible repeat (first | refine blk_drewN ?_ _ | refine blk_drew ?_ | refine blk_alloc ?_ _)); exact BK211.out) hb); have n4_ := Aside0.mk (below_step (by repeat (first | (with_reducible first | exact HB.out | apply below_alloc | apply pw_below_drewN | apply below_drew1 | refine below_set ?_ GE190.out | refine below_set ?_ GE198.out | refine below_set ?_ GE204.out | refine below_set ?_ GE211.out) | exact HB.out)) hb); clear BK190; clear BK198; clear BK204; clear BK211; clear HB; have BK190 := n0_; have BK198 := n1_; have BK204 := n2_; have BK211 := n3_; have HB := n4_; clear n0_ n1_ n2_ n3_ n4_; (try clear hb); (try clear hb2); (try clear hk); (try clear hi)))
              go_ret
              exact ⟨by first | rfl | (simp [errW_none, errW_some] <;> rfl) | (simp [*, errW_none, errW_some] <;> rfl), by repeat (first | (with_reducible first | exact HB.out | apply below_alloc | apply pw_below_drewN | apply below_drew1 | refine below_set ?_ GE190.out | refine below_set ?_ GE198.out | refine below_set ?_ GE204.out | refine below_set ?_ GE211.out) | exact HB.out)⟩
          · rw [if_neg c38] at H
            have c38b0 : (t197 == t203) = false := beq_eq_false_iff_ne.mpr c38
            have c38b1 : (t197 != t203) = true := bne_iff_ne.mpr c38
            obtain rfl := Option.some.inj H
            go_wp2_with (first | ((with_reducible refine gate_callee (f := 38) rfl ?_); refine goesL_ (some 57) rfl rfl Tryd.func38 (by kernel_rfl) rfl #[] rfl (by (try simp only [List.map_toArray, List.map_cons, List.map_nil]); first | done | rfl | (simp only [List.length_drop, List.length_take]; rfl)) ?_; (with_reducible refine (switchbacklaw18_live.calls  true _ (Aside0.mk (hLaid_.out.below (by repeat (first | (with_reducible first | exact HB.out | apply below_alloc | apply pw_below_drewN | apply below_drew1) | refine below_set ?_ (Aside0.out (by assumption)) | exact HB.out)))) A36.out).mono ?_); rintro e w46 ⟨rfl, hb⟩; refine ⟨_, rfl, ?_⟩; have n0_ := Aside0.mk (blk_below (g := gb190) (o := .cells #[.slice A0_0 l0_0.length c0_0, .slice A0_1 l0_1.length c0_1, .slice A0_2 l0_2.length c0_2, .int .i64 a0_3] 59 (0, 0)) (by (with_reducible repeat (first | refine blk_drewN ?_ _ | refine blk_drew ?_ | refine blk_alloc ?_ _)); exact BK190.out) hb); have n1_ := Aside0.mk (blk_below (g := gb198) (o := .cells #[.int .i64 t193, .int .u32 t194, .string t195, .int .i64 t196] 62 (0, 0)) (by (with_reducible repeat (first | refine blk_drewN ?_ _ | refine blk_drew ?_ | refine blk_alloc ?_ _)); exact BK198.out) hb); have n2_ := Aside0.mk (blk_below (g := gb204) (o := .cells #[.int .i64 t199, .int .u32 t200, .string t201, .int .i64 t202] 62 (0, 0)) (by (with_reducible repeat (first | refine blk_drewN ?_ _ | refine blk_drew ?_ | refine blk_alloc ?_ _)); exact BK204.out) hb); have n3_ := Aside0.mk (blk_below (g := gb211) (o := .cells #[.int .i64 t206, .int .u32 t207, .string t208, .int .i64 t209] 62 (0, 0)) (by (with_reducible repeat (first | refine blk_drewN ?_ _ | refine blk_drew ?_ | refine blk_alloc ?_ _)); exact BK211.out) hb); have n4_ := Aside0.mk (below_step (by repeat (first | (with_reducible first | exact HB.out | apply below_alloc | apply pw_below_drewN | apply below_drew1 | refine below_set ?_ GE190.out | refine below_set ?_ GE198.out | refine below_set ?_ GE204.out | refine below_set ?_ GE211.out) | exact HB.out)) hb); clear BK190; clear BK198; clear BK204; clear BK211; clear HB; have BK190 := n0_; have BK198 := n1_; have BK204 := n2_; have BK211 := n3_; have HB := n4_; clear n0_ n1_ n2_ n3_ n4_; (try clear hb); (try clear hb2); (try clear hk); (try clear hi)))
            go_ret
            exact ⟨by first | rfl | (simp [errW_none, errW_some] <;> rfl) | (simp [*, errW_none, errW_some] <;> rfl), by repeat (first | (with_reducible first | exact HB.out | apply below_alloc | apply pw_below_drewN | apply below_drew1 | refine below_set ?_ GE190.out | refine below_set ?_ GE198.out | refine below_set ?_ GE204.out | refine below_set ?_ GE211.out) | exact HB.out)⟩
        · replace c37 := Bool.eq_false_iff.mpr c37
          subst c37
          have H1 : (some false) = some r := by rw [if_neg (show ¬ (false = true) by decide)] at H; exact H
          clear H
          have H := H1
          clear H1
          obtain rfl := Option.some.inj H
          go_wp2_with (first | ((with_reducible refine gate_callee (f := 38) rfl ?_); refine goesL_ (some 57) rfl rfl Tryd.func38 (by kernel_rfl) rfl #[] rfl (by (try simp only [List.map_toArray, List.map_cons, List.map_nil]); first | done | rfl | (simp only [List.length_drop, List.length_take]; rfl)) ?_; (with_reducible refine (switchbacklaw18_live.calls  false _ (Aside0.mk (hLaid_.out.below (by repeat (first | (with_reducible first | exact HB.out | apply below_alloc | apply pw_below_drewN | apply below_drew1) | refine below_set ?_ (Aside0.out (by assumption)) | exact HB.out)))) A36.out).mono ?_); rintro e w47 ⟨rfl, hb⟩; refine ⟨_, rfl, ?_⟩; have n0_ := Aside0.mk (blk_below (g := gb190) (o := .cells #[.slice A0_0 l0_0.length c0_0, .slice A0_1 l0_1.length c0_1, .slice A0_2 l0_2.length c0_2, .int .i64 a0_3] 59 (0, 0)) (by (with_reducible repeat (first | refine blk_drewN ?_ _ | refine blk_drew ?_ | refine blk_alloc ?_ _)); exact BK190.out) hb); have n1_ := Aside0.mk (blk_below (g := gb198) (o := .cells #[.int .i64 t193, .int .u32 t194, .string t195, .int .i64 t196] 62 (0, 0)) (by (with_reducible repeat (first | refine blk_drewN ?_ _ | refine blk_drew ?_ | refine blk_alloc ?_ _)); exact BK198.out) hb); have n2_ := Aside0.mk (blk_below (g := gb204) (o := .cells #[.int .i64 t199, .int .u32 t200, .string t201, .int .i64 t202] 62 (0, 0)) (by (with_reducible repeat (first | refine blk_drewN ?_ _ | refine blk_drew ?_ | refine blk_alloc ?_ _)); exact BK204.out) hb); have n3_ := Aside0.mk (blk_below (g := gb211) (o := .cells #[.int .i64 t206, .int .u32 t207, .string t208, .int .i64 t209] 62 (0, 0)) (by (with_reducible repeat (first | refine blk_drewN ?_ _ | refine blk_drew ?_ | refine blk_alloc ?_ _)); exact BK211.out) hb); have n4_ := Aside0.mk (below_step (by repeat (first | (with_reducible first | exact HB.out | apply below_alloc | apply pw_below_drewN | apply below_drew1 | refine below_set ?_ GE190.out | refine below_set ?_ GE198.out | refine below_set ?_ GE204.out | refine below_set ?_ GE211.out) | exact HB.out)) hb); clear BK190; clear BK198; clear BK204; clear BK211; clear HB; have BK190 := n0_; have BK198 := n1_; have BK204 := n2_; have BK211 := n3_; have HB := n4_; clear n0_ n1_ n2_ n3_ n4_; (try clear hb); (try clear hb2); (try clear hk); (try clear hi)))
          go_ret
          exact ⟨by first | rfl | (simp [errW_none, errW_some] <;> rfl) | (simp [*, errW_none, errW_some] <;> rfl), by repeat (first | (with_reducible first | exact HB.out | apply below_alloc | apply pw_below_drewN | apply below_drew1 | refine below_set ?_ GE190.out | refine below_set ?_ GE198.out | refine below_set ?_ GE204.out | refine below_set ?_ GE211.out) | exact HB.out)⟩
      · replace c35 := Bool.eq_false_iff.mpr c35
        subst c35
        have H1 : (if t193 = 3 then (if t196 = t191 then (switchbacklaw18_EmuFuel.j1 kj10 t192 (decide (t196 > t191)) t193 t194 t195 t196 t199 t200 t201 t202 t206 t207 t208 t209) else (switchbacklaw18_EmuFuel.j1 kj10 t192 true t193 t194 t195 t196 t199 t200 t201 t202 t206 t207 t208 t209)) else (if (!(t206 == t193) || (!(t207 == t194) || (!(t208.toList == t195.toList) || (!(t209 == t196))))) = true then (switchbacklaw18_EmuFuel.j1 kj10 t192 true t193 t194 t195 t196 t199 t200 t201 t202 t206 t207 t208 t209) else (if t196 < 1 then (switchbacklaw18_EmuFuel.j1 kj10 t192 true t193 t194 t195 t196 t199 t200 t201 t202 t206 t207 t208 t209) else (switchbacklaw18_EmuFuel.j1 kj10 t192 (decide (t196 > t191)) t193 t194 t195 t196 t199 t200 t201 t202 t206 t207 t208 t209)))) = some r := by rw [if_neg (show ¬ (false = true) by decide)] at H; exact H
        clear H
        have H := H1
        clear H1
        have HC48 := Aside0.mk H
        clear H
        go_upto_region 8 with (fail)
        go_cut [102] (fun v102 wc => ∃ (kq : Nat) (x102_47 : Bool), v102 = .bool x102_47 ∧ Aside0 (switchbacklaw18_EmuFuel.j1 kq t192 x102_47 t193 t194 t195 t196 t199 t200 t201 t202 t206 t207 t208 t209 = some r) ∧ Aside0 (kq ≤ kj10) ∧ Aside0 (wc.heap[gb190]? = some (.cells #[(.slice A0_0 l0_0.length c0_0), (.slice A0_1 l0_1.length c0_1), (.slice A0_2 l0_2.length c0_2), .int .i64 a0_3] 59 (0, 0))) ∧ Aside0 (wc.heap[gb198]? = some (.cells #[.int .i64 t193, .int .u32 t194, .string t195, .int .i64 t196] 62 (0, 0))) ∧ Aside0 (wc.heap[gb204]? = some (.cells #[.int .i64 t199, .int .u32 t200, .string t201, .int .i64 t202] 62 (0, 0))) ∧ Aside0 (wc.heap[gb211]? = some (.cells #[.int .i64 t206, .int .u32 t207, .string t208, .int .i64 t209] 62 (0, 0))) ∧ Aside0 (Below w.heap.size w wc))
        case first =>
          have H := HC48.out
          clear HC48
          by_cases c49 : t193 = 3
          · rw [if_pos c49] at H
            have c49b0 : (t193 == 3) = true := beq_iff_eq.mpr c49
            have c49b1 : (t193 != 3) = false := bne_eq_false_iff_eq.mpr c49
            clear c49
            (first | rw [c49b0] | (simp only [i64_w, i32_w]; rw [c49b0]) | skip)
            by_cases c50 : t196 = t191
            · rw [if_pos c50] at H
              have c50b0 : (t196 == t191) = true := beq_iff_eq.mpr c50
              have c50b1 : (t196 != t191) = false := bne_eq_false_iff_eq.mpr c50
              clear c50
              have H' := Aside0.mk H
              clear H
              have hnb51 := NB198_190.out
              have hnc51 := NB190_198.out
              have hnb52 := NB198_204.out
              have hnc52 := NB204_198.out
              have hnb53 := NB198_211.out
              have hnc53 := NB211_198.out
              have hcz54_0 : wc.cell? ⟨gb198, 0, none⟩ = some (.int .i64 t193) := (blk_cell BK198.out 0).trans rfl
              have hcz54_1 : wc.cell? ⟨gb198, 1, none⟩ = some (.int .u32 t194) := (blk_cell BK198.out 1).trans rfl
              have hcz54_2 : wc.cell? ⟨gb198, 2, none⟩ = some (.string t195) := (blk_cell BK198.out 2).trans rfl
              have hcz54_3 : wc.cell? ⟨gb198, 3, none⟩ = some (.int .i64 t196) := (blk_cell BK198.out 3).trans rfl
              have hfz54_0 := blk_frozen BK198.out 0
              have hfz54_1 := blk_frozen BK198.out 1
              have hfz54_2 := blk_frozen BK198.out 2
              have hfz54_3 := blk_frozen BK198.out 3
              go_wp2
              go_meet
              case rel => exact ⟨_, (decide (t196 > t191)), (by first | rfl | (simp; done) | (simp [*]; done)), H', ⟨by have := HJ10.out; first | omega | exact Nat.le_refl _⟩, ⟨by (with_reducible repeat (first | refine blk_drewN ?_ _ | refine blk_drew ?_ | refine blk_alloc ?_ _)); exact BK190.out⟩, ⟨by (with_reducible repeat (first | refine blk_drewN ?_ _ | refine blk_drew ?_ | refine blk_alloc ?_ _)); exact BK198.out⟩, ⟨by (with_reducible repeat (first | refine blk_drewN ?_ _ | refine blk_drew ?_ | refine blk_alloc ?_ _)); exact BK204.out⟩, ⟨by (with_reducible repeat (first | refine blk_drewN ?_ _ | refine blk_drew ?_ | refine blk_alloc ?_ _)); exact BK211.out⟩, ⟨by repeat (first | (with_reducible first | exact HB.out | apply below_alloc | apply pw_below_drewN | apply below_drew1 | refine below_set ?_ GE190.out | refine below_set ?_ GE198.out | refine below_set ?_ GE204.out | refine below_set ?_ GE211.out) | exact HB.out)⟩⟩
            · rw [if_neg c50] at H
              have c50b0 : (t196 == t191) = false := beq_eq_false_iff_ne.mpr c50
              have c50b1 : (t196 != t191) = true := bne_iff_ne.mpr c50
              have H' := Aside0.mk H
              clear H
              have hnb55 := NB198_190.out
              have hnc55 := NB190_198.out
              have hnb56 := NB198_204.out
              have hnc56 := NB204_198.out
              have hnb57 := NB198_211.out
              have hnc57 := NB211_198.out
              have hcz58_0 : wc.cell? ⟨gb198, 0, none⟩ = some (.int .i64 t193) := (blk_cell BK198.out 0).trans rfl
              have hcz58_1 : wc.cell? ⟨gb198, 1, none⟩ = some (.int .u32 t194) := (blk_cell BK198.out 1).trans rfl
              have hcz58_2 : wc.cell? ⟨gb198, 2, none⟩ = some (.string t195) := (blk_cell BK198.out 2).trans rfl
              have hcz58_3 : wc.cell? ⟨gb198, 3, none⟩ = some (.int .i64 t196) := (blk_cell BK198.out 3).trans rfl
              have hfz58_0 := blk_frozen BK198.out 0
              have hfz58_1 := blk_frozen BK198.out 1
              have hfz58_2 := blk_frozen BK198.out 2
              have hfz58_3 := blk_frozen BK198.out 3
              go_wp2
              go_meet
              case rel => exact ⟨_, (true), (by first | rfl | (simp; done) | (simp [*]; done)), H', ⟨by have := HJ10.out; first | omega | exact Nat.le_refl _⟩, ⟨by (with_reducible repeat (first | refine blk_drewN ?_ _ | refine blk_drew ?_ | refine blk_alloc ?_ _)); exact BK190.out⟩, ⟨by (with_reducible repeat (first | refine blk_drewN ?_ _ | refine blk_drew ?_ | refine blk_alloc ?_ _)); exact BK198.out⟩, ⟨by (with_reducible repeat (first | refine blk_drewN ?_ _ | refine blk_drew ?_ | refine blk_alloc ?_ _)); exact BK204.out⟩, ⟨by (with_reducible repeat (first | refine blk_drewN ?_ _ | refine blk_drew ?_ | refine blk_alloc ?_ _)); exact BK211.out⟩, ⟨by repeat (first | (with_reducible first | exact HB.out | apply below_alloc | apply pw_below_drewN | apply below_drew1 | refine below_set ?_ GE190.out | refine below_set ?_ GE198.out | refine below_set ?_ GE204.out | refine below_set ?_ GE211.out) | exact HB.out)⟩⟩
          · rw [if_neg c49] at H
            have c49b0 : (t193 == 3) = false := beq_eq_false_iff_ne.mpr c49
            have c49b1 : (t193 != 3) = true := bne_iff_ne.mpr c49
            (first | rw [c49b0] | (simp only [i64_w, i32_w]; rw [c49b0]) | skip)
            by_cases c59 : (!(t206 == t193) || (!(t207 == t194) || (!(t208.toList == t195.toList) || (!(t209 == t196))))) = true
            · rw [if_pos c59] at H
              have c59b0 : (!(t206 == t193) || (!(t207 == t194) || (!(t208.toList == t195.toList) || (!(t209 == t196))))) = true := c59
              clear c59
              have H' := Aside0.mk H
              clear H
              have hnb60 := NB198_190.out
              have hnc60 := NB190_198.out
              have hnb61 := NB198_204.out
              have hnc61 := NB204_198.out
              have hnb62 := NB198_211.out
              have hnc62 := NB211_198.out
              have hcz63_0 : wc.cell? ⟨gb198, 0, none⟩ = some (.int .i64 t193) := (blk_cell BK198.out 0).trans rfl
              have hcz63_1 : wc.cell? ⟨gb198, 1, none⟩ = some (.int .u32 t194) := (blk_cell BK198.out 1).trans rfl
              have hcz63_2 : wc.cell? ⟨gb198, 2, none⟩ = some (.string t195) := (blk_cell BK198.out 2).trans rfl
              have hcz63_3 : wc.cell? ⟨gb198, 3, none⟩ = some (.int .i64 t196) := (blk_cell BK198.out 3).trans rfl
              have hfz63_0 := blk_frozen BK198.out 0
              have hfz63_1 := blk_frozen BK198.out 1
              have hfz63_2 := blk_frozen BK198.out 2
              have hfz63_3 := blk_frozen BK198.out 3
              have hnb64 := NB211_190.out
              have hnc64 := NB190_211.out
              have hnb65 := NB211_204.out
              have hnc65 := NB204_211.out
              have hcz66_0 : wc.cell? ⟨gb211, 0, none⟩ = some (.int .i64 t206) := (blk_cell BK211.out 0).trans rfl
              have hcz66_1 : wc.cell? ⟨gb211, 1, none⟩ = some (.int .u32 t207) := (blk_cell BK211.out 1).trans rfl
              have hcz66_2 : wc.cell? ⟨gb211, 2, none⟩ = some (.string t208) := (blk_cell BK211.out 2).trans rfl
              have hcz66_3 : wc.cell? ⟨gb211, 3, none⟩ = some (.int .i64 t209) := (blk_cell BK211.out 3).trans rfl
              have hfz66_0 := blk_frozen BK211.out 0
              have hfz66_1 := blk_frozen BK211.out 1
              have hfz66_2 := blk_frozen BK211.out 2
              have hfz66_3 := blk_frozen BK211.out 3
              go_wp2
              go_meet
              case rel => exact ⟨_, (true), (by first | rfl | (simp; done) | (simp [*]; done)), H', ⟨by have := HJ10.out; first | omega | exact Nat.le_refl _⟩, ⟨by (with_reducible repeat (first | refine blk_drewN ?_ _ | refine blk_drew ?_ | refine blk_alloc ?_ _)); exact BK190.out⟩, ⟨by (with_reducible repeat (first | refine blk_drewN ?_ _ | refine blk_drew ?_ | refine blk_alloc ?_ _)); exact BK198.out⟩, ⟨by (with_reducible repeat (first | refine blk_drewN ?_ _ | refine blk_drew ?_ | refine blk_alloc ?_ _)); exact BK204.out⟩, ⟨by (with_reducible repeat (first | refine blk_drewN ?_ _ | refine blk_drew ?_ | refine blk_alloc ?_ _)); exact BK211.out⟩, ⟨by repeat (first | (with_reducible first | exact HB.out | apply below_alloc | apply pw_below_drewN | apply below_drew1 | refine below_set ?_ GE190.out | refine below_set ?_ GE198.out | refine below_set ?_ GE204.out | refine below_set ?_ GE211.out) | exact HB.out)⟩⟩
            · rw [if_neg c59] at H
              have c59b0 : (!(t206 == t193) || (!(t207 == t194) || (!(t208.toList == t195.toList) || (!(t209 == t196))))) = false := by simpa using c59
              clear c59
              by_cases c67 : t196 < 1
              · rw [if_pos c67] at H
                have c67b0 : decide (t196 < 1) = true := decide_eq_true c67
                clear c67
                have H' := Aside0.mk H
                clear H
                have hnb68 := NB198_190.out
                have hnc68 := NB190_198.out
                have hnb69 := NB198_204.out
                have hnc69 := NB204_198.out
                have hnb70 := NB198_211.out
                have hnc70 := NB211_198.out
                have hcz71_0 : wc.cell? ⟨gb198, 0, none⟩ = some (.int .i64 t193) := (blk_cell BK198.out 0).trans rfl
                have hcz71_1 : wc.cell? ⟨gb198, 1, none⟩ = some (.int .u32 t194) := (blk_cell BK198.out 1).trans rfl
                have hcz71_2 : wc.cell? ⟨gb198, 2, none⟩ = some (.string t195) := (blk_cell BK198.out 2).trans rfl
                have hcz71_3 : wc.cell? ⟨gb198, 3, none⟩ = some (.int .i64 t196) := (blk_cell BK198.out 3).trans rfl
                have hfz71_0 := blk_frozen BK198.out 0
                have hfz71_1 := blk_frozen BK198.out 1
                have hfz71_2 := blk_frozen BK198.out 2
                have hfz71_3 := blk_frozen BK198.out 3
                have hnb72 := NB211_190.out
                have hnc72 := NB190_211.out
                have hnb73 := NB211_204.out
                have hnc73 := NB204_211.out
                have hcz74_0 : wc.cell? ⟨gb211, 0, none⟩ = some (.int .i64 t206) := (blk_cell BK211.out 0).trans rfl
                have hcz74_1 : wc.cell? ⟨gb211, 1, none⟩ = some (.int .u32 t207) := (blk_cell BK211.out 1).trans rfl
                have hcz74_2 : wc.cell? ⟨gb211, 2, none⟩ = some (.string t208) := (blk_cell BK211.out 2).trans rfl
                have hcz74_3 : wc.cell? ⟨gb211, 3, none⟩ = some (.int .i64 t209) := (blk_cell BK211.out 3).trans rfl
                have hfz74_0 := blk_frozen BK211.out 0
                have hfz74_1 := blk_frozen BK211.out 1
                have hfz74_2 := blk_frozen BK211.out 2
                have hfz74_3 := blk_frozen BK211.out 3
                go_wp2
                go_meet
                case rel => exact ⟨_, (true), (by first | rfl | (simp; done) | (simp [*]; done)), H', ⟨by have := HJ10.out; first | omega | exact Nat.le_refl _⟩, ⟨by (with_reducible repeat (first | refine blk_drewN ?_ _ | refine blk_drew ?_ | refine blk_alloc ?_ _)); exact BK190.out⟩, ⟨by (with_reducible repeat (first | refine blk_drewN ?_ _ | refine blk_drew ?_ | refine blk_alloc ?_ _)); exact BK198.out⟩, ⟨by (with_reducible repeat (first | refine blk_drewN ?_ _ | refine blk_drew ?_ | refine blk_alloc ?_ _)); exact BK204.out⟩, ⟨by (with_reducible repeat (first | refine blk_drewN ?_ _ | refine blk_drew ?_ | refine blk_alloc ?_ _)); exact BK211.out⟩, ⟨by repeat (first | (with_reducible first | exact HB.out | apply below_alloc | apply pw_below_drewN | apply below_drew1 | refine below_set ?_ GE190.out | refine below_set ?_ GE198.out | refine below_set ?_ GE204.out | refine below_set ?_ GE211.out) | exact HB.out)⟩⟩
              · rw [if_neg c67] at H
                have c67b0 : decide (t196 < 1) = false := decide_eq_false c67
                clear c67
                have H' := Aside0.mk H
                clear H
                have hnb75 := NB198_190.out
                have hnc75 := NB190_198.out
                have hnb76 := NB198_204.out
                have hnc76 := NB204_198.out
                have hnb77 := NB198_211.out
                have hnc77 := NB211_198.out
                have hcz78_0 : wc.cell? ⟨gb198, 0, none⟩ = some (.int .i64 t193) := (blk_cell BK198.out 0).trans rfl
                have hcz78_1 : wc.cell? ⟨gb198, 1, none⟩ = some (.int .u32 t194) := (blk_cell BK198.out 1).trans rfl
                have hcz78_2 : wc.cell? ⟨gb198, 2, none⟩ = some (.string t195) := (blk_cell BK198.out 2).trans rfl
                have hcz78_3 : wc.cell? ⟨gb198, 3, none⟩ = some (.int .i64 t196) := (blk_cell BK198.out 3).trans rfl
                have hfz78_0 := blk_frozen BK198.out 0
                have hfz78_1 := blk_frozen BK198.out 1
                have hfz78_2 := blk_frozen BK198.out 2
                have hfz78_3 := blk_frozen BK198.out 3
                have hnb79 := NB211_190.out
                have hnc79 := NB190_211.out
                have hnb80 := NB211_204.out
                have hnc80 := NB204_211.out
                have hcz81_0 : wc.cell? ⟨gb211, 0, none⟩ = some (.int .i64 t206) := (blk_cell BK211.out 0).trans rfl
                have hcz81_1 : wc.cell? ⟨gb211, 1, none⟩ = some (.int .u32 t207) := (blk_cell BK211.out 1).trans rfl
                have hcz81_2 : wc.cell? ⟨gb211, 2, none⟩ = some (.string t208) := (blk_cell BK211.out 2).trans rfl
                have hcz81_3 : wc.cell? ⟨gb211, 3, none⟩ = some (.int .i64 t209) := (blk_cell BK211.out 3).trans rfl
                have hfz81_0 := blk_frozen BK211.out 0
                have hfz81_1 := blk_frozen BK211.out 1
                have hfz81_2 := blk_frozen BK211.out 2
                have hfz81_3 := blk_frozen BK211.out 3
                go_wp2
                go_meet
                case rel => exact ⟨_, (decide (t196 > t191)), (by first | rfl | (simp; done) | (simp [*]; done)), H', ⟨by have := HJ10.out; first | omega | exact Nat.le_refl _⟩, ⟨by (with_reducible repeat (first | refine blk_drewN ?_ _ | refine blk_drew ?_ | refine blk_alloc ?_ _)); exact BK190.out⟩, ⟨by (with_reducible repeat (first | refine blk_drewN ?_ _ | refine blk_drew ?_ | refine blk_alloc ?_ _)); exact BK198.out⟩, ⟨by (with_reducible repeat (first | refine blk_drewN ?_ _ | refine blk_drew ?_ | refine blk_alloc ?_ _)); exact BK204.out⟩, ⟨by (with_reducible repeat (first | refine blk_drewN ?_ _ | refine blk_drew ?_ | refine blk_alloc ?_ _)); exact BK211.out⟩, ⟨by repeat (first | (with_reducible first | exact HB.out | apply below_alloc | apply pw_below_drewN | apply below_drew1 | refine below_set ?_ GE190.out | refine below_set ?_ GE198.out | refine below_set ?_ GE204.out | refine below_set ?_ GE211.out) | exact HB.out)⟩⟩
        case rest =>
          clear HC48
          try clear c1
          try clear c2
          try clear p2
          try clear c3
          try clear c4
          try clear c5
          try clear c6
          try clear p6
          try clear c7
          try clear c8
          try clear c11
          try clear c16
          try clear c21
          try clear c22
          try clear c33
          try clear c33b0
          try clear c33b1
          try clear c34
          try clear c34b0
          try clear c34b1
          try clear c35
          try clear c36
          try clear c37
          try clear c38
          try clear c38b0
          try clear c38b1
          try clear c39
          try clear c39b0
          try clear c39b1
          try clear c40
          try clear c41
          try clear c42
          try clear c43
          try clear c49
          try clear c49b0
          try clear c49b1
          try clear c50
          try clear c50b0
          try clear c50b1
          try clear c51
          try clear c52
          try clear c53
          try clear c55
          try clear c56
          try clear c57
          try clear c59
          try clear c59b0
          try clear c60
          try clear c61
          try clear c62
          try clear c64
          try clear p64
          try clear c65
          try clear c67
          try clear c67b0
          try clear c68
          try clear c69
          try clear c70
          try clear c72
          try clear c73
          try clear c75
          try clear c76
          try clear c77
          try clear c79
          try clear c80
          try clear hcz13_0
          try clear hcz13_1
          try clear hcz13_2
          try clear hcz13_3
          try clear hcz17_0
          try clear hcz17_1
          try clear hcz17_2
          try clear hcz17_3
          try clear hcz18_0
          try clear hcz18_1
          try clear hcz18_2
          try clear hcz18_3
          try clear hcz23_0
          try clear hcz23_1
          try clear hcz23_2
          try clear hcz23_3
          try clear hcz44_0
          try clear hcz44_1
          try clear hcz44_2
          try clear hcz44_3
          try clear hcz54_0
          try clear hcz54_1
          try clear hcz54_2
          try clear hcz54_3
          try clear hcz58_0
          try clear hcz58_1
          try clear hcz58_2
          try clear hcz58_3
          try clear hcz63_0
          try clear hcz63_1
          try clear hcz63_2
          try clear hcz63_3
          try clear hcz66_0
          try clear hcz66_1
          try clear hcz66_2
          try clear hcz66_3
          try clear hcz71_0
          try clear hcz71_1
          try clear hcz71_2
          try clear hcz71_3
          try clear hcz74_0
          try clear hcz74_1
          try clear hcz74_2
          try clear hcz74_3
          try clear hcz78_0
          try clear hcz78_1
          try clear hcz78_2
          try clear hcz78_3
          try clear hcz81_0
          try clear hcz81_1
          try clear hcz81_2
          try clear hcz81_3
          try clear hfz13_0
          try clear hfz13_1
          try clear hfz13_2
          try clear hfz13_3
          try clear hfz17_0
          try clear hfz17_1
          try clear hfz17_2
          try clear hfz17_3
          try clear hfz18_0
          try clear hfz18_1
          try clear hfz18_2
          try clear hfz18_3
          try clear hfz23_0
          try clear hfz23_1
          try clear hfz23_2
          try clear hfz23_3
          try clear hfz44_0
          try clear hfz44_1
          try clear hfz44_2
          try clear hfz44_3
          try clear hfz54_0
          try clear hfz54_1
          try clear hfz54_2
          try clear hfz54_3
          try clear hfz58_0
          try clear hfz58_1
          try clear hfz58_2
          try clear hfz58_3
          try clear hfz63_0
          try clear hfz63_1
          try clear hfz63_2
          try clear hfz63_3
          try clear hfz66_0
          try clear hfz66_1
          try clear hfz66_2
          try clear hfz66_3
          try clear hfz71_0
          try clear hfz71_1
          try clear hfz71_2
          try clear hfz71_3
          try clear hfz74_0
          try clear hfz74_1
          try clear hfz74_2
          try clear hfz74_3
          try clear hfz78_0
          try clear hfz78_1
          try clear hfz78_2
          try clear hfz78_3
          try clear hfz81_0
          try clear hfz81_1
          try clear hfz81_2
          try clear hfz81_3
          try clear p2
          try clear p6
          obtain ⟨kq, x102_47, rfl, HA, HJ47, BK190, BK198, BK204, BK211, HB⟩ := hcut
          cases kq with
          | zero => exact absurd HA.out (by simp [switchbacklaw18_EmuFuel.j1])
          | succ kj47 =>
            have H := HA.out
            clear HA
            simp only [switchbacklaw18_EmuFuel.j1] at H
            by_cases c82 : x102_47 = true
            · subst c82
              have H1 : (some false) = some r := by rw [if_pos rfl] at H; exact H
              clear H
              have H := H1
              clear H1
              obtain rfl := Option.some.inj H
              go_wp2
              go_ret
              exact ⟨by first | rfl | (simp [errW_none, errW_some] <;> rfl) | (simp [*, errW_none, errW_some] <;> rfl), by repeat (first | (with_reducible first | exact HB.out | apply below_alloc | apply pw_below_drewN | apply below_drew1 | refine below_set ?_ GE190.out | refine below_set ?_ GE198.out | refine below_set ?_ GE204.out | refine below_set ?_ GE211.out) | exact HB.out)⟩
            · replace c82 := Bool.eq_false_iff.mpr c82
              subst c82
              have H1 : (if t193 = 3 then (switchbacklaw18_EmuFuel.j2 kj47 t192 false t193 t194 t195 t196 t199 t200 t201 t202 t206 t207 t208 t209) else (switchbacklaw18_EmuFuel.j2 kj47 t192 (decide (t192 ≥ t196)) t193 t194 t195 t196 t199 t200 t201 t202 t206 t207 t208 t209)) = some r := by rw [if_neg (show ¬ (false = true) by decide)] at H; exact H
              clear H
              have H := H1
              clear H1
              have HC83 := Aside0.mk H
              clear H
              go_upto_region 10 with (fail)
              go_cut [111] (fun v111 wc => ∃ (kq : Nat) (x111_82 : Bool), v111 = .bool x111_82 ∧ Aside0 (switchbacklaw18_EmuFuel.j2 kq t192 x111_82 t193 t194 t195 t196 t199 t200 t201 t202 t206 t207 t208 t209 = some r) ∧ Aside0 (kq ≤ kj47) ∧ Aside0 (wc.heap[gb190]? = some (.cells #[(.slice A0_0 l0_0.length c0_0), (.slice A0_1 l0_1.length c0_1), (.slice A0_2 l0_2.length c0_2), .int .i64 a0_3] 59 (0, 0))) ∧ Aside0 (wc.heap[gb198]? = some (.cells #[.int .i64 t193, .int .u32 t194, .string t195, .int .i64 t196] 62 (0, 0))) ∧ Aside0 (wc.heap[gb204]? = some (.cells #[.int .i64 t199, .int .u32 t200, .string t201, .int .i64 t202] 62 (0, 0))) ∧ Aside0 (wc.heap[gb211]? = some (.cells #[.int .i64 t206, .int .u32 t207, .string t208, .int .i64 t209] 62 (0, 0))) ∧ Aside0 (Below w.heap.size w wc))
              case first =>
                have H := HC83.out
                clear HC83
                by_cases c84 : t193 = 3
                · rw [if_pos c84] at H
                  have c84b0 : (t193 == 3) = true := beq_iff_eq.mpr c84
                  have c84b1 : (t193 != 3) = false := bne_eq_false_iff_eq.mpr c84
                  clear c84
                  (first | rw [c84b0] | (simp only [i64_w, i32_w]; rw [c84b0]) | skip)
                  have H' := Aside0.mk H
                  clear H
                  have hnb85 := NB198_190.out
                  have hnc85 := NB190_198.out
                  have hnb86 := NB198_204.out
                  have hnc86 := NB204_198.out
                  have hnb87 := NB198_211.out
                  have hnc87 := NB211_198.out
                  have hcz88_0 : wc.cell? ⟨gb198, 0, none⟩ = some (.int .i64 t193) := (blk_cell BK198.out 0).trans rfl
                  have hcz88_1 : wc.cell? ⟨gb198, 1, none⟩ = some (.int .u32 t194) := (blk_cell BK198.out 1).trans rfl
                  have hcz88_2 : wc.cell? ⟨gb198, 2, none⟩ = some (.string t195) := (blk_cell BK198.out 2).trans rfl
                  have hcz88_3 : wc.cell? ⟨gb198, 3, none⟩ = some (.int .i64 t196) := (blk_cell BK198.out 3).trans rfl
                  have hfz88_0 := blk_frozen BK198.out 0
                  have hfz88_1 := blk_frozen BK198.out 1
                  have hfz88_2 := blk_frozen BK198.out 2
                  have hfz88_3 := blk_frozen BK198.out 3
                  go_wp2
                  go_meet
                  case rel => exact ⟨_, (false), (by first | rfl | (simp; done) | (simp [*]; done)), H', ⟨by have := HJ10.out; have := HJ47.out; first | omega | exact Nat.le_refl _⟩, ⟨by (with_reducible repeat (first | refine blk_drewN ?_ _ | refine blk_drew ?_ | refine blk_alloc ?_ _)); exact BK190.out⟩, ⟨by (with_reducible repeat (first | refine blk_drewN ?_ _ | refine blk_drew ?_ | refine blk_alloc ?_ _)); exact BK198.out⟩, ⟨by (with_reducible repeat (first | refine blk_drewN ?_ _ | refine blk_drew ?_ | refine blk_alloc ?_ _)); exact BK204.out⟩, ⟨by (with_reducible repeat (first | refine blk_drewN ?_ _ | refine blk_drew ?_ | refine blk_alloc ?_ _)); exact BK211.out⟩, ⟨by repeat (first | (with_reducible first | exact HB.out | apply below_alloc | apply pw_below_drewN | apply below_drew1 | refine below_set ?_ GE190.out | refine below_set ?_ GE198.out | refine below_set ?_ GE204.out | refine below_set ?_ GE211.out) | exact HB.out)⟩⟩
                · rw [if_neg c84] at H
                  have c84b0 : (t193 == 3) = false := beq_eq_false_iff_ne.mpr c84
                  have c84b1 : (t193 != 3) = true := bne_iff_ne.mpr c84
                  (first | rw [c84b0] | (simp only [i64_w, i32_w]; rw [c84b0]) | skip)
                  have H' := Aside0.mk H
                  clear H
                  have hnb89 := NB198_190.out
                  have hnc89 := NB190_198.out
                  have hnb90 := NB198_204.out
                  have hnc90 := NB204_198.out
                  have hnb91 := NB198_211.out
                  have hnc91 := NB211_198.out
                  have hcz92_0 : wc.cell? ⟨gb198, 0, none⟩ = some (.int .i64 t193) := (blk_cell BK198.out 0).trans rfl
                  have hcz92_1 : wc.cell? ⟨gb198, 1, none⟩ = some (.int .u32 t194) := (blk_cell BK198.out 1).trans rfl
                  have hcz92_2 : wc.cell? ⟨gb198, 2, none⟩ = some (.string t195) := (blk_cell BK198.out 2).trans rfl
                  have hcz92_3 : wc.cell? ⟨gb198, 3, none⟩ = some (.int .i64 t196) := (blk_cell BK198.out 3).trans rfl
                  have hfz92_0 := blk_frozen BK198.out 0
                  have hfz92_1 := blk_frozen BK198.out 1
                  have hfz92_2 := blk_frozen BK198.out 2
                  have hfz92_3 := blk_frozen BK198.out 3
                  go_wp2
                  go_meet
                  case rel => exact ⟨_, (decide (t192 ≥ t196)), (by first | rfl | (simp; done) | (simp [*]; done)), H', ⟨by have := HJ10.out; have := HJ47.out; first | omega | exact Nat.le_refl _⟩, ⟨by (with_reducible repeat (first | refine blk_drewN ?_ _ | refine blk_drew ?_ | refine blk_alloc ?_ _)); exact BK190.out⟩, ⟨by (with_reducible repeat (first | refine blk_drewN ?_ _ | refine blk_drew ?_ | refine blk_alloc ?_ _)); exact BK198.out⟩, ⟨by (with_reducible repeat (first | refine blk_drewN ?_ _ | refine blk_drew ?_ | refine blk_alloc ?_ _)); exact BK204.out⟩, ⟨by (with_reducible repeat (first | refine blk_drewN ?_ _ | refine blk_drew ?_ | refine blk_alloc ?_ _)); exact BK211.out⟩, ⟨by repeat (first | (with_reducible first | exact HB.out | apply below_alloc | apply pw_below_drewN | apply below_drew1 | refine below_set ?_ GE190.out | refine below_set ?_ GE198.out | refine below_set ?_ GE204.out | refine below_set ?_ GE211.out) | exact HB.out)⟩⟩
              case rest =>
                clear HC83
                try clear c1
                try clear c2
                try clear p2
                try clear c3
                try clear c4
                try clear c5
                try clear c6
                try clear p6
                try clear c7
                try clear c8
                try clear c9
                try clear c11
                try clear c16
                try clear c21
                try clear c22
                try clear c33
                try clear c33b0
                try clear c33b1
                try clear c34
                try clear c34b0
                try clear c34b1
                try clear c35
                try clear c36
                try clear c37
                try clear c38
                try clear c38b0
                try clear c38b1
                try clear c39
                try clear c39b0
                try clear c39b1
                try clear c40
                try clear c41
                try clear c42
                try clear c43
                try clear c49
                try clear c49b0
                try clear c49b1
                try clear c50
                try clear c50b0
                try clear c50b1
                try clear c51
                try clear c52
                try clear c53
                try clear c55
                try clear c56
                try clear c57
                try clear c59
                try clear c59b0
                try clear c60
                try clear c61
                try clear c62
                try clear c64
                try clear p64
                try clear c65
                try clear c67
                try clear c67b0
                try clear c68
                try clear c69
                try clear c70
                try clear c72
                try clear c73
                try clear c75
                try clear c76
                try clear c77
                try clear c79
                try clear c80
                try clear c82
                try clear c84
                try clear c84b0
                try clear c84b1
                try clear c85
                try clear c86
                try clear c87
                try clear c89
                try clear c90
                try clear c91
                try clear hcz13_0
                try clear hcz13_1
                try clear hcz13_2
                try clear hcz13_3
                try clear hcz17_0
                try clear hcz17_1
                try clear hcz17_2
                try clear hcz17_3
                try clear hcz18_0
                try clear hcz18_1
                try clear hcz18_2
                try clear hcz18_3
                try clear hcz23_0
                try clear hcz23_1
                try clear hcz23_2
                try clear hcz23_3
                try clear hcz44_0
                try clear hcz44_1
                try clear hcz44_2
                try clear hcz44_3
                try clear hcz54_0
                try clear hcz54_1
                try clear hcz54_2
                try clear hcz54_3
                try clear hcz58_0
                try clear hcz58_1
                try clear hcz58_2
                try clear hcz58_3
                try clear hcz63_0
                try clear hcz63_1
                try clear hcz63_2
                try clear hcz63_3
                try clear hcz66_0
                try clear hcz66_1
                try clear hcz66_2
                try clear hcz66_3
                try clear hcz71_0
                try clear hcz71_1
                try clear hcz71_2
                try clear hcz71_3
                try clear hcz74_0
                try clear hcz74_1
                try clear hcz74_2
                try clear hcz74_3
                try clear hcz78_0
                try clear hcz78_1
                try clear hcz78_2
                try clear hcz78_3
                try clear hcz81_0
                try clear hcz81_1
                try clear hcz81_2
                try clear hcz81_3
                try clear hcz88_0
                try clear hcz88_1
                try clear hcz88_2
                try clear hcz88_3
                try clear hcz92_0
                try clear hcz92_1
                try clear hcz92_2
                try clear hcz92_3
                try clear hfz13_0
                try clear hfz13_1
                try clear hfz13_2
                try clear hfz13_3
                try clear hfz17_0
                try clear hfz17_1
                try clear hfz17_2
                try clear hfz17_3
                try clear hfz18_0
                try clear hfz18_1
                try clear hfz18_2
                try clear hfz18_3
                try clear hfz23_0
                try clear hfz23_1
                try clear hfz23_2
                try clear hfz23_3
                try clear hfz44_0
                try clear hfz44_1
                try clear hfz44_2
                try clear hfz44_3
                try clear hfz54_0
                try clear hfz54_1
                try clear hfz54_2
                try clear hfz54_3
                try clear hfz58_0
                try clear hfz58_1
                try clear hfz58_2
                try clear hfz58_3
                try clear hfz63_0
                try clear hfz63_1
                try clear hfz63_2
                try clear hfz63_3
                try clear hfz66_0
                try clear hfz66_1
                try clear hfz66_2
                try clear hfz66_3
                try clear hfz71_0
                try clear hfz71_1
                try clear hfz71_2
                try clear hfz71_3
                try clear hfz74_0
                try clear hfz74_1
                try clear hfz74_2
                try clear hfz74_3
                try clear hfz78_0
                try clear hfz78_1
                try clear hfz78_2
                try clear hfz78_3
                try clear hfz81_0
                try clear hfz81_1
                try clear hfz81_2
                try clear hfz81_3
                try clear hfz88_0
                try clear hfz88_1
                try clear hfz88_2
                try clear hfz88_3
                try clear hfz92_0
                try clear hfz92_1
                try clear hfz92_2
                try clear hfz92_3
                try clear p2
                try clear p6
                try clear p64
                obtain ⟨kq, x111_82, rfl, HA, HJ82, BK190, BK198, BK204, BK211, HB⟩ := hcut
                cases kq with
                | zero => exact absurd HA.out (by simp [switchbacklaw18_EmuFuel.j2])
                | succ kj82 =>
                  have H := HA.out
                  clear HA
                  simp only [switchbacklaw18_EmuFuel.j2] at H
                  by_cases c93 : x111_82 = true
                  · subst c93
                    have H1 : ((switchbacklaw18_live.f).bind fun t213 => (if t213 = true then (some (t199 == t193 && (t200 == t194 && (t201.toList == t195.toList && (t202 == t196))))) else (some false))) = some r := by rw [if_pos rfl] at H; exact H
                    clear H
                    have H := H1
                    clear H1
                    replace H := Option.bind_eq_some_iff.mp H
                    obtain ⟨t213, A940, H⟩ := H
                    replace H : (if t213 = true then (some (t199 == t193 && (t200 == t194 && (t201.toList == t195.toList && (t202 == t196))))) else (some false)) = some r := H
                    have A94 := Aside0.mk A940
                    clear A940
                    by_cases c95 : t213 = true
                    · subst c95
                      have H1 : (some (t199 == t193 && (t200 == t194 && (t201.toList == t195.toList && (t202 == t196))))) = some r := by rw [if_pos rfl] at H; exact H
                      clear H
                      have H := H1
                      clear H1
                      obtain rfl := Option.some.inj H
                      go_wp2_with (first | ((with_reducible refine gate_callee (f := 38) rfl ?_); refine goesL_ (some 112) rfl rfl Tryd.func38 (by kernel_rfl) rfl #[] rfl (by (try simp only [List.map_toArray, List.map_cons, List.map_nil]); first | done | rfl | (simp only [List.length_drop, List.length_take]; rfl)) ?_; (with_reducible refine (switchbacklaw18_live.calls  true _ (Aside0.mk (hLaid_.out.below (by repeat (first | (with_reducible first | exact HB.out | apply below_alloc | apply pw_below_drewN | apply below_drew1) | refine below_set ?_ (Aside0.out (by assumption)) | exact HB.out)))) A94.out).mono ?_); rintro e w96 ⟨rfl, hb⟩; refine ⟨_, rfl, ?_⟩; have n0_ := Aside0.mk (blk_below (g := gb190) (o := .cells #[.slice A0_0 l0_0.length c0_0, .slice A0_1 l0_1.length c0_1, .slice A0_2 l0_2.length c0_2, .int .i64 a0_3] 59 (0, 0)) (by (with_reducible repeat (first | refine blk_drewN ?_ _ | refine blk_drew ?_ | refine blk_alloc ?_ _)); exact BK190.out) hb); have n1_ := Aside0.mk (blk_below (g := gb198) (o := .cells #[.int .i64 t193, .int .u32 t194, .string t195, .int .i64 t196] 62 (0, 0)) (by (with_reducible repeat (first | refine blk_drewN ?_ _ | refine blk_drew ?_ | refine blk_alloc ?_ _)); exact BK198.out) hb); have n2_ := Aside0.mk (blk_below (g := gb204) (o := .cells #[.int .i64 t199, .int .u32 t200, .string t201, .int .i64 t202] 62 (0, 0)) (by (with_reducible repeat (first | refine blk_drewN ?_ _ | refine blk_drew ?_ | refine blk_alloc ?_ _)); exact BK204.out) hb); have n3_ := Aside0.mk (blk_below (g := gb211) (o := .cells #[.int .i64 t206, .int .u32 t207, .string t208, .int .i64 t209] 62 (0, 0)) (by (with_reducible repeat (first | refine blk_drewN ?_ _ | refine blk_drew ?_ | refine blk_alloc ?_ _)); exact BK211.out) hb); have n4_ := Aside0.mk (below_step (by repeat (first | (with_reducible first | exact HB.out | apply below_alloc | apply pw_below_drewN | apply below_drew1 | refine below_set ?_ GE190.out | refine below_set ?_ GE198.out | refine below_set ?_ GE204.out | refine below_set ?_ GE211.out) | exact HB.out)) hb); clear BK190; clear BK198; clear BK204; clear BK211; clear HB; have BK190 := n0_; have BK198 := n1_; have BK204 := n2_; have BK211 := n3_; have HB := n4_; clear n0_ n1_ n2_ n3_ n4_; (try clear hb); (try clear hb2); (try clear hk); (try clear hi); have hnb97 := NB204_190.out; have hnc97 := NB190_204.out; have hnb98 := NB204_198.out; have hnc98 := NB198_204.out; have hnb99 := NB204_211.out; have hnc99 := NB211_204.out; have hcz100_0 : w96.cell? ⟨gb204, 0, none⟩ = some (.int .i64 t199) := (blk_cell BK204.out 0).trans rfl; have hcz100_1 : w96.cell? ⟨gb204, 1, none⟩ = some (.int .u32 t200) := (blk_cell BK204.out 1).trans rfl; have hcz100_2 : w96.cell? ⟨gb204, 2, none⟩ = some (.string t201) := (blk_cell BK204.out 2).trans rfl; have hcz100_3 : w96.cell? ⟨gb204, 3, none⟩ = some (.int .i64 t202) := (blk_cell BK204.out 3).trans rfl; have hfz100_0 := blk_frozen BK204.out 0; have hfz100_1 := blk_frozen BK204.out 1; have hfz100_2 := blk_frozen BK204.out 2; have hfz100_3 := blk_frozen BK204.out 3; have hnb101 := NB198_190.out; have hnc101 := NB190_198.out; have hnb102 := NB198_211.out; have hnc102 := NB211_198.out; have hcz103_0 : w96.cell? ⟨gb198, 0, none⟩ = some (.int .i64 t193) := (blk_cell BK198.out 0).trans rfl; have hcz103_1 : w96.cell? ⟨gb198, 1, none⟩ = some (.int .u32 t194) := (blk_cell BK198.out 1).trans rfl; have hcz103_2 : w96.cell? ⟨gb198, 2, none⟩ = some (.string t195) := (blk_cell BK198.out 2).trans rfl; have hcz103_3 : w96.cell? ⟨gb198, 3, none⟩ = some (.int .i64 t196) := (blk_cell BK198.out 3).trans rfl; have hfz103_0 := blk_frozen BK198.out 0; have hfz103_1 := blk_frozen BK198.out 1; have hfz103_2 := blk_frozen BK198.out 2; have hfz103_3 := blk_frozen BK198.out 3))
                      go_ret
                      exact ⟨by first | rfl | (simp [errW_none, errW_some] <;> rfl) | (simp [*, errW_none, errW_some] <;> rfl), by repeat (first | (with_reducible first | exact HB.out | apply below_alloc | apply pw_below_drewN | apply below_drew1 | refine below_set ?_ GE190.out | refine below_set ?_ GE198.out | refine below_set ?_ GE204.out | refine below_set ?_ GE211.out) | exact HB.out)⟩
                    · replace c95 := Bool.eq_false_iff.mpr c95
                      subst c95
                      have H1 : (some false) = some r := by rw [if_neg (show ¬ (false = true) by decide)] at H; exact H
                      clear H
                      have H := H1
                      clear H1
                      obtain rfl := Option.some.inj H
                      go_wp2_with (first | ((with_reducible refine gate_callee (f := 38) rfl ?_); refine goesL_ (some 112) rfl rfl Tryd.func38 (by kernel_rfl) rfl #[] rfl (by (try simp only [List.map_toArray, List.map_cons, List.map_nil]); first | done | rfl | (simp only [List.length_drop, List.length_take]; rfl)) ?_; (with_reducible refine (switchbacklaw18_live.calls  false _ (Aside0.mk (hLaid_.out.below (by repeat (first | (with_reducible first | exact HB.out | apply below_alloc | apply pw_below_drewN | apply below_drew1) | refine below_set ?_ (Aside0.out (by assumption)) | exact HB.out)))) A94.out).mono ?_); rintro e w104 ⟨rfl, hb⟩; refine ⟨_, rfl, ?_⟩; have n0_ := Aside0.mk (blk_below (g := gb190) (o := .cells #[.slice A0_0 l0_0.length c0_0, .slice A0_1 l0_1.length c0_1, .slice A0_2 l0_2.length c0_2, .int .i64 a0_3] 59 (0, 0)) (by (with_reducible repeat (first | refine blk_drewN ?_ _ | refine blk_drew ?_ | refine blk_alloc ?_ _)); exact BK190.out) hb); have n1_ := Aside0.mk (blk_below (g := gb198) (o := .cells #[.int .i64 t193, .int .u32 t194, .string t195, .int .i64 t196] 62 (0, 0)) (by (with_reducible repeat (first | refine blk_drewN ?_ _ | refine blk_drew ?_ | refine blk_alloc ?_ _)); exact BK198.out) hb); have n2_ := Aside0.mk (blk_below (g := gb204) (o := .cells #[.int .i64 t199, .int .u32 t200, .string t201, .int .i64 t202] 62 (0, 0)) (by (with_reducible repeat (first | refine blk_drewN ?_ _ | refine blk_drew ?_ | refine blk_alloc ?_ _)); exact BK204.out) hb); have n3_ := Aside0.mk (blk_below (g := gb211) (o := .cells #[.int .i64 t206, .int .u32 t207, .string t208, .int .i64 t209] 62 (0, 0)) (by (with_reducible repeat (first | refine blk_drewN ?_ _ | refine blk_drew ?_ | refine blk_alloc ?_ _)); exact BK211.out) hb); have n4_ := Aside0.mk (below_step (by repeat (first | (with_reducible first | exact HB.out | apply below_alloc | apply pw_below_drewN | apply below_drew1 | refine below_set ?_ GE190.out | refine below_set ?_ GE198.out | refine below_set ?_ GE204.out | refine below_set ?_ GE211.out) | exact HB.out)) hb); clear BK190; clear BK198; clear BK204; clear BK211; clear HB; have BK190 := n0_; have BK198 := n1_; have BK204 := n2_; have BK211 := n3_; have HB := n4_; clear n0_ n1_ n2_ n3_ n4_; (try clear hb); (try clear hb2); (try clear hk); (try clear hi)))
                      go_ret
                      exact ⟨by first | rfl | (simp [errW_none, errW_some] <;> rfl) | (simp [*, errW_none, errW_some] <;> rfl), by repeat (first | (with_reducible first | exact HB.out | apply below_alloc | apply pw_below_drewN | apply below_drew1 | refine below_set ?_ GE190.out | refine below_set ?_ GE198.out | refine below_set ?_ GE204.out | refine below_set ?_ GE211.out) | exact HB.out)⟩
                  · replace c93 := Bool.eq_false_iff.mpr c93
                    subst c93
                    have H1 : ((switchbacklaw18_live.f).bind fun t214 => (if t214 = true then (if t199 = 3 then (if t200 = 0 then (if t202 = t192 then ((switchbacklaw18_begins.f t201 t195).bind fun t215 => (if t215 = true then ((switchbacklaw18_begins.f t195 t208).bind fun t216 => (some t216)) else (some false))) else (some false)) else (some false)) else (some false)) else (some false))) = some r := by rw [if_neg (show ¬ (false = true) by decide)] at H; exact H
                    clear H
                    have H := H1
                    clear H1
                    replace H := Option.bind_eq_some_iff.mp H
                    obtain ⟨t214, A1050, H⟩ := H
                    replace H : (if t214 = true then (if t199 = 3 then (if t200 = 0 then (if t202 = t192 then ((switchbacklaw18_begins.f t201 t195).bind fun t215 => (if t215 = true then ((switchbacklaw18_begins.f t195 t208).bind fun t216 => (some t216)) else (some false))) else (some false)) else (some false)) else (some false)) else (some false)) = some r := H
                    have A105 := Aside0.mk A1050
                    clear A1050
                    by_cases c106 : t214 = true
                    · subst c106
                      have H1 : (if t199 = 3 then (if t200 = 0 then (if t202 = t192 then ((switchbacklaw18_begins.f t201 t195).bind fun t215 => (if t215 = true then ((switchbacklaw18_begins.f t195 t208).bind fun t216 => (some t216)) else (some false))) else (some false)) else (some false)) else (some false)) = some r := by rw [if_pos rfl] at H; exact H
                      clear H
                      have H := H1
                      clear H1
                      by_cases c107 : t199 = 3
                      · rw [if_pos c107] at H
                        have c107b0 : (t199 == 3) = true := beq_iff_eq.mpr c107
                        have c107b1 : (t199 != 3) = false := bne_eq_false_iff_eq.mpr c107
                        clear c107
                        by_cases c108 : t200 = 0
                        · rw [if_pos c108] at H
                          have c108b0 : (t200 == 0) = true := beq_iff_eq.mpr c108
                          have c108b1 : (t200 != 0) = false := bne_eq_false_iff_eq.mpr c108
                          clear c108
                          by_cases c109 : t202 = t192
                          · rw [if_pos c109] at H
                            have c109b0 : (t202 == t192) = true := beq_iff_eq.mpr c109
                            have c109b1 : (t202 != t192) = false := bne_eq_false_iff_eq.mpr c109
                            clear c109
                            replace H := Option.bind_eq_some_iff.mp H
                            obtain ⟨t215, A1100, H⟩ := H
                            replace H : (if t215 = true then ((switchbacklaw18_begins.f t195 t208).bind fun t216 => (some t216)) else (some false)) = some r := H
                            have A110 := Aside0.mk A1100
                            clear A1100
                            by_cases c111 : t215 = true
                            · subst c111
                              have H1 : ((switchbacklaw18_begins.f t195 t208).bind fun t216 => (some t216)) = some r := by rw [if_pos rfl] at H; exact H
                              clear H
                              have H := H1
                              clear H1
                              replace H := Option.bind_eq_some_iff.mp H
                              obtain ⟨t216, A1120, H⟩ := H
                              replace H : (some t216) = some r := H
                              have A112 := Aside0.mk A1120
                              clear A1120
                              obtain rfl := Option.some.inj H
                              go_wp2_with (first | ((with_reducible refine gate_callee (f := 38) rfl ?_); refine goesL_ (some 118) rfl rfl Tryd.func38 (by kernel_rfl) rfl #[] rfl (by (try simp only [List.map_toArray, List.map_cons, List.map_nil]); first | done | rfl | (simp only [List.length_drop, List.length_take]; rfl)) ?_; (with_reducible refine (switchbacklaw18_live.calls  true _ (Aside0.mk (hLaid_.out.below (by repeat (first | (with_reducible first | exact HB.out | apply below_alloc | apply pw_below_drewN | apply below_drew1) | refine below_set ?_ (Aside0.out (by assumption)) | exact HB.out)))) A105.out).mono ?_); rintro e w113 ⟨rfl, hb⟩; refine ⟨_, rfl, ?_⟩; have n0_ := Aside0.mk (blk_below (g := gb190) (o := .cells #[.slice A0_0 l0_0.length c0_0, .slice A0_1 l0_1.length c0_1, .slice A0_2 l0_2.length c0_2, .int .i64 a0_3] 59 (0, 0)) (by (with_reducible repeat (first | refine blk_drewN ?_ _ | refine blk_drew ?_ | refine blk_alloc ?_ _)); exact BK190.out) hb); have n1_ := Aside0.mk (blk_below (g := gb198) (o := .cells #[.int .i64 t193, .int .u32 t194, .string t195, .int .i64 t196] 62 (0, 0)) (by (with_reducible repeat (first | refine blk_drewN ?_ _ | refine blk_drew ?_ | refine blk_alloc ?_ _)); exact BK198.out) hb); have n2_ := Aside0.mk (blk_below (g := gb204) (o := .cells #[.int .i64 t199, .int .u32 t200, .string t201, .int .i64 t202] 62 (0, 0)) (by (with_reducible repeat (first | refine blk_drewN ?_ _ | refine blk_drew ?_ | refine blk_alloc ?_ _)); exact BK204.out) hb); have n3_ := Aside0.mk (blk_below (g := gb211) (o := .cells #[.int .i64 t206, .int .u32 t207, .string t208, .int .i64 t209] 62 (0, 0)) (by (with_reducible repeat (first | refine blk_drewN ?_ _ | refine blk_drew ?_ | refine blk_alloc ?_ _)); exact BK211.out) hb); have n4_ := Aside0.mk (below_step (by repeat (first | (with_reducible first | exact HB.out | apply below_alloc | apply pw_below_drewN | apply below_drew1 | refine below_set ?_ GE190.out | refine below_set ?_ GE198.out | refine below_set ?_ GE204.out | refine below_set ?_ GE211.out) | exact HB.out)) hb); clear BK190; clear BK198; clear BK204; clear BK211; clear HB; have BK190 := n0_; have BK198 := n1_; have BK204 := n2_; have BK211 := n3_; have HB := n4_; clear n0_ n1_ n2_ n3_ n4_; (try clear hb); (try clear hb2); (try clear hk); (try clear hi); have hnb114 := NB204_190.out; have hnc114 := NB190_204.out; have hnb115 := NB204_198.out; have hnc115 := NB198_204.out; have hnb116 := NB204_211.out; have hnc116 := NB211_204.out; have hcz117_0 : w113.cell? ⟨gb204, 0, none⟩ = some (.int .i64 t199) := (blk_cell BK204.out 0).trans rfl; have hcz117_1 : w113.cell? ⟨gb204, 1, none⟩ = some (.int .u32 t200) := (blk_cell BK204.out 1).trans rfl; have hcz117_2 : w113.cell? ⟨gb204, 2, none⟩ = some (.string t201) := (blk_cell BK204.out 2).trans rfl; have hcz117_3 : w113.cell? ⟨gb204, 3, none⟩ = some (.int .i64 t202) := (blk_cell BK204.out 3).trans rfl; have hfz117_0 := blk_frozen BK204.out 0; have hfz117_1 := blk_frozen BK204.out 1; have hfz117_2 := blk_frozen BK204.out 2; have hfz117_3 := blk_frozen BK204.out 3; have hnb118 := NB198_190.out; have hnc118 := NB190_198.out; have hnb119 := NB198_211.out; have hnc119 := NB211_198.out; have hcz120_0 : w113.cell? ⟨gb198, 0, none⟩ = some (.int .i64 t193) := (blk_cell BK198.out 0).trans rfl; have hcz120_1 : w113.cell? ⟨gb198, 1, none⟩ = some (.int .u32 t194) := (blk_cell BK198.out 1).trans rfl; have hcz120_2 : w113.cell? ⟨gb198, 2, none⟩ = some (.string t195) := (blk_cell BK198.out 2).trans rfl; have hcz120_3 : w113.cell? ⟨gb198, 3, none⟩ = some (.int .i64 t196) := (blk_cell BK198.out 3).trans rfl; have hfz120_0 := blk_frozen BK198.out 0; have hfz120_1 := blk_frozen BK198.out 1; have hfz120_2 := blk_frozen BK198.out 2; have hfz120_3 := blk_frozen BK198.out 3) | (go_at_call 41; (with_reducible refine (switchbacklaw18_begins.calls t201 t195 true _ A110.out).mono ?_); rintro e w' ⟨rfl, ⟨nd, rfl⟩⟩; have hnb121 := NB211_190.out; have hnc121 := NB190_211.out; have hcz122_0 : w113.cell? ⟨gb211, 0, none⟩ = some (.int .i64 t206) := (blk_cell BK211.out 0).trans rfl; have hcz122_1 : w113.cell? ⟨gb211, 1, none⟩ = some (.int .u32 t207) := (blk_cell BK211.out 1).trans rfl; have hcz122_2 : w113.cell? ⟨gb211, 2, none⟩ = some (.string t208) := (blk_cell BK211.out 2).trans rfl; have hcz122_3 : w113.cell? ⟨gb211, 3, none⟩ = some (.int .i64 t209) := (blk_cell BK211.out 3).trans rfl; have hfz122_0 := blk_frozen BK211.out 0; have hfz122_1 := blk_frozen BK211.out 1; have hfz122_2 := blk_frozen BK211.out 2; have hfz122_3 := blk_frozen BK211.out 3) | (go_at_call 41; (with_reducible refine (switchbacklaw18_begins.calls t195 t208 t216 _ A112.out).mono ?_); rintro e w' ⟨rfl, ⟨nd, rfl⟩⟩))
                              go_ret
                              exact ⟨by first | rfl | (simp [errW_none, errW_some] <;> rfl) | (simp [*, errW_none, errW_some] <;> rfl), by repeat (first | (with_reducible first | exact HB.out | apply below_alloc | apply pw_below_drewN | apply below_drew1 | refine below_set ?_ GE190.out | refine below_set ?_ GE198.out | refine below_set ?_ GE204.out | refine below_set ?_ GE211.out) | exact HB.out)⟩
                            · replace c111 := Bool.eq_false_iff.mpr c111
                              subst c111
                              have H1 : (some false) = some r := by rw [if_neg (show ¬ (false = true) by decide)] at H; exact H
                              clear H
                              have H := H1
                              clear H1
                              obtain rfl := Option.some.inj H
                              go_wp2_with (first | ((with_reducible refine gate_callee (f := 38) rfl ?_); refine goesL_ (some 118) rfl rfl Tryd.func38 (by kernel_rfl) rfl #[] rfl (by (try simp only [List.map_toArray, List.map_cons, List.map_nil]); first | done | rfl | (simp only [List.length_drop, List.length_take]; rfl)) ?_; (with_reducible refine (switchbacklaw18_live.calls  true _ (Aside0.mk (hLaid_.out.below (by repeat (first | (with_reducible first | exact HB.out | apply below_alloc | apply pw_below_drewN | apply below_drew1) | refine below_set ?_ (Aside0.out (by assumption)) | exact HB.out)))) A105.out).mono ?_); rintro e w123 ⟨rfl, hb⟩; refine ⟨_, rfl, ?_⟩; have n0_ := Aside0.mk (blk_below (g := gb190) (o := .cells #[.slice A0_0 l0_0.length c0_0, .slice A0_1 l0_1.length c0_1, .slice A0_2 l0_2.length c0_2, .int .i64 a0_3] 59 (0, 0)) (by (with_reducible repeat (first | refine blk_drewN ?_ _ | refine blk_drew ?_ | refine blk_alloc ?_ _)); exact BK190.out) hb); have n1_ := Aside0.mk (blk_below (g := gb198) (o := .cells #[.int .i64 t193, .int .u32 t194, .string t195, .int .i64 t196] 62 (0, 0)) (by (with_reducible repeat (first | refine blk_drewN ?_ _ | refine blk_drew ?_ | refine blk_alloc ?_ _)); exact BK198.out) hb); have n2_ := Aside0.mk (blk_below (g := gb204) (o := .cells #[.int .i64 t199, .int .u32 t200, .string t201, .int .i64 t202] 62 (0, 0)) (by (with_reducible repeat (first | refine blk_drewN ?_ _ | refine blk_drew ?_ | refine blk_alloc ?_ _)); exact BK204.out) hb); have n3_ := Aside0.mk (blk_below (g := gb211) (o := .cells #[.int .i64 t206, .int .u32 t207, .string t208, .int .i64 t209] 62 (0, 0)) (by (with_reducible repeat (first | refine blk_drewN ?_ _ | refine blk_drew ?_ | refine blk_alloc ?_ _)); exact BK211.out) hb); have n4_ := Aside0.mk (below_step (by repeat (first | (with_reducible first | exact HB.out | apply below_alloc | apply pw_below_drewN | apply below_drew1 | refine below_set ?_ GE190.out | refine below_set ?_ GE198.out | refine below_set ?_ GE204.out | refine below_set ?_ GE211.out) | exact HB.out)) hb); clear BK190; clear BK198; clear BK204; clear BK211; clear HB; have BK190 := n0_; have BK198 := n1_; have BK204 := n2_; have BK211 := n3_; have HB := n4_; clear n0_ n1_ n2_ n3_ n4_; (try clear hb); (try clear hb2); (try clear hk); (try clear hi); have hnb124 := NB204_190.out; have hnc124 := NB190_204.out; have hnb125 := NB204_198.out; have hnc125 := NB198_204.out; have hnb126 := NB204_211.out; have hnc126 := NB211_204.out; have hcz127_0 : w123.cell? ⟨gb204, 0, none⟩ = some (.int .i64 t199) := (blk_cell BK204.out 0).trans rfl; have hcz127_1 : w123.cell? ⟨gb204, 1, none⟩ = some (.int .u32 t200) := (blk_cell BK204.out 1).trans rfl; have hcz127_2 : w123.cell? ⟨gb204, 2, none⟩ = some (.string t201) := (blk_cell BK204.out 2).trans rfl; have hcz127_3 : w123.cell? ⟨gb204, 3, none⟩ = some (.int .i64 t202) := (blk_cell BK204.out 3).trans rfl; have hfz127_0 := blk_frozen BK204.out 0; have hfz127_1 := blk_frozen BK204.out 1; have hfz127_2 := blk_frozen BK204.out 2; have hfz127_3 := blk_frozen BK204.out 3; have hnb128 := NB198_190.out; have hnc128 := NB190_198.out; have hnb129 := NB198_211.out; have hnc129 := NB211_198.out; have hcz130_0 : w123.cell? ⟨gb198, 0, none⟩ = some (.int .i64 t193) := (blk_cell BK198.out 0).trans rfl; have hcz130_1 : w123.cell? ⟨gb198, 1, none⟩ = some (.int .u32 t194) := (blk_cell BK198.out 1).trans rfl; have hcz130_2 : w123.cell? ⟨gb198, 2, none⟩ = some (.string t195) := (blk_cell BK198.out 2).trans rfl; have hcz130_3 : w123.cell? ⟨gb198, 3, none⟩ = some (.int .i64 t196) := (blk_cell BK198.out 3).trans rfl; have hfz130_0 := blk_frozen BK198.out 0; have hfz130_1 := blk_frozen BK198.out 1; have hfz130_2 := blk_frozen BK198.out 2; have hfz130_3 := blk_frozen BK198.out 3) | (go_at_call 41; (with_reducible refine (switchbacklaw18_begins.calls t201 t195 false _ A110.out).mono ?_); rintro e w' ⟨rfl, ⟨nd, rfl⟩⟩))
                              go_ret
                              exact ⟨by first | rfl | (simp [errW_none, errW_some] <;> rfl) | (simp [*, errW_none, errW_some] <;> rfl), by repeat (first | (with_reducible first | exact HB.out | apply below_alloc | apply pw_below_drewN | apply below_drew1 | refine below_set ?_ GE190.out | refine below_set ?_ GE198.out | refine below_set ?_ GE204.out | refine below_set ?_ GE211.out) | exact HB.out)⟩
                          · rw [if_neg c109] at H
                            have c109b0 : (t202 == t192) = false := beq_eq_false_iff_ne.mpr c109
                            have c109b1 : (t202 != t192) = true := bne_iff_ne.mpr c109
                            obtain rfl := Option.some.inj H
                            go_wp2_with (first | ((with_reducible refine gate_callee (f := 38) rfl ?_); refine goesL_ (some 118) rfl rfl Tryd.func38 (by kernel_rfl) rfl #[] rfl (by (try simp only [List.map_toArray, List.map_cons, List.map_nil]); first | done | rfl | (simp only [List.length_drop, List.length_take]; rfl)) ?_; (with_reducible refine (switchbacklaw18_live.calls  true _ (Aside0.mk (hLaid_.out.below (by repeat (first | (with_reducible first | exact HB.out | apply below_alloc | apply pw_below_drewN | apply below_drew1) | refine below_set ?_ (Aside0.out (by assumption)) | exact HB.out)))) A105.out).mono ?_); rintro e w131 ⟨rfl, hb⟩; refine ⟨_, rfl, ?_⟩; have n0_ := Aside0.mk (blk_below (g := gb190) (o := .cells #[.slice A0_0 l0_0.length c0_0, .slice A0_1 l0_1.length c0_1, .slice A0_2 l0_2.length c0_2, .int .i64 a0_3] 59 (0, 0)) (by (with_reducible repeat (first | refine blk_drewN ?_ _ | refine blk_drew ?_ | refine blk_alloc ?_ _)); exact BK190.out) hb); have n1_ := Aside0.mk (blk_below (g := gb198) (o := .cells #[.int .i64 t193, .int .u32 t194, .string t195, .int .i64 t196] 62 (0, 0)) (by (with_reducible repeat (first | refine blk_drewN ?_ _ | refine blk_drew ?_ | refine blk_alloc ?_ _)); exact BK198.out) hb); have n2_ := Aside0.mk (blk_below (g := gb204) (o := .cells #[.int .i64 t199, .int .u32 t200, .string t201, .int .i64 t202] 62 (0, 0)) (by (with_reducible repeat (first | refine blk_drewN ?_ _ | refine blk_drew ?_ | refine blk_alloc ?_ _)); exact BK204.out) hb); have n3_ := Aside0.mk (blk_below (g := gb211) (o := .cells #[.int .i64 t206, .int .u32 t207, .string t208, .int .i64 t209] 62 (0, 0)) (by (with_reducible repeat (first | refine blk_drewN ?_ _ | refine blk_drew ?_ | refine blk_alloc ?_ _)); exact BK211.out) hb); have n4_ := Aside0.mk (below_step (by repeat (first | (with_reducible first | exact HB.out | apply below_alloc | apply pw_below_drewN | apply below_drew1 | refine below_set ?_ GE190.out | refine below_set ?_ GE198.out | refine below_set ?_ GE204.out | refine below_set ?_ GE211.out) | exact HB.out)) hb); clear BK190; clear BK198; clear BK204; clear BK211; clear HB; have BK190 := n0_; have BK198 := n1_; have BK204 := n2_; have BK211 := n3_; have HB := n4_; clear n0_ n1_ n2_ n3_ n4_; (try clear hb); (try clear hb2); (try clear hk); (try clear hi); have hnb132 := NB204_190.out; have hnc132 := NB190_204.out; have hnb133 := NB204_198.out; have hnc133 := NB198_204.out; have hnb134 := NB204_211.out; have hnc134 := NB211_204.out; have hcz135_0 : w131.cell? ⟨gb204, 0, none⟩ = some (.int .i64 t199) := (blk_cell BK204.out 0).trans rfl; have hcz135_1 : w131.cell? ⟨gb204, 1, none⟩ = some (.int .u32 t200) := (blk_cell BK204.out 1).trans rfl; have hcz135_2 : w131.cell? ⟨gb204, 2, none⟩ = some (.string t201) := (blk_cell BK204.out 2).trans rfl; have hcz135_3 : w131.cell? ⟨gb204, 3, none⟩ = some (.int .i64 t202) := (blk_cell BK204.out 3).trans rfl; have hfz135_0 := blk_frozen BK204.out 0; have hfz135_1 := blk_frozen BK204.out 1; have hfz135_2 := blk_frozen BK204.out 2; have hfz135_3 := blk_frozen BK204.out 3))
                            go_ret
                            exact ⟨by first | rfl | (simp [errW_none, errW_some] <;> rfl) | (simp [*, errW_none, errW_some] <;> rfl), by repeat (first | (with_reducible first | exact HB.out | apply below_alloc | apply pw_below_drewN | apply below_drew1 | refine below_set ?_ GE190.out | refine below_set ?_ GE198.out | refine below_set ?_ GE204.out | refine below_set ?_ GE211.out) | exact HB.out)⟩
                        · rw [if_neg c108] at H
                          have c108b0 : (t200 == 0) = false := beq_eq_false_iff_ne.mpr c108
                          have c108b1 : (t200 != 0) = true := bne_iff_ne.mpr c108
                          obtain rfl := Option.some.inj H
                          go_wp2_with (first | ((with_reducible refine gate_callee (f := 38) rfl ?_); refine goesL_ (some 118) rfl rfl Tryd.func38 (by kernel_rfl) rfl #[] rfl (by (try simp only [List.map_toArray, List.map_cons, List.map_nil]); first | done | rfl | (simp only [List.length_drop, List.length_take]; rfl)) ?_; (with_reducible refine (switchbacklaw18_live.calls  true _ (Aside0.mk (hLaid_.out.below (by repeat (first | (with_reducible first | exact HB.out | apply below_alloc | apply pw_below_drewN | apply below_drew1) | refine below_set ?_ (Aside0.out (by assumption)) | exact HB.out)))) A105.out).mono ?_); rintro e w136 ⟨rfl, hb⟩; refine ⟨_, rfl, ?_⟩; have n0_ := Aside0.mk (blk_below (g := gb190) (o := .cells #[.slice A0_0 l0_0.length c0_0, .slice A0_1 l0_1.length c0_1, .slice A0_2 l0_2.length c0_2, .int .i64 a0_3] 59 (0, 0)) (by (with_reducible repeat (first | refine blk_drewN ?_ _ | refine blk_drew ?_ | refine blk_alloc ?_ _)); exact BK190.out) hb); have n1_ := Aside0.mk (blk_below (g := gb198) (o := .cells #[.int .i64 t193, .int .u32 t194, .string t195, .int .i64 t196] 62 (0, 0)) (by (with_reducible repeat (first | refine blk_drewN ?_ _ | refine blk_drew ?_ | refine blk_alloc ?_ _)); exact BK198.out) hb); have n2_ := Aside0.mk (blk_below (g := gb204) (o := .cells #[.int .i64 t199, .int .u32 t200, .string t201, .int .i64 t202] 62 (0, 0)) (by (with_reducible repeat (first | refine blk_drewN ?_ _ | refine blk_drew ?_ | refine blk_alloc ?_ _)); exact BK204.out) hb); have n3_ := Aside0.mk (blk_below (g := gb211) (o := .cells #[.int .i64 t206, .int .u32 t207, .string t208, .int .i64 t209] 62 (0, 0)) (by (with_reducible repeat (first | refine blk_drewN ?_ _ | refine blk_drew ?_ | refine blk_alloc ?_ _)); exact BK211.out) hb); have n4_ := Aside0.mk (below_step (by repeat (first | (with_reducible first | exact HB.out | apply below_alloc | apply pw_below_drewN | apply below_drew1 | refine below_set ?_ GE190.out | refine below_set ?_ GE198.out | refine below_set ?_ GE204.out | refine below_set ?_ GE211.out) | exact HB.out)) hb); clear BK190; clear BK198; clear BK204; clear BK211; clear HB; have BK190 := n0_; have BK198 := n1_; have BK204 := n2_; have BK211 := n3_; have HB := n4_; clear n0_ n1_ n2_ n3_ n4_; (try clear hb); (try clear hb2); (try clear hk); (try clear hi); have hnb137 := NB204_190.out; have hnc137 := NB190_204.out; have hnb138 := NB204_198.out; have hnc138 := NB198_204.out; have hnb139 := NB204_211.out; have hnc139 := NB211_204.out; have hcz140_0 : w136.cell? ⟨gb204, 0, none⟩ = some (.int .i64 t199) := (blk_cell BK204.out 0).trans rfl; have hcz140_1 : w136.cell? ⟨gb204, 1, none⟩ = some (.int .u32 t200) := (blk_cell BK204.out 1).trans rfl; have hcz140_2 : w136.cell? ⟨gb204, 2, none⟩ = some (.string t201) := (blk_cell BK204.out 2).trans rfl; have hcz140_3 : w136.cell? ⟨gb204, 3, none⟩ = some (.int .i64 t202) := (blk_cell BK204.out 3).trans rfl; have hfz140_0 := blk_frozen BK204.out 0; have hfz140_1 := blk_frozen BK204.out 1; have hfz140_2 := blk_frozen BK204.out 2; have hfz140_3 := blk_frozen BK204.out 3))
                          go_ret
                          exact ⟨by first | rfl | (simp [errW_none, errW_some] <;> rfl) | (simp [*, errW_none, errW_some] <;> rfl), by repeat (first | (with_reducible first | exact HB.out | apply below_alloc | apply pw_below_drewN | apply below_drew1 | refine below_set ?_ GE190.out | refine below_set ?_ GE198.out | refine below_set ?_ GE204.out | refine below_set ?_ GE211.out) | exact HB.out)⟩
                      · rw [if_neg c107] at H
                        have c107b0 : (t199 == 3) = false := beq_eq_false_iff_ne.mpr c107
                        have c107b1 : (t199 != 3) = true := bne_iff_ne.mpr c107
                        obtain rfl := Option.some.inj H
                        go_wp2_with (first | ((with_reducible refine gate_callee (f := 38) rfl ?_); refine goesL_ (some 118) rfl rfl Tryd.func38 (by kernel_rfl) rfl #[] rfl (by (try simp only [List.map_toArray, List.map_cons, List.map_nil]); first | done | rfl | (simp only [List.length_drop, List.length_take]; rfl)) ?_; (with_reducible refine (switchbacklaw18_live.calls  true _ (Aside0.mk (hLaid_.out.below (by repeat (first | (with_reducible first | exact HB.out | apply below_alloc | apply pw_below_drewN | apply below_drew1) | refine below_set ?_ (Aside0.out (by assumption)) | exact HB.out)))) A105.out).mono ?_); rintro e w141 ⟨rfl, hb⟩; refine ⟨_, rfl, ?_⟩; have n0_ := Aside0.mk (blk_below (g := gb190) (o := .cells #[.slice A0_0 l0_0.length c0_0, .slice A0_1 l0_1.length c0_1, .slice A0_2 l0_2.length c0_2, .int .i64 a0_3] 59 (0, 0)) (by (with_reducible repeat (first | refine blk_drewN ?_ _ | refine blk_drew ?_ | refine blk_alloc ?_ _)); exact BK190.out) hb); have n1_ := Aside0.mk (blk_below (g := gb198) (o := .cells #[.int .i64 t193, .int .u32 t194, .string t195, .int .i64 t196] 62 (0, 0)) (by (with_reducible repeat (first | refine blk_drewN ?_ _ | refine blk_drew ?_ | refine blk_alloc ?_ _)); exact BK198.out) hb); have n2_ := Aside0.mk (blk_below (g := gb204) (o := .cells #[.int .i64 t199, .int .u32 t200, .string t201, .int .i64 t202] 62 (0, 0)) (by (with_reducible repeat (first | refine blk_drewN ?_ _ | refine blk_drew ?_ | refine blk_alloc ?_ _)); exact BK204.out) hb); have n3_ := Aside0.mk (blk_below (g := gb211) (o := .cells #[.int .i64 t206, .int .u32 t207, .string t208, .int .i64 t209] 62 (0, 0)) (by (with_reducible repeat (first | refine blk_drewN ?_ _ | refine blk_drew ?_ | refine blk_alloc ?_ _)); exact BK211.out) hb); have n4_ := Aside0.mk (below_step (by repeat (first | (with_reducible first | exact HB.out | apply below_alloc | apply pw_below_drewN | apply below_drew1 | refine below_set ?_ GE190.out | refine below_set ?_ GE198.out | refine below_set ?_ GE204.out | refine below_set ?_ GE211.out) | exact HB.out)) hb); clear BK190; clear BK198; clear BK204; clear BK211; clear HB; have BK190 := n0_; have BK198 := n1_; have BK204 := n2_; have BK211 := n3_; have HB := n4_; clear n0_ n1_ n2_ n3_ n4_; (try clear hb); (try clear hb2); (try clear hk); (try clear hi); have hnb142 := NB204_190.out; have hnc142 := NB190_204.out; have hnb143 := NB204_198.out; have hnc143 := NB198_204.out; have hnb144 := NB204_211.out; have hnc144 := NB211_204.out; have hcz145_0 : w141.cell? ⟨gb204, 0, none⟩ = some (.int .i64 t199) := (blk_cell BK204.out 0).trans rfl; have hcz145_1 : w141.cell? ⟨gb204, 1, none⟩ = some (.int .u32 t200) := (blk_cell BK204.out 1).trans rfl; have hcz145_2 : w141.cell? ⟨gb204, 2, none⟩ = some (.string t201) := (blk_cell BK204.out 2).trans rfl; have hcz145_3 : w141.cell? ⟨gb204, 3, none⟩ = some (.int .i64 t202) := (blk_cell BK204.out 3).trans rfl; have hfz145_0 := blk_frozen BK204.out 0; have hfz145_1 := blk_frozen BK204.out 1; have hfz145_2 := blk_frozen BK204.out 2; have hfz145_3 := blk_frozen BK204.out 3))
                        go_ret
                        exact ⟨by first | rfl | (simp [errW_none, errW_some] <;> rfl) | (simp [*, errW_none, errW_some] <;> rfl), by repeat (first | (with_reducible first | exact HB.out | apply below_alloc | apply pw_below_drewN | apply below_drew1 | refine below_set ?_ GE190.out | refine below_set ?_ GE198.out | refine below_set ?_ GE204.out | refine below_set ?_ GE211.out) | exact HB.out)⟩
                    · replace c106 := Bool.eq_false_iff.mpr c106
                      subst c106
                      have H1 : (some false) = some r := by rw [if_neg (show ¬ (false = true) by decide)] at H; exact H
                      clear H
                      have H := H1
                      clear H1
                      obtain rfl := Option.some.inj H
                      go_wp2_with (first | ((with_reducible refine gate_callee (f := 38) rfl ?_); refine goesL_ (some 118) rfl rfl Tryd.func38 (by kernel_rfl) rfl #[] rfl (by (try simp only [List.map_toArray, List.map_cons, List.map_nil]); first | done | rfl | (simp only [List.length_drop, List.length_take]; rfl)) ?_; (with_reducible refine (switchbacklaw18_live.calls  false _ (Aside0.mk (hLaid_.out.below (by repeat (first | (with_reducible first | exact HB.out | apply below_alloc | apply pw_below_drewN | apply below_drew1) | refine below_set ?_ (Aside0.out (by assumption)) | exact HB.out)))) A105.out).mono ?_); rintro e w146 ⟨rfl, hb⟩; refine ⟨_, rfl, ?_⟩; have n0_ := Aside0.mk (blk_below (g := gb190) (o := .cells #[.slice A0_0 l0_0.length c0_0, .slice A0_1 l0_1.length c0_1, .slice A0_2 l0_2.length c0_2, .int .i64 a0_3] 59 (0, 0)) (by (with_reducible repeat (first | refine blk_drewN ?_ _ | refine blk_drew ?_ | refine blk_alloc ?_ _)); exact BK190.out) hb); have n1_ := Aside0.mk (blk_below (g := gb198) (o := .cells #[.int .i64 t193, .int .u32 t194, .string t195, .int .i64 t196] 62 (0, 0)) (by (with_reducible repeat (first | refine blk_drewN ?_ _ | refine blk_drew ?_ | refine blk_alloc ?_ _)); exact BK198.out) hb); have n2_ := Aside0.mk (blk_below (g := gb204) (o := .cells #[.int .i64 t199, .int .u32 t200, .string t201, .int .i64 t202] 62 (0, 0)) (by (with_reducible repeat (first | refine blk_drewN ?_ _ | refine blk_drew ?_ | refine blk_alloc ?_ _)); exact BK204.out) hb); have n3_ := Aside0.mk (blk_below (g := gb211) (o := .cells #[.int .i64 t206, .int .u32 t207, .string t208, .int .i64 t209] 62 (0, 0)) (by (with_reducible repeat (first | refine blk_drewN ?_ _ | refine blk_drew ?_ | refine blk_alloc ?_ _)); exact BK211.out) hb); have n4_ := Aside0.mk (below_step (by repeat (first | (with_reducible first | exact HB.out | apply below_alloc | apply pw_below_drewN | apply below_drew1 | refine below_set ?_ GE190.out | refine below_set ?_ GE198.out | refine below_set ?_ GE204.out | refine below_set ?_ GE211.out) | exact HB.out)) hb); clear BK190; clear BK198; clear BK204; clear BK211; clear HB; have BK190 := n0_; have BK198 := n1_; have BK204 := n2_; have BK211 := n3_; have HB := n4_; clear n0_ n1_ n2_ n3_ n4_; (try clear hb); (try clear hb2); (try clear hk); (try clear hi)))
                      go_ret
                      exact ⟨by first | rfl | (simp [errW_none, errW_some] <;> rfl) | (simp [*, errW_none, errW_some] <;> rfl), by repeat (first | (with_reducible first | exact HB.out | apply below_alloc | apply pw_below_drewN | apply below_drew1 | refine below_set ?_ GE190.out | refine below_set ?_ GE198.out | refine below_set ?_ GE204.out | refine below_set ?_ GE211.out) | exact HB.out)⟩

end Go.Proofs.YtamimnaafiphcaaDoor.PR18
