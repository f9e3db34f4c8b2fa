-- Written by gp.py for this claim.
import Derived.Test.YtamimnaafiphcaaDoorPR1Ax0
import Derived.Test.YtamimnaafiphcaaDoorPR1AZ
namespace Go.Proofs.YtamimnaafiphcaaDoor.PR1A
open Go.RowKit Go.Proofs.YtamimnaafiphcaaDoorW.PrintWords Go.Proofs.YtamimnaafiphcaaDoorW.PrintLast Go.Proofs.YtamimnaafiphcaaDoorW.PrintMore
attribute [local go_sem] max2_int min2_int max_two min_two max_three min_three max_four min_four   -- for this text's walks alone
set_option linter.unusedVariables false
set_option linter.unusedSimpArgs false

/-! ### switchbacklaw17_RelaxAll: function 5 -/
mutual
def switchbacklaw17_RelaxAll.l0 : Nat → List Int → Int → List (S40) → Int → Option (Bool)
  | 0, _, _, _, _ => none
  | k + 1, x0, x1, x5, x6 => if x6 < (x0.length : Int) then (switchbacklaw17_RelaxAll.j1 k x0 x1 x5 x6 (decide (x6 < 2000))) else (switchbacklaw17_RelaxAll.j1 k x0 x1 x5 x6 false)
def switchbacklaw17_RelaxAll.j1 : Nat → List Int → Int → List (S40) → Int → Bool → Option (Bool)
  | 0, _, _, _, _, _ => none
  | k + 1, x0, x1, x5, x6, x25 => if x25 = true then (if 0 ≤ x6 then (if x6 < (x0.length : Int) then ((switchbacklaw17_pick.f (rd x0 x6) 1073741824).bind fun t184 => ((switchbackref17_Goes.f (wrap64 (1 + (Int.tmod t184 48))) (Int.tmod (wrap64 (Int.tdiv t184 48)) 12) (Int.tmod (wrap64 (Int.tdiv t184 576)) 12) (Int.tmod (wrap64 (Int.tdiv t184 6912)) 12) 0 0 ([] : List Int)).bind fun t186 => ((switchbackref16_May.f (wrap64 (1 + (Int.tmod t184 48))) (Int.tmod (wrap64 (Int.tdiv t184 48)) 12) (Int.tmod (wrap64 (Int.tdiv t184 576)) 12) (Int.tmod (wrap64 (Int.tdiv t184 6912)) 12)).bind fun t187 => (if t186 = true then (if x1 = 0 then (none) else (switchbacklaw17_RelaxAll.j2 k x0 x1 x5 x6 (wrap64 (1 + (Int.tmod t184 48))) 0 0 0 0 (Int.tmod (wrap64 (Int.tdiv t184 48)) x1) ([] : List Int))) else (if (wrap64 (1 + (Int.tmod t184 48))) = 42 then (if x1 = 0 then (none) else (switchbacklaw17_RelaxAll.j2 k x0 x1 x5 x6 (wrap64 (1 + (Int.tmod t184 48))) (Int.tmod (wrap64 (Int.tdiv t184 48)) 12) 0 0 0 0 (([Int.tmod (wrap64 (Int.tdiv t184 576)) x1, 0] : List Int)))) else (if t187 = true then (switchbacklaw17_RelaxAll.j2 k x0 x1 x5 x6 (wrap64 (1 + (Int.tmod t184 48))) (Int.tmod (wrap64 (Int.tdiv t184 48)) 12) (Int.tmod (wrap64 (Int.tdiv t184 576)) 12) (Int.tmod (wrap64 (Int.tdiv t184 6912)) 12) 0 0 ([] : List Int)) else (switchbacklaw17_RelaxAll.j2 k x0 x1 x5 x6 44 0 0 0 0 0 ([] : List Int)))))))) else (none)) else (none)) else (switchbacklaw17_RelaxAll.l1 k x0 x1 x5 (x0.length : Int))
def switchbacklaw17_RelaxAll.j2 : Nat → List Int → Int → List (S40) → Int → Int → Int → Int → Int → Int → Int → List Int → Option (Bool)
  | 0, _, _, _, _, _, _, _, _, _, _, _ => none
  | k + 1, x0, x1, x5, x6, x186000, x186001, x186002, x186003, x186004, x186005, x186006 => if x5.length < 1954687338268 then ((some (x5 ++ [(⟨x186000, x186001, x186002, x186003, x186004, x186005, x186006⟩ : S40)] : List (S40))).bind fun y191 => (if x6 < x1 then (if y191.length < 1954687338268 then (switchbacklaw17_RelaxAll.l0 k x0 x1 (y191 ++ [(⟨0, 0, 0, 0, 0, x6, ([] : List Int)⟩ : S40)]) (wrap64 (x6 + 1))) else (none)) else (switchbacklaw17_RelaxAll.l0 k x0 x1 y191 (wrap64 (x6 + 1))))) else (none)
def switchbacklaw17_RelaxAll.l1 : Nat → List Int → Int → List (S40) → Int → Option (Bool)
  | 0, _, _, _, _ => none
  | k + 1, x0, x1, x5, x11 => if x11 < x1 then (if x5.length < 1954687338268 then (switchbacklaw17_RelaxAll.l1 k x0 x1 (x5 ++ [(⟨0, 0, 0, 0, 0, x11, ([] : List Int)⟩ : S40)]) (wrap64 (x11 + 1))) else (none)) else ((relax_Assemble.f x5).bind fun bt200 => ((switchbacklaw17_live.f k).bind fun t213 => (if t213 = true then (if bt200.2.2.2.2.1 = 0 then (if bt200.2.2.2.2.2 = 0 then (if (bt200.2.2.1.length : Int) = (x5.length : Int) then (some (decide ((bt200.1.length : Int) ≥ (mn (x0.length : Int) 2000)))) else (some false)) else (some false)) else (some false)) else (some false))))
end
def switchbacklaw17_RelaxAll.f (k : Nat) (l0 : List Int) (a1 : Int) : Option (Bool) := (switchbacklaw17_pick.f a1 50).bind fun t182 => (switchbacklaw17_RelaxAll.l0 k l0 (wrap64 (1 + t182)) ([] : List (S40)) 0)
theorem switchbacklaw17_RelaxAll.mono_l : ∀ k, (∀ y0 y1 y2 y3, LeO (switchbacklaw17_RelaxAll.l0 k y0 y1 y2 y3) (switchbacklaw17_RelaxAll.l0 (k + 1) y0 y1 y2 y3)) ∧ (∀ y0 y1 y2 y3 y4, LeO (switchbacklaw17_RelaxAll.j1 k y0 y1 y2 y3 y4) (switchbacklaw17_RelaxAll.j1 (k + 1) y0 y1 y2 y3 y4)) ∧ (∀ y0 y1 y2 y3 y4 y5 y6 y7 y8 y9 y10, LeO (switchbacklaw17_RelaxAll.j2 k y0 y1 y2 y3 y4 y5 y6 y7 y8 y9 y10) (switchbacklaw17_RelaxAll.j2 (k + 1) y0 y1 y2 y3 y4 y5 y6 y7 y8 y9 y10)) ∧ (∀ y0 y1 y2 y3, LeO (switchbacklaw17_RelaxAll.l1 k y0 y1 y2 y3) (switchbacklaw17_RelaxAll.l1 (k + 1) y0 y1 y2 y3))
  | 0 => ⟨fun _ _ _ _ r h => by simp [switchbacklaw17_RelaxAll.l0] at h, fun _ _ _ _ _ r h => by simp [switchbacklaw17_RelaxAll.j1] at h, fun _ _ _ _ _ _ _ _ _ _ _ r h => by simp [switchbacklaw17_RelaxAll.j2] at h, fun _ _ _ _ r h => by simp [switchbacklaw17_RelaxAll.l1] at h⟩
  | k + 1 => by
    obtain ⟨ih0, ih1, ih2, ih3⟩ := switchbacklaw17_RelaxAll.mono_l k
    refine ⟨?_, ?_, ?_, ?_⟩
    · intro y0 y1 y2 y3
      unfold switchbacklaw17_RelaxAll.l0
      repeat' first
      | (with_reducible exact ih0 _ _ _ _)
      | (with_reducible exact ih1 _ _ _ _ _)
      | (with_reducible exact ih2 _ _ _ _ _ _ _ _ _ _ _)
      | (with_reducible exact ih3 _ _ _ _)
      | (with_reducible exact switchbacklaw17_live.mono _)
      | (with_reducible exact LeO.refl _)
      | (with_reducible exact LeO.none _)
      | (with_reducible refine LeO.ite ?_ ?_)
      | (with_reducible refine LeO.bind ?_ (fun _ => ?_))
      | exact ih0 _ _ _ _
      | exact ih1 _ _ _ _ _
      | exact ih2 _ _ _ _ _ _ _ _ _ _ _
      | exact ih3 _ _ _ _
      | exact switchbacklaw17_live.mono _
      | exact LeO.none _
      | refine LeO.ite ?_ ?_
      | refine LeO.bind ?_ (fun _ => ?_)
    · intro y0 y1 y2 y3 y4
      unfold switchbacklaw17_RelaxAll.j1
      repeat' first
      | (with_reducible exact ih0 _ _ _ _)
      | (with_reducible exact ih1 _ _ _ _ _)
      | (with_reducible exact ih2 _ _ _ _ _ _ _ _ _ _ _)
      | (with_reducible exact ih3 _ _ _ _)
      | (with_reducible exact switchbacklaw17_live.mono _)
      | (with_reducible exact LeO.refl _)
      | (with_reducible exact LeO.none _)
      | (with_reducible refine LeO.ite ?_ ?_)
      | (with_reducible refine LeO.bind ?_ (fun _ => ?_))
      | exact ih0 _ _ _ _
      | exact ih1 _ _ _ _ _
      | exact ih2 _ _ _ _ _ _ _ _ _ _ _
      | exact ih3 _ _ _ _
      | exact switchbacklaw17_live.mono _
      | exact LeO.none _
      | refine LeO.ite ?_ ?_
      | refine LeO.bind ?_ (fun _ => ?_)
    · intro y0 y1 y2 y3 y4 y5 y6 y7 y8 y9 y10
      unfold switchbacklaw17_RelaxAll.j2
      repeat' first
      | (with_reducible exact ih0 _ _ _ _)
      | (with_reducible exact ih1 _ _ _ _ _)
      | (with_reducible exact ih2 _ _ _ _ _ _ _ _ _ _ _)
      | (with_reducible exact ih3 _ _ _ _)
      | (with_reducible exact switchbacklaw17_live.mono _)
      | (with_reducible exact LeO.refl _)
      | (with_reducible exact LeO.none _)
      | (with_reducible refine LeO.ite ?_ ?_)
      | (with_reducible refine LeO.bind ?_ (fun _ => ?_))
      | exact ih0 _ _ _ _
      | exact ih1 _ _ _ _ _
      | exact ih2 _ _ _ _ _ _ _ _ _ _ _
      | exact ih3 _ _ _ _
      | exact switchbacklaw17_live.mono _
      | exact LeO.none _
      | refine LeO.ite ?_ ?_
      | refine LeO.bind ?_ (fun _ => ?_)
    · intro y0 y1 y2 y3
      unfold switchbacklaw17_RelaxAll.l1
      repeat' first
      | (with_reducible exact ih0 _ _ _ _)
      | (with_reducible exact ih1 _ _ _ _ _)
      | (with_reducible exact ih2 _ _ _ _ _ _ _ _ _ _ _)
      | (with_reducible exact ih3 _ _ _ _)
      | (with_reducible exact switchbacklaw17_live.mono _)
      | (with_reducible exact LeO.refl _)
      | (with_reducible exact LeO.none _)
      | (with_reducible refine LeO.ite ?_ ?_)
      | (with_reducible refine LeO.bind ?_ (fun _ => ?_))
      | exact ih0 _ _ _ _
      | exact ih1 _ _ _ _ _
      | exact ih2 _ _ _ _ _ _ _ _ _ _ _
      | exact ih3 _ _ _ _
      | exact switchbacklaw17_live.mono _
      | exact LeO.none _
      | refine LeO.ite ?_ ?_
      | refine LeO.bind ?_ (fun _ => ?_)
theorem switchbacklaw17_RelaxAll.mono : ∀ a0 a1 k, LeO (switchbacklaw17_RelaxAll.f k a0 a1) (switchbacklaw17_RelaxAll.f (k + 1) a0 a1) := by
  intro a0 a1 k
  obtain ⟨ih0, ih1, ih2, ih3⟩ := switchbacklaw17_RelaxAll.mono_l k
  unfold switchbacklaw17_RelaxAll.f
  repeat' first
      | (with_reducible exact ih0 _ _ _ _)
      | (with_reducible exact ih1 _ _ _ _ _)
      | (with_reducible exact ih2 _ _ _ _ _ _ _ _ _ _ _)
      | (with_reducible exact ih3 _ _ _ _)
      | (with_reducible exact switchbacklaw17_live.mono _)
      | (with_reducible exact LeO.refl _)
      | (with_reducible exact LeO.none _)
      | (with_reducible refine LeO.ite ?_ ?_)
      | (with_reducible refine LeO.bind ?_ (fun _ => ?_))
      | exact ih0 _ _ _ _
      | exact ih1 _ _ _ _ _
      | exact ih2 _ _ _ _ _ _ _ _ _ _ _
      | exact ih3 _ _ _ _
      | exact switchbacklaw17_live.mono _
      | exact LeO.none _
      | refine LeO.ite ?_ ?_
      | refine LeO.bind ?_ (fun _ => ?_)
def switchbacklaw17_RelaxAll.T11 : Bool × List (List Nat × List Nat) := (true, [([], []), ([0], [0]), ([], []), ([2], [2]), ([], []), ([3, 4], [3, 4]), ([1, 5], [1, 5]), ([6, 0, 1, 2, 3, 4, 5, 6], [6])])
def switchbacklaw17_RelaxAll.B11 : List Nat := [0, 1, 0, 4, 0, 28, 63, 127]
theorem switchbacklaw17_RelaxAll.tab11 : rtab .any (opsOf Tryd.f5 11) = switchbacklaw17_RelaxAll.T11 := by kernel_rfl
theorem switchbacklaw17_RelaxAll.bits11 : waitsOk switchbacklaw17_RelaxAll.T11.2 switchbacklaw17_RelaxAll.B11 = true := by kernel_rfl
def switchbacklaw17_RelaxAll.T13 : Bool × List (List Nat × List Nat) := (true, [([], []), ([0], [0]), ([], []), ([2], [2]), ([], []), ([4], [4]), ([], []), ([5, 6], [5, 6]), ([7], [7]), ([1, 3, 8], [1, 3, 8]), ([9, 0, 1, 2, 3, 4, 5, 6, 7, 8, 9], [9])])
def switchbacklaw17_RelaxAll.B13 : List Nat := [0, 1, 0, 4, 0, 16, 0, 112, 240, 511, 1023]
theorem switchbacklaw17_RelaxAll.tab13 : rtab .any (opsOf Tryd.f5 13) = switchbacklaw17_RelaxAll.T13 := by kernel_rfl
theorem switchbacklaw17_RelaxAll.bits13 : waitsOk switchbacklaw17_RelaxAll.T13.2 switchbacklaw17_RelaxAll.B13 = true := by kernel_rfl
set_option maxHeartbeats 8000000 in
set_option maxRecDepth 100000 in
theorem switchbacklaw17_RelaxAll.calls (k : Nat) (A0 : Option Addr) (c0 : Nat) (l0 : List Int) (a1 : Int) (r : Bool) (w : World) (hr0 : Kd.C (Kd.int .i64) w A0 l0.length l0) (hc0 : l0.length ≤ c0) (hLaid_ : Aside0 (Laid w)) (h : switchbacklaw17_RelaxAll.f k l0 a1 = some r) :
    Calls Tryd.prog 5 #[.slice A0 l0.length c0, .int .i64 a1] w fun e w' => e = .returned (.bool r) ∧ Below w.heap.size w w' := by
  have hu40 := Tryd.underlying40
  have hu44 := Tryd.underlying44
  have hu27 := Tryd.underlying27
  have HR0 := Aside0.mk hr0
  have HC0 := Aside0.mk hc0
  clear hr0 hc0
  have HB := Aside0.mk (Below.refl w.heap.size w)
  have H : ((switchbacklaw17_pick.f a1 50).bind fun t182 => (switchbacklaw17_RelaxAll.l0 k l0 (wrap64 (1 + t182)) ([] : List (S40)) 0)) = some r := h
  clear h
  replace H := Option.bind_eq_some_iff.mp H
  obtain ⟨t182, A30, H⟩ := H
  replace H : (switchbacklaw17_RelaxAll.l0 k l0 (wrap64 (1 + t182)) ([] : List (S40)) 0) = some r := H
  have A3 := Aside0.mk A30
  clear A30
  have H' := Aside0.mk H
  clear H
  go_enter Tryd.func5, Tryd.ntmps5
  go_wp2_with (first | ((with_reducible refine gate_callee (f := 26) rfl ?_); refine goesL_ (some 16) rfl rfl Tryd.func26 (by kernel_rfl) rfl #[.int .i64 a1, .int .i64 50] rfl (by (try simp only [List.map_toArray, List.map_cons, List.map_nil]); first | done | rfl | (simp only [List.length_drop, List.length_take]; rfl)) ?_; (with_reducible refine (switchbacklaw17_pick.calls a1 50 t182 _ A3.out).mono ?_); rintro e w' ⟨rfl, ⟨nd, rfl⟩⟩; refine ⟨_, rfl, ?_⟩))
  go_loopg [5, 6] k (fun kq v5 v6 w' => ∃ (x5_1 : List (S40)) (x6_1 : Int), v6 = .int .i64 x6_1 ∧ Aside0 (switchbacklaw17_RelaxAll.l0 kq l0 (wrap64 (1 + t182)) x5_1 x6_1 = some r) ∧ Aside0 (kq ≤ k) ∧ Aside0 (Kd.S k40 40 w' w.heap.size (fun _ => True) v5 x5_1) ∧ Aside0 (Below w.heap.size w w'))
  case atStart => exact ⟨(([] : List (S40))), (0), (by first | rfl | (simp; done) | (simp [*]; done)), H', ⟨Nat.le_refl _⟩, ⟨by first | exact Kd.S_nil _ _ _ _ _ | exact Kd.N_nil _ _ _ _ _ | exact Kd.V_nil _ _ _ _ _ | exact Kd.Q_nil _ _ _ _ _ | exact Kd.R_nil _ _ _ _ _⟩, ⟨by repeat (first | (with_reducible first | exact HB.out | apply below_alloc | apply pw_below_drewN | apply below_drew1) | exact HB.out)⟩⟩
  case round =>
    clear H'
    try clear c2
    try clear p2
    obtain ⟨x5_1, x6_1, rfl, HA, HK1, HO_5, HB⟩ := hrel
    cases gk with
    | zero => exact absurd HA.out (by simp [switchbacklaw17_RelaxAll.l0])
    | succ k1 =>
      have H := HA.out
      clear HA
      simp only [switchbacklaw17_RelaxAll.l0] at H
      have HC4 := Aside0.mk H
      clear H
      go_upto_region 4 with (fail)
      go_cut [25] (fun v25 wc => ∃ (kq : Nat) (x25_3 : Bool), v25 = .bool x25_3 ∧ Aside0 (switchbacklaw17_RelaxAll.j1 kq l0 (wrap64 (1 + t182)) x5_1 x6_1 x25_3 = some r) ∧ Aside0 (kq ≤ k1) ∧ Aside0 (Kd.S k40 40 wc w.heap.size (fun _ => True) u5 x5_1) ∧ Aside0 (Below w.heap.size w wc))
      case first =>
        have H := HC4.out
        clear HC4
        by_cases c5 : x6_1 < (l0.length : Int)
        · rw [if_pos c5] at H
          have c5b0 : decide (x6_1 < (l0.length : Int)) = true := decide_eq_true c5
          clear c5
          (first | rw [c5b0] | (simp only [i64_w, i32_w]; rw [c5b0]) | skip)
          have H' := Aside0.mk H
          clear H
          go_wp2
          go_meet
          case rel => exact ⟨_, (decide (x6_1 < 2000)), (by first | rfl | (simp; done) | (simp [*]; done)), H', ⟨by have := HK1.out; first | omega | exact Nat.le_refl _⟩, ⟨by (with_reducible repeat (first | apply Kd.S_alloc | apply Kd.S_drewN | apply Kd.S_drew)); exact HO_5.out⟩, ⟨by repeat (first | (with_reducible first | exact HB.out | apply below_alloc | apply pw_below_drewN | apply below_drew1) | exact HB.out)⟩⟩
        · rw [if_neg c5] at H
          have c5b0 : decide (x6_1 < (l0.length : Int)) = false := decide_eq_false c5
          clear c5
          (first | rw [c5b0] | (simp only [i64_w, i32_w]; rw [c5b0]) | skip)
          have H' := Aside0.mk H
          clear H
          go_wp2
          go_meet
          case rel => exact ⟨_, (false), (by first | rfl | (simp; done) | (simp [*]; done)), H', ⟨by have := HK1.out; first | omega | exact Nat.le_refl _⟩, ⟨by (with_reducible repeat (first | apply Kd.S_alloc | apply Kd.S_drewN | apply Kd.S_drew)); exact HO_5.out⟩, ⟨by repeat (first | (with_reducible first | exact HB.out | apply below_alloc | apply pw_below_drewN | apply below_drew1) | exact HB.out)⟩⟩
      case rest =>
        clear HC4
        try clear c2
        try clear p2
        try clear c5
        try clear c5b0
        try clear p2
        obtain ⟨kq, x25_3, rfl, HA, HJ3, HO_5, HB⟩ := hcut
        cases kq with
        | zero => exact absurd HA.out (by simp [switchbacklaw17_RelaxAll.j1])
        | succ kj3 =>
          have H := HA.out
          clear HA
          simp only [switchbacklaw17_RelaxAll.j1] at H
          by_cases c6 : x25_3 = true
          · subst c6
            have H1 : (if 0 ≤ x6_1 then (if x6_1 < (l0.length : Int) then ((switchbacklaw17_pick.f (rd l0 x6_1) 1073741824).bind fun t184 => ((switchbackref17_Goes.f (wrap64 (1 + (Int.tmod t184 48))) (Int.tmod (wrap64 (Int.tdiv t184 48)) 12) (Int.tmod (wrap64 (Int.tdiv t184 576)) 12) (Int.tmod (wrap64 (Int.tdiv t184 6912)) 12) 0 0 ([] : List Int)).bind fun t186 => ((switchbackref16_May.f (wrap64 (1 + (Int.tmod t184 48))) (Int.tmod (wrap64 (Int.tdiv t184 48)) 12) (Int.tmod (wrap64 (Int.tdiv t184 576)) 12) (Int.tmod (wrap64 (Int.tdiv t184 6912)) 12)).bind fun t187 => (if t186 = true then (if (wrap64 (1 + t182)) = 0 then (none) else (switchbacklaw17_RelaxAll.j2 kj3 l0 (wrap64 (1 + t182)) x5_1 x6_1 (wrap64 (1 + (Int.tmod t184 48))) 0 0 0 0 (Int.tmod (wrap64 (Int.tdiv t184 48)) (wrap64 (1 + t182))) ([] : List Int))) else (if (wrap64 (1 + (Int.tmod t184 48))) = 42 then (if (wrap64 (1 + t182)) = 0 then (none) else (switchbacklaw17_RelaxAll.j2 kj3 l0 (wrap64 (1 + t182)) x5_1 x6_1 (wrap64 (1 + (Int.tmod t184 48))) (Int.tmod (wrap64 (Int.tdiv t184 48)) 12) 0 0 0 0 (([Int.tmod (wrap64 (Int.tdiv t184 576)) (wrap64 (1 + t182)), 0] : List Int)))) else (if t187 = true then (switchbacklaw17_RelaxAll.j2 kj3 l0 (wrap64 (1 + t182)) x5_1 x6_1 (wrap64 (1 + (Int.tmod t184 48))) (Int.tmod (wrap64 (Int.tdiv t184 48)) 12) (Int.tmod (wrap64 (Int.tdiv t184 576)) 12) (Int.tmod (wrap64 (Int.tdiv t184 6912)) 12) 0 0 ([] : List Int)) else (switchbacklaw17_RelaxAll.j2 kj3 l0 (wrap64 (1 + t182)) x5_1 x6_1 44 0 0 0 0 0 ([] : List Int)))))))) else (none)) else (none)) = some r := by rw [if_pos rfl] at H; exact H
            clear H
            have H := H1
            clear H1
            by_cases c7 : 0 ≤ x6_1
            · rw [if_pos c7] at H
              have c7b0 : decide (0 ≤ x6_1) = true := decide_eq_true c7
              clear c7
              by_cases c8 : x6_1 < (l0.length : Int)
              · rw [if_pos c8] at H
                have c8b0 : decide (x6_1 < (l0.length : Int)) = true := decide_eq_true c8
                clear c8
                replace H := Option.bind_eq_some_iff.mp H
                obtain ⟨t184, A90, H⟩ := H
                replace H : ((switchbackref17_Goes.f (wrap64 (1 + (Int.tmod t184 48))) (Int.tmod (wrap64 (Int.tdiv t184 48)) 12) (Int.tmod (wrap64 (Int.tdiv t184 576)) 12) (Int.tmod (wrap64 (Int.tdiv t184 6912)) 12) 0 0 ([] : List Int)).bind fun t186 => ((switchbackref16_May.f (wrap64 (1 + (Int.tmod t184 48))) (Int.tmod (wrap64 (Int.tdiv t184 48)) 12) (Int.tmod (wrap64 (Int.tdiv t184 576)) 12) (Int.tmod (wrap64 (Int.tdiv t184 6912)) 12)).bind fun t187 => (if t186 = true then (if (wrap64 (1 + t182)) = 0 then (none) else (switchbacklaw17_RelaxAll.j2 kj3 l0 (wrap64 (1 + t182)) x5_1 x6_1 (wrap64 (1 + (Int.tmod t184 48))) 0 0 0 0 (Int.tmod (wrap64 (Int.tdiv t184 48)) (wrap64 (1 + t182))) ([] : List Int))) else (if (wrap64 (1 + (Int.tmod t184 48))) = 42 then (if (wrap64 (1 + t182)) = 0 then (none) else (switchbacklaw17_RelaxAll.j2 kj3 l0 (wrap64 (1 + t182)) x5_1 x6_1 (wrap64 (1 + (Int.tmod t184 48))) (Int.tmod (wrap64 (Int.tdiv t184 48)) 12) 0 0 0 0 (([Int.tmod (wrap64 (Int.tdiv t184 576)) (wrap64 (1 + t182)), 0] : List Int)))) else (if t187 = true then (switchbacklaw17_RelaxAll.j2 kj3 l0 (wrap64 (1 + t182)) x5_1 x6_1 (wrap64 (1 + (Int.tmod t184 48))) (Int.tmod (wrap64 (Int.tdiv t184 48)) 12) (Int.tmod (wrap64 (Int.tdiv t184 576)) 12) (Int.tmod (wrap64 (Int.tdiv t184 6912)) 12) 0 0 ([] : List Int)) else (switchbacklaw17_RelaxAll.j2 kj3 l0 (wrap64 (1 + t182)) x5_1 x6_1 44 0 0 0 0 0 ([] : List Int))))))) = some r := H
                have A9 := Aside0.mk A90
                clear A90
                replace H := Option.bind_eq_some_iff.mp H
                obtain ⟨t186, A100, H⟩ := H
                replace H : ((switchbackref16_May.f (wrap64 (1 + (Int.tmod t184 48))) (Int.tmod (wrap64 (Int.tdiv t184 48)) 12) (Int.tmod (wrap64 (Int.tdiv t184 576)) 12) (Int.tmod (wrap64 (Int.tdiv t184 6912)) 12)).bind fun t187 => (if t186 = true then (if (wrap64 (1 + t182)) = 0 then (none) else (switchbacklaw17_RelaxAll.j2 kj3 l0 (wrap64 (1 + t182)) x5_1 x6_1 (wrap64 (1 + (Int.tmod t184 48))) 0 0 0 0 (Int.tmod (wrap64 (Int.tdiv t184 48)) (wrap64 (1 + t182))) ([] : List Int))) else (if (wrap64 (1 + (Int.tmod t184 48))) = 42 then (if (wrap64 (1 + t182)) = 0 then (none) else (switchbacklaw17_RelaxAll.j2 kj3 l0 (wrap64 (1 + t182)) x5_1 x6_1 (wrap64 (1 + (Int.tmod t184 48))) (Int.tmod (wrap64 (Int.tdiv t184 48)) 12) 0 0 0 0 (([Int.tmod (wrap64 (Int.tdiv t184 576)) (wrap64 (1 + t182)), 0] : List Int)))) else (if t187 = true then (switchbacklaw17_RelaxAll.j2 kj3 l0 (wrap64 (1 + t182)) x5_1 x6_1 (wrap64 (1 + (Int.tmod t184 48))) (Int.tmod (wrap64 (Int.tdiv t184 48)) 12) (Int.tmod (wrap64 (Int.tdiv t184 576)) 12) (Int.tmod (wrap64 (Int.tdiv t184 6912)) 12) 0 0 ([] : List Int)) else (switchbacklaw17_RelaxAll.j2 kj3 l0 (wrap64 (1 + t182)) x5_1 x6_1 44 0 0 0 0 0 ([] : List Int)))))) = some r := H
                have A10 := Aside0.mk A100
                clear A100
                replace H := Option.bind_eq_some_iff.mp H
                obtain ⟨t187, A110, H⟩ := H
                replace H : (if t186 = true then (if (wrap64 (1 + t182)) = 0 then (none) else (switchbacklaw17_RelaxAll.j2 kj3 l0 (wrap64 (1 + t182)) x5_1 x6_1 (wrap64 (1 + (Int.tmod t184 48))) 0 0 0 0 (Int.tmod (wrap64 (Int.tdiv t184 48)) (wrap64 (1 + t182))) ([] : List Int))) else (if (wrap64 (1 + (Int.tmod t184 48))) = 42 then (if (wrap64 (1 + t182)) = 0 then (none) else (switchbacklaw17_RelaxAll.j2 kj3 l0 (wrap64 (1 + t182)) x5_1 x6_1 (wrap64 (1 + (Int.tmod t184 48))) (Int.tmod (wrap64 (Int.tdiv t184 48)) 12) 0 0 0 0 (([Int.tmod (wrap64 (Int.tdiv t184 576)) (wrap64 (1 + t182)), 0] : List Int)))) else (if t187 = true then (switchbacklaw17_RelaxAll.j2 kj3 l0 (wrap64 (1 + t182)) x5_1 x6_1 (wrap64 (1 + (Int.tmod t184 48))) (Int.tmod (wrap64 (Int.tdiv t184 48)) 12) (Int.tmod (wrap64 (Int.tdiv t184 576)) 12) (Int.tmod (wrap64 (Int.tdiv t184 6912)) 12) 0 0 ([] : List Int)) else (switchbacklaw17_RelaxAll.j2 kj3 l0 (wrap64 (1 + t182)) x5_1 x6_1 44 0 0 0 0 0 ([] : List Int))))) = some r := H
                have A11 := Aside0.mk A110
                clear A110
                have HC12 := Aside0.mk H
                clear H
                have p183 : 0 ≤ (x6_1 : Int) := of_decide_eq_true (by first | (with_reducible assumption) | assumption)
                have q183 : x6_1 < (l0.length : Int) := of_decide_eq_true (by first | (with_reducible assumption) | assumption)
                obtain ⟨ad183, e183, hx183_0⟩ := Kd.at_int HR0.out x6_1 p183 q183
                cases e183
                replace hx183_0 := (HB.out.cell (World.block_lt_of_cell? w _ hx183_0)).trans hx183_0
                replace p183 := eq_true p183
                replace q183 := eq_true q183
                go_upto_block 2 with (first | ((with_reducible refine gate_callee (f := 26) rfl ?_); refine goesL_ (some 32) rfl rfl Tryd.func26 (by kernel_rfl) rfl #[.int .i64 (rd l0 x6_1), .int .i64 1073741824] rfl (by (try simp only [List.map_toArray, List.map_cons, List.map_nil]); first | done | rfl | (simp only [List.length_drop, List.length_take]; rfl)) ?_; (with_reducible refine (switchbacklaw17_pick.calls (rd l0 x6_1) 1073741824 t184 _ A9.out).mono ?_); rintro e w' ⟨rfl, ⟨nd, rfl⟩⟩; refine ⟨_, rfl, ?_⟩; (try (rw [drewN_self wc]; generalize hq_ : World.drewN wc _ = wc; have n0_ : Aside0 (Kd.S k40 40 wc w.heap.size (fun _ => True) u5 x5_1) := ⟨by rw [← hq_]; exact (by (with_reducible repeat (first | apply Kd.S_alloc | apply Kd.S_drewN | apply Kd.S_drew)); exact HO_5.out)⟩; have n1_ : Aside0 (Below w.heap.size w wc) := ⟨by rw [← hq_]; exact (by repeat (first | (with_reducible first | exact HB.out | apply below_alloc | apply pw_below_drewN | apply below_drew1) | exact HB.out))⟩; clear HO_5 HB hq_; have HO_5 := n0_; have HB := n1_; clear n0_ n1_))) | ((with_reducible refine gate_dst (N := 8) rfl ?_); (try (refine gate_guard (by rfl) ?_; dsimp only)); refine box_event ?hg (N := 8) ?hd (cs := #[.int .i64 0, .int .i64 0, .int .i64 0, .int .i64 0, .int .u32 0, .int .i64 0, .slice none 0 0]) (t := 40) ?hr ?_; (case hd => rfl); (case hg => rfl); (case hr => first | (go_simp; done) | (go_simp; rfl)); intro gb185 hg w13 hbox hb; have n0_ := Aside0.mk (Kd.S_below (Kd.S_elderB (by (with_reducible repeat (first | apply Kd.S_alloc | apply Kd.S_drewN | apply Kd.S_drew)); exact HO_5.out) gb185 (Nat.le_of_eq hg.symm)) hb); have n1_ := Aside0.mk (below_step (by repeat (first | (with_reducible first | exact HB.out | apply below_alloc | apply pw_below_drewN | apply below_drew1) | exact HB.out)) hb); have n2_ := Aside0.mk (hbox); have n3_ := Aside0.mk ((by rw [hg]; exact (below_size (by repeat (first | (with_reducible first | exact HB.out | apply below_alloc | apply pw_below_drewN | apply below_drew1) | exact HB.out))) : w.heap.size ≤ gb185)); have n4_ := Aside0.mk ((by rw [hg]; exact (below_size (by repeat (first | (with_reducible first | exact HB.out | apply below_alloc | apply pw_below_drewN | apply below_drew1) | exact HB.out))) : w.heap.size ≤ gb185)); clear HO_5; clear HB; have HO_5 := n0_; have HB := n1_; have BK185 := n2_; have GW185 := n3_; have GE185 := n4_; clear n0_ n1_ n2_ n3_ n4_; clear hb hbox hg; have hcz14_0 : w13.cell? ⟨gb185, 0, none⟩ = some (.int .i64 0) := (blk_cell BK185.out 0).trans rfl; have hcz14_1 : w13.cell? ⟨gb185, 1, none⟩ = some (.int .i64 0) := (blk_cell BK185.out 1).trans rfl; have hcz14_2 : w13.cell? ⟨gb185, 2, none⟩ = some (.int .i64 0) := (blk_cell BK185.out 2).trans rfl; have hcz14_3 : w13.cell? ⟨gb185, 3, none⟩ = some (.int .i64 0) := (blk_cell BK185.out 3).trans rfl; have hcz14_4 : w13.cell? ⟨gb185, 4, none⟩ = some (.int .u32 0) := (blk_cell BK185.out 4).trans rfl; have hcz14_5 : w13.cell? ⟨gb185, 5, none⟩ = some (.int .i64 0) := (blk_cell BK185.out 5).trans rfl; have hcz14_6 : w13.cell? ⟨gb185, 6, none⟩ = some (.slice none 0 0) := (blk_cell BK185.out 6).trans rfl; have hfz14_0 := blk_frozen BK185.out 0; have hfz14_1 := blk_frozen BK185.out 1; have hfz14_2 := blk_frozen BK185.out 2; have hfz14_3 := blk_frozen BK185.out 3; have hfz14_4 := blk_frozen BK185.out 4; have hfz14_5 := blk_frozen BK185.out 5; have hfz14_6 := blk_frozen BK185.out 6) | ((with_reducible refine gate_callee (f := 27) rfl ?_); refine goesL_ (some 47) rfl rfl Tryd.func27 (by kernel_rfl) rfl #[.agg #[.int .i64 (wrap64 (1 + (Int.tmod t184 48))), .int .i64 (Int.tmod (wrap64 (Int.tdiv t184 48)) 12), .int .i64 (Int.tmod (wrap64 (Int.tdiv t184 576)) 12), .int .i64 (Int.tmod (wrap64 (Int.tdiv t184 6912)) 12), .int .u32 0, .int .i64 0, .slice none 0 0]] rfl (by (try simp only [List.map_toArray, List.map_cons, List.map_nil]); first | done | rfl | (simp only [List.length_drop, List.length_take]; rfl)) ?_; (refine (switchbackref17_Goes.calls (wrap64 (1 + (Int.tmod t184 48))) (Int.tmod (wrap64 (Int.tdiv t184 48)) 12) (Int.tmod (wrap64 (Int.tdiv t184 576)) 12) (Int.tmod (wrap64 (Int.tdiv t184 6912)) 12) 0 0 _ _ ([] : List Int) t186 _ ?side1 ?side2 A10.out).mono ?_); (case side1 => exact Kd.C_nil _ _); (case side2 => exact Nat.le_refl _); rintro e w15 ⟨rfl, hb⟩; refine ⟨_, rfl, ?_⟩; have n0_ := Aside0.mk (Kd.S_below (by (with_reducible repeat (first | apply Kd.S_alloc | apply Kd.S_drewN | apply Kd.S_drew)); exact (Kd.S_mono (Kd.S_far (p := ⟨gb185, 6, none⟩) (Kd.S_far (p := ⟨gb185, 5, none⟩) (Kd.S_far (p := ⟨gb185, 4, none⟩) (Kd.S_far (p := ⟨gb185, 3, none⟩) (Kd.S_far (p := ⟨gb185, 2, none⟩) (Kd.S_far (p := ⟨gb185, 1, none⟩) (Kd.S_far (p := ⟨gb185, 0, none⟩) (Kd.S_mono HO_5.out (fun k_ hk => (⟨hk, hk.2⟩ : _ ∧ k_ ≠ gb185))) (fun _ hk => hk.2) (.int .i64 (wrap64 (1 + (Int.tmod t184 48))))) (fun _ hk => hk.2) (.int .i64 (Int.tmod (wrap64 (Int.tdiv t184 48)) 12))) (fun _ hk => hk.2) (.int .i64 (Int.tmod (wrap64 (Int.tdiv t184 576)) 12))) (fun _ hk => hk.2) (.int .i64 (Int.tmod (wrap64 (Int.tdiv t184 6912)) 12))) (fun _ hk => hk.2) (.int .u32 0)) (fun _ hk => hk.2) (.int .i64 0)) (fun _ hk => hk.2) (.slice none 0 0)) (fun _ h_ => h_.1))) hb); have n1_ := Aside0.mk (blk_below (g := gb185) (o := .cells #[.int .i64 (wrap64 (1 + (Int.tmod t184 48))), .int .i64 (Int.tmod (wrap64 (Int.tdiv t184 48)) 12), .int .i64 (Int.tmod (wrap64 (Int.tdiv t184 576)) 12), .int .i64 (Int.tmod (wrap64 (Int.tdiv t184 6912)) 12), .int .u32 0, .int .i64 0, .slice none 0 0] 40 (0, 0)) (by (with_reducible repeat (first | refine blk_drewN ?_ _ | refine blk_drew ?_ | refine blk_alloc ?_ _)); refine blk_put (cs := #[.int .i64 (wrap64 (1 + (Int.tmod t184 48))), .int .i64 (Int.tmod (wrap64 (Int.tdiv t184 48)) 12), .int .i64 (Int.tmod (wrap64 (Int.tdiv t184 576)) 12), .int .i64 (Int.tmod (wrap64 (Int.tdiv t184 6912)) 12), .int .u32 0, .int .i64 0, .slice none 0 0]) ?_ 6 _ rfl; (with_reducible repeat (first | refine blk_drewN ?_ _ | refine blk_drew ?_ | refine blk_alloc ?_ _)); refine blk_put (cs := #[.int .i64 (wrap64 (1 + (Int.tmod t184 48))), .int .i64 (Int.tmod (wrap64 (Int.tdiv t184 48)) 12), .int .i64 (Int.tmod (wrap64 (Int.tdiv t184 576)) 12), .int .i64 (Int.tmod (wrap64 (Int.tdiv t184 6912)) 12), .int .u32 0, .int .i64 0, .slice none 0 0]) ?_ 5 _ rfl; (with_reducible repeat (first | refine blk_drewN ?_ _ | refine blk_drew ?_ | refine blk_alloc ?_ _)); refine blk_put (cs := #[.int .i64 (wrap64 (1 + (Int.tmod t184 48))), .int .i64 (Int.tmod (wrap64 (Int.tdiv t184 48)) 12), .int .i64 (Int.tmod (wrap64 (Int.tdiv t184 576)) 12), .int .i64 (Int.tmod (wrap64 (Int.tdiv t184 6912)) 12), .int .u32 0, .int .i64 0, .slice none 0 0]) ?_ 4 _ rfl; (with_reducible repeat (first | refine blk_drewN ?_ _ | refine blk_drew ?_ | refine blk_alloc ?_ _)); refine blk_put (cs := #[.int .i64 (wrap64 (1 + (Int.tmod t184 48))), .int .i64 (Int.tmod (wrap64 (Int.tdiv t184 48)) 12), .int .i64 (Int.tmod (wrap64 (Int.tdiv t184 576)) 12), .int .i64 0, .int .u32 0, .int .i64 0, .slice none 0 0]) ?_ 3 _ rfl; (with_reducible repeat (first | refine blk_drewN ?_ _ | refine blk_drew ?_ | refine blk_alloc ?_ _)); refine blk_put (cs := #[.int .i64 (wrap64 (1 + (Int.tmod t184 48))), .int .i64 (Int.tmod (wrap64 (Int.tdiv t184 48)) 12), .int .i64 0, .int .i64 0, .int .u32 0, .int .i64 0, .slice none 0 0]) ?_ 2 _ rfl; (with_reducible repeat (first | refine blk_drewN ?_ _ | refine blk_drew ?_ | refine blk_alloc ?_ _)); refine blk_put (cs := #[.int .i64 (wrap64 (1 + (Int.tmod t184 48))), .int .i64 0, .int .i64 0, .int .i64 0, .int .u32 0, .int .i64 0, .slice none 0 0]) ?_ 1 _ rfl; (with_reducible repeat (first | refine blk_drewN ?_ _ | refine blk_drew ?_ | refine blk_alloc ?_ _)); refine blk_put (cs := #[.int .i64 0, .int .i64 0, .int .i64 0, .int .i64 0, .int .u32 0, .int .i64 0, .slice none 0 0]) ?_ 0 _ rfl; (with_reducible repeat (first | refine blk_drewN ?_ _ | refine blk_drew ?_ | refine blk_alloc ?_ _)); exact BK185.out) hb); have n2_ := Aside0.mk (below_step (by repeat (first | (with_reducible first | exact HB.out | apply below_alloc | apply pw_below_drewN | apply below_drew1 | refine below_set ?_ GE185.out) | exact HB.out)) hb); clear HO_5; clear BK185; clear HB; have HO_5 := n0_; have BK185 := n1_; have HB := n2_; clear n0_ n1_ n2_; (try clear hb); (try clear hb2); (try clear hk); (try clear hi); have hcz16_0 : w15.cell? ⟨gb185, 0, none⟩ = some (.int .i64 (wrap64 (1 + (Int.tmod t184 48)))) := (blk_cell BK185.out 0).trans rfl; have hcz16_1 : w15.cell? ⟨gb185, 1, none⟩ = some (.int .i64 (Int.tmod (wrap64 (Int.tdiv t184 48)) 12)) := (blk_cell BK185.out 1).trans rfl; have hcz16_2 : w15.cell? ⟨gb185, 2, none⟩ = some (.int .i64 (Int.tmod (wrap64 (Int.tdiv t184 576)) 12)) := (blk_cell BK185.out 2).trans rfl; have hcz16_3 : w15.cell? ⟨gb185, 3, none⟩ = some (.int .i64 (Int.tmod (wrap64 (Int.tdiv t184 6912)) 12)) := (blk_cell BK185.out 3).trans rfl; have hcz16_4 : w15.cell? ⟨gb185, 4, none⟩ = some (.int .u32 0) := (blk_cell BK185.out 4).trans rfl; have hcz16_5 : w15.cell? ⟨gb185, 5, none⟩ = some (.int .i64 0) := (blk_cell BK185.out 5).trans rfl; have hcz16_6 : w15.cell? ⟨gb185, 6, none⟩ = some (.slice none 0 0) := (blk_cell BK185.out 6).trans rfl; have hfz16_0 := blk_frozen BK185.out 0; have hfz16_1 := blk_frozen BK185.out 1; have hfz16_2 := blk_frozen BK185.out 2; have hfz16_3 := blk_frozen BK185.out 3; have hfz16_4 := blk_frozen BK185.out 4; have hfz16_5 := blk_frozen BK185.out 5; have hfz16_6 := blk_frozen BK185.out 6) | ((with_reducible refine gate_callee (f := 28) rfl ?_); refine goesL_ (some 57) rfl rfl Tryd.func28 (by kernel_rfl) rfl #[.agg #[.int .i64 (wrap64 (1 + (Int.tmod t184 48))), .int .i64 (Int.tmod (wrap64 (Int.tdiv t184 48)) 12), .int .i64 (Int.tmod (wrap64 (Int.tdiv t184 576)) 12), .int .i64 (Int.tmod (wrap64 (Int.tdiv t184 6912)) 12)]] rfl (by (try simp only [List.map_toArray, List.map_cons, List.map_nil]); first | done | rfl | (simp only [List.length_drop, List.length_take]; rfl)) ?_; (with_reducible refine (switchbackref16_May.calls (wrap64 (1 + (Int.tmod t184 48))) (Int.tmod (wrap64 (Int.tdiv t184 48)) 12) (Int.tmod (wrap64 (Int.tdiv t184 576)) 12) (Int.tmod (wrap64 (Int.tdiv t184 6912)) 12) t187 _ A11.out).mono ?_); rintro e w17 ⟨rfl, hb⟩; refine ⟨_, rfl, ?_⟩; have n0_ := Aside0.mk (Kd.S_below (by (with_reducible repeat (first | apply Kd.S_alloc | apply Kd.S_drewN | apply Kd.S_drew)); exact HO_5.out) hb); have n1_ := Aside0.mk (blk_below (g := gb185) (o := .cells #[.int .i64 (wrap64 (1 + (Int.tmod t184 48))), .int .i64 (Int.tmod (wrap64 (Int.tdiv t184 48)) 12), .int .i64 (Int.tmod (wrap64 (Int.tdiv t184 576)) 12), .int .i64 (Int.tmod (wrap64 (Int.tdiv t184 6912)) 12), .int .u32 0, .int .i64 0, .slice none 0 0] 40 (0, 0)) (by (with_reducible repeat (first | refine blk_drewN ?_ _ | refine blk_drew ?_ | refine blk_alloc ?_ _)); exact BK185.out) hb); have n2_ := Aside0.mk (below_step (by repeat (first | (with_reducible first | exact HB.out | apply below_alloc | apply pw_below_drewN | apply below_drew1 | refine below_set ?_ GE185.out) | exact HB.out)) hb); clear HO_5; clear BK185; clear HB; have HO_5 := n0_; have BK185 := n1_; have HB := n2_; clear n0_ n1_ n2_; (try clear hb); (try clear hb2); (try clear hk); (try clear hi)))
                (try simp only [Act.put, List.setIfInBounds_toArray, List.set_cons_zero, List.set_cons_succ])
                go_cut [] (fun wc => ∃ (kq : Nat) (x186000_11 : Int) (x186001_11 : Int) (x186002_11 : Int) (x186003_11 : Int) (x186004_11 : Int) (x186005_11 : Int) (x186006_11 : List Int) (u186006 : Value), Aside0 (switchbacklaw17_RelaxAll.j2 kq l0 (wrap64 (1 + t182)) x5_1 x6_1 x186000_11 x186001_11 x186002_11 x186003_11 x186004_11 x186005_11 x186006_11 = some r) ∧ Aside0 (kq ≤ kj3) ∧ Aside0 (Kd.S k40 40 wc w.heap.size (fun k_ => some k_ ≠ (u186006 : Value).ownBlock ∧ k_ ≠ gb185) u5 x5_1) ∧ Aside0 (Kd.R (Kd.int .i64) 3 wc w.heap.size (fun _ => True) u186006 x186006_11) ∧ Aside0 (wc.heap[gb185]? = some (.cells #[.int .i64 x186000_11, .int .i64 x186001_11, .int .i64 x186002_11, .int .i64 x186003_11, .int .u32 x186004_11, .int .i64 x186005_11, u186006] 40 (0, 0))) ∧ Aside0 (Below w.heap.size w wc))
                case first =>
                  have H := HC12.out
                  clear HC12
                  by_cases c18 : t186 = true
                  · subst c18
                    have H1 : (if (wrap64 (1 + t182)) = 0 then (none) else (switchbacklaw17_RelaxAll.j2 kj3 l0 (wrap64 (1 + t182)) x5_1 x6_1 (wrap64 (1 + (Int.tmod t184 48))) 0 0 0 0 (Int.tmod (wrap64 (Int.tdiv t184 48)) (wrap64 (1 + t182))) ([] : List Int))) = some r := by rw [if_pos rfl] at H; exact H
                    clear H
                    have H := H1
                    clear H1
                    by_cases c19 : (wrap64 (1 + t182)) = 0
                    · rw [if_pos c19] at H
                      exact absurd H (by simp)
                    · rw [if_neg c19] at H
                      have c19b0 : ((wrap64 (1 + t182)) == 0) = false := beq_eq_false_iff_ne.mpr c19
                      have c19b1 : ((wrap64 (1 + t182)) != 0) = true := bne_iff_ne.mpr c19
                      (first | rw [c19b0] | (simp only [i64_w, i32_w]; rw [c19b0]) | skip)
                      have H' := Aside0.mk H
                      clear H
                      try go_wp2
                      have n0_ := Aside0.mk (Kd.S_drew HO_5.out)
                      have n1_ := Aside0.mk (blk_drew BK185.out)
                      have n2_ := Aside0.mk (below_drew1 HB.out)
                      clear HO_5
                      clear BK185
                      clear HB
                      have HO_5 := n0_
                      have BK185 := n1_
                      have HB := n2_
                      clear n0_ n1_ n2_
                      refine start_ (n := 8) (S := fun w' => w'.cell? ⟨gb185, 0, none⟩ = some (.int .i64 (wrap64 (1 + (Int.tmod t184 48)))) ∧ w'.cell? ⟨gb185, 1, none⟩ = some (.int .i64 (Int.tmod (wrap64 (Int.tdiv t184 48)) 12)) ∧ w'.cell? ⟨gb185, 2, none⟩ = some (.int .i64 (Int.tmod (wrap64 (Int.tdiv t184 576)) 12)) ∧ w'.cell? ⟨gb185, 3, none⟩ = some (.int .i64 (Int.tmod (wrap64 (Int.tdiv t184 6912)) 12)) ∧ w'.cell? ⟨gb185, 4, none⟩ = some (.int .u32 0) ∧ w'.cell? ⟨gb185, 5, none⟩ = some (.int .i64 0) ∧ w'.cell? ⟨gb185, 6, none⟩ = some (.slice none 0 0)) (ds := [7]) #[false, false, false, false, false, false, false, false] (by kernel_rfl) rfl rfl ⟨(blk_cell BK185.out 0).trans rfl, (blk_cell BK185.out 1).trans rfl, (blk_cell BK185.out 2).trans rfl, (blk_cell BK185.out 3).trans rfl, (blk_cell BK185.out 4).trans rfl, (blk_cell BK185.out 5).trans rfl, (blk_cell BK185.out 6).trans rfl⟩ (fun hHeld => ?_); refine with_tabW switchbacklaw17_RelaxAll.tab11 switchbacklaw17_RelaxAll.bits11 (fun HT_ HW_ => ?_)
                      generalize w17.drew = w20 at HO_5 BK185 HB hHeld ⊢
                      refine pure_ (i := 0) (N := some 60) (v := ?_) (a' := ?_) #[true, false, false, false, false, false, false, false] rfl rfl (any_of HT_.out (by kernel_rfl)) (fun _ _ _ h => h) (Or.inl ⟨by rfl, ?_⟩) ?_ ?_
                      rotate_left
                      · intro w'
                        go_simp
                        with_reducible rfl
                      rotate_left
                      · simp only [Act.put, List.setIfInBounds_toArray, List.set_cons_zero, List.set_cons_succ, i64_w, i32_w]
                        rfl
                      refine pure_ (i := 2) (N := some 62) (v := ?_) (a' := ?_) #[true, false, true, false, false, false, false, false] rfl rfl (any_of HT_.out (by kernel_rfl)) (fun _ _ _ h => h) (Or.inl ⟨by rfl, ?_⟩) ?_ ?_
                      rotate_left
                      · intro w'
                        go_simp
                        with_reducible rfl
                      rotate_left
                      · simp only [Act.put, List.setIfInBounds_toArray, List.set_cons_zero, List.set_cons_succ, i64_w, i32_w]
                        rfl
                      refine pure_ (i := 3) (N := some 63) (v := ?_) (a' := ?_) #[true, false, true, true, false, false, false, false] rfl rfl (any_of HT_.out (by kernel_rfl)) (fun _ _ _ h => h) (Or.inl ⟨by rfl, ?_⟩) ?_ ?_
                      rotate_left
                      · intro w'
                        go_simp
                        with_reducible rfl
                      rotate_left
                      · simp only [Act.put, List.setIfInBounds_toArray, List.set_cons_zero, List.set_cons_succ, i64_w, i32_w]
                        rfl
                      refine pure_ (i := 4) (N := some 64) (v := ?_) (a' := ?_) #[true, false, true, true, true, false, false, false] rfl rfl (any_of HT_.out (by kernel_rfl)) (fun _ _ _ h => h) (Or.inl ⟨by rfl, ?_⟩) ?_ ?_
                      rotate_left
                      · intro w'
                        go_simp
                        with_reducible rfl
                      rotate_left
                      · simp only [Act.put, List.setIfInBounds_toArray, List.set_cons_zero, List.set_cons_succ, i64_w, i32_w]
                        rfl
                      refine pure_ (i := 5) (N := some 65) (v := ?_) (a' := ?_) #[true, false, true, true, true, true, false, false] rfl rfl (any_of HT_.out (by kernel_rfl)) (fun _ _ _ h => h) (Or.inl ⟨by rfl, ?_⟩) ?_ ?_
                      rotate_left
                      · intro w'
                        go_simp
                        with_reducible rfl
                      rotate_left
                      · simp only [Act.put, List.setIfInBounds_toArray, List.set_cons_zero, List.set_cons_succ, i64_w, i32_w]
                        rfl
                      refine take_ (i := 1) (N := some 61) (v := ?_) (a' := ?_) #[true, true, true, true, true, true, false, false] rfl rfl (take_ofW HT_.out HW_.out (by kernel_rfl)) (fun _ _ _ h => h) (Or.inl ⟨by rfl, ?_⟩) hHeld ?_ ?_
                      rotate_left
                      · rintro w' ⟨s0, s1, s2, s3, s4, s5, s6⟩
                        go_simp
                        with_reducible rfl
                      rotate_left
                      · simp only [Act.put, List.setIfInBounds_toArray, List.set_cons_zero, List.set_cons_succ, i64_w, i32_w]
                        rfl
                      refine pure_ (i := 6) (N := some 66) (v := ?_) (a' := ?_) #[true, true, true, true, true, true, true, false] rfl rfl (any_of HT_.out (by kernel_rfl)) (fun _ _ _ h => h) (Or.inl ⟨by rfl, ?_⟩) ?_ ?_
                      rotate_left
                      · intro w'
                        go_simp
                        with_reducible rfl
                      rotate_left
                      · simp only [Act.put, List.setIfInBounds_toArray, List.set_cons_zero, List.set_cons_succ, i64_w, i32_w]
                        rfl
                      refine last_ (i := 7) (N := none) #[true, true, true, true, true, true, true, true] rfl rfl (one_of HT_.out (by kernel_rfl)) (by decide) (fun K hK => ?_)
                      have hs21 : w20.cell? ⟨gb185, 0, none⟩ = some (.int .i64 (wrap64 (1 + (Int.tmod t184 48)))) := (blk_cell BK185.out 0).trans rfl
                      have hfs21 := blk_frozen BK185.out 0
                      have hs22 : w20.cell? ⟨gb185, 1, none⟩ = some (.int .i64 (Int.tmod (wrap64 (Int.tdiv t184 48)) 12)) := (blk_cell BK185.out 1).trans rfl
                      have hfs22 := blk_frozen BK185.out 1
                      have hs23 : w20.cell? ⟨gb185, 2, none⟩ = some (.int .i64 (Int.tmod (wrap64 (Int.tdiv t184 576)) 12)) := (blk_cell BK185.out 2).trans rfl
                      have hfs23 := blk_frozen BK185.out 2
                      have hs24 : w20.cell? ⟨gb185, 3, none⟩ = some (.int .i64 (Int.tmod (wrap64 (Int.tdiv t184 6912)) 12)) := (blk_cell BK185.out 3).trans rfl
                      have hfs24 := blk_frozen BK185.out 3
                      have hs25 : w20.cell? ⟨gb185, 4, none⟩ = some (.int .u32 0) := (blk_cell BK185.out 4).trans rfl
                      have hfs25 := blk_frozen BK185.out 4
                      have hs26 : w20.cell? ⟨gb185, 5, none⟩ = some (.int .i64 0) := (blk_cell BK185.out 5).trans rfl
                      have hfs26 := blk_frozen BK185.out 5
                      have hs27 : w20.cell? ⟨gb185, 6, none⟩ = some (.slice none 0 0) := (blk_cell BK185.out 6).trans rfl
                      have hfs27 := blk_frozen BK185.out 6
                      refine skip_ (w1 := ?_) (by rfl) rfl ?_ ?_
                      rotate_left
                      · go_simp
                        rfl
                      refine hK.out _ _ ?_
                      clear hK K
                      refine done_ (done_of HT_.out (by kernel_rfl)) ?_
                      try go_wp2
                      go_meet
                      case rel => exact ⟨_, (wrap64 (1 + (Int.tmod t184 48))), (0), (0), (0), (0), (Int.tmod (wrap64 (Int.tdiv t184 48)) (wrap64 (1 + t182))), (([] : List Int)), (.slice none 0 0), H', ⟨by have := HK1.out; have := HJ3.out; first | omega | exact Nat.le_refl _⟩, ⟨by (with_reducible repeat (first | apply Kd.S_alloc | apply Kd.S_drewN | apply Kd.S_drew)); exact Kd.S_mono (Kd.S_far (p := ⟨gb185, 6, none⟩) (Kd.S_far (p := ⟨gb185, 5, none⟩) (Kd.S_far (p := ⟨gb185, 4, none⟩) (Kd.S_far (p := ⟨gb185, 3, none⟩) (Kd.S_far (p := ⟨gb185, 2, none⟩) (Kd.S_far (p := ⟨gb185, 1, none⟩) (Kd.S_far (p := ⟨gb185, 0, none⟩) (Kd.S_mono HO_5.out (fun k_ hk => (⟨hk, hk.2⟩ : _ ∧ k_ ≠ gb185))) (fun _ hk => hk.2) (.int .i64 (wrap64 (1 + (Int.tmod t184 48))))) (fun _ hk => hk.2) (.int .i64 0)) (fun _ hk => hk.2) (.int .i64 0)) (fun _ hk => hk.2) (.int .i64 0)) (fun _ hk => hk.2) (.int .u32 0)) (fun _ hk => hk.2) (.int .i64 (Int.tmod (wrap64 (Int.tdiv t184 48)) (wrap64 (1 + t182))))) (fun _ hk => hk.2) (.slice none 0 0)) (fun _ hk => ⟨(by simp [Value.ownBlock]), hk.1.2⟩)⟩, ⟨by first | exact Kd.R_nil _ _ _ _ _ | exact Kd.N_nil _ _ _ _ _ | exact Kd.V_nil _ _ _ _ _ | exact Kd.Q_nil _ _ _ _ _ | exact Kd.S_nil _ _ _ _ _⟩, ⟨by (with_reducible repeat (first | refine blk_drewN ?_ _ | refine blk_drew ?_ | refine blk_alloc ?_ _)); refine blk_put (cs := #[.int .i64 (wrap64 (1 + (Int.tmod t184 48))), .int .i64 0, .int .i64 0, .int .i64 0, .int .u32 0, .int .i64 (Int.tmod (wrap64 (Int.tdiv t184 48)) (wrap64 (1 + t182))), .slice none 0 0]) ?_ 6 _ rfl; (with_reducible repeat (first | refine blk_drewN ?_ _ | refine blk_drew ?_ | refine blk_alloc ?_ _)); refine blk_put (cs := #[.int .i64 (wrap64 (1 + (Int.tmod t184 48))), .int .i64 0, .int .i64 0, .int .i64 0, .int .u32 0, .int .i64 0, .slice none 0 0]) ?_ 5 _ rfl; (with_reducible repeat (first | refine blk_drewN ?_ _ | refine blk_drew ?_ | refine blk_alloc ?_ _)); refine blk_put (cs := #[.int .i64 (wrap64 (1 + (Int.tmod t184 48))), .int .i64 0, .int .i64 0, .int .i64 0, .int .u32 0, .int .i64 0, .slice none 0 0]) ?_ 4 _ rfl; (with_reducible repeat (first | refine blk_drewN ?_ _ | refine blk_drew ?_ | refine blk_alloc ?_ _)); refine blk_put (cs := #[.int .i64 (wrap64 (1 + (Int.tmod t184 48))), .int .i64 0, .int .i64 0, .int .i64 (Int.tmod (wrap64 (Int.tdiv t184 6912)) 12), .int .u32 0, .int .i64 0, .slice none 0 0]) ?_ 3 _ rfl; (with_reducible repeat (first | refine blk_drewN ?_ _ | refine blk_drew ?_ | refine blk_alloc ?_ _)); refine blk_put (cs := #[.int .i64 (wrap64 (1 + (Int.tmod t184 48))), .int .i64 0, .int .i64 (Int.tmod (wrap64 (Int.tdiv t184 576)) 12), .int .i64 (Int.tmod (wrap64 (Int.tdiv t184 6912)) 12), .int .u32 0, .int .i64 0, .slice none 0 0]) ?_ 2 _ rfl; (with_reducible repeat (first | refine blk_drewN ?_ _ | refine blk_drew ?_ | refine blk_alloc ?_ _)); refine blk_put (cs := #[.int .i64 (wrap64 (1 + (Int.tmod t184 48))), .int .i64 (Int.tmod (wrap64 (Int.tdiv t184 48)) 12), .int .i64 (Int.tmod (wrap64 (Int.tdiv t184 576)) 12), .int .i64 (Int.tmod (wrap64 (Int.tdiv t184 6912)) 12), .int .u32 0, .int .i64 0, .slice none 0 0]) ?_ 1 _ rfl; (with_reducible repeat (first | refine blk_drewN ?_ _ | refine blk_drew ?_ | refine blk_alloc ?_ _)); refine blk_put (cs := #[.int .i64 (wrap64 (1 + (Int.tmod t184 48))), .int .i64 (Int.tmod (wrap64 (Int.tdiv t184 48)) 12), .int .i64 (Int.tmod (wrap64 (Int.tdiv t184 576)) 12), .int .i64 (Int.tmod (wrap64 (Int.tdiv t184 6912)) 12), .int .u32 0, .int .i64 0, .slice none 0 0]) ?_ 0 _ rfl; (with_reducible repeat (first | refine blk_drewN ?_ _ | refine blk_drew ?_ | refine blk_alloc ?_ _)); exact BK185.out⟩, ⟨by repeat (first | (with_reducible first | exact HB.out | apply below_alloc | apply pw_below_drewN | apply below_drew1 | refine below_set ?_ GE185.out) | exact HB.out)⟩⟩
                  · replace c18 := Bool.eq_false_iff.mpr c18
                    subst c18
                    have H1 : (if (wrap64 (1 + (Int.tmod t184 48))) = 42 then (if (wrap64 (1 + t182)) = 0 then (none) else (switchbacklaw17_RelaxAll.j2 kj3 l0 (wrap64 (1 + t182)) x5_1 x6_1 (wrap64 (1 + (Int.tmod t184 48))) (Int.tmod (wrap64 (Int.tdiv t184 48)) 12) 0 0 0 0 (([Int.tmod (wrap64 (Int.tdiv t184 576)) (wrap64 (1 + t182)), 0] : List Int)))) else (if t187 = true then (switchbacklaw17_RelaxAll.j2 kj3 l0 (wrap64 (1 + t182)) x5_1 x6_1 (wrap64 (1 + (Int.tmod t184 48))) (Int.tmod (wrap64 (Int.tdiv t184 48)) 12) (Int.tmod (wrap64 (Int.tdiv t184 576)) 12) (Int.tmod (wrap64 (Int.tdiv t184 6912)) 12) 0 0 ([] : List Int)) else (switchbacklaw17_RelaxAll.j2 kj3 l0 (wrap64 (1 + t182)) x5_1 x6_1 44 0 0 0 0 0 ([] : List Int)))) = some r := by rw [if_neg (show ¬ (false = true) by decide)] at H; exact H
                    clear H
                    have H := H1
                    clear H1
                    by_cases c28 : (wrap64 (1 + (Int.tmod t184 48))) = 42
                    · rw [if_pos c28] at H
                      have c28b0 : ((wrap64 (1 + (Int.tmod t184 48))) == 42) = true := beq_iff_eq.mpr c28
                      have c28b1 : ((wrap64 (1 + (Int.tmod t184 48))) != 42) = false := bne_eq_false_iff_eq.mpr c28
                      clear c28
                      by_cases c29 : (wrap64 (1 + t182)) = 0
                      · rw [if_pos c29] at H
                        exact absurd H (by simp)
                      · rw [if_neg c29] at H
                        have c29b0 : ((wrap64 (1 + t182)) == 0) = false := beq_eq_false_iff_ne.mpr c29
                        have c29b1 : ((wrap64 (1 + t182)) != 0) = true := bne_iff_ne.mpr c29
                        obtain ⟨y188, hy188⟩ : ∃ y_ : List Int, y_ = (([Int.tmod (wrap64 (Int.tdiv t184 576)) (wrap64 (1 + t182)), 0] : List Int)) := ⟨_, rfl⟩
                        replace H : (switchbacklaw17_RelaxAll.j2 kj3 l0 (wrap64 (1 + t182)) x5_1 x6_1 (wrap64 (1 + (Int.tmod t184 48))) (Int.tmod (wrap64 (Int.tdiv t184 48)) 12) 0 0 0 0 y188) = some r := by first | (rw [hy188]; with_reducible exact H) | (have H2_ := (Option.bind_some _ _).symm.trans H; rw [hy188]; with_reducible exact H2_) | (have H2_ := (Option.bind_some _ _).symm.trans H; with_reducible exact H2_) | with_reducible exact H | (rw [hy188]; exact H) | exact H
                        have Ny188 := Aside0.mk hy188
                        clear hy188
                        have H' := Aside0.mk H
                        clear H
                        have hcz30_0 : w17.cell? ⟨gb185, 0, none⟩ = some (.int .i64 (wrap64 (1 + (Int.tmod t184 48)))) := (blk_cell BK185.out 0).trans rfl
                        have hcz30_1 : w17.cell? ⟨gb185, 1, none⟩ = some (.int .i64 (Int.tmod (wrap64 (Int.tdiv t184 48)) 12)) := (blk_cell BK185.out 1).trans rfl
                        have hcz30_2 : w17.cell? ⟨gb185, 2, none⟩ = some (.int .i64 (Int.tmod (wrap64 (Int.tdiv t184 576)) 12)) := (blk_cell BK185.out 2).trans rfl
                        have hcz30_3 : w17.cell? ⟨gb185, 3, none⟩ = some (.int .i64 (Int.tmod (wrap64 (Int.tdiv t184 6912)) 12)) := (blk_cell BK185.out 3).trans rfl
                        have hcz30_4 : w17.cell? ⟨gb185, 4, none⟩ = some (.int .u32 0) := (blk_cell BK185.out 4).trans rfl
                        have hcz30_5 : w17.cell? ⟨gb185, 5, none⟩ = some (.int .i64 0) := (blk_cell BK185.out 5).trans rfl
                        have hcz30_6 : w17.cell? ⟨gb185, 6, none⟩ = some (.slice none 0 0) := (blk_cell BK185.out 6).trans rfl
                        have hfz30_0 := blk_frozen BK185.out 0
                        have hfz30_1 := blk_frozen BK185.out 1
                        have hfz30_2 := blk_frozen BK185.out 2
                        have hfz30_3 := blk_frozen BK185.out 3
                        have hfz30_4 := blk_frozen BK185.out 4
                        have hfz30_5 := blk_frozen BK185.out 5
                        have hfz30_6 := blk_frozen BK185.out 6
                        try go_wp2
                        have n0_ := Aside0.mk (Kd.S_drew HO_5.out)
                        have n1_ := Aside0.mk (blk_drew BK185.out)
                        have n2_ := Aside0.mk (below_drew1 HB.out)
                        clear HO_5
                        clear BK185
                        clear HB
                        have HO_5 := n0_
                        have BK185 := n1_
                        have HB := n2_
                        clear n0_ n1_ n2_
                        refine start_ (n := 11) (S := fun w' => w'.cell? ⟨gb185, 0, none⟩ = some (.int .i64 (wrap64 (1 + (Int.tmod t184 48)))) ∧ w'.cell? ⟨gb185, 1, none⟩ = some (.int .i64 (Int.tmod (wrap64 (Int.tdiv t184 48)) 12)) ∧ w'.cell? ⟨gb185, 2, none⟩ = some (.int .i64 (Int.tmod (wrap64 (Int.tdiv t184 576)) 12)) ∧ w'.cell? ⟨gb185, 3, none⟩ = some (.int .i64 (Int.tmod (wrap64 (Int.tdiv t184 6912)) 12)) ∧ w'.cell? ⟨gb185, 4, none⟩ = some (.int .u32 0) ∧ w'.cell? ⟨gb185, 5, none⟩ = some (.int .i64 0) ∧ w'.cell? ⟨gb185, 6, none⟩ = some (.slice none 0 0)) (ds := [10]) #[false, false, false, false, false, false, false, false, false, false, false] (by kernel_rfl) rfl rfl ⟨(blk_cell BK185.out 0).trans rfl, (blk_cell BK185.out 1).trans rfl, (blk_cell BK185.out 2).trans rfl, (blk_cell BK185.out 3).trans rfl, (blk_cell BK185.out 4).trans rfl, (blk_cell BK185.out 5).trans rfl, (blk_cell BK185.out 6).trans rfl⟩ (fun hHeld => ?_); refine with_tabW switchbacklaw17_RelaxAll.tab13 switchbacklaw17_RelaxAll.bits13 (fun HT_ HW_ => ?_)
                        generalize w17.drew = w31 at HO_5 BK185 HB hHeld ⊢
                        refine pure_ (i := 0) (N := some 71) (v := ?_) (a' := ?_) #[true, false, false, false, false, false, false, false, false, false, false] rfl rfl (any_of HT_.out (by kernel_rfl)) (fun _ _ _ h => h) (Or.inl ⟨by rfl, ?_⟩) ?_ ?_
                        rotate_left
                        · intro w'
                          go_simp
                          with_reducible rfl
                        rotate_left
                        · simp only [Act.put, List.setIfInBounds_toArray, List.set_cons_zero, List.set_cons_succ, i64_w, i32_w]
                          rfl
                        refine pure_ (i := 2) (N := some 73) (v := ?_) (a' := ?_) #[true, false, true, false, false, false, false, false, false, false, false] rfl rfl (any_of HT_.out (by kernel_rfl)) (fun _ _ _ h => h) (Or.inl ⟨by rfl, ?_⟩) ?_ ?_
                        rotate_left
                        · intro w'
                          go_simp
                          with_reducible rfl
                        rotate_left
                        · simp only [Act.put, List.setIfInBounds_toArray, List.set_cons_zero, List.set_cons_succ, i64_w, i32_w]
                          rfl
                        refine pure_ (i := 4) (N := some 75) (v := ?_) (a' := ?_) #[true, false, true, false, true, false, false, false, false, false, false] rfl rfl (any_of HT_.out (by kernel_rfl)) (fun _ _ _ h => h) (Or.inl ⟨by rfl, ?_⟩) ?_ ?_
                        rotate_left
                        · intro w'
                          go_simp
                          with_reducible rfl
                        rotate_left
                        · simp only [Act.put, List.setIfInBounds_toArray, List.set_cons_zero, List.set_cons_succ, i64_w, i32_w]
                          rfl
                        refine pure_ (i := 5) (N := some 76) (v := ?_) (a' := ?_) #[true, false, true, false, true, true, false, false, false, false, false] rfl rfl (any_of HT_.out (by kernel_rfl)) (fun _ _ _ h => h) (Or.inl ⟨by rfl, ?_⟩) ?_ ?_
                        rotate_left
                        · intro w'
                          go_simp
                          with_reducible rfl
                        rotate_left
                        · simp only [Act.put, List.setIfInBounds_toArray, List.set_cons_zero, List.set_cons_succ, i64_w, i32_w]
                          rfl
                        refine pure_ (i := 6) (N := some 77) (v := ?_) (a' := ?_) #[true, false, true, false, true, true, true, false, false, false, false] rfl rfl (any_of HT_.out (by kernel_rfl)) (fun _ _ _ h => h) (Or.inl ⟨by rfl, ?_⟩) ?_ ?_
                        rotate_left
                        · intro w'
                          go_simp
                          with_reducible rfl
                        rotate_left
                        · simp only [Act.put, List.setIfInBounds_toArray, List.set_cons_zero, List.set_cons_succ, i64_w, i32_w]
                          rfl
                        refine pure_ (i := 7) (N := some 78) (v := ?_) (a' := ?_) #[true, false, true, false, true, true, true, true, false, false, false] rfl rfl (any_of HT_.out (by kernel_rfl)) (fun _ _ _ h => h) (Or.inl ⟨by rfl, ?_⟩) ?_ ?_
                        rotate_left
                        · intro w'
                          go_simp
                          with_reducible rfl
                        rotate_left
                        · simp only [Act.put, List.setIfInBounds_toArray, List.set_cons_zero, List.set_cons_succ, i64_w, i32_w]
                          rfl
                        refine take_ (i := 1) (N := some 72) (v := ?_) (a' := ?_) #[true, true, true, false, true, true, true, true, false, false, false] rfl rfl (take_ofW HT_.out HW_.out (by kernel_rfl)) (fun _ _ _ h => h) (Or.inl ⟨by rfl, ?_⟩) hHeld ?_ ?_
                        rotate_left
                        · rintro w' ⟨s0, s1, s2, s3, s4, s5, s6⟩
                          go_simp
                          with_reducible rfl
                        rotate_left
                        · simp only [Act.put, List.setIfInBounds_toArray, List.set_cons_zero, List.set_cons_succ, i64_w, i32_w]
                          rfl
                        refine take_ (i := 3) (N := some 74) (v := ?_) (a' := ?_) #[true, true, true, true, true, true, true, true, false, false, false] rfl rfl (take_ofW HT_.out HW_.out (by kernel_rfl)) (fun _ _ _ h => h) (Or.inl ⟨by rfl, ?_⟩) hHeld ?_ ?_
                        rotate_left
                        · rintro w' ⟨s0, s1, s2, s3, s4, s5, s6⟩
                          go_simp
                          with_reducible rfl
                        rotate_left
                        · simp only [Act.put, List.setIfInBounds_toArray, List.set_cons_zero, List.set_cons_succ, i64_w, i32_w]
                          rfl
                        refine one_ (i := 8) (N := some 79) #[true, true, true, true, true, true, true, true, true, false, false] rfl rfl (one_of HT_.out (by kernel_rfl)) (by decide) (fun K hK => ?_)
                        refine Kd.R_lit_step (Kd.int .i64) _ 3 ?hg (N := 79) ?hd (xs := ([Int.tmod (wrap64 (Int.tdiv t184 576)) (wrap64 (1 + t182)), 0] : List Int)) (inner := [.int .i64 (Int.tmod (wrap64 (Int.tdiv t184 576)) (wrap64 (1 + t182))), .int .i64 0]) (ok := fun _ => True) (okp := fun _ => True) ?hr ?hp (fun _ hk => hk) trivial (Below.refl _ _) (Nat.le_refl _) (by simp) ?_; (case hd => rfl); (case hg => rfl); (case hr => first | (go_simp; done) | (go_simp; rfl)); (case hp => exact (Reps.one (show Kd.M (Kd.int .i64) _ _ _ (Int.tmod (wrap64 (Int.tdiv t184 576)) (wrap64 (1 + t182))) [.int .i64 (Int.tmod (wrap64 (Int.tdiv t184 576)) (wrap64 (1 + t182)))] from rfl) (Reps.one (show Kd.M (Kd.int .i64) _ _ _ 0 [.int .i64 0] from rfl) (Reps.none _ _))))
                        intro v189 w32 ho33 hb hg_ hnew_
                        clear hg_ hnew_
                        (first | rw [← Ny188.out] at ho33 | (simp only [Int.reduceToNat] at ho33; rw [← Ny188.out] at ho33))
                        have n0_ := Aside0.mk (Kd.S_elder' (by (with_reducible repeat (first | apply Kd.S_alloc | apply Kd.S_drewN | apply Kd.S_drew)); exact HO_5.out) (Kd.R_base ho33) hb)
                        have n1_ := Aside0.mk (Kd.R_lower ho33 (below_size (by repeat (first | (with_reducible first | exact HB.out | apply below_alloc | apply pw_below_drewN | apply below_drew1 | refine below_set ?_ GE185.out) | exact HB.out))))
                        have n2_ := Aside0.mk (blk_below (g := gb185) (o := .cells #[.int .i64 (wrap64 (1 + (Int.tmod t184 48))), .int .i64 (Int.tmod (wrap64 (Int.tdiv t184 48)) 12), .int .i64 (Int.tmod (wrap64 (Int.tdiv t184 576)) 12), .int .i64 (Int.tmod (wrap64 (Int.tdiv t184 6912)) 12), .int .u32 0, .int .i64 0, .slice none 0 0] 40 (0, 0)) (by (with_reducible repeat (first | refine blk_drewN ?_ _ | refine blk_drew ?_ | refine blk_alloc ?_ _)); exact BK185.out) hb)
                        have n3_ := Aside0.mk (below_step (by repeat (first | (with_reducible first | exact HB.out | apply below_alloc | apply pw_below_drewN | apply below_drew1 | refine below_set ?_ GE185.out) | exact HB.out)) hb)
                        clear HO_5
                        clear BK185
                        clear HB
                        have HO_5 := n0_
                        have HO190 := n1_
                        have BK185 := n2_
                        have HB := n3_
                        clear n0_ n1_ n2_ n3_
                        clear hb ho33
                        obtain ⟨Ao34, co34, eo34⟩ := Kd.R_slice HO190.out
                        (first | subst eo34 | (injection eo34 with f1_ f2_ f3_; have f4_ := f1_.symm; have f5_ := f3_.symm; clear f1_ f2_ f3_; subst f4_; subst f5_))
                        refine hK.out _ _ ⟨(blk_cell BK185.out 0).trans rfl, (blk_cell BK185.out 1).trans rfl, (blk_cell BK185.out 2).trans rfl, (blk_cell BK185.out 3).trans rfl, (blk_cell BK185.out 4).trans rfl, (blk_cell BK185.out 5).trans rfl, (blk_cell BK185.out 6).trans rfl⟩ (fun hHeld => ?_)
                        clear hK K
                        refine norm_ (a' := ?_) ?_ ?_
                        rotate_left
                        · show Act.put _ (some 79) _ = _
                          simp only [Act.put, List.setIfInBounds_toArray, List.set_cons_zero, List.set_cons_succ, i64_w, i32_w]
                          rfl
                        refine pure_ (i := 9) (N := some 80) (v := ?_) (a' := ?_) #[true, true, true, true, true, true, true, true, true, true, false] rfl rfl (any_of HT_.out (by kernel_rfl)) (fun _ _ _ h => h) (Or.inl ⟨by rfl, ?_⟩) ?_ ?_
                        rotate_left
                        · intro w'
                          go_simp
                          with_reducible rfl
                        rotate_left
                        · simp only [Act.put, List.setIfInBounds_toArray, List.set_cons_zero, List.set_cons_succ, i64_w, i32_w]
                          rfl
                        refine last_ (i := 10) (N := none) #[true, true, true, true, true, true, true, true, true, true, true] rfl rfl (one_of HT_.out (by kernel_rfl)) (by decide) (fun K hK => ?_)
                        have hs35 : w32.cell? ⟨gb185, 0, none⟩ = some (.int .i64 (wrap64 (1 + (Int.tmod t184 48)))) := (blk_cell BK185.out 0).trans rfl
                        have hfs35 := blk_frozen BK185.out 0
                        have hs36 : w32.cell? ⟨gb185, 1, none⟩ = some (.int .i64 (Int.tmod (wrap64 (Int.tdiv t184 48)) 12)) := (blk_cell BK185.out 1).trans rfl
                        have hfs36 := blk_frozen BK185.out 1
                        have hs37 : w32.cell? ⟨gb185, 2, none⟩ = some (.int .i64 (Int.tmod (wrap64 (Int.tdiv t184 576)) 12)) := (blk_cell BK185.out 2).trans rfl
                        have hfs37 := blk_frozen BK185.out 2
                        have hs38 : w32.cell? ⟨gb185, 3, none⟩ = some (.int .i64 (Int.tmod (wrap64 (Int.tdiv t184 6912)) 12)) := (blk_cell BK185.out 3).trans rfl
                        have hfs38 := blk_frozen BK185.out 3
                        have hs39 : w32.cell? ⟨gb185, 4, none⟩ = some (.int .u32 0) := (blk_cell BK185.out 4).trans rfl
                        have hfs39 := blk_frozen BK185.out 4
                        have hs40 : w32.cell? ⟨gb185, 5, none⟩ = some (.int .i64 0) := (blk_cell BK185.out 5).trans rfl
                        have hfs40 := blk_frozen BK185.out 5
                        have hs41 : w32.cell? ⟨gb185, 6, none⟩ = some (.slice none 0 0) := (blk_cell BK185.out 6).trans rfl
                        have hfs41 := blk_frozen BK185.out 6
                        refine skip_ (w1 := ?_) (by rfl) rfl ?_ ?_
                        rotate_left
                        · go_simp
                          rfl
                        refine hK.out _ _ ?_
                        clear hK K
                        refine done_ (done_of HT_.out (by kernel_rfl)) ?_
                        try go_wp2
                        go_meet
                        case rel => exact ⟨_, (wrap64 (1 + (Int.tmod t184 48))), (Int.tmod (wrap64 (Int.tdiv t184 48)) 12), (0), (0), (0), (0), (y188), (.slice Ao34 y188.length co34), H', ⟨by have := HK1.out; have := HJ3.out; first | omega | exact Nat.le_refl _⟩, ⟨by (with_reducible repeat (first | apply Kd.S_alloc | apply Kd.S_drewN | apply Kd.S_drew)); exact Kd.S_mono (Kd.S_far (p := ⟨gb185, 6, none⟩) (Kd.S_far (p := ⟨gb185, 5, none⟩) (Kd.S_far (p := ⟨gb185, 4, none⟩) (Kd.S_far (p := ⟨gb185, 3, none⟩) (Kd.S_far (p := ⟨gb185, 2, none⟩) (Kd.S_far (p := ⟨gb185, 1, none⟩) (Kd.S_far (p := ⟨gb185, 0, none⟩) (Kd.S_mono HO_5.out (fun k_ hk => (⟨hk, hk.1.2⟩ : _ ∧ k_ ≠ gb185))) (fun _ hk => hk.2) (.int .i64 (wrap64 (1 + (Int.tmod t184 48))))) (fun _ hk => hk.2) (.int .i64 (Int.tmod (wrap64 (Int.tdiv t184 48)) 12))) (fun _ hk => hk.2) (.int .i64 0)) (fun _ hk => hk.2) (.int .i64 0)) (fun _ hk => hk.2) (.int .u32 0)) (fun _ hk => hk.2) (.int .i64 0)) (fun _ hk => hk.2) (.slice Ao34 y188.length co34)) (fun _ hk => ⟨hk.1.2, hk.1.1.2⟩)⟩, ⟨by (with_reducible repeat (first | apply Kd.R_alloc | apply Kd.R_drewN | apply Kd.R_drew)); exact Kd.R_mono (Kd.R_far (p := ⟨gb185, 6, none⟩) (Kd.R_far (p := ⟨gb185, 5, none⟩) (Kd.R_far (p := ⟨gb185, 4, none⟩) (Kd.R_far (p := ⟨gb185, 3, none⟩) (Kd.R_far (p := ⟨gb185, 2, none⟩) (Kd.R_far (p := ⟨gb185, 1, none⟩) (Kd.R_far (p := ⟨gb185, 0, none⟩) (Kd.R_types HO190.out BK185.out (by decide)) (fun _ hk => hk.2) (.int .i64 (wrap64 (1 + (Int.tmod t184 48))))) (fun _ hk => hk.2) (.int .i64 (Int.tmod (wrap64 (Int.tdiv t184 48)) 12))) (fun _ hk => hk.2) (.int .i64 0)) (fun _ hk => hk.2) (.int .i64 0)) (fun _ hk => hk.2) (.int .u32 0)) (fun _ hk => hk.2) (.int .i64 0)) (fun _ hk => hk.2) (.slice Ao34 y188.length co34)) (fun _ hk => trivial)⟩, ⟨by (with_reducible repeat (first | refine blk_drewN ?_ _ | refine blk_drew ?_ | refine blk_alloc ?_ _)); refine blk_put (cs := #[.int .i64 (wrap64 (1 + (Int.tmod t184 48))), .int .i64 (Int.tmod (wrap64 (Int.tdiv t184 48)) 12), .int .i64 0, .int .i64 0, .int .u32 0, .int .i64 0, .slice none 0 0]) ?_ 6 _ rfl; (with_reducible repeat (first | refine blk_drewN ?_ _ | refine blk_drew ?_ | refine blk_alloc ?_ _)); refine blk_put (cs := #[.int .i64 (wrap64 (1 + (Int.tmod t184 48))), .int .i64 (Int.tmod (wrap64 (Int.tdiv t184 48)) 12), .int .i64 0, .int .i64 0, .int .u32 0, .int .i64 0, .slice none 0 0]) ?_ 5 _ rfl; (with_reducible repeat (first | refine blk_drewN ?_ _ | refine blk_drew ?_ | refine blk_alloc ?_ _)); refine blk_put (cs := #[.int .i64 (wrap64 (1 + (Int.tmod t184 48))), .int .i64 (Int.tmod (wrap64 (Int.tdiv t184 48)) 12), .int .i64 0, .int .i64 0, .int .u32 0, .int .i64 0, .slice none 0 0]) ?_ 4 _ rfl; (with_reducible repeat (first | refine blk_drewN ?_ _ | refine blk_drew ?_ | refine blk_alloc ?_ _)); refine blk_put (cs := #[.int .i64 (wrap64 (1 + (Int.tmod t184 48))), .int .i64 (Int.tmod (wrap64 (Int.tdiv t184 48)) 12), .int .i64 0, .int .i64 (Int.tmod (wrap64 (Int.tdiv t184 6912)) 12), .int .u32 0, .int .i64 0, .slice none 0 0]) ?_ 3 _ rfl; (with_reducible repeat (first | refine blk_drewN ?_ _ | refine blk_drew ?_ | refine blk_alloc ?_ _)); refine blk_put (cs := #[.int .i64 (wrap64 (1 + (Int.tmod t184 48))), .int .i64 (Int.tmod (wrap64 (Int.tdiv t184 48)) 12), .int .i64 (Int.tmod (wrap64 (Int.tdiv t184 576)) 12), .int .i64 (Int.tmod (wrap64 (Int.tdiv t184 6912)) 12), .int .u32 0, .int .i64 0, .slice none 0 0]) ?_ 2 _ rfl; (with_reducible repeat (first | refine blk_drewN ?_ _ | refine blk_drew ?_ | refine blk_alloc ?_ _)); refine blk_put (cs := #[.int .i64 (wrap64 (1 + (Int.tmod t184 48))), .int .i64 (Int.tmod (wrap64 (Int.tdiv t184 48)) 12), .int .i64 (Int.tmod (wrap64 (Int.tdiv t184 576)) 12), .int .i64 (Int.tmod (wrap64 (Int.tdiv t184 6912)) 12), .int .u32 0, .int .i64 0, .slice none 0 0]) ?_ 1 _ rfl; (with_reducible repeat (first | refine blk_drewN ?_ _ | refine blk_drew ?_ | refine blk_alloc ?_ _)); refine blk_put (cs := #[.int .i64 (wrap64 (1 + (Int.tmod t184 48))), .int .i64 (Int.tmod (wrap64 (Int.tdiv t184 48)) 12), .int .i64 (Int.tmod (wrap64 (Int.tdiv t184 576)) 12), .int .i64 (Int.tmod (wrap64 (Int.tdiv t184 6912)) 12), .int .u32 0, .int .i64 0, .slice none 0 0]) ?_ 0 _ rfl; (with_reducible repeat (first | refine blk_drewN ?_ _ | refine blk_drew ?_ | refine blk_alloc ?_ _)); exact BK185.out⟩, ⟨by repeat (first | (with_reducible first | exact HB.out | apply below_alloc | apply pw_below_drewN | apply below_drew1 | refine below_set ?_ GE185.out) | exact HB.out)⟩⟩
                    · rw [if_neg c28] at H
                      have c28b0 : ((wrap64 (1 + (Int.tmod t184 48))) == 42) = false := beq_eq_false_iff_ne.mpr c28
                      have c28b1 : ((wrap64 (1 + (Int.tmod t184 48))) != 42) = true := bne_iff_ne.mpr c28
                      by_cases c42 : t187 = true
                      · subst c42
                        have H1 : (switchbacklaw17_RelaxAll.j2 kj3 l0 (wrap64 (1 + t182)) x5_1 x6_1 (wrap64 (1 + (Int.tmod t184 48))) (Int.tmod (wrap64 (Int.tdiv t184 48)) 12) (Int.tmod (wrap64 (Int.tdiv t184 576)) 12) (Int.tmod (wrap64 (Int.tdiv t184 6912)) 12) 0 0 ([] : List Int)) = some r := by rw [if_pos rfl] at H; exact H
                        clear H
                        have H := H1
                        clear H1
                        have H' := Aside0.mk H
                        clear H
                        have hcz43_0 : w17.cell? ⟨gb185, 0, none⟩ = some (.int .i64 (wrap64 (1 + (Int.tmod t184 48)))) := (blk_cell BK185.out 0).trans rfl
                        have hcz43_1 : w17.cell? ⟨gb185, 1, none⟩ = some (.int .i64 (Int.tmod (wrap64 (Int.tdiv t184 48)) 12)) := (blk_cell BK185.out 1).trans rfl
                        have hcz43_2 : w17.cell? ⟨gb185, 2, none⟩ = some (.int .i64 (Int.tmod (wrap64 (Int.tdiv t184 576)) 12)) := (blk_cell BK185.out 2).trans rfl
                        have hcz43_3 : w17.cell? ⟨gb185, 3, none⟩ = some (.int .i64 (Int.tmod (wrap64 (Int.tdiv t184 6912)) 12)) := (blk_cell BK185.out 3).trans rfl
                        have hcz43_4 : w17.cell? ⟨gb185, 4, none⟩ = some (.int .u32 0) := (blk_cell BK185.out 4).trans rfl
                        have hcz43_5 : w17.cell? ⟨gb185, 5, none⟩ = some (.int .i64 0) := (blk_cell BK185.out 5).trans rfl
                        have hcz43_6 : w17.cell? ⟨gb185, 6, none⟩ = some (.slice none 0 0) := (blk_cell BK185.out 6).trans rfl
                        have hfz43_0 := blk_frozen BK185.out 0
                        have hfz43_1 := blk_frozen BK185.out 1
                        have hfz43_2 := blk_frozen BK185.out 2
                        have hfz43_3 := blk_frozen BK185.out 3
                        have hfz43_4 := blk_frozen BK185.out 4
                        have hfz43_5 := blk_frozen BK185.out 5
                        have hfz43_6 := blk_frozen BK185.out 6
                        go_wp2
                        go_meet
                        case rel => exact ⟨_, (wrap64 (1 + (Int.tmod t184 48))), (Int.tmod (wrap64 (Int.tdiv t184 48)) 12), (Int.tmod (wrap64 (Int.tdiv t184 576)) 12), (Int.tmod (wrap64 (Int.tdiv t184 6912)) 12), (0), (0), (([] : List Int)), (.slice none 0 0), H', ⟨by have := HK1.out; have := HJ3.out; first | omega | exact Nat.le_refl _⟩, ⟨by (with_reducible repeat (first | apply Kd.S_alloc | apply Kd.S_drewN | apply Kd.S_drew)); exact Kd.S_mono HO_5.out (fun _ hk => ⟨(by simp [Value.ownBlock]), hk.2⟩)⟩, ⟨by first | exact Kd.R_nil _ _ _ _ _ | exact Kd.N_nil _ _ _ _ _ | exact Kd.V_nil _ _ _ _ _ | exact Kd.Q_nil _ _ _ _ _ | exact Kd.S_nil _ _ _ _ _⟩, ⟨by (with_reducible repeat (first | refine blk_drewN ?_ _ | refine blk_drew ?_ | refine blk_alloc ?_ _)); exact BK185.out⟩, ⟨by repeat (first | (with_reducible first | exact HB.out | apply below_alloc | apply pw_below_drewN | apply below_drew1 | refine below_set ?_ GE185.out) | exact HB.out)⟩⟩
                      · replace c42 := Bool.eq_false_iff.mpr c42
                        subst c42
                        have H1 : (switchbacklaw17_RelaxAll.j2 kj3 l0 (wrap64 (1 + t182)) x5_1 x6_1 44 0 0 0 0 0 ([] : List Int)) = some r := by rw [if_neg (show ¬ (false = true) by decide)] at H; exact H
                        clear H
                        have H := H1
                        clear H1
                        have H' := Aside0.mk H
                        clear H
                        have hcz44_0 : w17.cell? ⟨gb185, 0, none⟩ = some (.int .i64 (wrap64 (1 + (Int.tmod t184 48)))) := (blk_cell BK185.out 0).trans rfl
                        have hcz44_1 : w17.cell? ⟨gb185, 1, none⟩ = some (.int .i64 (Int.tmod (wrap64 (Int.tdiv t184 48)) 12)) := (blk_cell BK185.out 1).trans rfl
                        have hcz44_2 : w17.cell? ⟨gb185, 2, none⟩ = some (.int .i64 (Int.tmod (wrap64 (Int.tdiv t184 576)) 12)) := (blk_cell BK185.out 2).trans rfl
                        have hcz44_3 : w17.cell? ⟨gb185, 3, none⟩ = some (.int .i64 (Int.tmod (wrap64 (Int.tdiv t184 6912)) 12)) := (blk_cell BK185.out 3).trans rfl
                        have hcz44_4 : w17.cell? ⟨gb185, 4, none⟩ = some (.int .u32 0) := (blk_cell BK185.out 4).trans rfl
                        have hcz44_5 : w17.cell? ⟨gb185, 5, none⟩ = some (.int .i64 0) := (blk_cell BK185.out 5).trans rfl
                        have hcz44_6 : w17.cell? ⟨gb185, 6, none⟩ = some (.slice none 0 0) := (blk_cell BK185.out 6).trans rfl
                        have hfz44_0 := blk_frozen BK185.out 0
                        have hfz44_1 := blk_frozen BK185.out 1
                        have hfz44_2 := blk_frozen BK185.out 2
                        have hfz44_3 := blk_frozen BK185.out 3
                        have hfz44_4 := blk_frozen BK185.out 4
                        have hfz44_5 := blk_frozen BK185.out 5
                        have hfz44_6 := blk_frozen BK185.out 6
                        go_wp2
                        go_meet
                        case rel => exact ⟨_, (44), (0), (0), (0), (0), (0), (([] : List Int)), (.slice none 0 0), H', ⟨by have := HK1.out; have := HJ3.out; first | omega | exact Nat.le_refl _⟩, ⟨by (with_reducible repeat (first | apply Kd.S_alloc | apply Kd.S_drewN | apply Kd.S_drew)); exact Kd.S_mono (Kd.S_far (p := ⟨gb185, 6, none⟩) (Kd.S_far (p := ⟨gb185, 5, none⟩) (Kd.S_far (p := ⟨gb185, 4, none⟩) (Kd.S_far (p := ⟨gb185, 3, none⟩) (Kd.S_far (p := ⟨gb185, 2, none⟩) (Kd.S_far (p := ⟨gb185, 1, none⟩) (Kd.S_far (p := ⟨gb185, 0, none⟩) (Kd.S_mono HO_5.out (fun k_ hk => (⟨hk, hk.2⟩ : _ ∧ k_ ≠ gb185))) (fun _ hk => hk.2) (.int .i64 44)) (fun _ hk => hk.2) (.int .i64 0)) (fun _ hk => hk.2) (.int .i64 0)) (fun _ hk => hk.2) (.int .i64 0)) (fun _ hk => hk.2) (.int .u32 0)) (fun _ hk => hk.2) (.int .i64 0)) (fun _ hk => hk.2) (.slice none 0 0)) (fun _ hk => ⟨(by simp [Value.ownBlock]), hk.1.2⟩)⟩, ⟨by first | exact Kd.R_nil _ _ _ _ _ | exact Kd.N_nil _ _ _ _ _ | exact Kd.V_nil _ _ _ _ _ | exact Kd.Q_nil _ _ _ _ _ | exact Kd.S_nil _ _ _ _ _⟩, ⟨by (with_reducible repeat (first | refine blk_drewN ?_ _ | refine blk_drew ?_ | refine blk_alloc ?_ _)); refine blk_put (cs := #[.int .i64 44, .int .i64 0, .int .i64 0, .int .i64 0, .int .u32 0, .int .i64 0, .slice none 0 0]) ?_ 6 _ rfl; (with_reducible repeat (first | refine blk_drewN ?_ _ | refine blk_drew ?_ | refine blk_alloc ?_ _)); refine blk_put (cs := #[.int .i64 44, .int .i64 0, .int .i64 0, .int .i64 0, .int .u32 0, .int .i64 0, .slice none 0 0]) ?_ 5 _ rfl; (with_reducible repeat (first | refine blk_drewN ?_ _ | refine blk_drew ?_ | refine blk_alloc ?_ _)); refine blk_put (cs := #[.int .i64 44, .int .i64 0, .int .i64 0, .int .i64 0, .int .u32 0, .int .i64 0, .slice none 0 0]) ?_ 4 _ rfl; (with_reducible repeat (first | refine blk_drewN ?_ _ | refine blk_drew ?_ | refine blk_alloc ?_ _)); refine blk_put (cs := #[.int .i64 44, .int .i64 0, .int .i64 0, .int .i64 (Int.tmod (wrap64 (Int.tdiv t184 6912)) 12), .int .u32 0, .int .i64 0, .slice none 0 0]) ?_ 3 _ rfl; (with_reducible repeat (first | refine blk_drewN ?_ _ | refine blk_drew ?_ | refine blk_alloc ?_ _)); refine blk_put (cs := #[.int .i64 44, .int .i64 0, .int .i64 (Int.tmod (wrap64 (Int.tdiv t184 576)) 12), .int .i64 (Int.tmod (wrap64 (Int.tdiv t184 6912)) 12), .int .u32 0, .int .i64 0, .slice none 0 0]) ?_ 2 _ rfl; (with_reducible repeat (first | refine blk_drewN ?_ _ | refine blk_drew ?_ | refine blk_alloc ?_ _)); refine blk_put (cs := #[.int .i64 44, .int .i64 (Int.tmod (wrap64 (Int.tdiv t184 48)) 12), .int .i64 (Int.tmod (wrap64 (Int.tdiv t184 576)) 12), .int .i64 (Int.tmod (wrap64 (Int.tdiv t184 6912)) 12), .int .u32 0, .int .i64 0, .slice none 0 0]) ?_ 1 _ rfl; (with_reducible repeat (first | refine blk_drewN ?_ _ | refine blk_drew ?_ | refine blk_alloc ?_ _)); refine blk_put (cs := #[.int .i64 (wrap64 (1 + (Int.tmod t184 48))), .int .i64 (Int.tmod (wrap64 (Int.tdiv t184 48)) 12), .int .i64 (Int.tmod (wrap64 (Int.tdiv t184 576)) 12), .int .i64 (Int.tmod (wrap64 (Int.tdiv t184 6912)) 12), .int .u32 0, .int .i64 0, .slice none 0 0]) ?_ 0 _ rfl; (with_reducible repeat (first | refine blk_drewN ?_ _ | refine blk_drew ?_ | refine blk_alloc ?_ _)); exact BK185.out⟩, ⟨by repeat (first | (with_reducible first | exact HB.out | apply below_alloc | apply pw_below_drewN | apply below_drew1 | refine below_set ?_ GE185.out) | exact HB.out)⟩⟩
                case rest =>
                  clear HC12
                  try clear c1
                  try clear p1
                  try clear q1
                  try clear hx1
                  try clear c2
                  try clear p2
                  try clear c4
                  try clear c5
                  try clear c5b0
                  try clear c6
                  try clear p6
                  try clear c7
                  try clear c7b0
                  try clear c8
                  try clear c8b0
                  try clear c18
                  try clear p18
                  try clear q18
                  try clear hx18
                  try clear c19
                  try clear c19b0
                  try clear c19b1
                  try clear c26
                  try clear c27
                  try clear c28
                  try clear c28b0
                  try clear c28b1
                  try clear c29
                  try clear c29b0
                  try clear c29b1
                  try clear c42
                  try clear hcz14_0
                  try clear hcz14_1
                  try clear hcz14_2
                  try clear hcz14_3
                  try clear hcz14_4
                  try clear hcz14_5
                  try clear hcz14_6
                  try clear hcz16_0
                  try clear hcz16_1
                  try clear hcz16_2
                  try clear hcz16_3
                  try clear hcz16_4
                  try clear hcz16_5
                  try clear hcz16_6
                  try clear hcz30_0
                  try clear hcz30_1
                  try clear hcz30_2
                  try clear hcz30_3
                  try clear hcz30_4
                  try clear hcz30_5
                  try clear hcz30_6
                  try clear hcz43_0
                  try clear hcz43_1
                  try clear hcz43_2
                  try clear hcz43_3
                  try clear hcz43_4
                  try clear hcz43_5
                  try clear hcz43_6
                  try clear hcz44_0
                  try clear hcz44_1
                  try clear hcz44_2
                  try clear hcz44_3
                  try clear hcz44_4
                  try clear hcz44_5
                  try clear hcz44_6
                  try clear hfz14_0
                  try clear hfz14_1
                  try clear hfz14_2
                  try clear hfz14_3
                  try clear hfz14_4
                  try clear hfz14_5
                  try clear hfz14_6
                  try clear hfz16_0
                  try clear hfz16_1
                  try clear hfz16_2
                  try clear hfz16_3
                  try clear hfz16_4
                  try clear hfz16_5
                  try clear hfz16_6
                  try clear hfz30_0
                  try clear hfz30_1
                  try clear hfz30_2
                  try clear hfz30_3
                  try clear hfz30_4
                  try clear hfz30_5
                  try clear hfz30_6
                  try clear hfz43_0
                  try clear hfz43_1
                  try clear hfz43_2
                  try clear hfz43_3
                  try clear hfz43_4
                  try clear hfz43_5
                  try clear hfz43_6
                  try clear hfz44_0
                  try clear hfz44_1
                  try clear hfz44_2
                  try clear hfz44_3
                  try clear hfz44_4
                  try clear hfz44_5
                  try clear hfz44_6
                  try clear hx183_0
                  try clear p183
                  try clear p2
                  try clear q183
                  obtain ⟨kq, x186000_11, x186001_11, x186002_11, x186003_11, x186004_11, x186005_11, x186006_11, u186006, HA, HJ11, HO_5, HO_186006, BK185, HB⟩ := hcut
                  cases kq with
                  | zero => exact absurd HA.out (by simp [switchbacklaw17_RelaxAll.j2])
                  | succ kj11 =>
                    have H := HA.out
                    clear HA
                    simp only [switchbacklaw17_RelaxAll.j2] at H
                    by_cases c45 : x5_1.length < 1954687338268
                    · rw [if_pos c45] at H
                      have LMc45 := Aside0.mk c45
                      clear c45
                      obtain ⟨y191, hy191⟩ : ∃ y_ : List (S40), y_ = (x5_1 ++ [(⟨x186000_11, x186001_11, x186002_11, x186003_11, x186004_11, x186005_11, x186006_11⟩ : S40)]) := ⟨_, rfl⟩
                      replace H : (if x6_1 < (wrap64 (1 + t182)) then (if y191.length < 1954687338268 then (switchbacklaw17_RelaxAll.l0 kj11 l0 (wrap64 (1 + t182)) (y191 ++ [(⟨0, 0, 0, 0, 0, x6_1, ([] : List Int)⟩ : S40)]) (wrap64 (x6_1 + 1))) else (none)) else (switchbacklaw17_RelaxAll.l0 kj11 l0 (wrap64 (1 + t182)) y191 (wrap64 (x6_1 + 1)))) = some r := by first | (rw [hy191]; with_reducible exact H) | (have H2_ := (Option.bind_some _ _).symm.trans H; rw [hy191]; with_reducible exact H2_) | (have H2_ := (Option.bind_some _ _).symm.trans H; with_reducible exact H2_) | with_reducible exact H | (rw [hy191]; exact H) | exact H
                      have Ny191 := Aside0.mk hy191
                      clear hy191
                      by_cases c46 : x6_1 < (wrap64 (1 + t182))
                      · rw [if_pos c46] at H
                        have c46b0 : decide (x6_1 < (wrap64 (1 + t182))) = true := decide_eq_true c46
                        clear c46
                        by_cases c47 : y191.length < 1954687338268
                        · rw [if_pos c47] at H
                          have LMc47 := Aside0.mk c47
                          clear c47
                          obtain ⟨y194, hy194⟩ : ∃ y_ : List (S40), y_ = (y191 ++ [(⟨0, 0, 0, 0, 0, x6_1, ([] : List Int)⟩ : S40)]) := ⟨_, rfl⟩
                          replace H : (switchbacklaw17_RelaxAll.l0 kj11 l0 (wrap64 (1 + t182)) y194 (wrap64 (x6_1 + 1))) = some r := by first | (rw [hy194]; with_reducible exact H) | (have H2_ := (Option.bind_some _ _).symm.trans H; rw [hy194]; with_reducible exact H2_) | (have H2_ := (Option.bind_some _ _).symm.trans H; with_reducible exact H2_) | with_reducible exact H | (rw [hy194]; exact H) | exact H
                          have Ny194 := Aside0.mk hy194
                          clear hy194
                          have H' := Aside0.mk H
                          clear H
                          have hcz48_0 : wc.cell? ⟨gb185, 0, none⟩ = some (.int .i64 x186000_11) := (blk_cell BK185.out 0).trans rfl
                          have hcz48_1 : wc.cell? ⟨gb185, 1, none⟩ = some (.int .i64 x186001_11) := (blk_cell BK185.out 1).trans rfl
                          have hcz48_2 : wc.cell? ⟨gb185, 2, none⟩ = some (.int .i64 x186002_11) := (blk_cell BK185.out 2).trans rfl
                          have hcz48_3 : wc.cell? ⟨gb185, 3, none⟩ = some (.int .i64 x186003_11) := (blk_cell BK185.out 3).trans rfl
                          have hcz48_4 : wc.cell? ⟨gb185, 4, none⟩ = some (.int .u32 x186004_11) := (blk_cell BK185.out 4).trans rfl
                          have hcz48_5 : wc.cell? ⟨gb185, 5, none⟩ = some (.int .i64 x186005_11) := (blk_cell BK185.out 5).trans rfl
                          have hcz48_6 : wc.cell? ⟨gb185, 6, none⟩ = some (u186006) := (blk_cell BK185.out 6).trans rfl
                          have hfz48_0 := blk_frozen BK185.out 0
                          have hfz48_1 := blk_frozen BK185.out 1
                          have hfz48_2 := blk_frozen BK185.out 2
                          have hfz48_3 := blk_frozen BK185.out 3
                          have hfz48_4 := blk_frozen BK185.out 4
                          have hfz48_5 := blk_frozen BK185.out 5
                          have hfz48_6 := blk_frozen BK185.out 6
                          obtain ⟨Ao50, co50, eo50⟩ := Kd.R_slice HO_186006.out
                          subst eo50
                          go_wp2_with (first | ((with_reducible refine gate_builtin (b := .append) (xs := #[.tmp 85, .tmp 87]) rfl ?_); (try (refine gate_guard (by rfl) ?_; dsimp only)); at_builtin; refine Kd.S_append k40 (w0 := w) w.heap.size rfl (.tmp 85) (.tmp 87) 22 40 (.agg #[(.int .i64 0), (.int .i64 0), (.int .i64 0), (.int .i64 0), (.int .u32 0), (.int .i64 0), (.slice none 0 0)]) 72 rfl Tryd.underlying22 info40 rfl (by decide) (by omega) u5 x5_1 (⟨x186000_11, x186001_11, x186002_11, x186003_11, x186004_11, x186005_11, x186006_11⟩ : S40) [.int .i64 x186000_11, .int .i64 x186001_11, .int .i64 x186002_11, .int .i64 x186003_11, .int .u32 x186004_11, .int .i64 x186005_11, .slice Ao50 x186006_11.length co50] (fun k_ => k_ ≠ gb185) (fun k_ => some k_ = (.slice Ao50 x186006_11.length co50 : Value).ownBlock) rfl rfl ?aP (fun k_ hk_ => ((Kd.R_mono (ok' := fun k_ => ((fun k_ => k_ ≠ gb185)) k_ ∧ some k_ ≠ (u5 : Value).ownBlock) (Kd.R_types (Kd.R_apart' (HO_186006.out) (Kd.S_typed HO_5.out) (by decide)) BK185.out (by decide)) (fun k_ hk => ⟨hk.2, hk.1.2⟩))).1 k_ hk_.symm) ?aF ?aO ?aB ?aS ?aL ?_; (case aP => exact k40_mkM _ _ _ (⟨x186000_11, x186001_11, x186002_11, x186003_11, x186004_11, x186005_11, x186006_11⟩ : S40) (Kd.R_mono (Kd.R_tight rfl (Kd.R_mono (ok' := fun k_ => ((fun k_ => k_ ≠ gb185)) k_ ∧ some k_ ≠ (u5 : Value).ownBlock) (Kd.R_types (Kd.R_apart' (HO_186006.out) (Kd.S_typed HO_5.out) (by decide)) BK185.out (by decide)) (fun k_ hk => ⟨hk.2, hk.1.2⟩))) (fun _ h_ => h_))); (case aB => exact (by repeat (first | (with_reducible first | exact HB.out | apply below_alloc | apply pw_below_drewN | apply below_drew1 | refine below_set ?_ GE185.out) | exact HB.out))); (case aF => exact (fun k_ hk => Kd.freshB (g := gb185) (o := .cells #[.int .i64 x186000_11, .int .i64 x186001_11, .int .i64 x186002_11, .int .i64 x186003_11, .int .u32 x186004_11, .int .i64 x186005_11, .slice Ao50 x186006_11.length co50] 40 (0, 0)) (by (with_reducible repeat (first | refine blk_drewN ?_ _ | refine blk_drew ?_ | refine blk_alloc ?_ _)); exact BK185.out) k_ hk)); (case aO => exact (by (with_reducible repeat (first | apply Kd.S_alloc | apply Kd.S_drewN | apply Kd.S_drew)); exact Kd.S_mono HO_5.out (fun k_ hk => ⟨hk.2, fun e_ => hk.1 e_⟩))); (case aS => exact (below_size (by repeat (first | (with_reducible first | exact HB.out | apply below_alloc | apply pw_below_drewN | apply below_drew1 | refine below_set ?_ GE185.out) | exact HB.out)))); (case aL => have := LMc45.out; omega); intro v192 w49 ho hb hg hat; rw [← Ny191.out] at ho; have n0_ := Aside0.mk (blk_grown (g := gb185) (o := .cells #[.int .i64 x186000_11, .int .i64 x186001_11, .int .i64 x186002_11, .int .i64 x186003_11, .int .u32 x186004_11, .int .i64 x186005_11, .slice Ao50 x186006_11.length co50] 40 (0, 0)) (by (with_reducible repeat (first | refine blk_drewN ?_ _ | refine blk_drew ?_ | refine blk_alloc ?_ _)); exact BK185.out) hg (Kd.S_away HO_5.out (fun _ hk => hk.2))); have n1_ := Aside0.mk (hb); have n2_ := Aside0.mk (ho); clear BK185; clear HB; clear HO_5; clear HO_186006; have BK185 := n0_; have HB := n1_; have HO193 := n2_; clear n0_ n1_ n2_; clear ho hb hg hat) | ((with_reducible refine gate_builtin (b := .append) (xs := #[.tmp 92, .tmp 95]) rfl ?_); (try (refine gate_guard (by rfl) ?_; dsimp only)); at_builtin; refine Kd.S_append k40 (w0 := w) w.heap.size rfl (.tmp 92) (.tmp 95) 22 40 (.agg #[(.int .i64 0), (.int .i64 0), (.int .i64 0), (.int .i64 0), (.int .u32 0), (.int .i64 0), (.slice none 0 0)]) 72 rfl Tryd.underlying22 info40 rfl (by decide) (by omega) v192 y191 (⟨0, 0, 0, 0, 0, x6_1, ([] : List Int)⟩ : S40) [.int .i64 0, .int .i64 0, .int .i64 0, .int .i64 0, .int .u32 0, .int .i64 x6_1, .slice none 0 0] (fun k_ => k_ ≠ gb185) (fun _ => False) rfl rfl ?aP (fun k_ hk_ => hk_.elim) ?aF ?aO ?aB ?aS ?aL ?_; (case aP => exact k40_mkM _ _ _ (⟨0, 0, 0, 0, 0, x6_1, ([] : List Int)⟩ : S40) (Kd.R_nil _ _ _ _ _)); (case aB => exact (by repeat (first | (with_reducible first | exact HB.out | apply below_alloc | apply pw_below_drewN | apply below_drew1 | refine below_set ?_ GE185.out) | exact HB.out))); (case aF => exact (fun k_ hk => Kd.freshB (g := gb185) (o := .cells #[.int .i64 x186000_11, .int .i64 x186001_11, .int .i64 x186002_11, .int .i64 x186003_11, .int .u32 x186004_11, .int .i64 x186005_11, .slice Ao50 x186006_11.length co50] 40 (0, 0)) (by (with_reducible repeat (first | refine blk_drewN ?_ _ | refine blk_drew ?_ | refine blk_alloc ?_ _)); exact BK185.out) k_ hk)); (case aO => exact (by (with_reducible repeat (first | apply Kd.S_alloc | apply Kd.S_drewN | apply Kd.S_drew)); exact Kd.S_mono HO193.out (fun k_ hk => ⟨hk, fun e_ => e_⟩))); (case aS => exact (below_size (by repeat (first | (with_reducible first | exact HB.out | apply below_alloc | apply pw_below_drewN | apply below_drew1 | refine below_set ?_ GE185.out) | exact HB.out)))); (case aL => have := LMc47.out; omega); intro v195 w51 ho hb hg hat; rw [← Ny194.out] at ho; have n0_ := Aside0.mk (blk_grown (g := gb185) (o := .cells #[.int .i64 x186000_11, .int .i64 x186001_11, .int .i64 x186002_11, .int .i64 x186003_11, .int .u32 x186004_11, .int .i64 x186005_11, .slice Ao50 x186006_11.length co50] 40 (0, 0)) (by (with_reducible repeat (first | refine blk_drewN ?_ _ | refine blk_drew ?_ | refine blk_alloc ?_ _)); exact BK185.out) hg (Kd.S_away HO193.out (fun _ hk => hk))); have n1_ := Aside0.mk (hb); have n2_ := Aside0.mk (ho); clear BK185; clear HB; clear HO193; have BK185 := n0_; have HB := n1_; have HO196 := n2_; clear n0_ n1_ n2_; clear ho hb hg hat))
                          go_roundg kj11
                          case measure => have := HK1.out; have := HJ3.out; have := HJ11.out; omega
                          case rel => exact ⟨(y194), (wrap64 (x6_1 + 1)), (by first | rfl | (simp; done) | (simp [*]; done)), H', ⟨by have := HK1.out; have := HJ3.out; have := HJ11.out; omega⟩, ⟨by (with_reducible repeat (first | apply Kd.S_alloc | apply Kd.S_drewN | apply Kd.S_drew)); exact Kd.S_mono HO196.out (fun _ hk => trivial)⟩, ⟨by repeat (first | (with_reducible first | exact HB.out | apply below_alloc | apply pw_below_drewN | apply below_drew1 | refine below_set ?_ GE185.out) | exact HB.out)⟩⟩
                        · rw [if_neg c47] at H
                          exact absurd H (by simp)
                      · rw [if_neg c46] at H
                        have c46b0 : decide (x6_1 < (wrap64 (1 + t182))) = false := decide_eq_false c46
                        clear c46
                        have H' := Aside0.mk H
                        clear H
                        have hcz52_0 : wc.cell? ⟨gb185, 0, none⟩ = some (.int .i64 x186000_11) := (blk_cell BK185.out 0).trans rfl
                        have hcz52_1 : wc.cell? ⟨gb185, 1, none⟩ = some (.int .i64 x186001_11) := (blk_cell BK185.out 1).trans rfl
                        have hcz52_2 : wc.cell? ⟨gb185, 2, none⟩ = some (.int .i64 x186002_11) := (blk_cell BK185.out 2).trans rfl
                        have hcz52_3 : wc.cell? ⟨gb185, 3, none⟩ = some (.int .i64 x186003_11) := (blk_cell BK185.out 3).trans rfl
                        have hcz52_4 : wc.cell? ⟨gb185, 4, none⟩ = some (.int .u32 x186004_11) := (blk_cell BK185.out 4).trans rfl
                        have hcz52_5 : wc.cell? ⟨gb185, 5, none⟩ = some (.int .i64 x186005_11) := (blk_cell BK185.out 5).trans rfl
                        have hcz52_6 : wc.cell? ⟨gb185, 6, none⟩ = some (u186006) := (blk_cell BK185.out 6).trans rfl
                        have hfz52_0 := blk_frozen BK185.out 0
                        have hfz52_1 := blk_frozen BK185.out 1
                        have hfz52_2 := blk_frozen BK185.out 2
                        have hfz52_3 := blk_frozen BK185.out 3
                        have hfz52_4 := blk_frozen BK185.out 4
                        have hfz52_5 := blk_frozen BK185.out 5
                        have hfz52_6 := blk_frozen BK185.out 6
                        obtain ⟨Ao54, co54, eo54⟩ := Kd.R_slice HO_186006.out
                        subst eo54
                        go_wp2_with (first | ((with_reducible refine gate_builtin (b := .append) (xs := #[.tmp 85, .tmp 87]) rfl ?_); (try (refine gate_guard (by rfl) ?_; dsimp only)); at_builtin; refine Kd.S_append k40 (w0 := w) w.heap.size rfl (.tmp 85) (.tmp 87) 22 40 (.agg #[(.int .i64 0), (.int .i64 0), (.int .i64 0), (.int .i64 0), (.int .u32 0), (.int .i64 0), (.slice none 0 0)]) 72 rfl Tryd.underlying22 info40 rfl (by decide) (by omega) u5 x5_1 (⟨x186000_11, x186001_11, x186002_11, x186003_11, x186004_11, x186005_11, x186006_11⟩ : S40) [.int .i64 x186000_11, .int .i64 x186001_11, .int .i64 x186002_11, .int .i64 x186003_11, .int .u32 x186004_11, .int .i64 x186005_11, .slice Ao54 x186006_11.length co54] (fun k_ => k_ ≠ gb185) (fun k_ => some k_ = (.slice Ao54 x186006_11.length co54 : Value).ownBlock) rfl rfl ?aP (fun k_ hk_ => ((Kd.R_mono (ok' := fun k_ => ((fun k_ => k_ ≠ gb185)) k_ ∧ some k_ ≠ (u5 : Value).ownBlock) (Kd.R_types (Kd.R_apart' (HO_186006.out) (Kd.S_typed HO_5.out) (by decide)) BK185.out (by decide)) (fun k_ hk => ⟨hk.2, hk.1.2⟩))).1 k_ hk_.symm) ?aF ?aO ?aB ?aS ?aL ?_; (case aP => exact k40_mkM _ _ _ (⟨x186000_11, x186001_11, x186002_11, x186003_11, x186004_11, x186005_11, x186006_11⟩ : S40) (Kd.R_mono (Kd.R_tight rfl (Kd.R_mono (ok' := fun k_ => ((fun k_ => k_ ≠ gb185)) k_ ∧ some k_ ≠ (u5 : Value).ownBlock) (Kd.R_types (Kd.R_apart' (HO_186006.out) (Kd.S_typed HO_5.out) (by decide)) BK185.out (by decide)) (fun k_ hk => ⟨hk.2, hk.1.2⟩))) (fun _ h_ => h_))); (case aB => exact (by repeat (first | (with_reducible first | exact HB.out | apply below_alloc | apply pw_below_drewN | apply below_drew1 | refine below_set ?_ GE185.out) | exact HB.out))); (case aF => exact (fun k_ hk => Kd.freshB (g := gb185) (o := .cells #[.int .i64 x186000_11, .int .i64 x186001_11, .int .i64 x186002_11, .int .i64 x186003_11, .int .u32 x186004_11, .int .i64 x186005_11, .slice Ao54 x186006_11.length co54] 40 (0, 0)) (by (with_reducible repeat (first | refine blk_drewN ?_ _ | refine blk_drew ?_ | refine blk_alloc ?_ _)); exact BK185.out) k_ hk)); (case aO => exact (by (with_reducible repeat (first | apply Kd.S_alloc | apply Kd.S_drewN | apply Kd.S_drew)); exact Kd.S_mono HO_5.out (fun k_ hk => ⟨hk.2, fun e_ => hk.1 e_⟩))); (case aS => exact (below_size (by repeat (first | (with_reducible first | exact HB.out | apply below_alloc | apply pw_below_drewN | apply below_drew1 | refine below_set ?_ GE185.out) | exact HB.out)))); (case aL => have := LMc45.out; omega); intro v192 w53 ho hb hg hat; rw [← Ny191.out] at ho; have n0_ := Aside0.mk (blk_grown (g := gb185) (o := .cells #[.int .i64 x186000_11, .int .i64 x186001_11, .int .i64 x186002_11, .int .i64 x186003_11, .int .u32 x186004_11, .int .i64 x186005_11, .slice Ao54 x186006_11.length co54] 40 (0, 0)) (by (with_reducible repeat (first | refine blk_drewN ?_ _ | refine blk_drew ?_ | refine blk_alloc ?_ _)); exact BK185.out) hg (Kd.S_away HO_5.out (fun _ hk => hk.2))); have n1_ := Aside0.mk (hb); have n2_ := Aside0.mk (ho); clear BK185; clear HB; clear HO_5; clear HO_186006; have BK185 := n0_; have HB := n1_; have HO193 := n2_; clear n0_ n1_ n2_; clear ho hb hg hat))
                        go_roundg kj11
                        case measure => have := HK1.out; have := HJ3.out; have := HJ11.out; omega
                        case rel => exact ⟨(y191), (wrap64 (x6_1 + 1)), (by first | rfl | (simp; done) | (simp [*]; done)), H', ⟨by have := HK1.out; have := HJ3.out; have := HJ11.out; omega⟩, ⟨by (with_reducible repeat (first | apply Kd.S_alloc | apply Kd.S_drewN | apply Kd.S_drew)); exact Kd.S_mono HO193.out (fun _ hk => trivial)⟩, ⟨by repeat (first | (with_reducible first | exact HB.out | apply below_alloc | apply pw_below_drewN | apply below_drew1 | refine below_set ?_ GE185.out) | exact HB.out)⟩⟩
                    · rw [if_neg c45] at H
                      exact absurd H (by simp)
              · rw [if_neg c8] at H
                exact absurd H (by simp)
            · rw [if_neg c7] at H
              exact absurd H (by simp)
          · replace c6 := Bool.eq_false_iff.mpr c6
            subst c6
            have H1 : (switchbacklaw17_RelaxAll.l1 kj3 l0 (wrap64 (1 + t182)) x5_1 (l0.length : Int)) = some r := by rw [if_neg (show ¬ (false = true) by decide)] at H; exact H
            clear H
            have H := H1
            clear H1
            have H' := Aside0.mk H
            clear H
            go_wp2
            go_loopg [5, 11] kj3 (fun kq v5 v11 w' => ∃ (x5_3 : List (S40)) (x11_3 : Int), v11 = .int .i64 x11_3 ∧ Aside0 (switchbacklaw17_RelaxAll.l1 kq l0 (wrap64 (1 + t182)) x5_3 x11_3 = some r) ∧ Aside0 (kq ≤ kj3) ∧ Aside0 (Kd.S k40 40 w' w.heap.size (fun _ => True) v5 x5_3) ∧ Aside0 (Below w.heap.size w w'))
            case atStart => exact ⟨(x5_1), ((l0.length : Int)), (by first | rfl | (simp; done) | (simp [*]; done)), H', ⟨Nat.le_refl _⟩, ⟨by (with_reducible repeat (first | apply Kd.S_alloc | apply Kd.S_drewN | apply Kd.S_drew)); exact HO_5.out⟩, ⟨by repeat (first | (with_reducible first | exact HB.out | apply below_alloc | apply pw_below_drewN | apply below_drew1) | exact HB.out)⟩⟩
            case round =>
              clear H'
              try clear c1
              try clear p1
              try clear q1
              try clear hx1
              try clear c2
              try clear p2
              try clear c4
              try clear c5
              try clear c5b0
              try clear c6
              try clear p6
              try clear c7
              try clear c7b0
              try clear c8
              try clear c8b0
              try clear c18
              try clear p18
              try clear q18
              try clear hx18
              try clear c19
              try clear c19b0
              try clear c19b1
              try clear c26
              try clear c27
              try clear c28
              try clear c28b0
              try clear c28b1
              try clear c29
              try clear c29b0
              try clear c29b1
              try clear c42
              try clear c45
              try clear c46
              try clear c46b0
              try clear c47
              try clear hcz14_0
              try clear hcz14_1
              try clear hcz14_2
              try clear hcz14_3
              try clear hcz14_4
              try clear hcz14_5
              try clear hcz14_6
              try clear hcz16_0
              try clear hcz16_1
              try clear hcz16_2
              try clear hcz16_3
              try clear hcz16_4
              try clear hcz16_5
              try clear hcz16_6
              try clear hcz30_0
              try clear hcz30_1
              try clear hcz30_2
              try clear hcz30_3
              try clear hcz30_4
              try clear hcz30_5
              try clear hcz30_6
              try clear hcz43_0
              try clear hcz43_1
              try clear hcz43_2
              try clear hcz43_3
              try clear hcz43_4
              try clear hcz43_5
              try clear hcz43_6
              try clear hcz44_0
              try clear hcz44_1
              try clear hcz44_2
              try clear hcz44_3
              try clear hcz44_4
              try clear hcz44_5
              try clear hcz44_6
              try clear hcz48_0
              try clear hcz48_1
              try clear hcz48_2
              try clear hcz48_3
              try clear hcz48_4
              try clear hcz48_5
              try clear hcz48_6
              try clear hcz52_0
              try clear hcz52_1
              try clear hcz52_2
              try clear hcz52_3
              try clear hcz52_4
              try clear hcz52_5
              try clear hcz52_6
              try clear hfz14_0
              try clear hfz14_1
              try clear hfz14_2
              try clear hfz14_3
              try clear hfz14_4
              try clear hfz14_5
              try clear hfz14_6
              try clear hfz16_0
              try clear hfz16_1
              try clear hfz16_2
              try clear hfz16_3
              try clear hfz16_4
              try clear hfz16_5
              try clear hfz16_6
              try clear hfz30_0
              try clear hfz30_1
              try clear hfz30_2
              try clear hfz30_3
              try clear hfz30_4
              try clear hfz30_5
              try clear hfz30_6
              try clear hfz43_0
              try clear hfz43_1
              try clear hfz43_2
              try clear hfz43_3
              try clear hfz43_4
              try clear hfz43_5
              try clear hfz43_6
              try clear hfz44_0
              try clear hfz44_1
              try clear hfz44_2
              try clear hfz44_3
              try clear hfz44_4
              try clear hfz44_5
              try clear hfz44_6
              try clear hfz48_0
              try clear hfz48_1
              try clear hfz48_2
              try clear hfz48_3
              try clear hfz48_4
              try clear hfz48_5
              try clear hfz48_6
              try clear hfz52_0
              try clear hfz52_1
              try clear hfz52_2
              try clear hfz52_3
              try clear hfz52_4
              try clear hfz52_5
              try clear hfz52_6
              try clear hx183_0
              try clear p1
              try clear p18
              try clear p183
              try clear p2
              try clear p6
              try clear q1
              try clear q18
              try clear q183
              obtain ⟨x5_3, x11_3, rfl, HA, HK3, HO_5, HB⟩ := hrel
              cases gk with
              | zero => exact absurd HA.out (by simp [switchbacklaw17_RelaxAll.l1])
              | succ k3 =>
                have H := HA.out
                clear HA
                simp only [switchbacklaw17_RelaxAll.l1] at H
                by_cases c55 : x11_3 < (wrap64 (1 + t182))
                · rw [if_pos c55] at H
                  have c55b0 : decide (x11_3 < (wrap64 (1 + t182))) = true := decide_eq_true c55
                  clear c55
                  by_cases c56 : x5_3.length < 1954687338268
                  · rw [if_pos c56] at H
                    have LMc56 := Aside0.mk c56
                    clear c56
                    obtain ⟨y197, hy197⟩ : ∃ y_ : List (S40), y_ = (x5_3 ++ [(⟨0, 0, 0, 0, 0, x11_3, ([] : List Int)⟩ : S40)]) := ⟨_, rfl⟩
                    replace H : (switchbacklaw17_RelaxAll.l1 k3 l0 (wrap64 (1 + t182)) y197 (wrap64 (x11_3 + 1))) = some r := by first | (rw [hy197]; with_reducible exact H) | (have H2_ := (Option.bind_some _ _).symm.trans H; rw [hy197]; with_reducible exact H2_) | (have H2_ := (Option.bind_some _ _).symm.trans H; with_reducible exact H2_) | with_reducible exact H | (rw [hy197]; exact H) | exact H
                    have Ny197 := Aside0.mk hy197
                    clear hy197
                    have H' := Aside0.mk H
                    clear H
                    go_wp2_with (first | ((with_reducible refine gate_builtin (b := .append) (xs := #[.tmp 104, .tmp 107]) rfl ?_); (try (refine gate_guard (by rfl) ?_; dsimp only)); at_builtin; refine Kd.S_append k40 (w0 := w) w.heap.size rfl (.tmp 104) (.tmp 107) 22 40 (.agg #[(.int .i64 0), (.int .i64 0), (.int .i64 0), (.int .i64 0), (.int .u32 0), (.int .i64 0), (.slice none 0 0)]) 72 rfl Tryd.underlying22 info40 rfl (by decide) (by omega) u5 x5_3 (⟨0, 0, 0, 0, 0, x11_3, ([] : List Int)⟩ : S40) [.int .i64 0, .int .i64 0, .int .i64 0, .int .i64 0, .int .u32 0, .int .i64 x11_3, .slice none 0 0] (fun _ => True) (fun _ => False) rfl rfl ?aP (fun k_ hk_ => hk_.elim) ?aF ?aO ?aB ?aS ?aL ?_; (case aP => exact k40_mkM _ _ _ (⟨0, 0, 0, 0, 0, x11_3, ([] : List Int)⟩ : S40) (Kd.R_nil _ _ _ _ _)); (case aB => exact (by repeat (first | (with_reducible first | exact HB.out | apply below_alloc | apply pw_below_drewN | apply below_drew1) | exact HB.out))); (case aF => exact (fun _ _ => trivial)); (case aO => exact (by (with_reducible repeat (first | apply Kd.S_alloc | apply Kd.S_drewN | apply Kd.S_drew)); exact Kd.S_mono HO_5.out (fun k_ hk => ⟨trivial, fun e_ => e_⟩))); (case aS => exact (below_size (by repeat (first | (with_reducible first | exact HB.out | apply below_alloc | apply pw_below_drewN | apply below_drew1) | exact HB.out)))); (case aL => have := LMc56.out; omega); intro v198 w57 ho hb hg hat; rw [← Ny197.out] at ho; have n0_ := Aside0.mk (hb); have n1_ := Aside0.mk (ho); clear HB; clear HO_5; have HB := n0_; have HO199 := n1_; clear n0_ n1_; clear ho hb hg hat))
                    go_roundg k3
                    case measure => have := HK1.out; have := HJ3.out; have := HK3.out; omega
                    case rel => exact ⟨(y197), (wrap64 (x11_3 + 1)), (by first | rfl | (simp; done) | (simp [*]; done)), H', ⟨by have := HK1.out; have := HJ3.out; have := HK3.out; omega⟩, ⟨by (with_reducible repeat (first | apply Kd.S_alloc | apply Kd.S_drewN | apply Kd.S_drew)); exact HO199.out⟩, ⟨by repeat (first | (with_reducible first | exact HB.out | apply below_alloc | apply pw_below_drewN | apply below_drew1) | exact HB.out)⟩⟩
                  · rw [if_neg c56] at H
                    exact absurd H (by simp)
                · rw [if_neg c55] at H
                  have c55b0 : decide (x11_3 < (wrap64 (1 + t182))) = false := decide_eq_false c55
                  clear c55
                  replace H := Option.bind_eq_some_iff.mp H
                  obtain ⟨⟨t200, t203, t206, t209, t210, t211⟩, A580, H⟩ := H
                  replace H : ((switchbacklaw17_live.f k3).bind fun t213 => (if t213 = true then (if t210 = 0 then (if t211 = 0 then (if (t206.length : Int) = (x5_3.length : Int) then (some (decide ((t200.length : Int) ≥ (mn (l0.length : Int) 2000)))) else (some false)) else (some false)) else (some false)) else (some false))) = some r := H
                  have A58 := Aside0.mk A580
                  clear A580
                  replace H := Option.bind_eq_some_iff.mp H
                  obtain ⟨t213, A590, H⟩ := H
                  replace H : (if t213 = true then (if t210 = 0 then (if t211 = 0 then (if (t206.length : Int) = (x5_3.length : Int) then (some (decide ((t200.length : Int) ≥ (mn (l0.length : Int) 2000)))) else (some false)) else (some false)) else (some false)) else (some false)) = some r := H
                  have A59 := Aside0.mk A590
                  clear A590
                  by_cases c60 : t213 = true
                  · subst c60
                    have H1 : (if t210 = 0 then (if t211 = 0 then (if (t206.length : Int) = (x5_3.length : Int) then (some (decide ((t200.length : Int) ≥ (mn (l0.length : Int) 2000)))) else (some false)) else (some false)) else (some false)) = some r := by rw [if_pos rfl] at H; exact H
                    clear H
                    have H := H1
                    clear H1
                    by_cases c61 : t210 = 0
                    · rw [if_pos c61] at H
                      have c61b0 : (t210 == 0) = true := beq_iff_eq.mpr c61
                      have c61b1 : (t210 != 0) = false := bne_eq_false_iff_eq.mpr c61
                      clear c61
                      by_cases c62 : t211 = 0
                      · rw [if_pos c62] at H
                        have c62b0 : (t211 == 0) = true := beq_iff_eq.mpr c62
                        have c62b1 : (t211 != 0) = false := bne_eq_false_iff_eq.mpr c62
                        clear c62
                        by_cases c63 : (t206.length : Int) = (x5_3.length : Int)
                        · rw [if_pos c63] at H
                          have c63b0 : ((t206.length : Int) == (x5_3.length : Int)) = true := beq_iff_eq.mpr c63
                          have c63b1 : ((t206.length : Int) != (x5_3.length : Int)) = false := bne_eq_false_iff_eq.mpr c63
                          have c63b2 : (t206.length == x5_3.length) = true := by first | simpa using c63 | (simp at c63 ⊢; omega)
                          clear c63
                          obtain ⟨ji64, hji64⟩ : ∃ j_ : Int, (mn (l0.length : Int) 2000) = j_ := ⟨_, rfl⟩
                          replace H : (some (decide ((t200.length : Int) ≥ (ji64)))) = some r := by first | (rw [hji64] at H; exact H) | (simp only [hji64] at H ⊢; exact H)
                          (try rw [hji64] at A58)
                          (try rw [hji64] at A59)
                          have hji64_ : (if 2000 < (l0.length : Int) then 2000 else (l0.length : Int)) = ji64 := hji64
                          obtain rfl := Option.some.inj H
                          obtain ⟨Ao65, co65, eo65⟩ := Kd.S_slice HO_5.out
                          subst eo65
                          go_wp2_with (first | ((with_reducible refine gate_callee (f := 19) rfl ?_); refine goesL_ (some 111) rfl rfl Tryd.func19 (by kernel_rfl) rfl #[.slice Ao65 x5_3.length co65] rfl (by (try simp only [List.map_toArray, List.map_cons, List.map_nil]); first | done | rfl | (simp only [List.length_drop, List.length_take]; rfl)) ?_; (with_reducible refine (relax_Assemble.calls _ _ x5_3 t200 t203 t206 t209 t210 t211 _ ?side1 ?side2 (Aside0.mk (hLaid_.out.below (by repeat (first | (with_reducible first | exact HB.out | apply below_alloc | apply pw_below_drewN | apply below_drew1) | refine below_set ?_ (Aside0.out (by assumption)) | exact HB.out)))) A58.out).mono ?_); (case side1 => repeat (first | exact (Kd.S_reads' HO_5.out).2.2 | (with_reducible refine Kd.C_alloc ?_ _) | (with_reducible refine Kd.C_drewN ?_ _) | (with_reducible refine Kd.C_drew ?_))); (case side2 => exact (Kd.S_reads' HO_5.out).2.1); rintro e w66 ⟨v201, v204, v207, rfl, ho0, ho1, ho2, hb⟩; refine ⟨_, rfl, ?_⟩; have n0_ := Aside0.mk (Kd.S_mono (Kd.S_told (Kd.S_told (Kd.S_old (by (with_reducible repeat (first | apply Kd.S_alloc | apply Kd.S_drewN | apply Kd.S_drew)); exact HO_5.out) hb) (Kd.R_base ho1)) (Kd.R_base ho2)) (fun _ h_ => h_.1)); have n1_ := Aside0.mk (Kd.R_lower ho0 (below_size (by repeat (first | (with_reducible first | exact HB.out | apply below_alloc | apply pw_below_drewN | apply below_drew1) | exact HB.out)))); have n2_ := Aside0.mk (Kd.R_lower ho1 (below_size (by repeat (first | (with_reducible first | exact HB.out | apply below_alloc | apply pw_below_drewN | apply below_drew1) | exact HB.out)))); have n3_ := Aside0.mk (Kd.R_lower ho2 (below_size (by repeat (first | (with_reducible first | exact HB.out | apply below_alloc | apply pw_below_drewN | apply below_drew1) | exact HB.out)))); have n4_ := Aside0.mk (below_step (by repeat (first | (with_reducible first | exact HB.out | apply below_alloc | apply pw_below_drewN | apply below_drew1) | exact HB.out)) hb); clear HO_5; clear HB; have HO_5 := n0_; have HO202 := n1_; have HO205 := n2_; have HO208 := n3_; have HB := n4_; clear n0_ n1_ n2_ n3_ n4_; (try clear hb); (try clear hb2); (try clear hk); (try clear hi); (try clear ho0); (try clear ho1); (try clear ho2)) | ((with_reducible refine gate_dst (N := 12) rfl ?_); (try (refine gate_guard (by rfl) ?_; dsimp only)); refine box_event ?hg (N := 12) ?hd (cs := #[.slice none 0 0, .slice none 0 0, .slice none 0 0, .int .i64 0]) (t := 27) ?hr ?_; (case hd => rfl); (case hg => rfl); (case hr => first | (go_simp; done) | (go_simp; rfl)); intro gb212 hg w67 hbox hb; have n0_ := Aside0.mk (Kd.S_below (by (with_reducible repeat (first | apply Kd.S_alloc | apply Kd.S_drewN | apply Kd.S_drew)); exact HO_5.out) hb); have n1_ := Aside0.mk (Kd.R_below (by (with_reducible repeat (first | apply Kd.R_alloc | apply Kd.R_drewN | apply Kd.R_drew)); exact HO202.out) hb); have n2_ := Aside0.mk (Kd.R_below (by (with_reducible repeat (first | apply Kd.R_alloc | apply Kd.R_drewN | apply Kd.R_drew)); exact HO205.out) hb); have n3_ := Aside0.mk (Kd.R_below (by (with_reducible repeat (first | apply Kd.R_alloc | apply Kd.R_drewN | apply Kd.R_drew)); exact HO208.out) hb); have n4_ := Aside0.mk (below_step (by repeat (first | (with_reducible first | exact HB.out | apply below_alloc | apply pw_below_drewN | apply below_drew1) | exact HB.out)) hb); have n5_ := Aside0.mk (hbox); have n6_ := Aside0.mk ((by rw [hg]; exact (below_size (by repeat (first | (with_reducible first | exact HB.out | apply below_alloc | apply pw_below_drewN | apply below_drew1) | exact HB.out))) : w.heap.size ≤ gb212)); have n7_ := Aside0.mk ((by rw [hg]; exact (below_size (by repeat (first | (with_reducible first | exact HB.out | apply below_alloc | apply pw_below_drewN | apply below_drew1) | exact HB.out))) : w.heap.size ≤ gb212)); clear HO_5; clear HO202; clear HO205; clear HO208; clear HB; have HO_5 := n0_; have HO202 := n1_; have HO205 := n2_; have HO208 := n3_; have HB := n4_; have BK212 := n5_; have GW212 := n6_; have GE212 := n7_; clear n0_ n1_ n2_ n3_ n4_ n5_ n6_ n7_; clear hb hbox hg; obtain ⟨Ao68, co68, eo68⟩ := Kd.R_slice HO202.out; subst eo68; have hcz69_0 : w67.cell? ⟨gb212, 0, none⟩ = some (.slice none 0 0) := (blk_cell BK212.out 0).trans rfl; have hcz69_1 : w67.cell? ⟨gb212, 1, none⟩ = some (.slice none 0 0) := (blk_cell BK212.out 1).trans rfl; have hcz69_2 : w67.cell? ⟨gb212, 2, none⟩ = some (.slice none 0 0) := (blk_cell BK212.out 2).trans rfl; have hcz69_3 : w67.cell? ⟨gb212, 3, none⟩ = some (.int .i64 0) := (blk_cell BK212.out 3).trans rfl; have hfz69_0 := blk_frozen BK212.out 0; have hfz69_1 := blk_frozen BK212.out 1; have hfz69_2 := blk_frozen BK212.out 2; have hfz69_3 := blk_frozen BK212.out 3; obtain ⟨Ao70, co70, eo70⟩ := Kd.R_slice HO205.out; subst eo70; obtain ⟨Ao71, co71, eo71⟩ := Kd.R_slice HO208.out; subst eo71) | ((with_reducible refine gate_callee (f := 21) rfl ?_); refine goesL_ (some 115) rfl rfl Tryd.func21 (by kernel_rfl) rfl #[] rfl (by (try simp only [List.map_toArray, List.map_cons, List.map_nil]); first | done | rfl | (simp only [List.length_drop, List.length_take]; rfl)) ?_; (with_reducible refine (switchbacklaw17_live.calls k3  true _ (Aside0.mk (hLaid_.out.below (by repeat (first | (with_reducible first | exact HB.out | apply below_alloc | apply pw_below_drewN | apply below_drew1) | refine below_set ?_ (Aside0.out (by assumption)) | exact HB.out)))) A59.out).mono ?_); rintro e w72 ⟨rfl, hb⟩; refine ⟨_, rfl, ?_⟩; have n0_ := Aside0.mk (Kd.S_below (by (with_reducible repeat (first | apply Kd.S_alloc | apply Kd.S_drewN | apply Kd.S_drew)); exact (Kd.S_mono (Kd.S_far (p := ⟨gb212, 3, none⟩) (Kd.S_far (p := ⟨gb212, 2, none⟩) (Kd.S_far (p := ⟨gb212, 1, none⟩) (Kd.S_far (p := ⟨gb212, 0, none⟩) (Kd.S_types HO_5.out BK212.out (by decide)) (fun _ hk => hk.2) (.slice Ao68 t200.length co68)) (fun _ hk => hk.2) (.slice Ao70 t203.length co70)) (fun _ hk => hk.2) (.slice Ao71 t206.length co71)) (fun _ hk => hk.2) (.int .i64 t209)) (fun _ h_ => h_.1))) hb); have n1_ := Aside0.mk (Kd.R_below (by (with_reducible repeat (first | apply Kd.R_alloc | apply Kd.R_drewN | apply Kd.R_drew)); exact (Kd.R_mono (Kd.R_far (p := ⟨gb212, 3, none⟩) (Kd.R_far (p := ⟨gb212, 2, none⟩) (Kd.R_far (p := ⟨gb212, 1, none⟩) (Kd.R_far (p := ⟨gb212, 0, none⟩) (Kd.R_types HO202.out BK212.out (by decide)) (fun _ hk => hk.2) (.slice Ao68 t200.length co68)) (fun _ hk => hk.2) (.slice Ao70 t203.length co70)) (fun _ hk => hk.2) (.slice Ao71 t206.length co71)) (fun _ hk => hk.2) (.int .i64 t209)) (fun _ h_ => h_.1))) hb); have n2_ := Aside0.mk (Kd.R_below (by (with_reducible repeat (first | apply Kd.R_alloc | apply Kd.R_drewN | apply Kd.R_drew)); exact (Kd.R_mono (Kd.R_far (p := ⟨gb212, 3, none⟩) (Kd.R_far (p := ⟨gb212, 2, none⟩) (Kd.R_far (p := ⟨gb212, 1, none⟩) (Kd.R_far (p := ⟨gb212, 0, none⟩) (Kd.R_types HO205.out BK212.out (by decide)) (fun _ hk => hk.2) (.slice Ao68 t200.length co68)) (fun _ hk => hk.2) (.slice Ao70 t203.length co70)) (fun _ hk => hk.2) (.slice Ao71 t206.length co71)) (fun _ hk => hk.2) (.int .i64 t209)) (fun _ h_ => h_.1))) hb); have n3_ := Aside0.mk (Kd.R_below (by (with_reducible repeat (first | apply Kd.R_alloc | apply Kd.R_drewN | apply Kd.R_drew)); exact (Kd.R_mono (Kd.R_far (p := ⟨gb212, 3, none⟩) (Kd.R_far (p := ⟨gb212, 2, none⟩) (Kd.R_far (p := ⟨gb212, 1, none⟩) (Kd.R_far (p := ⟨gb212, 0, none⟩) (Kd.R_types HO208.out BK212.out (by decide)) (fun _ hk => hk.2) (.slice Ao68 t200.length co68)) (fun _ hk => hk.2) (.slice Ao70 t203.length co70)) (fun _ hk => hk.2) (.slice Ao71 t206.length co71)) (fun _ hk => hk.2) (.int .i64 t209)) (fun _ h_ => h_.1))) hb); have n4_ := Aside0.mk (blk_below (g := gb212) (o := .cells #[.slice Ao68 t200.length co68, .slice Ao70 t203.length co70, .slice Ao71 t206.length co71, .int .i64 t209] 27 (0, 0)) (by (with_reducible repeat (first | refine blk_drewN ?_ _ | refine blk_drew ?_ | refine blk_alloc ?_ _)); refine blk_put (cs := #[.slice Ao68 t200.length co68, .slice Ao70 t203.length co70, .slice Ao71 t206.length co71, .int .i64 0]) ?_ 3 _ rfl; (with_reducible repeat (first | refine blk_drewN ?_ _ | refine blk_drew ?_ | refine blk_alloc ?_ _)); refine blk_put (cs := #[.slice Ao68 t200.length co68, .slice Ao70 t203.length co70, .slice none 0 0, .int .i64 0]) ?_ 2 _ rfl; (with_reducible repeat (first | refine blk_drewN ?_ _ | refine blk_drew ?_ | refine blk_alloc ?_ _)); refine blk_put (cs := #[.slice Ao68 t200.length co68, .slice none 0 0, .slice none 0 0, .int .i64 0]) ?_ 1 _ rfl; (with_reducible repeat (first | refine blk_drewN ?_ _ | refine blk_drew ?_ | refine blk_alloc ?_ _)); refine blk_put (cs := #[.slice none 0 0, .slice none 0 0, .slice none 0 0, .int .i64 0]) ?_ 0 _ rfl; (with_reducible repeat (first | refine blk_drewN ?_ _ | refine blk_drew ?_ | refine blk_alloc ?_ _)); exact BK212.out) hb); have n5_ := Aside0.mk (below_step (by repeat (first | (with_reducible first | exact HB.out | apply below_alloc | apply pw_below_drewN | apply below_drew1 | refine below_set ?_ GE212.out) | exact HB.out)) hb); clear HO_5; clear HO202; clear HO205; clear HO208; clear BK212; clear HB; have HO_5 := n0_; have HO202 := n1_; have HO205 := n2_; have HO208 := n3_; have BK212 := n4_; have HB := n5_; clear n0_ n1_ n2_ n3_ n4_ n5_; (try clear hb); (try clear hb2); (try clear hk); (try clear hi); have hcz73_0 : w72.cell? ⟨gb212, 0, none⟩ = some (.slice Ao68 t200.length co68) := (blk_cell BK212.out 0).trans rfl; have hcz73_1 : w72.cell? ⟨gb212, 1, none⟩ = some (.slice Ao70 t203.length co70) := (blk_cell BK212.out 1).trans rfl; have hcz73_2 : w72.cell? ⟨gb212, 2, none⟩ = some (.slice Ao71 t206.length co71) := (blk_cell BK212.out 2).trans rfl; have hcz73_3 : w72.cell? ⟨gb212, 3, none⟩ = some (.int .i64 t209) := (blk_cell BK212.out 3).trans rfl; have hfz73_0 := blk_frozen BK212.out 0; have hfz73_1 := blk_frozen BK212.out 1; have hfz73_2 := blk_frozen BK212.out 2; have hfz73_3 := blk_frozen BK212.out 3))
                          go_ret
                          exact ⟨by first | rfl | (simp [errW_none, errW_some] <;> rfl) | (simp only [← hji64]; first | rfl | (simp [errW_none, errW_some] <;> rfl)) | (simp [*, errW_none, errW_some] <;> rfl), by repeat (first | (with_reducible first | exact HB.out | apply below_alloc | apply pw_below_drewN | apply below_drew1 | refine below_set ?_ GE212.out) | exact HB.out)⟩
                        · rw [if_neg c63] at H
                          have c63b0 : ((t206.length : Int) == (x5_3.length : Int)) = false := beq_eq_false_iff_ne.mpr c63
                          have c63b1 : ((t206.length : Int) != (x5_3.length : Int)) = true := bne_iff_ne.mpr c63
                          have c63b2 : (t206.length == x5_3.length) = false := by first | simpa using c63 | (simp at c63 ⊢; omega)
                          obtain rfl := Option.some.inj H
                          obtain ⟨Ao74, co74, eo74⟩ := Kd.S_slice HO_5.out
                          subst eo74
                          go_wp2_with (first | ((with_reducible refine gate_callee (f := 19) rfl ?_); refine goesL_ (some 111) rfl rfl Tryd.func19 (by kernel_rfl) rfl #[.slice Ao74 x5_3.length co74] rfl (by (try simp only [List.map_toArray, List.map_cons, List.map_nil]); first | done | rfl | (simp only [List.length_drop, List.length_take]; rfl)) ?_; (with_reducible refine (relax_Assemble.calls _ _ x5_3 t200 t203 t206 t209 t210 t211 _ ?side1 ?side2 (Aside0.mk (hLaid_.out.below (by repeat (first | (with_reducible first | exact HB.out | apply below_alloc | apply pw_below_drewN | apply below_drew1) | refine below_set ?_ (Aside0.out (by assumption)) | exact HB.out)))) A58.out).mono ?_); (case side1 => repeat (first | exact (Kd.S_reads' HO_5.out).2.2 | (with_reducible refine Kd.C_alloc ?_ _) | (with_reducible refine Kd.C_drewN ?_ _) | (with_reducible refine Kd.C_drew ?_))); (case side2 => exact (Kd.S_reads' HO_5.out).2.1); rintro e w75 ⟨v201, v204, v207, rfl, ho0, ho1, ho2, hb⟩; refine ⟨_, rfl, ?_⟩; have n0_ := Aside0.mk (Kd.S_mono (Kd.S_told (Kd.S_told (Kd.S_old (by (with_reducible repeat (first | apply Kd.S_alloc | apply Kd.S_drewN | apply Kd.S_drew)); exact HO_5.out) hb) (Kd.R_base ho1)) (Kd.R_base ho2)) (fun _ h_ => h_.1)); have n1_ := Aside0.mk (Kd.R_lower ho0 (below_size (by repeat (first | (with_reducible first | exact HB.out | apply below_alloc | apply pw_below_drewN | apply below_drew1) | exact HB.out)))); have n2_ := Aside0.mk (Kd.R_lower ho1 (below_size (by repeat (first | (with_reducible first | exact HB.out | apply below_alloc | apply pw_below_drewN | apply below_drew1) | exact HB.out)))); have n3_ := Aside0.mk (Kd.R_lower ho2 (below_size (by repeat (first | (with_reducible first | exact HB.out | apply below_alloc | apply pw_below_drewN | apply below_drew1) | exact HB.out)))); have n4_ := Aside0.mk (below_step (by repeat (first | (with_reducible first | exact HB.out | apply below_alloc | apply pw_below_drewN | apply below_drew1) | exact HB.out)) hb); clear HO_5; clear HB; have HO_5 := n0_; have HO202 := n1_; have HO205 := n2_; have HO208 := n3_; have HB := n4_; clear n0_ n1_ n2_ n3_ n4_; (try clear hb); (try clear hb2); (try clear hk); (try clear hi); (try clear ho0); (try clear ho1); (try clear ho2)) | ((with_reducible refine gate_dst (N := 12) rfl ?_); (try (refine gate_guard (by rfl) ?_; dsimp only)); refine box_event ?hg (N := 12) ?hd (cs := #[.slice none 0 0, .slice none 0 0, .slice none 0 0, .int .i64 0]) (t := 27) ?hr ?_; (case hd => rfl); (case hg => rfl); (case hr => first | (go_simp; done) | (go_simp; rfl)); intro gb212 hg w76 hbox hb; have n0_ := Aside0.mk (Kd.S_below (by (with_reducible repeat (first | apply Kd.S_alloc | apply Kd.S_drewN | apply Kd.S_drew)); exact HO_5.out) hb); have n1_ := Aside0.mk (Kd.R_below (by (with_reducible repeat (first | apply Kd.R_alloc | apply Kd.R_drewN | apply Kd.R_drew)); exact HO202.out) hb); have n2_ := Aside0.mk (Kd.R_below (by (with_reducible repeat (first | apply Kd.R_alloc | apply Kd.R_drewN | apply Kd.R_drew)); exact HO205.out) hb); have n3_ := Aside0.mk (Kd.R_below (by (with_reducible repeat (first | apply Kd.R_alloc | apply Kd.R_drewN | apply Kd.R_drew)); exact HO208.out) hb); have n4_ := Aside0.mk (below_step (by repeat (first | (with_reducible first | exact HB.out | apply below_alloc | apply pw_below_drewN | apply below_drew1) | exact HB.out)) hb); have n5_ := Aside0.mk (hbox); have n6_ := Aside0.mk ((by rw [hg]; exact (below_size (by repeat (first | (with_reducible first | exact HB.out | apply below_alloc | apply pw_below_drewN | apply below_drew1) | exact HB.out))) : w.heap.size ≤ gb212)); have n7_ := Aside0.mk ((by rw [hg]; exact (below_size (by repeat (first | (with_reducible first | exact HB.out | apply below_alloc | apply pw_below_drewN | apply below_drew1) | exact HB.out))) : w.heap.size ≤ gb212)); clear HO_5; clear HO202; clear HO205; clear HO208; clear HB; have HO_5 := n0_; have HO202 := n1_; have HO205 := n2_; have HO208 := n3_; have HB := n4_; have BK212 := n5_; have GW212 := n6_; have GE212 := n7_; clear n0_ n1_ n2_ n3_ n4_ n5_ n6_ n7_; clear hb hbox hg; obtain ⟨Ao77, co77, eo77⟩ := Kd.R_slice HO202.out; subst eo77; have hcz78_0 : w76.cell? ⟨gb212, 0, none⟩ = some (.slice none 0 0) := (blk_cell BK212.out 0).trans rfl; have hcz78_1 : w76.cell? ⟨gb212, 1, none⟩ = some (.slice none 0 0) := (blk_cell BK212.out 1).trans rfl; have hcz78_2 : w76.cell? ⟨gb212, 2, none⟩ = some (.slice none 0 0) := (blk_cell BK212.out 2).trans rfl; have hcz78_3 : w76.cell? ⟨gb212, 3, none⟩ = some (.int .i64 0) := (blk_cell BK212.out 3).trans rfl; have hfz78_0 := blk_frozen BK212.out 0; have hfz78_1 := blk_frozen BK212.out 1; have hfz78_2 := blk_frozen BK212.out 2; have hfz78_3 := blk_frozen BK212.out 3; obtain ⟨Ao79, co79, eo79⟩ := Kd.R_slice HO205.out; subst eo79; obtain ⟨Ao80, co80, eo80⟩ := Kd.R_slice HO208.out; subst eo80) | ((with_reducible refine gate_callee (f := 21) rfl ?_); refine goesL_ (some 115) rfl rfl Tryd.func21 (by kernel_rfl) rfl #[] rfl (by (try simp only [List.map_toArray, List.map_cons, List.map_nil]); first | done | rfl | (simp only [List.length_drop, List.length_take]; rfl)) ?_; (with_reducible refine (switchbacklaw17_live.calls k3  true _ (Aside0.mk (hLaid_.out.below (by repeat (first | (with_reducible first | exact HB.out | apply below_alloc | apply pw_below_drewN | apply below_drew1) | refine below_set ?_ (Aside0.out (by assumption)) | exact HB.out)))) A59.out).mono ?_); rintro e w81 ⟨rfl, hb⟩; refine ⟨_, rfl, ?_⟩; have n0_ := Aside0.mk (Kd.S_below (by (with_reducible repeat (first | apply Kd.S_alloc | apply Kd.S_drewN | apply Kd.S_drew)); exact (Kd.S_mono (Kd.S_far (p := ⟨gb212, 3, none⟩) (Kd.S_far (p := ⟨gb212, 2, none⟩) (Kd.S_far (p := ⟨gb212, 1, none⟩) (Kd.S_far (p := ⟨gb212, 0, none⟩) (Kd.S_types HO_5.out BK212.out (by decide)) (fun _ hk => hk.2) (.slice Ao77 t200.length co77)) (fun _ hk => hk.2) (.slice Ao79 t203.length co79)) (fun _ hk => hk.2) (.slice Ao80 t206.length co80)) (fun _ hk => hk.2) (.int .i64 t209)) (fun _ h_ => h_.1))) hb); have n1_ := Aside0.mk (Kd.R_below (by (with_reducible repeat (first | apply Kd.R_alloc | apply Kd.R_drewN | apply Kd.R_drew)); exact (Kd.R_mono (Kd.R_far (p := ⟨gb212, 3, none⟩) (Kd.R_far (p := ⟨gb212, 2, none⟩) (Kd.R_far (p := ⟨gb212, 1, none⟩) (Kd.R_far (p := ⟨gb212, 0, none⟩) (Kd.R_types HO202.out BK212.out (by decide)) (fun _ hk => hk.2) (.slice Ao77 t200.length co77)) (fun _ hk => hk.2) (.slice Ao79 t203.length co79)) (fun _ hk => hk.2) (.slice Ao80 t206.length co80)) (fun _ hk => hk.2) (.int .i64 t209)) (fun _ h_ => h_.1))) hb); have n2_ := Aside0.mk (Kd.R_below (by (with_reducible repeat (first | apply Kd.R_alloc | apply Kd.R_drewN | apply Kd.R_drew)); exact (Kd.R_mono (Kd.R_far (p := ⟨gb212, 3, none⟩) (Kd.R_far (p := ⟨gb212, 2, none⟩) (Kd.R_far (p := ⟨gb212, 1, none⟩) (Kd.R_far (p := ⟨gb212, 0, none⟩) (Kd.R_types HO205.out BK212.out (by decide)) (fun _ hk => hk.2) (.slice Ao77 t200.length co77)) (fun _ hk => hk.2) (.slice Ao79 t203.length co79)) (fun _ hk => hk.2) (.slice Ao80 t206.length co80)) (fun _ hk => hk.2) (.int .i64 t209)) (fun _ h_ => h_.1))) hb); have n3_ := Aside0.mk (Kd.R_below (by (with_reducible repeat (first | apply Kd.R_alloc | apply Kd.R_drewN | apply Kd.R_drew)); exact (Kd.R_mono (Kd.R_far (p := ⟨gb212, 3, none⟩) (Kd.R_far (p := ⟨gb212, 2, none⟩) (Kd.R_far (p := ⟨gb212, 1, none⟩) (Kd.R_far (p := ⟨gb212, 0, none⟩) (Kd.R_types HO208.out BK212.out (by decide)) (fun _ hk => hk.2) (.slice Ao77 t200.length co77)) (fun _ hk => hk.2) (.slice Ao79 t203.length co79)) (fun _ hk => hk.2) (.slice Ao80 t206.length co80)) (fun _ hk => hk.2) (.int .i64 t209)) (fun _ h_ => h_.1))) hb); have n4_ := Aside0.mk (blk_below (g := gb212) (o := .cells #[.slice Ao77 t200.length co77, .slice Ao79 t203.length co79, .slice Ao80 t206.length co80, .int .i64 t209] 27 (0, 0)) (by (with_reducible repeat (first | refine blk_drewN ?_ _ | refine blk_drew ?_ | refine blk_alloc ?_ _)); refine blk_put (cs := #[.slice Ao77 t200.length co77, .slice Ao79 t203.length co79, .slice Ao80 t206.length co80, .int .i64 0]) ?_ 3 _ rfl; (with_reducible repeat (first | refine blk_drewN ?_ _ | refine blk_drew ?_ | refine blk_alloc ?_ _)); refine blk_put (cs := #[.slice Ao77 t200.length co77, .slice Ao79 t203.length co79, .slice none 0 0, .int .i64 0]) ?_ 2 _ rfl; (with_reducible repeat (first | refine blk_drewN ?_ _ | refine blk_drew ?_ | refine blk_alloc ?_ _)); refine blk_put (cs := #[.slice Ao77 t200.length co77, .slice none 0 0, .slice none 0 0, .int .i64 0]) ?_ 1 _ rfl; (with_reducible repeat (first | refine blk_drewN ?_ _ | refine blk_drew ?_ | refine blk_alloc ?_ _)); refine blk_put (cs := #[.slice none 0 0, .slice none 0 0, .slice none 0 0, .int .i64 0]) ?_ 0 _ rfl; (with_reducible repeat (first | refine blk_drewN ?_ _ | refine blk_drew ?_ | refine blk_alloc ?_ _)); exact BK212.out) hb); have n5_ := Aside0.mk (below_step (by repeat (first | (with_reducible first | exact HB.out | apply below_alloc | apply pw_below_drewN | apply below_drew1 | refine below_set ?_ GE212.out) | exact HB.out)) hb); clear HO_5; clear HO202; clear HO205; clear HO208; clear BK212; clear HB; have HO_5 := n0_; have HO202 := n1_; have HO205 := n2_; have HO208 := n3_; have BK212 := n4_; have HB := n5_; clear n0_ n1_ n2_ n3_ n4_ n5_; (try clear hb); (try clear hb2); (try clear hk); (try clear hi); have hcz82_0 : w81.cell? ⟨gb212, 0, none⟩ = some (.slice Ao77 t200.length co77) := (blk_cell BK212.out 0).trans rfl; have hcz82_1 : w81.cell? ⟨gb212, 1, none⟩ = some (.slice Ao79 t203.length co79) := (blk_cell BK212.out 1).trans rfl; have hcz82_2 : w81.cell? ⟨gb212, 2, none⟩ = some (.slice Ao80 t206.length co80) := (blk_cell BK212.out 2).trans rfl; have hcz82_3 : w81.cell? ⟨gb212, 3, none⟩ = some (.int .i64 t209) := (blk_cell BK212.out 3).trans rfl; have hfz82_0 := blk_frozen BK212.out 0; have hfz82_1 := blk_frozen BK212.out 1; have hfz82_2 := blk_frozen BK212.out 2; have hfz82_3 := blk_frozen BK212.out 3))
                          go_ret
                          exact ⟨by first | rfl | (simp [errW_none, errW_some] <;> rfl) | (simp [*, errW_none, errW_some] <;> rfl), by repeat (first | (with_reducible first | exact HB.out | apply below_alloc | apply pw_below_drewN | apply below_drew1 | refine below_set ?_ GE212.out) | exact HB.out)⟩
                      · rw [if_neg c62] at H
                        have c62b0 : (t211 == 0) = false := beq_eq_false_iff_ne.mpr c62
                        have c62b1 : (t211 != 0) = true := bne_iff_ne.mpr c62
                        obtain rfl := Option.some.inj H
                        obtain ⟨Ao83, co83, eo83⟩ := Kd.S_slice HO_5.out
                        subst eo83
                        go_wp2_with (first | ((with_reducible refine gate_callee (f := 19) rfl ?_); refine goesL_ (some 111) rfl rfl Tryd.func19 (by kernel_rfl) rfl #[.slice Ao83 x5_3.length co83] rfl (by (try simp only [List.map_toArray, List.map_cons, List.map_nil]); first | done | rfl | (simp only [List.length_drop, List.length_take]; rfl)) ?_; (with_reducible refine (relax_Assemble.calls _ _ x5_3 t200 t203 t206 t209 t210 t211 _ ?side1 ?side2 (Aside0.mk (hLaid_.out.below (by repeat (first | (with_reducible first | exact HB.out | apply below_alloc | apply pw_below_drewN | apply below_drew1) | refine below_set ?_ (Aside0.out (by assumption)) | exact HB.out)))) A58.out).mono ?_); (case side1 => repeat (first | exact (Kd.S_reads' HO_5.out).2.2 | (with_reducible refine Kd.C_alloc ?_ _) | (with_reducible refine Kd.C_drewN ?_ _) | (with_reducible refine Kd.C_drew ?_))); (case side2 => exact (Kd.S_reads' HO_5.out).2.1); rintro e w84 ⟨v201, v204, v207, rfl, ho0, ho1, ho2, hb⟩; refine ⟨_, rfl, ?_⟩; have n0_ := Aside0.mk (Kd.S_mono (Kd.S_told (Kd.S_told (Kd.S_old (by (with_reducible repeat (first | apply Kd.S_alloc | apply Kd.S_drewN | apply Kd.S_drew)); exact HO_5.out) hb) (Kd.R_base ho1)) (Kd.R_base ho2)) (fun _ h_ => h_.1)); have n1_ := Aside0.mk (Kd.R_lower ho0 (below_size (by repeat (first | (with_reducible first | exact HB.out | apply below_alloc | apply pw_below_drewN | apply below_drew1) | exact HB.out)))); have n2_ := Aside0.mk (Kd.R_lower ho1 (below_size (by repeat (first | (with_reducible first | exact HB.out | apply below_alloc | apply pw_below_drewN | apply below_drew1) | exact HB.out)))); have n3_ := Aside0.mk (Kd.R_lower ho2 (below_size (by repeat (first | (with_reducible first | exact HB.out | apply below_alloc | apply pw_below_drewN | apply below_drew1) | exact HB.out)))); have n4_ := Aside0.mk (below_step (by repeat (first | (with_reducible first | exact HB.out | apply below_alloc | apply pw_below_drewN | apply below_drew1) | exact HB.out)) hb); clear HO_5; clear HB; have HO_5 := n0_; have HO202 := n1_; have HO205 := n2_; have HO208 := n3_; have HB := n4_; clear n0_ n1_ n2_ n3_ n4_; (try clear hb); (try clear hb2); (try clear hk); (try clear hi); (try clear ho0); (try clear ho1); (try clear ho2)) | ((with_reducible refine gate_dst (N := 12) rfl ?_); (try (refine gate_guard (by rfl) ?_; dsimp only)); refine box_event ?hg (N := 12) ?hd (cs := #[.slice none 0 0, .slice none 0 0, .slice none 0 0, .int .i64 0]) (t := 27) ?hr ?_; (case hd => rfl); (case hg => rfl); (case hr => first | (go_simp; done) | (go_simp; rfl)); intro gb212 hg w85 hbox hb; have n0_ := Aside0.mk (Kd.S_below (by (with_reducible repeat (first | apply Kd.S_alloc | apply Kd.S_drewN | apply Kd.S_drew)); exact HO_5.out) hb); have n1_ := Aside0.mk (Kd.R_below (by (with_reducible repeat (first | apply Kd.R_alloc | apply Kd.R_drewN | apply Kd.R_drew)); exact HO202.out) hb); have n2_ := Aside0.mk (Kd.R_below (by (with_reducible repeat (first | apply Kd.R_alloc | apply Kd.R_drewN | apply Kd.R_drew)); exact HO205.out) hb); have n3_ := Aside0.mk (Kd.R_below (by (with_reducible repeat (first | apply Kd.R_alloc | apply Kd.R_drewN | apply Kd.R_drew)); exact HO208.out) hb); have n4_ := Aside0.mk (below_step (by repeat (first | (with_reducible first | exact HB.out | apply below_alloc | apply pw_below_drewN | apply below_drew1) | exact HB.out)) hb); have n5_ := Aside0.mk (hbox); have n6_ := Aside0.mk ((by rw [hg]; exact (below_size (by repeat (first | (with_reducible first | exact HB.out | apply below_alloc | apply pw_below_drewN | apply below_drew1) | exact HB.out))) : w.heap.size ≤ gb212)); have n7_ := Aside0.mk ((by rw [hg]; exact (below_size (by repeat (first | (with_reducible first | exact HB.out | apply below_alloc | apply pw_below_drewN | apply below_drew1) | exact HB.out))) : w.heap.size ≤ gb212)); clear HO_5; clear HO202; clear HO205; clear HO208; clear HB; have HO_5 := n0_; have HO202 := n1_; have HO205 := n2_; have HO208 := n3_; have HB := n4_; have BK212 := n5_; have GW212 := n6_; have GE212 := n7_; clear n0_ n1_ n2_ n3_ n4_ n5_ n6_ n7_; clear hb hbox hg; obtain ⟨Ao86, co86, eo86⟩ := Kd.R_slice HO202.out; subst eo86; have hcz87_0 : w85.cell? ⟨gb212, 0, none⟩ = some (.slice none 0 0) := (blk_cell BK212.out 0).trans rfl; have hcz87_1 : w85.cell? ⟨gb212, 1, none⟩ = some (.slice none 0 0) := (blk_cell BK212.out 1).trans rfl; have hcz87_2 : w85.cell? ⟨gb212, 2, none⟩ = some (.slice none 0 0) := (blk_cell BK212.out 2).trans rfl; have hcz87_3 : w85.cell? ⟨gb212, 3, none⟩ = some (.int .i64 0) := (blk_cell BK212.out 3).trans rfl; have hfz87_0 := blk_frozen BK212.out 0; have hfz87_1 := blk_frozen BK212.out 1; have hfz87_2 := blk_frozen BK212.out 2; have hfz87_3 := blk_frozen BK212.out 3; obtain ⟨Ao88, co88, eo88⟩ := Kd.R_slice HO205.out; subst eo88; obtain ⟨Ao89, co89, eo89⟩ := Kd.R_slice HO208.out; subst eo89) | ((with_reducible refine gate_callee (f := 21) rfl ?_); refine goesL_ (some 115) rfl rfl Tryd.func21 (by kernel_rfl) rfl #[] rfl (by (try simp only [List.map_toArray, List.map_cons, List.map_nil]); first | done | rfl | (simp only [List.length_drop, List.length_take]; rfl)) ?_; (with_reducible refine (switchbacklaw17_live.calls k3  true _ (Aside0.mk (hLaid_.out.below (by repeat (first | (with_reducible first | exact HB.out | apply below_alloc | apply pw_below_drewN | apply below_drew1) | refine below_set ?_ (Aside0.out (by assumption)) | exact HB.out)))) A59.out).mono ?_); rintro e w90 ⟨rfl, hb⟩; refine ⟨_, rfl, ?_⟩; have n0_ := Aside0.mk (Kd.S_below (by (with_reducible repeat (first | apply Kd.S_alloc | apply Kd.S_drewN | apply Kd.S_drew)); exact (Kd.S_mono (Kd.S_far (p := ⟨gb212, 3, none⟩) (Kd.S_far (p := ⟨gb212, 2, none⟩) (Kd.S_far (p := ⟨gb212, 1, none⟩) (Kd.S_far (p := ⟨gb212, 0, none⟩) (Kd.S_types HO_5.out BK212.out (by decide)) (fun _ hk => hk.2) (.slice Ao86 t200.length co86)) (fun _ hk => hk.2) (.slice Ao88 t203.length co88)) (fun _ hk => hk.2) (.slice Ao89 t206.length co89)) (fun _ hk => hk.2) (.int .i64 t209)) (fun _ h_ => h_.1))) hb); have n1_ := Aside0.mk (Kd.R_below (by (with_reducible repeat (first | apply Kd.R_alloc | apply Kd.R_drewN | apply Kd.R_drew)); exact (Kd.R_mono (Kd.R_far (p := ⟨gb212, 3, none⟩) (Kd.R_far (p := ⟨gb212, 2, none⟩) (Kd.R_far (p := ⟨gb212, 1, none⟩) (Kd.R_far (p := ⟨gb212, 0, none⟩) (Kd.R_types HO202.out BK212.out (by decide)) (fun _ hk => hk.2) (.slice Ao86 t200.length co86)) (fun _ hk => hk.2) (.slice Ao88 t203.length co88)) (fun _ hk => hk.2) (.slice Ao89 t206.length co89)) (fun _ hk => hk.2) (.int .i64 t209)) (fun _ h_ => h_.1))) hb); have n2_ := Aside0.mk (Kd.R_below (by (with_reducible repeat (first | apply Kd.R_alloc | apply Kd.R_drewN | apply Kd.R_drew)); exact (Kd.R_mono (Kd.R_far (p := ⟨gb212, 3, none⟩) (Kd.R_far (p := ⟨gb212, 2, none⟩) (Kd.R_far (p := ⟨gb212, 1, none⟩) (Kd.R_far (p := ⟨gb212, 0, none⟩) (Kd.R_types HO205.out BK212.out (by decide)) (fun _ hk => hk.2) (.slice Ao86 t200.length co86)) (fun _ hk => hk.2) (.slice Ao88 t203.length co88)) (fun _ hk => hk.2) (.slice Ao89 t206.length co89)) (fun _ hk => hk.2) (.int .i64 t209)) (fun _ h_ => h_.1))) hb); have n3_ := Aside0.mk (Kd.R_below (by (with_reducible repeat (first | apply Kd.R_alloc | apply Kd.R_drewN | apply Kd.R_drew)); exact (Kd.R_mono (Kd.R_far (p := ⟨gb212, 3, none⟩) (Kd.R_far (p := ⟨gb212, 2, none⟩) (Kd.R_far (p := ⟨gb212, 1, none⟩) (Kd.R_far (p := ⟨gb212, 0, none⟩) (Kd.R_types HO208.out BK212.out (by decide)) (fun _ hk => hk.2) (.slice Ao86 t200.length co86)) (fun _ hk => hk.2) (.slice Ao88 t203.length co88)) (fun _ hk => hk.2) (.slice Ao89 t206.length co89)) (fun _ hk => hk.2) (.int .i64 t209)) (fun _ h_ => h_.1))) hb); have n4_ := Aside0.mk (blk_below (g := gb212) (o := .cells #[.slice Ao86 t200.length co86, .slice Ao88 t203.length co88, .slice Ao89 t206.length co89, .int .i64 t209] 27 (0, 0)) (by (with_reducible repeat (first | refine blk_drewN ?_ _ | refine blk_drew ?_ | refine blk_alloc ?_ _)); refine blk_put (cs := #[.slice Ao86 t200.length co86, .slice Ao88 t203.length co88, .slice Ao89 t206.length co89, .int .i64 0]) ?_ 3 _ rfl; (with_reducible repeat (first | refine blk_drewN ?_ _ | refine blk_drew ?_ | refine blk_alloc ?_ _)); refine blk_put (cs := #[.slice Ao86 t200.length co86, .slice Ao88 t203.length co88, .slice none 0 0, .int .i64 0]) ?_ 2 _ rfl; (with_reducible repeat (first | refine blk_drewN ?_ _ | refine blk_drew ?_ | refine blk_alloc ?_ _)); refine blk_put (cs := #[.slice Ao86 t200.length co86, .slice none 0 0, .slice none 0 0, .int .i64 0]) ?_ 1 _ rfl; (with_reducible repeat (first | refine blk_drewN ?_ _ | refine blk_drew ?_ | refine blk_alloc ?_ _)); refine blk_put (cs := #[.slice none 0 0, .slice none 0 0, .slice none 0 0, .int .i64 0]) ?_ 0 _ rfl; (with_reducible repeat (first | refine blk_drewN ?_ _ | refine blk_drew ?_ | refine blk_alloc ?_ _)); exact BK212.out) hb); have n5_ := Aside0.mk (below_step (by repeat (first | (with_reducible first | exact HB.out | apply below_alloc | apply pw_below_drewN | apply below_drew1 | refine below_set ?_ GE212.out) | exact HB.out)) hb); clear HO_5; clear HO202; clear HO205; clear HO208; clear BK212; clear HB; have HO_5 := n0_; have HO202 := n1_; have HO205 := n2_; have HO208 := n3_; have BK212 := n4_; have HB := n5_; clear n0_ n1_ n2_ n3_ n4_ n5_; (try clear hb); (try clear hb2); (try clear hk); (try clear hi)))
                        go_ret
                        exact ⟨by first | rfl | (simp [errW_none, errW_some] <;> rfl) | (simp [*, errW_none, errW_some] <;> rfl), by repeat (first | (with_reducible first | exact HB.out | apply below_alloc | apply pw_below_drewN | apply below_drew1 | refine below_set ?_ GE212.out) | exact HB.out)⟩
                    · rw [if_neg c61] at H
                      have c61b0 : (t210 == 0) = false := beq_eq_false_iff_ne.mpr c61
                      have c61b1 : (t210 != 0) = true := bne_iff_ne.mpr c61
                      obtain rfl := Option.some.inj H
                      obtain ⟨Ao91, co91, eo91⟩ := Kd.S_slice HO_5.out
                      subst eo91
                      go_wp2_with (first | ((with_reducible refine gate_callee (f := 19) rfl ?_); refine goesL_ (some 111) rfl rfl Tryd.func19 (by kernel_rfl) rfl #[.slice Ao91 x5_3.length co91] rfl (by (try simp only [List.map_toArray, List.map_cons, List.map_nil]); first | done | rfl | (simp only [List.length_drop, List.length_take]; rfl)) ?_; (with_reducible refine (relax_Assemble.calls _ _ x5_3 t200 t203 t206 t209 t210 t211 _ ?side1 ?side2 (Aside0.mk (hLaid_.out.below (by repeat (first | (with_reducible first | exact HB.out | apply below_alloc | apply pw_below_drewN | apply below_drew1) | refine below_set ?_ (Aside0.out (by assumption)) | exact HB.out)))) A58.out).mono ?_); (case side1 => repeat (first | exact (Kd.S_reads' HO_5.out).2.2 | (with_reducible refine Kd.C_alloc ?_ _) | (with_reducible refine Kd.C_drewN ?_ _) | (with_reducible refine Kd.C_drew ?_))); (case side2 => exact (Kd.S_reads' HO_5.out).2.1); rintro e w92 ⟨v201, v204, v207, rfl, ho0, ho1, ho2, hb⟩; refine ⟨_, rfl, ?_⟩; have n0_ := Aside0.mk (Kd.S_mono (Kd.S_told (Kd.S_told (Kd.S_old (by (with_reducible repeat (first | apply Kd.S_alloc | apply Kd.S_drewN | apply Kd.S_drew)); exact HO_5.out) hb) (Kd.R_base ho1)) (Kd.R_base ho2)) (fun _ h_ => h_.1)); have n1_ := Aside0.mk (Kd.R_lower ho0 (below_size (by repeat (first | (with_reducible first | exact HB.out | apply below_alloc | apply pw_below_drewN | apply below_drew1) | exact HB.out)))); have n2_ := Aside0.mk (Kd.R_lower ho1 (below_size (by repeat (first | (with_reducible first | exact HB.out | apply below_alloc | apply pw_below_drewN | apply below_drew1) | exact HB.out)))); have n3_ := Aside0.mk (Kd.R_lower ho2 (below_size (by repeat (first | (with_reducible first | exact HB.out | apply below_alloc | apply pw_below_drewN | apply below_drew1) | exact HB.out)))); have n4_ := Aside0.mk (below_step (by repeat (first | (with_reducible first | exact HB.out | apply below_alloc | apply pw_below_drewN | apply below_drew1) | exact HB.out)) hb); clear HO_5; clear HB; have HO_5 := n0_; have HO202 := n1_; have HO205 := n2_; have HO208 := n3_; have HB := n4_; clear n0_ n1_ n2_ n3_ n4_; (try clear hb); (try clear hb2); (try clear hk); (try clear hi); (try clear ho0); (try clear ho1); (try clear ho2)) | ((with_reducible refine gate_dst (N := 12) rfl ?_); (try (refine gate_guard (by rfl) ?_; dsimp only)); refine box_event ?hg (N := 12) ?hd (cs := #[.slice none 0 0, .slice none 0 0, .slice none 0 0, .int .i64 0]) (t := 27) ?hr ?_; (case hd => rfl); (case hg => rfl); (case hr => first | (go_simp; done) | (go_simp; rfl)); intro gb212 hg w93 hbox hb; have n0_ := Aside0.mk (Kd.S_below (by (with_reducible repeat (first | apply Kd.S_alloc | apply Kd.S_drewN | apply Kd.S_drew)); exact HO_5.out) hb); have n1_ := Aside0.mk (Kd.R_below (by (with_reducible repeat (first | apply Kd.R_alloc | apply Kd.R_drewN | apply Kd.R_drew)); exact HO202.out) hb); have n2_ := Aside0.mk (Kd.R_below (by (with_reducible repeat (first | apply Kd.R_alloc | apply Kd.R_drewN | apply Kd.R_drew)); exact HO205.out) hb); have n3_ := Aside0.mk (Kd.R_below (by (with_reducible repeat (first | apply Kd.R_alloc | apply Kd.R_drewN | apply Kd.R_drew)); exact HO208.out) hb); have n4_ := Aside0.mk (below_step (by repeat (first | (with_reducible first | exact HB.out | apply below_alloc | apply pw_below_drewN | apply below_drew1) | exact HB.out)) hb); have n5_ := Aside0.mk (hbox); have n6_ := Aside0.mk ((by rw [hg]; exact (below_size (by repeat (first | (with_reducible first | exact HB.out | apply below_alloc | apply pw_below_drewN | apply below_drew1) | exact HB.out))) : w.heap.size ≤ gb212)); have n7_ := Aside0.mk ((by rw [hg]; exact (below_size (by repeat (first | (with_reducible first | exact HB.out | apply below_alloc | apply pw_below_drewN | apply below_drew1) | exact HB.out))) : w.heap.size ≤ gb212)); clear HO_5; clear HO202; clear HO205; clear HO208; clear HB; have HO_5 := n0_; have HO202 := n1_; have HO205 := n2_; have HO208 := n3_; have HB := n4_; have BK212 := n5_; have GW212 := n6_; have GE212 := n7_; clear n0_ n1_ n2_ n3_ n4_ n5_ n6_ n7_; clear hb hbox hg; obtain ⟨Ao94, co94, eo94⟩ := Kd.R_slice HO202.out; subst eo94; have hcz95_0 : w93.cell? ⟨gb212, 0, none⟩ = some (.slice none 0 0) := (blk_cell BK212.out 0).trans rfl; have hcz95_1 : w93.cell? ⟨gb212, 1, none⟩ = some (.slice none 0 0) := (blk_cell BK212.out 1).trans rfl; have hcz95_2 : w93.cell? ⟨gb212, 2, none⟩ = some (.slice none 0 0) := (blk_cell BK212.out 2).trans rfl; have hcz95_3 : w93.cell? ⟨gb212, 3, none⟩ = some (.int .i64 0) := (blk_cell BK212.out 3).trans rfl; have hfz95_0 := blk_frozen BK212.out 0; have hfz95_1 := blk_frozen BK212.out 1; have hfz95_2 := blk_frozen BK212.out 2; have hfz95_3 := blk_frozen BK212.out 3; obtain ⟨Ao96, co96, eo96⟩ := Kd.R_slice HO205.out; subst eo96; obtain ⟨Ao97, co97, eo97⟩ := Kd.R_slice HO208.out; subst eo97) | ((with_reducible refine gate_callee (f := 21) rfl ?_); refine goesL_ (some 115) rfl rfl Tryd.func21 (by kernel_rfl) rfl #[] rfl (by (try simp only [List.map_toArray, List.map_cons, List.map_nil]); first | done | rfl | (simp only [List.length_drop, List.length_take]; rfl)) ?_; (with_reducible refine (switchbacklaw17_live.calls k3  true _ (Aside0.mk (hLaid_.out.below (by repeat (first | (with_reducible first | exact HB.out | apply below_alloc | apply pw_below_drewN | apply below_drew1) | refine below_set ?_ (Aside0.out (by assumption)) | exact HB.out)))) A59.out).mono ?_); rintro e w98 ⟨rfl, hb⟩; refine ⟨_, rfl, ?_⟩; have n0_ := Aside0.mk (Kd.S_below (by (with_reducible repeat (first | apply Kd.S_alloc | apply Kd.S_drewN | apply Kd.S_drew)); exact (Kd.S_mono (Kd.S_far (p := ⟨gb212, 3, none⟩) (Kd.S_far (p := ⟨gb212, 2, none⟩) (Kd.S_far (p := ⟨gb212, 1, none⟩) (Kd.S_far (p := ⟨gb212, 0, none⟩) (Kd.S_types HO_5.out BK212.out (by decide)) (fun _ hk => hk.2) (.slice Ao94 t200.length co94)) (fun _ hk => hk.2) (.slice Ao96 t203.length co96)) (fun _ hk => hk.2) (.slice Ao97 t206.length co97)) (fun _ hk => hk.2) (.int .i64 t209)) (fun _ h_ => h_.1))) hb); have n1_ := Aside0.mk (Kd.R_below (by (with_reducible repeat (first | apply Kd.R_alloc | apply Kd.R_drewN | apply Kd.R_drew)); exact (Kd.R_mono (Kd.R_far (p := ⟨gb212, 3, none⟩) (Kd.R_far (p := ⟨gb212, 2, none⟩) (Kd.R_far (p := ⟨gb212, 1, none⟩) (Kd.R_far (p := ⟨gb212, 0, none⟩) (Kd.R_types HO202.out BK212.out (by decide)) (fun _ hk => hk.2) (.slice Ao94 t200.length co94)) (fun _ hk => hk.2) (.slice Ao96 t203.length co96)) (fun _ hk => hk.2) (.slice Ao97 t206.length co97)) (fun _ hk => hk.2) (.int .i64 t209)) (fun _ h_ => h_.1))) hb); have n2_ := Aside0.mk (Kd.R_below (by (with_reducible repeat (first | apply Kd.R_alloc | apply Kd.R_drewN | apply Kd.R_drew)); exact (Kd.R_mono (Kd.R_far (p := ⟨gb212, 3, none⟩) (Kd.R_far (p := ⟨gb212, 2, none⟩) (Kd.R_far (p := ⟨gb212, 1, none⟩) (Kd.R_far (p := ⟨gb212, 0, none⟩) (Kd.R_types HO205.out BK212.out (by decide)) (fun _ hk => hk.2) (.slice Ao94 t200.length co94)) (fun _ hk => hk.2) (.slice Ao96 t203.length co96)) (fun _ hk => hk.2) (.slice Ao97 t206.length co97)) (fun _ hk => hk.2) (.int .i64 t209)) (fun _ h_ => h_.1))) hb); have n3_ := Aside0.mk (Kd.R_below (by (with_reducible repeat (first | apply Kd.R_alloc | apply Kd.R_drewN | apply Kd.R_drew)); exact (Kd.R_mono (Kd.R_far (p := ⟨gb212, 3, none⟩) (Kd.R_far (p := ⟨gb212, 2, none⟩) (Kd.R_far (p := ⟨gb212, 1, none⟩) (Kd.R_far (p := ⟨gb212, 0, none⟩) (Kd.R_types HO208.out BK212.out (by decide)) (fun _ hk => hk.2) (.slice Ao94 t200.length co94)) (fun _ hk => hk.2) (.slice Ao96 t203.length co96)) (fun _ hk => hk.2) (.slice Ao97 t206.length co97)) (fun _ hk => hk.2) (.int .i64 t209)) (fun _ h_ => h_.1))) hb); have n4_ := Aside0.mk (blk_below (g := gb212) (o := .cells #[.slice Ao94 t200.length co94, .slice Ao96 t203.length co96, .slice Ao97 t206.length co97, .int .i64 t209] 27 (0, 0)) (by (with_reducible repeat (first | refine blk_drewN ?_ _ | refine blk_drew ?_ | refine blk_alloc ?_ _)); refine blk_put (cs := #[.slice Ao94 t200.length co94, .slice Ao96 t203.length co96, .slice Ao97 t206.length co97, .int .i64 0]) ?_ 3 _ rfl; (with_reducible repeat (first | refine blk_drewN ?_ _ | refine blk_drew ?_ | refine blk_alloc ?_ _)); refine blk_put (cs := #[.slice Ao94 t200.length co94, .slice Ao96 t203.length co96, .slice none 0 0, .int .i64 0]) ?_ 2 _ rfl; (with_reducible repeat (first | refine blk_drewN ?_ _ | refine blk_drew ?_ | refine blk_alloc ?_ _)); refine blk_put (cs := #[.slice Ao94 t200.length co94, .slice none 0 0, .slice none 0 0, .int .i64 0]) ?_ 1 _ rfl; (with_reducible repeat (first | refine blk_drewN ?_ _ | refine blk_drew ?_ | refine blk_alloc ?_ _)); refine blk_put (cs := #[.slice none 0 0, .slice none 0 0, .slice none 0 0, .int .i64 0]) ?_ 0 _ rfl; (with_reducible repeat (first | refine blk_drewN ?_ _ | refine blk_drew ?_ | refine blk_alloc ?_ _)); exact BK212.out) hb); have n5_ := Aside0.mk (below_step (by repeat (first | (with_reducible first | exact HB.out | apply below_alloc | apply pw_below_drewN | apply below_drew1 | refine below_set ?_ GE212.out) | exact HB.out)) hb); clear HO_5; clear HO202; clear HO205; clear HO208; clear BK212; clear HB; have HO_5 := n0_; have HO202 := n1_; have HO205 := n2_; have HO208 := n3_; have BK212 := n4_; have HB := n5_; clear n0_ n1_ n2_ n3_ n4_ n5_; (try clear hb); (try clear hb2); (try clear hk); (try clear hi)))
                      go_ret
                      exact ⟨by first | rfl | (simp [errW_none, errW_some] <;> rfl) | (simp [*, errW_none, errW_some] <;> rfl), by repeat (first | (with_reducible first | exact HB.out | apply below_alloc | apply pw_below_drewN | apply below_drew1 | refine below_set ?_ GE212.out) | exact HB.out)⟩
                  · replace c60 := Bool.eq_false_iff.mpr c60
                    subst c60
                    have H1 : (some false) = some r := by rw [if_neg (show ¬ (false = true) by decide)] at H; exact H
                    clear H
                    have H := H1
                    clear H1
                    obtain rfl := Option.some.inj H
                    obtain ⟨Ao99, co99, eo99⟩ := Kd.S_slice HO_5.out
                    subst eo99
                    go_wp2_with (first | ((with_reducible refine gate_callee (f := 19) rfl ?_); refine goesL_ (some 111) rfl rfl Tryd.func19 (by kernel_rfl) rfl #[.slice Ao99 x5_3.length co99] rfl (by (try simp only [List.map_toArray, List.map_cons, List.map_nil]); first | done | rfl | (simp only [List.length_drop, List.length_take]; rfl)) ?_; (with_reducible refine (relax_Assemble.calls _ _ x5_3 t200 t203 t206 t209 t210 t211 _ ?side1 ?side2 (Aside0.mk (hLaid_.out.below (by repeat (first | (with_reducible first | exact HB.out | apply below_alloc | apply pw_below_drewN | apply below_drew1) | refine below_set ?_ (Aside0.out (by assumption)) | exact HB.out)))) A58.out).mono ?_); (case side1 => repeat (first | exact (Kd.S_reads' HO_5.out).2.2 | (with_reducible refine Kd.C_alloc ?_ _) | (with_reducible refine Kd.C_drewN ?_ _) | (with_reducible refine Kd.C_drew ?_))); (case side2 => exact (Kd.S_reads' HO_5.out).2.1); rintro e w100 ⟨v201, v204, v207, rfl, ho0, ho1, ho2, hb⟩; refine ⟨_, rfl, ?_⟩; have n0_ := Aside0.mk (Kd.S_mono (Kd.S_told (Kd.S_told (Kd.S_old (by (with_reducible repeat (first | apply Kd.S_alloc | apply Kd.S_drewN | apply Kd.S_drew)); exact HO_5.out) hb) (Kd.R_base ho1)) (Kd.R_base ho2)) (fun _ h_ => h_.1)); have n1_ := Aside0.mk (Kd.R_lower ho0 (below_size (by repeat (first | (with_reducible first | exact HB.out | apply below_alloc | apply pw_below_drewN | apply below_drew1) | exact HB.out)))); have n2_ := Aside0.mk (Kd.R_lower ho1 (below_size (by repeat (first | (with_reducible first | exact HB.out | apply below_alloc | apply pw_below_drewN | apply below_drew1) | exact HB.out)))); have n3_ := Aside0.mk (Kd.R_lower ho2 (below_size (by repeat (first | (with_reducible first | exact HB.out | apply below_alloc | apply pw_below_drewN | apply below_drew1) | exact HB.out)))); have n4_ := Aside0.mk (below_step (by repeat (first | (with_reducible first | exact HB.out | apply below_alloc | apply pw_below_drewN | apply below_drew1) | exact HB.out)) hb); clear HO_5; clear HB; have HO_5 := n0_; have HO202 := n1_; have HO205 := n2_; have HO208 := n3_; have HB := n4_; clear n0_ n1_ n2_ n3_ n4_; (try clear hb); (try clear hb2); (try clear hk); (try clear hi); (try clear ho0); (try clear ho1); (try clear ho2)) | ((with_reducible refine gate_dst (N := 12) rfl ?_); (try (refine gate_guard (by rfl) ?_; dsimp only)); refine box_event ?hg (N := 12) ?hd (cs := #[.slice none 0 0, .slice none 0 0, .slice none 0 0, .int .i64 0]) (t := 27) ?hr ?_; (case hd => rfl); (case hg => rfl); (case hr => first | (go_simp; done) | (go_simp; rfl)); intro gb212 hg w101 hbox hb; have n0_ := Aside0.mk (Kd.S_below (by (with_reducible repeat (first | apply Kd.S_alloc | apply Kd.S_drewN | apply Kd.S_drew)); exact HO_5.out) hb); have n1_ := Aside0.mk (Kd.R_below (by (with_reducible repeat (first | apply Kd.R_alloc | apply Kd.R_drewN | apply Kd.R_drew)); exact HO202.out) hb); have n2_ := Aside0.mk (Kd.R_below (by (with_reducible repeat (first | apply Kd.R_alloc | apply Kd.R_drewN | apply Kd.R_drew)); exact HO205.out) hb); have n3_ := Aside0.mk (Kd.R_below (by (with_reducible repeat (first | apply Kd.R_alloc | apply Kd.R_drewN | apply Kd.R_drew)); exact HO208.out) hb); have n4_ := Aside0.mk (below_step (by repeat (first | (with_reducible first | exact HB.out | apply below_alloc | apply pw_below_drewN | apply below_drew1) | exact HB.out)) hb); have n5_ := Aside0.mk (hbox); have n6_ := Aside0.mk ((by rw [hg]; exact (below_size (by repeat (first | (with_reducible first | exact HB.out | apply below_alloc | apply pw_below_drewN | apply below_drew1) | exact HB.out))) : w.heap.size ≤ gb212)); have n7_ := Aside0.mk ((by rw [hg]; exact (below_size (by repeat (first | (with_reducible first | exact HB.out | apply below_alloc | apply pw_below_drewN | apply below_drew1) | exact HB.out))) : w.heap.size ≤ gb212)); clear HO_5; clear HO202; clear HO205; clear HO208; clear HB; have HO_5 := n0_; have HO202 := n1_; have HO205 := n2_; have HO208 := n3_; have HB := n4_; have BK212 := n5_; have GW212 := n6_; have GE212 := n7_; clear n0_ n1_ n2_ n3_ n4_ n5_ n6_ n7_; clear hb hbox hg; obtain ⟨Ao102, co102, eo102⟩ := Kd.R_slice HO202.out; subst eo102; have hcz103_0 : w101.cell? ⟨gb212, 0, none⟩ = some (.slice none 0 0) := (blk_cell BK212.out 0).trans rfl; have hcz103_1 : w101.cell? ⟨gb212, 1, none⟩ = some (.slice none 0 0) := (blk_cell BK212.out 1).trans rfl; have hcz103_2 : w101.cell? ⟨gb212, 2, none⟩ = some (.slice none 0 0) := (blk_cell BK212.out 2).trans rfl; have hcz103_3 : w101.cell? ⟨gb212, 3, none⟩ = some (.int .i64 0) := (blk_cell BK212.out 3).trans rfl; have hfz103_0 := blk_frozen BK212.out 0; have hfz103_1 := blk_frozen BK212.out 1; have hfz103_2 := blk_frozen BK212.out 2; have hfz103_3 := blk_frozen BK212.out 3; obtain ⟨Ao104, co104, eo104⟩ := Kd.R_slice HO205.out; subst eo104; obtain ⟨Ao105, co105, eo105⟩ := Kd.R_slice HO208.out; subst eo105) | ((with_reducible refine gate_callee (f := 21) rfl ?_); refine goesL_ (some 115) rfl rfl Tryd.func21 (by kernel_rfl) rfl #[] rfl (by (try simp only [List.map_toArray, List.map_cons, List.map_nil]); first | done | rfl | (simp only [List.length_drop, List.length_take]; rfl)) ?_; (with_reducible refine (switchbacklaw17_live.calls k3  false _ (Aside0.mk (hLaid_.out.below (by repeat (first | (with_reducible first | exact HB.out | apply below_alloc | apply pw_below_drewN | apply below_drew1) | refine below_set ?_ (Aside0.out (by assumption)) | exact HB.out)))) A59.out).mono ?_); rintro e w106 ⟨rfl, hb⟩; refine ⟨_, rfl, ?_⟩; have n0_ := Aside0.mk (Kd.S_below (by (with_reducible repeat (first | apply Kd.S_alloc | apply Kd.S_drewN | apply Kd.S_drew)); exact (Kd.S_mono (Kd.S_far (p := ⟨gb212, 3, none⟩) (Kd.S_far (p := ⟨gb212, 2, none⟩) (Kd.S_far (p := ⟨gb212, 1, none⟩) (Kd.S_far (p := ⟨gb212, 0, none⟩) (Kd.S_types HO_5.out BK212.out (by decide)) (fun _ hk => hk.2) (.slice Ao102 t200.length co102)) (fun _ hk => hk.2) (.slice Ao104 t203.length co104)) (fun _ hk => hk.2) (.slice Ao105 t206.length co105)) (fun _ hk => hk.2) (.int .i64 t209)) (fun _ h_ => h_.1))) hb); have n1_ := Aside0.mk (Kd.R_below (by (with_reducible repeat (first | apply Kd.R_alloc | apply Kd.R_drewN | apply Kd.R_drew)); exact (Kd.R_mono (Kd.R_far (p := ⟨gb212, 3, none⟩) (Kd.R_far (p := ⟨gb212, 2, none⟩) (Kd.R_far (p := ⟨gb212, 1, none⟩) (Kd.R_far (p := ⟨gb212, 0, none⟩) (Kd.R_types HO202.out BK212.out (by decide)) (fun _ hk => hk.2) (.slice Ao102 t200.length co102)) (fun _ hk => hk.2) (.slice Ao104 t203.length co104)) (fun _ hk => hk.2) (.slice Ao105 t206.length co105)) (fun _ hk => hk.2) (.int .i64 t209)) (fun _ h_ => h_.1))) hb); have n2_ := Aside0.mk (Kd.R_below (by (with_reducible repeat (first | apply Kd.R_alloc | apply Kd.R_drewN | apply Kd.R_drew)); exact (Kd.R_mono (Kd.R_far (p := ⟨gb212, 3, none⟩) (Kd.R_far (p := ⟨gb212, 2, none⟩) (Kd.R_far (p := ⟨gb212, 1, none⟩) (Kd.R_far (p := ⟨gb212, 0, none⟩) (Kd.R_types HO205.out BK212.out (by decide)) (fun _ hk => hk.2) (.slice Ao102 t200.length co102)) (fun _ hk => hk.2) (.slice Ao104 t203.length co104)) (fun _ hk => hk.2) (.slice Ao105 t206.length co105)) (fun _ hk => hk.2) (.int .i64 t209)) (fun _ h_ => h_.1))) hb); have n3_ := Aside0.mk (Kd.R_below (by (with_reducible repeat (first | apply Kd.R_alloc | apply Kd.R_drewN | apply Kd.R_drew)); exact (Kd.R_mono (Kd.R_far (p := ⟨gb212, 3, none⟩) (Kd.R_far (p := ⟨gb212, 2, none⟩) (Kd.R_far (p := ⟨gb212, 1, none⟩) (Kd.R_far (p := ⟨gb212, 0, none⟩) (Kd.R_types HO208.out BK212.out (by decide)) (fun _ hk => hk.2) (.slice Ao102 t200.length co102)) (fun _ hk => hk.2) (.slice Ao104 t203.length co104)) (fun _ hk => hk.2) (.slice Ao105 t206.length co105)) (fun _ hk => hk.2) (.int .i64 t209)) (fun _ h_ => h_.1))) hb); have n4_ := Aside0.mk (blk_below (g := gb212) (o := .cells #[.slice Ao102 t200.length co102, .slice Ao104 t203.length co104, .slice Ao105 t206.length co105, .int .i64 t209] 27 (0, 0)) (by (with_reducible repeat (first | refine blk_drewN ?_ _ | refine blk_drew ?_ | refine blk_alloc ?_ _)); refine blk_put (cs := #[.slice Ao102 t200.length co102, .slice Ao104 t203.length co104, .slice Ao105 t206.length co105, .int .i64 0]) ?_ 3 _ rfl; (with_reducible repeat (first | refine blk_drewN ?_ _ | refine blk_drew ?_ | refine blk_alloc ?_ _)); refine blk_put (cs := #[.slice Ao102 t200.length co102, .slice Ao104 t203.length co104, .slice none 0 0, .int .i64 0]) ?_ 2 _ rfl; (with_reducible repeat (first | refine blk_drewN ?_ _ | refine blk_drew ?_ | refine blk_alloc ?_ _)); refine blk_put (cs := #[.slice Ao102 t200.length co102, .slice none 0 0, .slice none 0 0, .int .i64 0]) ?_ 1 _ rfl; (with_reducible repeat (first | refine blk_drewN ?_ _ | refine blk_drew ?_ | refine blk_alloc ?_ _)); refine blk_put (cs := #[.slice none 0 0, .slice none 0 0, .slice none 0 0, .int .i64 0]) ?_ 0 _ rfl; (with_reducible repeat (first | refine blk_drewN ?_ _ | refine blk_drew ?_ | refine blk_alloc ?_ _)); exact BK212.out) hb); have n5_ := Aside0.mk (below_step (by repeat (first | (with_reducible first | exact HB.out | apply below_alloc | apply pw_below_drewN | apply below_drew1 | refine below_set ?_ GE212.out) | exact HB.out)) hb); clear HO_5; clear HO202; clear HO205; clear HO208; clear BK212; clear HB; have HO_5 := n0_; have HO202 := n1_; have HO205 := n2_; have HO208 := n3_; have BK212 := n4_; have HB := n5_; clear n0_ n1_ n2_ n3_ n4_ n5_; (try clear hb); (try clear hb2); (try clear hk); (try clear hi)))
                    go_ret
                    exact ⟨by first | rfl | (simp [errW_none, errW_some] <;> rfl) | (simp [*, errW_none, errW_some] <;> rfl), by repeat (first | (with_reducible first | exact HB.out | apply below_alloc | apply pw_below_drewN | apply below_drew1 | refine below_set ?_ GE212.out) | exact HB.out)⟩

end Go.Proofs.YtamimnaafiphcaaDoor.PR1A
