/- THE LAW EmuAny: whatever the input, the call returns true and the input reads as it did; under no condition but the row's own: the listed variable holds what the program's text lays. -/
import Derived.Test.YtamimnaafiphcaaDoorPuE
import Derived.Test.YtamimnaafiphcaaDoorEmQ
import Derived.Test.YtamimnaafiphcaaDoorPR18x48
import Derived.Test.YtamimnaafiphcaaDoorCards
import Derived.Test.YtamimnaafiphcaaDoorTie
import Derived.WalkKit
import Derived.ProofKit
import Derived.OpenShut
import Derived.Deep.DeepHandedRow
import Derived.Lib.LaidTab
import Derived.Lib.SmallJoins
import Derived.ChangeOld
import Derived.Carry
import Derived.ShutString
set_option linter.unusedVariables false
set_option linter.unusedSimpArgs false
set_option linter.unusedVariables false
set_option linter.unusedSimpArgs false
namespace Go.Proofs.YtamimnaafiphcaaDoor.PR18
open Go.RowKit Go.Proofs.YtamimnaafiphcaaDoorW.PrintWords Go.Proofs.YtamimnaafiphcaaDoorW.PrintLast Go.Proofs.YtamimnaafiphcaaDoorW.PrintMore

theorem any_end (F a b c : Int) (o : ByteArray) (h : a = 3 ∧ b = 0 ∧ c = F ∨ a = 1 ∨ a = 2 ∧ b ≤ 255) : Ev (fun k => switchbacklaw18_EmuAny.j2 k F false a b o c) true := by
  refine Ev.step (f := fun _ => some true) (fun k => ?_) (Ev.now _)
  simp only [switchbacklaw18_EmuAny.j2]
  rw [if_neg (by decide), live_f]
  simp only [Option.bind_some]
  rcases h with ⟨rfl, rfl, rfl⟩ | rfl | ⟨rfl, h⟩
  · simp
  · simp
  · simp [h]

theorem any_loop (W D : List Int) (e : Int) (s : ByteArray) (F : Int) (hW : w32s W = true) (hD : w32s D = true) (h1 : 1 ≤ W.length ∧ W.length ≤ 65536) (h2 : D.length ≤ 524288) (h3 : 0 ≤ e ∧ e < W.length) (hs : (s.size : Int) ≤ 10000) (hF : 0 ≤ F ∧ F ≤ 30000) :
    ∀ (d i : Nat) (K : List Int), K.length - i = d → i ≤ K.length → K.length = W.length → (∀ j, j < i → K.getD j 0 = 1) → Ev (fun k => switchbacklaw18_EmuAny.l0 k s F (i : Int) W K D e) true := by
  intro d
  induction d with
  | zero =>
    intro i K hd hi hK hj
    have hm : mayB W K D e = true := may_mk h1 h2 h3 hK fun x hx => by
      obtain ⟨j, hj', rfl⟩ := List.mem_iff_getElem.1 hx
      have := hj j (by omega)
      simp [List.getD, hj'] at this
      omega
    have h0 : runErr (mayB W K D e) s.size F = 0 := by rw [hm]; exact err_ok (by omega) hs
    obtain ⟨r1, _, r3⟩ := runP_ends W F.toNat (mach0 D e s)
    have hz : (mach0 D e s).steps = 0 := rfl
    have ho : (mach0 D e s).out = [] := rfl
    rw [hz] at r1 r3
    rw [ho] at r3
    refine Ev.step (f := fun k => switchbacklaw18_EmuAny.j2 k F false (runP W F.toNat (mach0 D e s)).2.1 (runP W F.toNat (mach0 D e s)).2.2 (strOfNums (runP W F.toNat (mach0 D e s)).1.out) (runP W F.toNat (mach0 D e s)).1.steps) (fun k => ?_) ?_
    · simp only [switchbacklaw18_EmuAny.l0]
      rw [if_neg (by omega), run_f h0 hW hD (by omega)]
      simp only [Option.bind_some]
      rw [if_pos trivial]
      have g1 : ¬ (runP W F.toNat (mach0 D e s)).1.steps < 0 := by rcases r1 with ⟨_, h⟩ | ⟨_, h, _⟩ <;> omega
      have g2 : ¬ (runP W F.toNat (mach0 D e s)).1.steps > F := by rcases r1 with ⟨_, h⟩ | ⟨_, _, h⟩ <;> omega
      rw [if_neg g1, if_neg g2, strOfNums_size, decide_eq_false]
      simp only [List.length_nil] at r3
      omega
    · refine any_end _ _ _ _ _ ?_
      rcases r1 with ⟨h, h'⟩ | ⟨h | ⟨h, h'⟩, _, _⟩
      · exact Or.inl ⟨by rw [h], by rw [h], by omega⟩
      · exact Or.inr (Or.inl h)
      · exact Or.inr (Or.inr ⟨h, h'⟩)
  | succ d ih =>
    intro i K hd hi hK hj
    refine Ev.step (f := fun k => switchbacklaw18_EmuAny.l0 k s F ((i + 1 : Nat) : Int) W (K.set i 1) D e) (fun k => ?_) (ih (i + 1) (K.set i 1) (by rw [List.length_set]; omega) (by rw [List.length_set]; omega) (by rw [List.length_set]; exact hK) (fun j hj' => ?_))
    · simp only [switchbacklaw18_EmuAny.l0]
      rw [if_pos (by omega), if_pos (by omega), wrap_i64 (x := (i : Int) + 1) (by omega) (by omega), Int.toNat_natCast]
      rfl
    · by_cases hji : i = j
      · subst hji
        simp [List.getD, show i < K.length by omega]
      · have := hj j (by omega)
        simpa [List.getD, List.getElem?_set_ne hji] using this

theorem any_f (W D : List Int) (a : Int) (s : ByteArray) (f : Int) (hW : w32s W = true) (hD : w32s D = true) (ha : -9223372036854775808 ≤ a ∧ a ≤ 9223372036854775807) (hf : -9223372036854775808 ≤ f ∧ f ≤ 9223372036854775807) : Ev (fun k => switchbacklaw18_EmuAny.f k W D a s f) true := by
  obtain ⟨F, hF, f0, f1⟩ := pick_f (a := f) (n := 30000) hf.1 hf.2 (by decide)
  have hno : Ev (fun k => switchbacklaw18_EmuAny.j0 k W D a s F true) true := by
    refine Ev.step (f := fun _ => some true) (fun k => ?_) (Ev.now _)
    simp [switchbacklaw18_EmuAny.j0, live_f]
  unfold switchbacklaw18_EmuAny.f
  rw [hF]
  simp only [Option.bind_some]
  by_cases h1 : (W.length : Int) = 0
  · simp only [if_pos h1]; exact hno
  simp only [if_neg h1]
  by_cases h2 : (W.length : Int) > 65536
  · simp only [if_pos h2]; exact hno
  simp only [if_neg h2]
  by_cases h3 : (D.length : Int) > 524288
  · simp only [if_pos h3]; exact hno
  simp only [if_neg h3]
  by_cases h4 : (s.size : Int) > 10000
  · rw [decide_eq_true h4]; exact hno
  rw [decide_eq_false h4]
  obtain ⟨e, he, e0, e1⟩ := pick_f (a := a) (n := (W.length : Int)) ha.1 ha.2 (by omega)
  have hl := any_loop W D e s F hW hD ⟨by omega, by omega⟩ (by omega) ⟨e0, e1⟩ (by omega) ⟨f0, by omega⟩ W.length 0 (List.replicate W.length 0) (by simp) (by simp) (by simp) (fun j hj => absurd hj (by omega))
  refine Ev.step (f := fun k => switchbacklaw18_EmuAny.l0 k s F ((0 : Nat) : Int) W (List.replicate W.length 0) D e) (fun k => ?_) hl
  simp only [switchbacklaw18_EmuAny.j0]
  rw [if_neg (by decide), he]
  simp only [Option.bind_some]
  rw [if_pos (by omega), if_pos (by omega), Int.toNat_natCast]
  rfl

theorem any_row {A0 A1 : Option Addr} {c0 c1 : Nat} (l0 l1 : List Int) (a2 : Int) (a3 : ByteArray) (a4 : Int) (w : World) (hL : Laid w) (h0 : Kd.C (Kd.int .u32) w A0 l0.length l0) (w0 : ∀ y ∈ l0, (Lit.int .u32 y).wf = true) (k0 : l0.length ≤ c0) (h1 : Kd.C (Kd.int .u32) w A1 l1.length l1) (w1 : ∀ y ∈ l1, (Lit.int .u32 y).wf = true) (k1 : l1.length ≤ c1)
    (w2 : (Lit.int .i64 a2).wf = true) (w4 : (Lit.int .i64 a4).wf = true) : Calls Tryd.prog 13 #[.slice A0 l0.length c0, .slice A1 l1.length c1, .int .i64 a2, .string a3, .int .i64 a4] w fun e w' => e = .returned (.bool true) ∧ Below w.heap.size w w' := by
  obtain ⟨k, h⟩ := (any_f l0 l1 a2 a3 a4 (w32s_of w0) (w32s_of w1) (wf64 w2) (wf64 w4)).rounds
  exact switchbacklaw18_EmuAny.calls k A0 c0 l0 A1 c1 l1 a2 a3 a4 true w h0 k0 h1 k1 ⟨hL⟩ h

end Go.Proofs.YtamimnaafiphcaaDoor.PR18

namespace Go.Proofs.YtamimnaafiphcaaDoor.emuAny
open Go.ChangeShapes Go.WideShapes Go.ChangeAt Go.RowKit Go.Joins
open Go.ChangeMaps (open_string)
theorem own : ownKnob Tryd.prog.godebug = none := by kernel_rfl
theorem laidOut : laidOutB Tryd.prog = true := by kernel_rfl
theorem gTab : Tryd.prog.globalNamed "switchback/enc.forms" = some 0 := by kernel_rfl
theorem gTabType : (Tryd.prog.globals[0]?).map (·.type) = some 133 := by kernel_rfl
theorem cellsTab : Tryd.prog.cellsOf 133 = 49 := by kernel_rfl
theorem cellsByte : Tryd.prog.cellsOf 5 = 1 := by kernel_rfl
theorem table {W : World} (h : laidMetH Tryd.prog Rows.emuAnyRow.laid W) : Lib.TabIs Tryd.prog W "switchback/enc.forms" .u8 tbl :=
  Lib.tabIs_of_head (rest := []) gTab gTabType Tryd.underlying133 Tryd.underlying5 cellsByte cellsTab h
theorem laid_of {W : World} (h : laidMetH Tryd.prog Rows.emuAnyRow.laid W) : Laid W := by
  have hc : ∀ i, i < 49 → W.cell? ⟨0, i, none⟩ = some (.int .u8 (tbl.getD i 9)) := fun i hi => by
    rw [(table h).cell gTab i hi]
    have : ∀ i, i < 49 → tbl.getD i 0 = tbl.getD i 9 := by decide
    rw [this i hi]
  exact ⟨lt_of_cell (hc 0 (by decide)), hc⟩
set_option maxRecDepth 100000 in
theorem contract (H : Type) (enc : TypeId × Value → H) (W : World) (base : Nat) (args : Array Value) (ds gs : List (DataW H)) (before : List MemPlace)
    (hval : ∀ (j : Nat) t v, Tryd.f13.params[j]? = some t → args[j]? = some v → Value.okWide Tryd.prog W .any base t v)
    (hW : DataW.Whole enc Tryd.prog Tryd.f13.params.toList Rows.emuAnySpec.vars false W args.toList ds gs before) (hL : laidMetH Tryd.prog Rows.emuAnyRow.laid W) :
    Calls Tryd.prog 13 args W fun e W' => ∃ v, e = .returned v ∧ Rows.emuAnySpec.post enc Tryd.prog Tryd.f13 false true false false W args v W' := by
  have hW' := hW
  obtain ⟨p, q, hA0, hV, rfl, hfz, hnd⟩ := hW
  have hA : DataW.TrodAll enc Tryd.prog W 0 (fun _ => true) true Tryd.f13.params.toList args.toList ds p := hA0
  rw [Tryd.params13] at hA hval
  obtain ⟨v0, vs0, d0, ds0, p0, q0, hargs, rfl, rfl, h0, r0⟩ := trodAll_cons hA
  obtain ⟨v1, vs1, d1, ds1, p1, q1, rfl, rfl, rfl, h1, r1⟩ := trodAll_cons r0
  obtain ⟨v2, vs2, d2, ds2, p2, q2, rfl, rfl, rfl, h2, r2⟩ := trodAll_cons r1
  obtain ⟨v3, vs3, d3, ds3, p3, q3, rfl, rfl, rfl, h3, r3⟩ := trodAll_cons r2
  obtain ⟨v4, vs4, d4, ds4, p4, q4, rfl, rfl, rfl, h4, r4⟩ := trodAll_cons r3
  obtain ⟨rfl, rfl, rfl⟩ := trodAll_nil r4
  obtain rfl : args = #[v0, v1, v2, v3, v4] := by cases args; simp_all
  obtain ⟨rfl, rfl⟩ := trodVars_none hV
  clear hA0
  have k0 := h0
  have lt0 : ∀ x ∈ p0, x.block < W.heap.size := by obtain ⟨m, hm⟩ := k0; exact DataW.trod_lt m _ _ _ hm
  obtain ⟨A0, n0, c0, rfl⟩ := okWide_slice Tryd.underlying24 (hval 0 24 v0 rfl rfl)
  obtain ⟨fu0, hfu0⟩ := h0
  obtain ⟨ls0, A'0, c'0, e0, hl0, hw0, hc0⟩ := open_u32s hfu0
  replace e0 : [Value.slice A0 n0 c0] = [Value.slice A'0 ls0.length c'0] := e0
  injection e0 with e0 _
  injection e0 with ea0 eb0 ec0
  subst ea0; subst eb0; subst ec0
  have k1 := h1
  have lt1 : ∀ x ∈ p1, x.block < W.heap.size := by obtain ⟨m, hm⟩ := k1; exact DataW.trod_lt m _ _ _ hm
  obtain ⟨A1, n1, c1, rfl⟩ := okWide_slice Tryd.underlying24 (hval 1 24 v1 rfl rfl)
  obtain ⟨fu1, hfu1⟩ := h1
  obtain ⟨ls1, A'1, c'1, e1, hl1, hw1, hc1⟩ := open_u32s hfu1
  replace e1 : [Value.slice A1 n1 c1] = [Value.slice A'1 ls1.length c'1] := e1
  injection e1 with e1 _
  injection e1 with ea1 eb1 ec1
  subst ea1; subst eb1; subst ec1
  have k2 := h2
  have lt2 : ∀ x ∈ p2, x.block < W.heap.size := by obtain ⟨m, hm⟩ := k2; exact DataW.trod_lt m _ _ _ hm
  obtain ⟨a2, rfl, rfl, rfl, w2⟩ := open_int Tryd.underlying3 (hval 2 3 v2 rfl rfl) h2
  have k3 := h3
  have lt3 : ∀ x ∈ p3, x.block < W.heap.size := by obtain ⟨m, hm⟩ := k3; exact DataW.trod_lt m _ _ _ hm
  obtain ⟨a3, rfl, rfl, rfl, w3⟩ := open_string Tryd.underlying9 (hval 3 9 v3 rfl rfl) h3
  have k4 := h4
  have lt4 : ∀ x ∈ p4, x.block < W.heap.size := by obtain ⟨m, hm⟩ := k4; exact DataW.trod_lt m _ _ _ hm
  obtain ⟨a4, rfl, rfl, rfl, w4⟩ := open_int Tryd.underlying3 (hval 4 3 v4 rfl rfl) h4
  refine (PR18.any_row ls0 ls1 a2 a3 a4 W (laid_of hL) hl0 hw0 hc0 hl1 hw1 hc1 w2 w4).mono fun e W' ⟨he, bel⟩ => ?_
  subst he
  exact ⟨_, rfl, _, _, _, [], _, [], hW', trodAll_mk1 (shut_bool Tryd.underlying4 _), (trodAll_cons_mk (Below.trod laidOut (by kernel_rfl) (of_decide_eq_true (by kernel_rfl)) k0 bel lt0) (trodAll_cons_mk (Below.trod laidOut (by kernel_rfl) (of_decide_eq_true (by kernel_rfl)) k1 bel lt1) (trodAll_cons_mk (Below.trod laidOut (by kernel_rfl) (of_decide_eq_true (by kernel_rfl)) k2 bel lt2) (trodAll_cons_mk (Below.trod laidOut (by kernel_rfl) (of_decide_eq_true (by kernel_rfl)) k3 bel lt3) (trodAll_cons_mk (Below.trod laidOut (by kernel_rfl) (of_decide_eq_true (by kernel_rfl)) k4 bel lt4) trodAll_mk0))))), rfl, bel.frame _, fun h => by cases h⟩
noncomputable def laidWorld (os : Os) : World :=
  { World.holding Tryd.prog os ⟨#[], #[], []⟩ with heap := (World.holding Tryd.prog os ⟨#[], #[], []⟩).heap.modify 0 fun
      | .cells _ t frozen => .cells #[.int .u8 9, .int .u8 1, .int .u8 2, .int .u8 3, .int .u8 4, .int .u8 5, .int .u8 5, .int .u8 5, .int .u8 5, .int .u8 5, .int .u8 5, .int .u8 5, .int .u8 5, .int .u8 5, .int .u8 5, .int .u8 5, .int .u8 5, .int .u8 5, .int .u8 5, .int .u8 5, .int .u8 5, .int .u8 5, .int .u8 5, .int .u8 5, .int .u8 3, .int .u8 3, .int .u8 3, .int .u8 4, .int .u8 4, .int .u8 3, .int .u8 6, .int .u8 6, .int .u8 6, .int .u8 6, .int .u8 6, .int .u8 6, .int .u8 6, .int .u8 6, .int .u8 6, .int .u8 6, .int .u8 7, .int .u8 0, .int .u8 2, .int .u8 0, .int .u8 0, .int .u8 2, .int .u8 2, .int .u8 2, .int .u8 8] t frozen
      | o => o }
theorem laid_met (os : Os) : laidMet Tryd.prog Rows.emuAnyRow.laid ((laidWorld os).forCall (fun _ _ => 0) ⟨#[], #[.slice none 0 0, .slice none 0 0, .int .i64 0, .string ByteArray.empty, .int .i64 0], []⟩).memory :=
  laidMet_of_run' 8 (by kernel_rfl) (by kernel_rfl)
theorem reads (os : Os) {H : Type} (enc : TypeId × Value → H) : ∃ places, DataW.whole enc Tryd.prog ((laidWorld os).forCall (fun _ _ => 0) ⟨#[], #[.slice none 0 0, .slice none 0 0, .int .i64 0, .string ByteArray.empty, .int .i64 0], []⟩).memory Tryd.f13.params.toList Rows.emuAnySpec.vars false (#[.slice none 0 0, .slice none 0 0, .int .i64 0, .string ByteArray.empty, .int .i64 0] : Array Value).toList 8 = some ([.nil, .nil, .lit (.int .i64 0), .lit (.string []), .lit (.int .i64 0)], [], places) :=
  ⟨[], by kernel_rfl⟩
set_option maxRecDepth 100000 in
theorem lifted (os : Os) (started : os.Started) (H : Type) (enc : TypeId × Value → H) (F : Stop.Interp) :
    ReturnsInHanded {} Tryd.checked os 13 .any ((OpenSpec.ofChange Rows.emuAnySpec).preRow enc Tryd.prog Tryd.f13 Rows.emuAnyRow.domain false Rows.emuAnyRow.laid) (((OpenSpec.ofChange Rows.emuAnySpec).at F).post enc Tryd.prog Tryd.f13 false true false false) := by
  obtain ⟨places, hx⟩ := reads os enc
  refine returnsInHanded_of_row (C := Tryd.checked) (s := OpenSpec.ofChange Rows.emuAnySpec) own started (by kernel_rfl) Tryd.func13
    (witness_row_at (enc := enc) (C := Tryd.checked) false (laidWorld os) #[.slice none 0 0, .slice none 0 0, .int .i64 0, .string ByteArray.empty, .int .i64 0] rfl (by kernel_rfl) (by kernel_rfl) (by kernel_rfl)
      (OpenSpec.preRow_of_cond 8 hx (by kernel_rfl) (fun k hk => by cases hk) (by kernel_rfl) (laid_met os))) ?_
  intro W base args ds gs before hval hW _ _ _ hL _ _
  exact contract H enc W base args ds gs before hval hW hL
theorem said : Rows.EmuAnySaid :=
  OpenClaim.holds_of_cond 13 Tryd.f13 rfl rfl rfl rfl rfl rfl rfl ⟨rfl, rfl, rfl, rfl, rfl⟩ rfl rfl rfl rfl rfl (by kernel_rfl) Tryd.func13 (by kernel_rfl)
    (of_decide_eq_true (by kernel_rfl)) (by unfold Func.isWrapper; first | (rw [if_pos (by decide +kernel)]; kernel_rfl) | (rw [if_neg (by decide +kernel)]; exact ⟨rfl, rfl⟩))
    (fun os started H enc _ F => by rw [OpenClaim.pre_eq_preRow]; exact lifted os started H enc F)
theorem plain (f : FuncId) (fn : Func) (hf : Tryd.pinned.checked.prog.funcNamed "switchback/switchbacklaw18.EmuAny" = some f) (hfn : Tryd.pinned.checked.prog.funcs[f]? = some fn) :
    true = Tryd.pinned.checked.prog.looks [] ∧ ∀ (j : Nat) t, fn.params[j]? = some t → Tryd.pinned.checked.prog.wantsStandIn t = false := by
  obtain rfl : f = 13 := Option.some.inj ((show Tryd.prog.funcNamed "switchback/switchbacklaw18.EmuAny" = some 13 by kernel_rfl).symm.trans hf) |>.symm
  obtain rfl : fn = Tryd.f13 := (Option.some.inj (Tryd.func13.symm.trans hfn)).symm
  refine ⟨by kernel_rfl, fun j t ht => ?_⟩
  rw [Tryd.params13] at ht
  have h : t ∈ [24, 24, 3, 9, 3] := by simpa using Array.mem_of_getElem? ht
  have s0 : Tryd.prog.wantsStandIn 24 = false := by kernel_rfl
  have s1 : Tryd.prog.wantsStandIn 3 = false := by kernel_rfl
  have s2 : Tryd.prog.wantsStandIn 9 = false := by kernel_rfl
  simp only [List.mem_cons, List.not_mem_nil, or_false] at h
  rcases h with rfl | rfl | rfl | rfl | rfl
  · exact s0
  · exact s0
  · exact s1
  · exact s2
  · exact s1
/-- The card. -/
theorem card : Rows.EmuAnyCardSaid :=
  Claim7.holds_tied_plain_at .later [] _ _ _ _ said (fun _ h => by cases h) (by kernel_rfl) (fun _ h => by cases h) emuAny_row_tie rfl ⟨rfl, rfl⟩ (by kernel_rfl) rfl plain (by kernel_rfl)
#print axioms card
end Go.Proofs.YtamimnaafiphcaaDoor.emuAny
