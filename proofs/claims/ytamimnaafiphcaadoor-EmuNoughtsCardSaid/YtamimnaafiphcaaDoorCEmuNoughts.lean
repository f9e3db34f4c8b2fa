/- THE LAW EmuNoughts: whatever the input, the call returns true and the input reads as it did; under no condition but the row's own: the listed variable holds what the program's text lays. -/
import Derived.Test.YtamimnaafiphcaaDoorPuE
import Derived.Test.YtamimnaafiphcaaDoorEmQ
import Derived.Test.YtamimnaafiphcaaDoorPR18x3
import Derived.Test.YtamimnaafiphcaaDoorPR18x50
import Derived.Test.YtamimnaafiphcaaDoorCards
import Derived.Test.YtamimnaafiphcaaDoorTie
import Derived.WalkKit
import Derived.ProofKit
import Derived.OpenShut
import Derived.Deep.DeepHandedRow
import Derived.Lib.LaidTab
import Derived.Lib.SmallJoins
import Derived.ChangeOld
import Derived.Carry
import Derived.ShutString
import Derived.SizedLaws
import Derived.Test.YtamimnaafiphcaaDoorWSized
set_option linter.unusedVariables false
set_option linter.unusedSimpArgs false
set_option linter.unusedVariables false
set_option linter.unusedSimpArgs false
namespace Go.Proofs.YtamimnaafiphcaaDoor.PR18
open Go.RowKit Go.Proofs.YtamimnaafiphcaaDoorW.PrintWords Go.Proofs.YtamimnaafiphcaaDoorW.PrintLast Go.Proofs.YtamimnaafiphcaaDoorW.PrintMore

theorem copy18c_f {W K D : List Int} {e : Int} (hW : W.length < 35184372088832) (hK : K.length < 17592186044416) (hD : D.length < 35184372088832) : switchbacklaw18_Copy.f W K D e = some (W, K, D, e) := by
  unfold switchbacklaw18_Copy.f
  rw [if_pos (by simpa using hW), if_pos (by simpa using hK), if_pos (by simpa using hD)]
  rfl

theorem noughts_f (W K D : List Int) (e : Int) (s : ByteArray) (f z : Int) (hW : w32s W = true) (hD : w32s D = true) (lW : W.length < 35184372088832) (lK : K.length < 17592186044416) (lD : D.length < 35184372088832) (hf : -9223372036854775808 ≤ f ∧ f ≤ 9223372036854775807) (hz : -9223372036854775808 ≤ z ∧ z ≤ 9223372036854775807) : switchbacklaw18_EmuNoughts.f W K D e s f z = some true := by
  obtain ⟨F, hF, f0, f1⟩ := pick_f (a := f) (n := 30000) hf.1 hf.2 (by decide)
  obtain ⟨Z, hZ, z0, z1⟩ := pick_f (a := z) (n := 5000) hz.1 hz.2 (by decide)
  unfold switchbacklaw18_EmuNoughts.f
  rw [hZ]
  simp only [Option.bind_some]
  rw [wrap_i64 (x := 524288 - Z) (by omega) (by omega)]
  by_cases hl : (D.length : Int) > 524288 - Z
  · rw [if_pos hl, live_f]; rfl
  rw [if_neg hl, copy18c_f lW lK lD]
  simp only [Option.bind_some]
  rw [if_pos z0, if_pos (by omega), hF]
  simp only [Option.bind_some]
  have em : mayB W K (D ++ List.replicate Z.toNat 0) e = mayB W K D e := by
    unfold mayB
    have e1 : decide ((D ++ List.replicate Z.toNat 0).length > 524288) = false := decide_eq_false (by rw [List.length_append, List.length_replicate]; omega)
    have e2 : decide (D.length > 524288) = false := decide_eq_false (by omega)
    rw [e1, e2]
  by_cases h0 : runErr (mayB W K D e) s.size F = 0
  · have hZD : w32s (D ++ List.replicate Z.toNat 0) = true := by
      unfold w32s at hD ⊢
      rw [List.all_append, hD, Bool.true_and, List.all_eq_true]
      intro x hx
      rw [List.eq_of_mem_replicate hx]
      decide
    have r1 := run_f h0 hW hD (by omega)
    have r2 := run_f (e := e) (K := K) (D := D ++ List.replicate Z.toNat 0) (s := s) (F := F) (by rw [em]; exact h0) hW hZD (by omega)
    have e0 : mach0 (D ++ List.replicate Z.toNat 0) e s = mach0 D e s := by
      unfold mach0
      rw [mem0_zeros D Z.toNat (by omega)]
    rw [e0] at r2
    rw [r1, r2, live_f]
    generalize runP W F.toNat (mach0 D e s) = R
    simp
  · rw [run_no h0, run_no (by rw [em]; exact h0), em, live_f]
    simp

theorem noughts_row {A0 A1 A2 : Option Addr} {c0 c1 c2 : Nat} (l0 l1 l2 : List Int) (e : Int) (s : ByteArray) (a b : Int) (w : World) (hL : Laid w) (h0 : Kd.C (Kd.int .u32) w A0 l0.length l0) (w0 : ∀ y ∈ l0, (Lit.int .u32 y).wf = true) (k0 : l0.length ≤ c0) (h1 : Kd.C (Kd.int .i64) w A1 l1.length l1) (k1 : l1.length ≤ c1) (h2 : Kd.C (Kd.int .u32) w A2 l2.length l2) (w2 : ∀ y ∈ l2, (Lit.int .u32 y).wf = true) (k2 : l2.length ≤ c2)
    (s0 : l0.length * 4 ≤ 140737488351232) (s1 : l1.length * 8 ≤ 140737488351232) (s2 : l2.length * 4 ≤ 140737488351232)
    (wa : (Lit.int .i64 a).wf = true) (wb : (Lit.int .i64 b).wf = true) : Calls Tryd.prog 15 #[.agg #[.slice A0 l0.length c0, .slice A1 l1.length c1, .slice A2 l2.length c2, .int .i64 e], .string s, .int .i64 a, .int .i64 b] w fun e w' => e = .returned (.bool true) ∧ Below w.heap.size w w' :=
  switchbacklaw18_EmuNoughts.calls A0 c0 l0 A1 c1 l1 A2 c2 l2 e s a b true w h0 k0 h1 k1 h2 k2 ⟨hL⟩ (noughts_f l0 l1 l2 e s a b (w32s_of w0) (w32s_of w2) (by omega) (by omega) (by omega) (wf64 wa) (wf64 wb))

end Go.Proofs.YtamimnaafiphcaaDoor.PR18

namespace Go.Proofs.YtamimnaafiphcaaDoor.emuNoughts
open Go.ChangeShapes Go.WideShapes Go.ChangeAt Go.RowKit Go.Joins
open Go.ChangeMaps (open_string)
theorem own : ownKnob Tryd.prog.godebug = none := by kernel_rfl
theorem laidOut : laidOutB Tryd.prog = true := by kernel_rfl
theorem gTab : Tryd.prog.globalNamed "switchback/enc.forms" = some 0 := by kernel_rfl
theorem gTabType : (Tryd.prog.globals[0]?).map (·.type) = some 133 := by kernel_rfl
theorem cellsTab : Tryd.prog.cellsOf 133 = 49 := by kernel_rfl
theorem cellsByte : Tryd.prog.cellsOf 5 = 1 := by kernel_rfl
theorem table {W : World} (h : laidMetH Tryd.prog Rows.emuNoughtsRow.laid W) : Lib.TabIs Tryd.prog W "switchback/enc.forms" .u8 tbl :=
  Lib.tabIs_of_head (rest := []) gTab gTabType Tryd.underlying133 Tryd.underlying5 cellsByte cellsTab h
theorem laid_of {W : World} (h : laidMetH Tryd.prog Rows.emuNoughtsRow.laid W) : Laid W := by
  have hc : ∀ i, i < 49 → W.cell? ⟨0, i, none⟩ = some (.int .u8 (tbl.getD i 9)) := fun i hi => by
    rw [(table h).cell gTab i hi]
    have : ∀ i, i < 49 → tbl.getD i 0 = tbl.getD i 9 := by decide
    rw [this i hi]
  exact ⟨lt_of_cell (hc 0 (by decide)), hc⟩
set_option maxRecDepth 100000 in
theorem contract (H : Type) (enc : TypeId × Value → H) (W : World) (base : Nat) (args : Array Value) (ds gs : List (DataW H)) (before : List MemPlace)
    (hval : ∀ (j : Nat) t v, Tryd.f15.params[j]? = some t → args[j]? = some v → Value.okWide Tryd.prog W .any base t v)
    (hW : DataW.Whole enc Tryd.prog Tryd.f15.params.toList Rows.emuNoughtsSpec.vars false W args.toList ds gs before) (hL : laidMetH Tryd.prog Rows.emuNoughtsRow.laid W) (hsz : (DataW.weightsEach Tryd.prog (Tryd.f15.params.toList ++ (OpenSpec.ofChange Rows.emuNoughtsSpec).bare.plain.varTypes Tryd.prog) (ds ++ gs)).all (· ≤ reachBytes) = true) :
    Calls Tryd.prog 15 args W fun e W' => ∃ v, e = .returned v ∧ Rows.emuNoughtsSpec.post enc Tryd.prog Tryd.f15 false true false false W args v W' := by
  have hW' := hW
  obtain ⟨p, q, hA0, hV, rfl, hfz, hnd⟩ := hW
  have hA : DataW.TrodAll enc Tryd.prog W 0 (fun _ => true) true Tryd.f15.params.toList args.toList ds p := hA0
  rw [Tryd.params15] at hA hval hsz
  obtain ⟨v0, vs0, d0, ds0, p0, q0, hargs, rfl, rfl, h0, r0⟩ := trodAll_cons hA
  obtain ⟨v1, vs1, d1, ds1, p1, q1, rfl, rfl, rfl, h1, r1⟩ := trodAll_cons r0
  obtain ⟨v2, vs2, d2, ds2, p2, q2, rfl, rfl, rfl, h2, r2⟩ := trodAll_cons r1
  obtain ⟨v3, vs3, d3, ds3, p3, q3, rfl, rfl, rfl, h3, r3⟩ := trodAll_cons r2
  obtain ⟨rfl, rfl, rfl⟩ := trodAll_nil r3
  obtain rfl : args = #[v0, v1, v2, v3] := by cases args; simp_all
  obtain ⟨rfl, rfl⟩ := trodVars_none hV
  clear hA0
  have k0 := h0
  have lt0 : ∀ x ∈ p0, x.block < W.heap.size := by obtain ⟨m, hm⟩ := k0; exact DataW.trod_lt m _ _ _ hm
  obtain ⟨x0, y0, z0, u0, e0, f0, g0, j0, m0, rfl, rfl, rfl, b0, c0, l0, o0⟩ := open_agg4 Tryd.underlying59 (by kernel_rfl) (by kernel_rfl) (hval 0 59 v0 rfl rfl) h0
  have hz0 : (DataW.weightsEach Tryd.prog [24, 25, 24, 3] [e0.1, f0.1, g0.1, j0.1]).all (· ≤ reachBytes) = true := by
    rw [List.all_eq_true]
    intro n hn
    exact List.all_eq_true.1 hsz n (DataW.weights_mem_each (j := 0) (t := 59) rfl rfl n (by simpa [DataW.weights, Tryd.underlying59] using hn))
  obtain ⟨lsx0, Ax0, cx0, ex0, hlx0, hwx0, hcx0⟩ := open_u32s b0
  obtain rfl : x0 = .slice Ax0 lsx0.length cx0 := by simpa using ex0
  have sx0 : lsx0.length * 4 ≤ 140737488351232 := Go.Proofs.YtamimnaafiphcaaDoorW.PrintWords.sized_ints hz0 (j := 0) (t := 24) rfl rfl Tryd.underlying24 Tryd.underlying38 (by kernel_rfl) (by kernel_rfl) ⟨_, b0⟩
  obtain ⟨lsy0, Ay0, cy0, ey0, hly0, hwy0, hcy0⟩ := open_ints c0
  obtain rfl : y0 = .slice Ay0 lsy0.length cy0 := by simpa using ey0
  have sy0 : lsy0.length * 8 ≤ 140737488351232 := Go.Proofs.YtamimnaafiphcaaDoorW.PrintWords.sized_ints hz0 (j := 1) (t := 25) rfl rfl Tryd.underlying25 Tryd.underlying3 (by kernel_rfl) (by kernel_rfl) ⟨_, c0⟩
  obtain ⟨lsz0, Az0, cz0, ez0, hlz0, hwz0, hcz0⟩ := open_u32s l0
  obtain rfl : z0 = .slice Az0 lsz0.length cz0 := by simpa using ez0
  have sz0 : lsz0.length * 4 ≤ 140737488351232 := Go.Proofs.YtamimnaafiphcaaDoorW.PrintWords.sized_ints hz0 (j := 2) (t := 24) rfl rfl Tryd.underlying24 Tryd.underlying38 (by kernel_rfl) (by kernel_rfl) ⟨_, l0⟩
  obtain ⟨nu0, eu0, rfl, wu0⟩ := DataW.trod_int Tryd.underlying3 o0
  obtain rfl : u0 = .int .i64 nu0 := by simpa using eu0
  have k1 := h1
  have lt1 : ∀ x ∈ p1, x.block < W.heap.size := by obtain ⟨m, hm⟩ := k1; exact DataW.trod_lt m _ _ _ hm
  obtain ⟨a1, rfl, rfl, rfl, w1⟩ := open_string Tryd.underlying9 (hval 1 9 v1 rfl rfl) h1
  have k2 := h2
  have lt2 : ∀ x ∈ p2, x.block < W.heap.size := by obtain ⟨m, hm⟩ := k2; exact DataW.trod_lt m _ _ _ hm
  obtain ⟨a2, rfl, rfl, rfl, w2⟩ := open_int Tryd.underlying3 (hval 2 3 v2 rfl rfl) h2
  have k3 := h3
  have lt3 : ∀ x ∈ p3, x.block < W.heap.size := by obtain ⟨m, hm⟩ := k3; exact DataW.trod_lt m _ _ _ hm
  obtain ⟨a3, rfl, rfl, rfl, w3⟩ := open_int Tryd.underlying3 (hval 3 3 v3 rfl rfl) h3
  refine (PR18.noughts_row lsx0 lsy0 lsz0 nu0 a1 a2 a3 W (laid_of hL) hlx0 hwx0 hcx0 hly0 hcy0 hlz0 hwz0 hcz0 sx0 sy0 sz0 w2 w3).mono fun e W' ⟨he, bel⟩ => ?_
  subst he
  exact ⟨_, rfl, _, _, _, [], _, [], hW', trodAll_mk1 (shut_bool Tryd.underlying4 _), (trodAll_cons_mk (Below.trod laidOut (by kernel_rfl) (of_decide_eq_true (by kernel_rfl)) k0 bel lt0) (trodAll_cons_mk (Below.trod laidOut (by kernel_rfl) (of_decide_eq_true (by kernel_rfl)) k1 bel lt1) (trodAll_cons_mk (Below.trod laidOut (by kernel_rfl) (of_decide_eq_true (by kernel_rfl)) k2 bel lt2) (trodAll_cons_mk (Below.trod laidOut (by kernel_rfl) (of_decide_eq_true (by kernel_rfl)) k3 bel lt3) trodAll_mk0)))), rfl, bel.frame _, fun h => by cases h⟩
noncomputable def laidWorld (os : Os) : World :=
  { World.holding Tryd.prog os ⟨#[], #[], []⟩ with heap := (World.holding Tryd.prog os ⟨#[], #[], []⟩).heap.modify 0 fun
      | .cells _ t frozen => .cells #[.int .u8 9, .int .u8 1, .int .u8 2, .int .u8 3, .int .u8 4, .int .u8 5, .int .u8 5, .int .u8 5, .int .u8 5, .int .u8 5, .int .u8 5, .int .u8 5, .int .u8 5, .int .u8 5, .int .u8 5, .int .u8 5, .int .u8 5, .int .u8 5, .int .u8 5, .int .u8 5, .int .u8 5, .int .u8 5, .int .u8 5, .int .u8 5, .int .u8 3, .int .u8 3, .int .u8 3, .int .u8 4, .int .u8 4, .int .u8 3, .int .u8 6, .int .u8 6, .int .u8 6, .int .u8 6, .int .u8 6, .int .u8 6, .int .u8 6, .int .u8 6, .int .u8 6, .int .u8 6, .int .u8 7, .int .u8 0, .int .u8 2, .int .u8 0, .int .u8 0, .int .u8 2, .int .u8 2, .int .u8 2, .int .u8 8] t frozen
      | o => o }
theorem laid_met (os : Os) : laidMet Tryd.prog Rows.emuNoughtsRow.laid ((laidWorld os).forCall (fun _ _ => 0) ⟨#[], #[.agg #[.slice none 0 0, .slice none 0 0, .slice none 0 0, .int .i64 0], .string ByteArray.empty, .int .i64 0, .int .i64 0], []⟩).memory :=
  laidMet_of_run' 8 (by kernel_rfl) (by kernel_rfl)
theorem reads (os : Os) {H : Type} (enc : TypeId × Value → H) : ∃ places, DataW.whole enc Tryd.prog ((laidWorld os).forCall (fun _ _ => 0) ⟨#[], #[.agg #[.slice none 0 0, .slice none 0 0, .slice none 0 0, .int .i64 0], .string ByteArray.empty, .int .i64 0, .int .i64 0], []⟩).memory Tryd.f15.params.toList Rows.emuNoughtsSpec.vars false (#[.agg #[.slice none 0 0, .slice none 0 0, .slice none 0 0, .int .i64 0], .string ByteArray.empty, .int .i64 0, .int .i64 0] : Array Value).toList 8 = some ([.agg [.nil, .nil, .nil, .lit (.int .i64 0)], .lit (.string []), .lit (.int .i64 0), .lit (.int .i64 0)], [], places) :=
  ⟨[], by kernel_rfl⟩
set_option maxRecDepth 100000 in
theorem lifted (os : Os) (started : os.Started) (H : Type) (enc : TypeId × Value → H) (F : Stop.Interp) :
    ReturnsInHanded {} Tryd.checked os 15 .any ((OpenSpec.ofChange Rows.emuNoughtsSpec).preRow enc Tryd.prog Tryd.f15 Rows.emuNoughtsRow.domain false Rows.emuNoughtsRow.laid) (((OpenSpec.ofChange Rows.emuNoughtsSpec).at F).post enc Tryd.prog Tryd.f15 false true false false) := by
  obtain ⟨places, hx⟩ := reads os enc
  refine returnsInHanded_of_row (C := Tryd.checked) (s := OpenSpec.ofChange Rows.emuNoughtsSpec) own started (by kernel_rfl) Tryd.func15
    (witness_row_at (enc := enc) (C := Tryd.checked) false (laidWorld os) #[.agg #[.slice none 0 0, .slice none 0 0, .slice none 0 0, .int .i64 0], .string ByteArray.empty, .int .i64 0, .int .i64 0] rfl (by kernel_rfl) (by kernel_rfl) (by kernel_rfl)
      (OpenSpec.preRow_of_cond 8 hx (by kernel_rfl) (fun k hk => by cases hk) (by kernel_rfl) (laid_met os))) ?_
  intro W base args ds gs before hval hW _ _ hsz hL _ _
  exact contract H enc W base args ds gs before hval hW hL hsz
theorem said : Rows.EmuNoughtsSaid :=
  OpenClaim.holds_of_cond 15 Tryd.f15 rfl rfl rfl rfl rfl rfl rfl ⟨rfl, rfl, rfl, rfl, rfl⟩ rfl rfl rfl rfl rfl (by kernel_rfl) Tryd.func15 (by kernel_rfl)
    (of_decide_eq_true (by kernel_rfl)) (by unfold Func.isWrapper; first | (rw [if_pos (by decide +kernel)]; kernel_rfl) | (rw [if_neg (by decide +kernel)]; exact ⟨rfl, rfl⟩))
    (fun os started H enc _ F => by rw [OpenClaim.pre_eq_preRow]; exact lifted os started H enc F)
theorem plain (f : FuncId) (fn : Func) (hf : Tryd.pinned.checked.prog.funcNamed "switchback/switchbacklaw18.EmuNoughts" = some f) (hfn : Tryd.pinned.checked.prog.funcs[f]? = some fn) :
    true = Tryd.pinned.checked.prog.looks [] ∧ ∀ (j : Nat) t, fn.params[j]? = some t → Tryd.pinned.checked.prog.wantsStandIn t = false := by
  obtain rfl : f = 15 := Option.some.inj ((show Tryd.prog.funcNamed "switchback/switchbacklaw18.EmuNoughts" = some 15 by kernel_rfl).symm.trans hf) |>.symm
  obtain rfl : fn = Tryd.f15 := (Option.some.inj (Tryd.func15.symm.trans hfn)).symm
  refine ⟨by kernel_rfl, fun j t ht => ?_⟩
  rw [Tryd.params15] at ht
  have h : t ∈ [59, 9, 3, 3] := by simpa using Array.mem_of_getElem? ht
  have s0 : Tryd.prog.wantsStandIn 59 = false := by kernel_rfl
  have s1 : Tryd.prog.wantsStandIn 9 = false := by kernel_rfl
  have s2 : Tryd.prog.wantsStandIn 3 = false := by kernel_rfl
  simp only [List.mem_cons, List.not_mem_nil, or_false] at h
  rcases h with rfl | rfl | rfl | rfl
  · exact s0
  · exact s1
  · exact s2
  · exact s2
/-- The card. -/
theorem card : Rows.EmuNoughtsCardSaid :=
  Claim7.holds_tied_plain_at .later [] _ _ _ _ said (fun _ h => by cases h) (by kernel_rfl) (fun _ h => by cases h) emuNoughts_row_tie rfl ⟨rfl, rfl⟩ (by kernel_rfl) rfl plain (by kernel_rfl)
#print axioms card
end Go.Proofs.YtamimnaafiphcaaDoor.emuNoughts
