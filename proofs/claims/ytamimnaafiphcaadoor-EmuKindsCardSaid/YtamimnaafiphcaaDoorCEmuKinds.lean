/- THE LAW EmuKinds: whatever the input, the call returns true and the input reads as it did; under no condition but the row's own: the listed variable holds what the program's text lays. -/
import Derived.Test.YtamimnaafiphcaaDoorPuE
import Derived.Test.YtamimnaafiphcaaDoorEmQ
import Derived.Test.YtamimnaafiphcaaDoorPR18x3
import Derived.Test.YtamimnaafiphcaaDoorPR18x47
import Derived.Test.YtamimnaafiphcaaDoorCards
import Derived.Test.YtamimnaafiphcaaDoorTie
import Derived.WalkKit
import Derived.ProofKit
import Derived.OpenShut
import Derived.Deep.DeepHandedRow
import Derived.Lib.LaidTab
import Derived.Lib.SmallJoins
import Derived.ChangeOld
import Derived.Carry
import Derived.ShutString
set_option linter.unusedVariables false
set_option linter.unusedSimpArgs false
set_option linter.unusedVariables false
set_option linter.unusedSimpArgs false
namespace Go.Proofs.YtamimnaafiphcaaDoor.PR18
open Go.RowKit Go.Proofs.YtamimnaafiphcaaDoorW.PrintWords Go.Proofs.YtamimnaafiphcaaDoorW.PrintLast Go.Proofs.YtamimnaafiphcaaDoorW.PrintMore

theorem copy18_f {W K D : List Int} {e : Int} (hW : W.length < 35184372088832) (hK : K.length < 17592186044416) (hD : D.length < 35184372088832) : switchbacklaw18_Copy.f W K D e = some (W, K, D, e) := by
  unfold switchbacklaw18_Copy.f
  rw [if_pos (by simpa using hW), if_pos (by simpa using hK), if_pos (by simpa using hD)]
  rfl

section
variable (W D : List Int) (e : Int) (s : ByteArray) (hW : w32s W = true) (hD : w32s D = true) (h1 : 1 ≤ W.length ∧ W.length ≤ 65536) (h2 : D.length ≤ 524288) (h3 : 0 ≤ e ∧ e < W.length) (hs : (s.size : Int) ≤ 10000)
include hW hD h1 h2 h3 hs

theorem kinds_end (a b d : Int) (o : ByteArray) (hr : (a, b, o, d) = ((runP W 30000 (mach0 D e s)).2.1, (runP W 30000 (mach0 D e s)).2.2, strOfNums (runP W 30000 (mach0 D e s)).1.out, (runP W 30000 (mach0 D e s)).1.steps)) (K : List Int) (hK : K.length = W.length) (hk : ∀ k ∈ K, 1 ≤ k ∧ k ≤ 3) :
    Ev (fun k => switchbacklaw18_EmuKinds.j1 k s a b o d W K D e) true := by
  have h0 : runErr (mayB W K D e) s.size 30000 = 0 := by rw [may_mk h1 h2 h3 hK hk]; exact err_ok (by decide) hs
  have hrun := run_f h0 hW hD (by decide)
  rw [show (30000 : Int).toNat = 30000 from rfl] at hrun
  simp only [Prod.mk.injEq] at hr
  obtain ⟨rfl, rfl, rfl, rfl⟩ := hr
  refine Ev.step (f := fun _ => some true) (fun k => ?_) (Ev.now _)
  simp only [switchbacklaw18_EmuKinds.j1]
  rw [hrun, live_f]
  generalize runP W 30000 (mach0 D e s) = R
  simp

theorem kinds_loop (a b d : Int) (o : ByteArray) (hr : (a, b, o, d) = ((runP W 30000 (mach0 D e s)).2.1, (runP W 30000 (mach0 D e s)).2.2, strOfNums (runP W 30000 (mach0 D e s)).1.out, (runP W 30000 (mach0 D e s)).1.steps)) (X : List Int) (hX : ∀ x ∈ X, -9223372036854775808 ≤ x ∧ x ≤ 9223372036854775807) :
    ∀ (n i : Nat) (K : List Int), K.length - i = n → i ≤ K.length → K.length = W.length → (∀ k ∈ K, 1 ≤ k ∧ k ≤ 3) → Ev (fun k => switchbacklaw18_EmuKinds.l0 k s X (i : Int) a b o d W K D e) true := by
  intro n
  induction n with
  | zero =>
    intro i K hn hi hK hk
    refine Ev.step (f := fun k => switchbacklaw18_EmuKinds.j1 k s a b o d W K D e) (fun k => ?_) (kinds_end W D e s hW hD h1 h2 h3 hs a b d o hr K hK hk)
    simp only [switchbacklaw18_EmuKinds.l0]
    rw [if_neg (by omega)]
  | succ n ih =>
    intro i K hn hi hK hk
    by_cases hx : i < X.length
    · have hm := hX X[i] (List.getElem_mem hx)
      obtain ⟨t, ht, t0, t1⟩ := pick_f (a := X[i]) (n := 3) hm.1 hm.2 (by decide)
      have hrd : rd X (i : Int) = X[i] := by unfold rd; simp [hx]
      refine Ev.step (f := fun k => switchbacklaw18_EmuKinds.l0 k s X ((i + 1 : Nat) : Int) a b o d W (K.set i (1 + t)) D e) (fun k => ?_) (ih (i + 1) (K.set i (1 + t)) (by rw [List.length_set]; omega) (by rw [List.length_set]; omega) (by rw [List.length_set]; exact hK) (fun y hy => ?_))
      · simp only [switchbacklaw18_EmuKinds.l0]
        rw [if_pos (by omega), if_pos (by omega), if_pos (by omega), hrd, ht]
        simp only [Option.bind_some]
        rw [wrap_i64 (x := (i : Int) + 1) (by omega) (by omega), wrap_i64 (x := 1 + t) (by omega) (by omega), Int.toNat_natCast]
        rfl
      · rcases List.mem_or_eq_of_mem_set hy with hy | hy
        · exact hk y hy
        · omega
    · refine Ev.step (f := fun k => switchbacklaw18_EmuKinds.j1 k s a b o d W K D e) (fun k => ?_) (kinds_end W D e s hW hD h1 h2 h3 hs a b d o hr K hK hk)
      simp only [switchbacklaw18_EmuKinds.l0]
      rw [if_pos (by omega), if_neg (by omega)]
end

theorem kinds_f (W K D : List Int) (e : Int) (s : ByteArray) (X : List Int) (hW : w32s W = true) (hD : w32s D = true) (hX : ∀ x ∈ X, -9223372036854775808 ≤ x ∧ x ≤ 9223372036854775807) : Ev (fun k => switchbacklaw18_EmuKinds.f k W K D e s X) true := by
  unfold switchbacklaw18_EmuKinds.f
  by_cases h0 : runErr (mayB W K D e) s.size 30000 = 0
  · have hm := may_of_err h0
    obtain ⟨h1, h2, h3, h4, h5⟩ := may_yes hm
    have hs : (s.size : Int) ≤ 10000 := by
      rw [hm] at h0
      unfold runErr at h0
      rw [if_neg (by decide)] at h0
      by_cases hc : (s.size : Int) > 10000
      · rw [if_pos hc] at h0; cases h0
      · omega
    rw [run_f h0 hW hD (by decide)]
    simp only [Option.bind_some, if_true]
    rw [copy18_f (by omega) (by omega) (by omega)]
    simp only [Option.bind_some]
    exact kinds_loop W D e s hW hD h1 h2 h3 hs _ _ _ _ rfl X hX K.length 0 K (by omega) (by omega) h4 h5
  · rw [run_no h0]
    simp only [Option.bind_some]
    simp only [if_neg h0]
    rw [live_f, no_bytes]
    exact Ev.now _

theorem kinds_row {A0 A1 A2 A3 : Option Addr} {c0 c1 c2 c3 : Nat} (l0 l1 l2 : List Int) (e : Int) (s : ByteArray) (l3 : List Int) (w : World) (hL : Laid w) (h0 : Kd.C (Kd.int .u32) w A0 l0.length l0) (w0 : ∀ y ∈ l0, (Lit.int .u32 y).wf = true) (k0 : l0.length ≤ c0) (h1 : Kd.C (Kd.int .i64) w A1 l1.length l1) (k1 : l1.length ≤ c1) (h2 : Kd.C (Kd.int .u32) w A2 l2.length l2) (w2 : ∀ y ∈ l2, (Lit.int .u32 y).wf = true) (k2 : l2.length ≤ c2)
    (h3 : Kd.C (Kd.int .i64) w A3 l3.length l3) (w3 : ∀ y ∈ l3, (Lit.int .i64 y).wf = true) (k3 : l3.length ≤ c3) : Calls Tryd.prog 12 #[.agg #[.slice A0 l0.length c0, .slice A1 l1.length c1, .slice A2 l2.length c2, .int .i64 e], .string s, .slice A3 l3.length c3] w fun e w' => e = .returned (.bool true) ∧ Below w.heap.size w w' := by
  obtain ⟨k, h⟩ := (kinds_f l0 l1 l2 e s l3 (w32s_of w0) (w32s_of w2) (fun x hx => wf64 (w3 x hx))).rounds
  exact switchbacklaw18_EmuKinds.calls k A0 c0 l0 A1 c1 l1 A2 c2 l2 e s A3 c3 l3 true w h0 k0 h1 k1 h2 k2 h3 k3 ⟨hL⟩ h

end Go.Proofs.YtamimnaafiphcaaDoor.PR18

namespace Go.Proofs.YtamimnaafiphcaaDoor.emuKinds
open Go.ChangeShapes Go.WideShapes Go.ChangeAt Go.RowKit Go.Joins
open Go.ChangeMaps (open_string)
theorem own : ownKnob Tryd.prog.godebug = none := by kernel_rfl
theorem laidOut : laidOutB Tryd.prog = true := by kernel_rfl
theorem gTab : Tryd.prog.globalNamed "switchback/enc.forms" = some 0 := by kernel_rfl
theorem gTabType : (Tryd.prog.globals[0]?).map (·.type) = some 133 := by kernel_rfl
theorem cellsTab : Tryd.prog.cellsOf 133 = 49 := by kernel_rfl
theorem cellsByte : Tryd.prog.cellsOf 5 = 1 := by kernel_rfl
theorem table {W : World} (h : laidMetH Tryd.prog Rows.emuKindsRow.laid W) : Lib.TabIs Tryd.prog W "switchback/enc.forms" .u8 tbl :=
  Lib.tabIs_of_head (rest := []) gTab gTabType Tryd.underlying133 Tryd.underlying5 cellsByte cellsTab h
theorem laid_of {W : World} (h : laidMetH Tryd.prog Rows.emuKindsRow.laid W) : Laid W := by
  have hc : ∀ i, i < 49 → W.cell? ⟨0, i, none⟩ = some (.int .u8 (tbl.getD i 9)) := fun i hi => by
    rw [(table h).cell gTab i hi]
    have : ∀ i, i < 49 → tbl.getD i 0 = tbl.getD i 9 := by decide
    rw [this i hi]
  exact ⟨lt_of_cell (hc 0 (by decide)), hc⟩
set_option maxRecDepth 100000 in
theorem contract (H : Type) (enc : TypeId × Value → H) (W : World) (base : Nat) (args : Array Value) (ds gs : List (DataW H)) (before : List MemPlace)
    (hval : ∀ (j : Nat) t v, Tryd.f12.params[j]? = some t → args[j]? = some v → Value.okWide Tryd.prog W .any base t v)
    (hW : DataW.Whole enc Tryd.prog Tryd.f12.params.toList Rows.emuKindsSpec.vars false W args.toList ds gs before) (hL : laidMetH Tryd.prog Rows.emuKindsRow.laid W) :
    Calls Tryd.prog 12 args W fun e W' => ∃ v, e = .returned v ∧ Rows.emuKindsSpec.post enc Tryd.prog Tryd.f12 false true false false W args v W' := by
  have hW' := hW
  obtain ⟨p, q, hA0, hV, rfl, hfz, hnd⟩ := hW
  have hA : DataW.TrodAll enc Tryd.prog W 0 (fun _ => true) true Tryd.f12.params.toList args.toList ds p := hA0
  rw [Tryd.params12] at hA hval
  obtain ⟨v0, vs0, d0, ds0, p0, q0, hargs, rfl, rfl, h0, r0⟩ := trodAll_cons hA
  obtain ⟨v1, vs1, d1, ds1, p1, q1, rfl, rfl, rfl, h1, r1⟩ := trodAll_cons r0
  obtain ⟨v2, vs2, d2, ds2, p2, q2, rfl, rfl, rfl, h2, r2⟩ := trodAll_cons r1
  obtain ⟨rfl, rfl, rfl⟩ := trodAll_nil r2
  obtain rfl : args = #[v0, v1, v2] := by cases args; simp_all
  obtain ⟨rfl, rfl⟩ := trodVars_none hV
  clear hA0
  have k0 := h0
  have lt0 : ∀ x ∈ p0, x.block < W.heap.size := by obtain ⟨m, hm⟩ := k0; exact DataW.trod_lt m _ _ _ hm
  obtain ⟨x0, y0, z0, u0, e0, f0, g0, j0, m0, rfl, rfl, rfl, b0, c0, l0, o0⟩ := open_agg4 Tryd.underlying59 (by kernel_rfl) (by kernel_rfl) (hval 0 59 v0 rfl rfl) h0
  obtain ⟨lsx0, Ax0, cx0, ex0, hlx0, hwx0, hcx0⟩ := open_u32s b0
  obtain rfl : x0 = .slice Ax0 lsx0.length cx0 := by simpa using ex0
  obtain ⟨lsy0, Ay0, cy0, ey0, hly0, hwy0, hcy0⟩ := open_ints c0
  obtain rfl : y0 = .slice Ay0 lsy0.length cy0 := by simpa using ey0
  obtain ⟨lsz0, Az0, cz0, ez0, hlz0, hwz0, hcz0⟩ := open_u32s l0
  obtain rfl : z0 = .slice Az0 lsz0.length cz0 := by simpa using ez0
  obtain ⟨nu0, eu0, rfl, wu0⟩ := DataW.trod_int Tryd.underlying3 o0
  obtain rfl : u0 = .int .i64 nu0 := by simpa using eu0
  have k1 := h1
  have lt1 : ∀ x ∈ p1, x.block < W.heap.size := by obtain ⟨m, hm⟩ := k1; exact DataW.trod_lt m _ _ _ hm
  obtain ⟨a1, rfl, rfl, rfl, w1⟩ := open_string Tryd.underlying9 (hval 1 9 v1 rfl rfl) h1
  have k2 := h2
  have lt2 : ∀ x ∈ p2, x.block < W.heap.size := by obtain ⟨m, hm⟩ := k2; exact DataW.trod_lt m _ _ _ hm
  obtain ⟨A2, n2, c2, rfl⟩ := okWide_slice Tryd.underlying25 (hval 2 25 v2 rfl rfl)
  obtain ⟨fu2, hfu2⟩ := h2
  obtain ⟨ls2, A'2, c'2, e2, hl2, hw2, hc2⟩ := open_ints hfu2
  replace e2 : [Value.slice A2 n2 c2] = [Value.slice A'2 ls2.length c'2] := e2
  injection e2 with e2 _
  injection e2 with ea2 eb2 ec2
  subst ea2; subst eb2; subst ec2
  refine (PR18.kinds_row lsx0 lsy0 lsz0 nu0 a1 ls2 W (laid_of hL) hlx0 hwx0 hcx0 hly0 hcy0 hlz0 hwz0 hcz0 hl2 hw2 hc2).mono fun e W' ⟨he, bel⟩ => ?_
  subst he
  exact ⟨_, rfl, _, _, _, [], _, [], hW', trodAll_mk1 (shut_bool Tryd.underlying4 _), (trodAll_cons_mk (Below.trod laidOut (by kernel_rfl) (of_decide_eq_true (by kernel_rfl)) k0 bel lt0) (trodAll_cons_mk (Below.trod laidOut (by kernel_rfl) (of_decide_eq_true (by kernel_rfl)) k1 bel lt1) (trodAll_cons_mk (Below.trod laidOut (by kernel_rfl) (of_decide_eq_true (by kernel_rfl)) k2 bel lt2) trodAll_mk0))), rfl, bel.frame _, fun h => by cases h⟩
noncomputable def laidWorld (os : Os) : World :=
  { World.holding Tryd.prog os ⟨#[], #[], []⟩ with heap := (World.holding Tryd.prog os ⟨#[], #[], []⟩).heap.modify 0 fun
      | .cells _ t frozen => .cells #[.int .u8 9, .int .u8 1, .int .u8 2, .int .u8 3, .int .u8 4, .int .u8 5, .int .u8 5, .int .u8 5, .int .u8 5, .int .u8 5, .int .u8 5, .int .u8 5, .int .u8 5, .int .u8 5, .int .u8 5, .int .u8 5, .int .u8 5, .int .u8 5, .int .u8 5, .int .u8 5, .int .u8 5, .int .u8 5, .int .u8 5, .int .u8 5, .int .u8 3, .int .u8 3, .int .u8 3, .int .u8 4, .int .u8 4, .int .u8 3, .int .u8 6, .int .u8 6, .int .u8 6, .int .u8 6, .int .u8 6, .int .u8 6, .int .u8 6, .int .u8 6, .int .u8 6, .int .u8 6, .int .u8 7, .int .u8 0, .int .u8 2, .int .u8 0, .int .u8 0, .int .u8 2, .int .u8 2, .int .u8 2, .int .u8 8] t frozen
      | o => o }
theorem laid_met (os : Os) : laidMet Tryd.prog Rows.emuKindsRow.laid ((laidWorld os).forCall (fun _ _ => 0) ⟨#[], #[.agg #[.slice none 0 0, .slice none 0 0, .slice none 0 0, .int .i64 0], .string ByteArray.empty, .slice none 0 0], []⟩).memory :=
  laidMet_of_run' 8 (by kernel_rfl) (by kernel_rfl)
theorem reads (os : Os) {H : Type} (enc : TypeId × Value → H) : ∃ places, DataW.whole enc Tryd.prog ((laidWorld os).forCall (fun _ _ => 0) ⟨#[], #[.agg #[.slice none 0 0, .slice none 0 0, .slice none 0 0, .int .i64 0], .string ByteArray.empty, .slice none 0 0], []⟩).memory Tryd.f12.params.toList Rows.emuKindsSpec.vars false (#[.agg #[.slice none 0 0, .slice none 0 0, .slice none 0 0, .int .i64 0], .string ByteArray.empty, .slice none 0 0] : Array Value).toList 8 = some ([.agg [.nil, .nil, .nil, .lit (.int .i64 0)], .lit (.string []), .nil], [], places) :=
  ⟨[], by kernel_rfl⟩
set_option maxRecDepth 100000 in
theorem lifted (os : Os) (started : os.Started) (H : Type) (enc : TypeId × Value → H) (F : Stop.Interp) :
    ReturnsInHanded {} Tryd.checked os 12 .any ((OpenSpec.ofChange Rows.emuKindsSpec).preRow enc Tryd.prog Tryd.f12 Rows.emuKindsRow.domain false Rows.emuKindsRow.laid) (((OpenSpec.ofChange Rows.emuKindsSpec).at F).post enc Tryd.prog Tryd.f12 false true false false) := by
  obtain ⟨places, hx⟩ := reads os enc
  refine returnsInHanded_of_row (C := Tryd.checked) (s := OpenSpec.ofChange Rows.emuKindsSpec) own started (by kernel_rfl) Tryd.func12
    (witness_row_at (enc := enc) (C := Tryd.checked) false (laidWorld os) #[.agg #[.slice none 0 0, .slice none 0 0, .slice none 0 0, .int .i64 0], .string ByteArray.empty, .slice none 0 0] rfl (by kernel_rfl) (by kernel_rfl) (by kernel_rfl)
      (OpenSpec.preRow_of_cond 8 hx (by kernel_rfl) (fun k hk => by cases hk) (by kernel_rfl) (laid_met os))) ?_
  intro W base args ds gs before hval hW _ _ _ hL _ _
  exact contract H enc W base args ds gs before hval hW hL
theorem said : Rows.EmuKindsSaid :=
  OpenClaim.holds_of_cond 12 Tryd.f12 rfl rfl rfl rfl rfl rfl rfl ⟨rfl, rfl, rfl, rfl, rfl⟩ rfl rfl rfl rfl rfl (by kernel_rfl) Tryd.func12 (by kernel_rfl)
    (of_decide_eq_true (by kernel_rfl)) (by unfold Func.isWrapper; first | (rw [if_pos (by decide +kernel)]; kernel_rfl) | (rw [if_neg (by decide +kernel)]; exact ⟨rfl, rfl⟩))
    (fun os started H enc _ F => by rw [OpenClaim.pre_eq_preRow]; exact lifted os started H enc F)
theorem plain (f : FuncId) (fn : Func) (hf : Tryd.pinned.checked.prog.funcNamed "switchback/switchbacklaw18.EmuKinds" = some f) (hfn : Tryd.pinned.checked.prog.funcs[f]? = some fn) :
    true = Tryd.pinned.checked.prog.looks [] ∧ ∀ (j : Nat) t, fn.params[j]? = some t → Tryd.pinned.checked.prog.wantsStandIn t = false := by
  obtain rfl : f = 12 := Option.some.inj ((show Tryd.prog.funcNamed "switchback/switchbacklaw18.EmuKinds" = some 12 by kernel_rfl).symm.trans hf) |>.symm
  obtain rfl : fn = Tryd.f12 := (Option.some.inj (Tryd.func12.symm.trans hfn)).symm
  refine ⟨by kernel_rfl, fun j t ht => ?_⟩
  rw [Tryd.params12] at ht
  have h : t ∈ [59, 9, 25] := by simpa using Array.mem_of_getElem? ht
  have s0 : Tryd.prog.wantsStandIn 59 = false := by kernel_rfl
  have s1 : Tryd.prog.wantsStandIn 9 = false := by kernel_rfl
  have s2 : Tryd.prog.wantsStandIn 25 = false := by kernel_rfl
  simp only [List.mem_cons, List.not_mem_nil, or_false] at h
  rcases h with rfl | rfl | rfl
  · exact s0
  · exact s1
  · exact s2
/-- The card. -/
theorem card : Rows.EmuKindsCardSaid :=
  Claim7.holds_tied_plain_at .later [] _ _ _ _ said (fun _ h => by cases h) (by kernel_rfl) (fun _ h => by cases h) emuKinds_row_tie rfl ⟨rfl, rfl⟩ (by kernel_rfl) rfl plain (by kernel_rfl)
#print axioms card
end Go.Proofs.YtamimnaafiphcaaDoor.emuKinds
