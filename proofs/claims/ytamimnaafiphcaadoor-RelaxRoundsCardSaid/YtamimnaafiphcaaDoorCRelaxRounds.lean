/- THE LAW RelaxRounds: whatever the input, the call returns true and the input reads as it did; under no condition but the row's own: the listed variable holds what the program's text lays. -/
import Derived.Test.YtamimnaafiphcaaDoorRxU
import Derived.Test.YtamimnaafiphcaaDoorPR17x27
import Derived.Test.YtamimnaafiphcaaDoorRxO
import Derived.Test.YtamimnaafiphcaaDoorCards
import Derived.Test.YtamimnaafiphcaaDoorTie
import Derived.WalkKit
import Derived.ProofKit
import Derived.OpenShut
import Derived.Deep.DeepHandedRow
import Derived.Lib.LaidTab
import Derived.Lib.SmallJoins
import Derived.ChangeOld
import Derived.Carry
namespace Go.Proofs.YtamimnaafiphcaaDoor.PR17
open Go.RowKit Go.Proofs.YtamimnaafiphcaaDoorW.PrintWords Go.Proofs.YtamimnaafiphcaaDoorW.PrintLast Go.Proofs.YtamimnaafiphcaaDoorW.PrintMore

theorem branch16_f (n : Int) : switchbackref16_Branch.f n = some (isBr n) := by
  unfold switchbackref16_Branch.f isBr within
  by_cases h : n ≥ 30
  · rw [if_pos h, decide_eq_true (show (30 : Int) ≤ n from h), Bool.true_and]
  · rw [if_neg h, decide_eq_false (show ¬ (30 : Int) ≤ n from h), Bool.false_and]

theorem branch17_f (a b c d e f : Int) (l : List Int) : switchbackref17_Branch.f a b c d e f l = some (brOp a) := by
  unfold switchbackref17_Branch.f brOp
  rw [branch16_f]
  simp only [Option.bind_some]
  cases isBr a <;> simp

theorem wrap_i64 {x : Int} (h0 : -9223372036854775808 ≤ x) (h1 : x ≤ 9223372036854775807) : wrap64 x = x := by
  unfold wrap64
  omega

theorem rdT (l : List S40) (i : Nat) : rd_T40 l (i : Int) = l.getD i z40 := by unfold rd_T40; simp

theorem getD_line (l : List S40) (i : Nat) : toLine (l.getD i z40) = (l.map toLine).getD i default := by
  by_cases h : i < l.length
  · simp [List.getD, h]
  · simp [List.getD, show l.length ≤ i by omega]
    rfl

theorem branches_ev (l : List S40) (hn : l.length ≤ 60000) (d : Nat) : ∀ i : Nat, l.length - i = d → i ≤ l.length → Ev (fun k => switchbacklaw17_branches.l0 k l (brs (l.map toLine) i) i) ((brs (l.map toLine) l.length : Nat) : Int) := by
  induction d with
  | zero =>
    intro i hd hi
    have : i = l.length := by omega
    subst this
    exact Ev.step (f := fun _ => some ((brs (l.map toLine) l.length : Nat) : Int)) (fun k => by simp only [switchbacklaw17_branches.l0]; rw [if_neg (by omega)]) (Ev.now _)
  | succ d ih =>
    intro i hd hi
    have hlt : i < l.length := by omega
    have hb : brs (l.map toLine) i ≤ i := by unfold brs; exact Nat.le_trans (List.length_filter_le _ _) (by simp; omega)
    have hs := brs_succ (l.map toLine) i (toLine (l.getD i z40)) (by rw [List.getElem?_map, List.getD_eq_getElem?_getD, List.getElem?_eq_getElem hlt]; rfl)
    have hop : (toLine (l.getD i z40)).op = (l.getD i z40).f0 := rfl
    rw [hop] at hs
    refine Ev.step (f := fun k => switchbacklaw17_branches.l0 k l ((brs (l.map toLine) (i + 1) : Nat) : Int) ((i + 1 : Nat) : Int)) (fun k => ?_) (ih (i + 1) (by omega) (by omega))
    simp only [switchbacklaw17_branches.l0]
    rw [if_pos (by omega), if_pos (by omega), rdT, branch17_f, hs]
    simp only [Option.bind_some]
    rw [wrap_i64 (x := (i : Int) + 1) (by omega) (by omega), wrap_i64 (x := ((brs (l.map toLine) i : Nat) : Int) + 1) (by omega) (by omega)]
    cases brOp (l.getD i z40).f0 <;> simp

theorem branches_f (l : List S40) (hn : l.length ≤ 60000) : Ev (fun k => switchbacklaw17_branches.f k l) ((brs (l.map toLine) l.length : Nat) : Int) := branches_ev l hn l.length 0 (by omega) (by omega)

theorem live_f : Ev (fun k => switchbacklaw17_live.f k) true := by
  refine Ev.of (k := 20) (fun k => switchbacklaw17_live.mono k) ?_
  have e : relax_Assemble.f ([(⟨0, 0, 0, 0, 0, 7, ([] : List Int)⟩ : S40), (⟨44, 0, 0, 0, 0, 0, ([] : List Int)⟩ : S40), (⟨40, 0, 0, 0, 0, 7, ([] : List Int)⟩ : S40)] : List (S40)) = some ([738197504, 671154174], [1, 1], [0, 0, 1], 1, 0, 0) := by
    unfold relax_Assemble.f
    rw [if_pos (by decide)]
    have h : List.map toLine [(⟨0, 0, 0, 0, 0, 7, ([] : List Int)⟩ : S40), (⟨44, 0, 0, 0, 0, 0, ([] : List Int)⟩ : S40), (⟨40, 0, 0, 0, 0, 7, ([] : List Int)⟩ : S40)] = liveLs := rfl
    rw [h, asm_live]
    rfl
  unfold switchbacklaw17_live.f
  rw [e]
  show (if (0 : Int) = 0 then (if (0 : Int) = 0 then ((switchbacklaw17_Same.f 20 [738197504, 671154174] [1, 1] [0, 0, 1] 1 [738197504, 671154174] [1, 1] [0, 0, 1] 1).bind fun t => some t) else some false) else some false) = some true
  rw [if_pos rfl, if_pos rfl]
  kernel_rfl

theorem asm_ok (ls : List Line) (h : (asm ls).err = 0) : ls.length ≤ 60000 ∧ (asm ls).rounds = (fin ls).2 := by
  unfold asm at h ⊢
  by_cases h1 : (refusedP ls).2 ≠ 0
  · rw [if_pos h1] at h; exact absurd h h1
  · rw [if_neg h1] at h ⊢
    refine ⟨refused_ok ls (by simpa using h1), ?_⟩
    by_cases h2 : 65536 < pl ls (fin ls).1 ls.length
    · rw [if_pos h2] at h; cases h
    · rw [if_neg h2]

theorem asm_no (ls : List Line) (h : (asm ls).err ≠ 0) : (asm ls).rounds = 0 := by
  unfold asm at h ⊢
  by_cases h1 : (refusedP ls).2 ≠ 0
  · rw [if_pos h1]
  · rw [if_neg h1] at h ⊢
    by_cases h2 : 65536 < pl ls (fin ls).1 ls.length
    · rw [if_pos h2]
    · rw [if_neg h2] at h; exact absurd rfl h

theorem assemble_f {l : List S40} (hw : wfS l = true) : relax_Assemble.f l = some ((asm (l.map toLine)).words, (asm (l.map toLine)).kinds, (asm (l.map toLine)).places, ((asm (l.map toLine)).rounds : Int), ((asm (l.map toLine)).line : Int), (asm (l.map toLine)).err) := by
  unfold relax_Assemble.f
  rw [if_pos hw]

theorem rounds_f (l : List S40) (hw : wfS l = true) : Ev (fun k => switchbacklaw17_RelaxRounds.f k l) true := by
  unfold switchbacklaw17_RelaxRounds.f
  rw [assemble_f hw]
  simp only [Option.bind_some]
  refine Ev.bind live_f ?_
  simp only [if_true]
  by_cases he : (asm (l.map toLine)).err = 0
  · obtain ⟨hn, hr⟩ := asm_ok _ he
    have hf := fin_range (l.map toLine)
    rw [← hr] at hf
    rw [List.length_map] at hn hf
    have hbl : brs (l.map toLine) l.length ≤ l.length := by unfold brs; exact Nat.le_trans (List.length_filter_le _ _) (by simp)
    have h1 : ((asm (l.map toLine)).rounds : Int) ≥ 1 := by omega
    simp only [if_pos he, if_pos h1]
    refine Ev.bind (branches_f l hn) ?_
    rw [wrap_i64 (by omega) (by omega), decide_eq_true (by omega)]
    exact Ev.now _
  · have h0 : ((asm (l.map toLine)).rounds : Int) = 0 := by rw [asm_no _ he]; rfl
    simp only [if_neg he, if_pos h0]
    exact Ev.now _

end Go.Proofs.YtamimnaafiphcaaDoor.PR17

namespace Go.Proofs.YtamimnaafiphcaaDoor.PR17
open Go.RowKit Go.Proofs.YtamimnaafiphcaaDoorW.PrintWords Go.Proofs.YtamimnaafiphcaaDoorW.PrintLast Go.Proofs.YtamimnaafiphcaaDoorW.PrintMore

def ofLine (x : Line) : S40 := ⟨x.op, x.a, x.b, x.imm, x.n, x.label, x.list⟩

theorem of_lines {w : World} {A : Option Addr} {c : Nat} {ls : List Line} (h : Lines w (.slice A ls.length c) ls) : Kd.C k40 w A (ls.map ofLine).length (ls.map ofLine) := by
  obtain ⟨A', c', e, h1, h2, h3⟩ := h
  injection e with e1 e2 e3
  subst e1
  refine ⟨rfl, by simpa using h2, fun hp => ?_⟩
  obtain ⟨ad, e, hc⟩ := h3 (by simpa using hp)
  refine ⟨ad, e, fun i p hi => ?_⟩
  rw [List.getElem?_map, Option.map_eq_some_iff] at hi
  obtain ⟨x, hx, rfl⟩ := hi
  obtain ⟨cs, e1, e2, e3⟩ := hc i x hx
  exact ⟨cs, e1, e2, e3⟩

theorem wf_of {ls : List Line} (h : ∀ l ∈ ls, (Lit.int .i64 l.label).wf = true ∧ ∀ y ∈ l.list, (Lit.int .i64 y).wf = true) : wfS (ls.map ofLine) = true := by
  unfold wfS
  rw [List.all_eq_true]
  intro x hx
  obtain ⟨l, hl, rfl⟩ := List.mem_map.1 hx
  rw [Bool.and_eq_true]
  exact ⟨(h l hl).1, List.all_eq_true.2 fun y hy => (h l hl).2 y hy⟩

theorem rounds_row (ls : List Line) (A : Option Addr) (c : Nat) (w : World) (hL : Laid w) (hl : Lines w (.slice A ls.length c) ls) (hwf : ∀ l ∈ ls, (Lit.int .i64 l.label).wf = true ∧ ∀ y ∈ l.list, (Lit.int .i64 y).wf = true) (hc : ls.length ≤ c) :
    Calls Tryd.prog 4 #[.slice A ls.length c] w fun e w' => e = .returned (.bool true) ∧ Below w.heap.size w w' := by
  obtain ⟨k, h⟩ := (rounds_f (ls.map ofLine) (wf_of hwf)).rounds
  have := switchbacklaw17_RelaxRounds.calls k A c (ls.map ofLine) true w (of_lines hl) (by simpa using hc) ⟨hL⟩ h
  rwa [List.length_map] at this

end Go.Proofs.YtamimnaafiphcaaDoor.PR17

namespace Go.Proofs.YtamimnaafiphcaaDoor.relaxRounds
open Go.ChangeShapes Go.WideShapes Go.ChangeAt Go.RowKit Go.Joins
theorem own : ownKnob Tryd.prog.godebug = none := by kernel_rfl
theorem laidOut : laidOutB Tryd.prog = true := by kernel_rfl
theorem gTab : Tryd.prog.globalNamed "switchback/enc.forms" = some 0 := by kernel_rfl
theorem gTabType : (Tryd.prog.globals[0]?).map (·.type) = some 133 := by kernel_rfl
theorem cellsTab : Tryd.prog.cellsOf 133 = 49 := by kernel_rfl
theorem cellsByte : Tryd.prog.cellsOf 5 = 1 := by kernel_rfl
theorem table {W : World} (h : laidMetH Tryd.prog Rows.relaxRoundsRow.laid W) : Lib.TabIs Tryd.prog W "switchback/enc.forms" .u8 tbl :=
  Lib.tabIs_of_head (rest := []) gTab gTabType Tryd.underlying133 Tryd.underlying5 cellsByte cellsTab h
theorem laid_of {W : World} (h : laidMetH Tryd.prog Rows.relaxRoundsRow.laid W) : Laid W := by
  have hc : ∀ i, i < 49 → W.cell? ⟨0, i, none⟩ = some (.int .u8 (tbl.getD i 9)) := fun i hi => by
    rw [(table h).cell gTab i hi]
    have : ∀ i, i < 49 → tbl.getD i 0 = tbl.getD i 9 := by decide
    rw [this i hi]
  exact ⟨lt_of_cell (hc 0 (by decide)), hc⟩
set_option maxRecDepth 100000 in
theorem contract (H : Type) (enc : TypeId × Value → H) (W : World) (base : Nat) (args : Array Value) (ds gs : List (DataW H)) (before : List MemPlace)
    (hval : ∀ (j : Nat) t v, Tryd.f4.params[j]? = some t → args[j]? = some v → Value.okWide Tryd.prog W .any base t v)
    (hW : DataW.Whole enc Tryd.prog Tryd.f4.params.toList Rows.relaxRoundsSpec.vars false W args.toList ds gs before) (hL : laidMetH Tryd.prog Rows.relaxRoundsRow.laid W) :
    Calls Tryd.prog 4 args W fun e W' => ∃ v, e = .returned v ∧ Rows.relaxRoundsSpec.post enc Tryd.prog Tryd.f4 false true false false W args v W' := by
  have hW' := hW
  obtain ⟨p, q, hA0, hV, rfl, hfz, hnd⟩ := hW
  have hA : DataW.TrodAll enc Tryd.prog W 0 (fun _ => true) true Tryd.f4.params.toList args.toList ds p := hA0
  rw [Tryd.params4] at hA hval
  obtain ⟨v0, vs0, d0, ds0, p0, q0, hargs, rfl, rfl, h0, r0⟩ := trodAll_cons hA
  obtain ⟨rfl, rfl, rfl⟩ := trodAll_nil r0
  obtain rfl : args = #[v0] := by cases args; simp_all
  obtain ⟨rfl, rfl⟩ := trodVars_none hV
  clear hA0
  have k0 := h0
  have lt0 : ∀ x ∈ p0, x.block < W.heap.size := by obtain ⟨m, hm⟩ := k0; exact DataW.trod_lt m _ _ _ hm
  obtain ⟨A0, n0, c0, rfl⟩ := okWide_slice Tryd.underlying22 (hval 0 22 v0 rfl rfl)
  obtain ⟨fu0, hfu0⟩ := h0
  obtain ⟨ls0, A'0, c'0, e0, hl0, hw0, hc0⟩ := open_lines hfu0
  replace e0 : [Value.slice A0 n0 c0] = [Value.slice A'0 ls0.length c'0] := e0
  injection e0 with e0 _
  injection e0 with ea0 eb0 ec0
  subst ea0; subst eb0; subst ec0
  refine (PR17.rounds_row ls0 _ _ W (laid_of hL) hl0 hw0 hc0).mono fun e W' ⟨he, bel⟩ => ?_
  subst he
  exact ⟨_, rfl, _, _, _, [], _, [], hW', trodAll_mk1 (shut_bool Tryd.underlying4 _), (trodAll_cons_mk (Below.trod laidOut (by kernel_rfl) (of_decide_eq_true (by kernel_rfl)) k0 bel lt0) trodAll_mk0), rfl, bel.frame _, fun h => by cases h⟩
noncomputable def laidWorld (os : Os) : World :=
  { World.holding Tryd.prog os ⟨#[], #[], []⟩ with heap := (World.holding Tryd.prog os ⟨#[], #[], []⟩).heap.modify 0 fun
      | .cells _ t frozen => .cells #[.int .u8 9, .int .u8 1, .int .u8 2, .int .u8 3, .int .u8 4, .int .u8 5, .int .u8 5, .int .u8 5, .int .u8 5, .int .u8 5, .int .u8 5, .int .u8 5, .int .u8 5, .int .u8 5, .int .u8 5, .int .u8 5, .int .u8 5, .int .u8 5, .int .u8 5, .int .u8 5, .int .u8 5, .int .u8 5, .int .u8 5, .int .u8 5, .int .u8 3, .int .u8 3, .int .u8 3, .int .u8 4, .int .u8 4, .int .u8 3, .int .u8 6, .int .u8 6, .int .u8 6, .int .u8 6, .int .u8 6, .int .u8 6, .int .u8 6, .int .u8 6, .int .u8 6, .int .u8 6, .int .u8 7, .int .u8 0, .int .u8 2, .int .u8 0, .int .u8 0, .int .u8 2, .int .u8 2, .int .u8 2, .int .u8 8] t frozen
      | o => o }
theorem laid_met (os : Os) : laidMet Tryd.prog Rows.relaxRoundsRow.laid ((laidWorld os).forCall (fun _ _ => 0) ⟨#[], #[.slice none 0 0], []⟩).memory :=
  laidMet_of_run' 8 (by kernel_rfl) (by kernel_rfl)
theorem reads (os : Os) {H : Type} (enc : TypeId × Value → H) : ∃ places, DataW.whole enc Tryd.prog ((laidWorld os).forCall (fun _ _ => 0) ⟨#[], #[.slice none 0 0], []⟩).memory Tryd.f4.params.toList Rows.relaxRoundsSpec.vars false (#[.slice none 0 0] : Array Value).toList 8 = some ([.nil], [], places) :=
  ⟨[], by kernel_rfl⟩
set_option maxRecDepth 100000 in
theorem lifted (os : Os) (started : os.Started) (H : Type) (enc : TypeId × Value → H) (F : Stop.Interp) :
    ReturnsInHanded {} Tryd.checked os 4 .any ((OpenSpec.ofChange Rows.relaxRoundsSpec).preRow enc Tryd.prog Tryd.f4 Rows.relaxRoundsRow.domain false Rows.relaxRoundsRow.laid) (((OpenSpec.ofChange Rows.relaxRoundsSpec).at F).post enc Tryd.prog Tryd.f4 false true false false) := by
  obtain ⟨places, hx⟩ := reads os enc
  refine returnsInHanded_of_row (C := Tryd.checked) (s := OpenSpec.ofChange Rows.relaxRoundsSpec) own started (by kernel_rfl) Tryd.func4
    (witness_row_at (enc := enc) (C := Tryd.checked) false (laidWorld os) #[.slice none 0 0] rfl (by kernel_rfl) (by kernel_rfl) (by kernel_rfl)
      (OpenSpec.preRow_of_cond 8 hx (by kernel_rfl) (fun k hk => by cases hk) (by kernel_rfl) (laid_met os))) ?_
  intro W base args ds gs before hval hW _ _ _ hL _ _
  exact contract H enc W base args ds gs before hval hW hL
theorem said : Rows.RelaxRoundsSaid :=
  OpenClaim.holds_of_cond 4 Tryd.f4 rfl rfl rfl rfl rfl rfl rfl ⟨rfl, rfl, rfl, rfl, rfl⟩ rfl rfl rfl rfl rfl (by kernel_rfl) Tryd.func4 (by kernel_rfl)
    (of_decide_eq_true (by kernel_rfl)) (by unfold Func.isWrapper; first | (rw [if_pos (by decide +kernel)]; kernel_rfl) | (rw [if_neg (by decide +kernel)]; exact ⟨rfl, rfl⟩))
    (fun os started H enc _ F => by rw [OpenClaim.pre_eq_preRow]; exact lifted os started H enc F)
theorem plain (f : FuncId) (fn : Func) (hf : Tryd.pinned.checked.prog.funcNamed "switchback/switchbacklaw17.RelaxRounds" = some f) (hfn : Tryd.pinned.checked.prog.funcs[f]? = some fn) :
    true = Tryd.pinned.checked.prog.looks [] ∧ ∀ (j : Nat) t, fn.params[j]? = some t → Tryd.pinned.checked.prog.wantsStandIn t = false := by
  obtain rfl : f = 4 := Option.some.inj ((show Tryd.prog.funcNamed "switchback/switchbacklaw17.RelaxRounds" = some 4 by kernel_rfl).symm.trans hf) |>.symm
  obtain rfl : fn = Tryd.f4 := (Option.some.inj (Tryd.func4.symm.trans hfn)).symm
  refine ⟨by kernel_rfl, fun j t ht => ?_⟩
  rw [Tryd.params4] at ht
  have h : t ∈ [22] := by simpa using Array.mem_of_getElem? ht
  have s0 : Tryd.prog.wantsStandIn 22 = false := by kernel_rfl
  simp only [List.mem_cons, List.not_mem_nil, or_false] at h
  rcases h with rfl
  · exact s0
/-- The card. -/
theorem card : Rows.RelaxRoundsCardSaid :=
  Claim7.holds_tied_plain_at .later [] _ _ _ _ said (fun _ h => by cases h) (by kernel_rfl) (fun _ h => by cases h) relaxRounds_row_tie rfl ⟨rfl, rfl⟩ (by kernel_rfl) rfl plain (by kernel_rfl)
#print axioms card
end Go.Proofs.YtamimnaafiphcaaDoor.relaxRounds
