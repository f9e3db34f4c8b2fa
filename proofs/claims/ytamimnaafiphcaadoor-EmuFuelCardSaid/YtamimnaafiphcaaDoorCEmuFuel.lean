/- THE LAW EmuFuel: whatever the input, the call returns true and the input reads as it did; under no condition but the row's own: the listed variable holds what the program's text lays. -/
import Derived.Test.YtamimnaafiphcaaDoorPuE
import Derived.Test.YtamimnaafiphcaaDoorEmQ
import Derived.Test.YtamimnaafiphcaaDoorPR18x45
import Derived.Test.YtamimnaafiphcaaDoorPR18x46
import Derived.Test.YtamimnaafiphcaaDoorCards
import Derived.Test.YtamimnaafiphcaaDoorTie
import Derived.WalkKit
import Derived.ProofKit
import Derived.OpenShut
import Derived.Deep.DeepHandedRow
import Derived.Lib.LaidTab
import Derived.Lib.SmallJoins
import Derived.ChangeOld
import Derived.Carry
import Derived.ShutString
set_option linter.unusedVariables false
set_option linter.unusedSimpArgs false
set_option linter.unusedVariables false
set_option linter.unusedSimpArgs false
namespace Go.Proofs.YtamimnaafiphcaaDoor.PR18
open Go.RowKit Go.Proofs.YtamimnaafiphcaaDoorW.PrintWords Go.Proofs.YtamimnaafiphcaaDoorW.PrintLast Go.Proofs.YtamimnaafiphcaaDoorW.PrintMore

theorem begins_f {xs ys : List Int} (h : xs <+: ys) : switchbacklaw18_begins.f (strOfNums xs) (strOfNums ys) = some true := by
  obtain ⟨zs, rfl⟩ := h
  unfold switchbacklaw18_begins.f
  rw [strOfNums_size, strOfNums_size, if_pos (by rw [List.length_append]; omega), if_pos (by omega), Int.toNat_natCast]
  have e : (strOfNums (xs ++ zs)).extract 0 xs.length = strOfNums xs := by
    apply ByteArray.ext
    rw [ByteArray.data_extract]
    apply Array.toList_inj.1
    simp [strOfNums]
  rw [e, beq_self_eq_true]

section
variable (F G a b d a2 b2 d2 a3 b3 d3 : Int) (o o2 o3 : ByteArray)

theorem fuel_j2s : Ev (fun k => switchbacklaw18_EmuFuel.j2 k G true a b o d a b o d a3 b3 o3 d3) true := by
  refine Ev.step (f := fun _ => some true) (fun k => ?_) (Ev.now _)
  simp [switchbacklaw18_EmuFuel.j2, live_f]

theorem fuel_j2n (h1 : switchbacklaw18_begins.f o2 o = some true) (h2 : switchbacklaw18_begins.f o o3 = some true) : Ev (fun k => switchbacklaw18_EmuFuel.j2 k G false a b o d 3 0 o2 G a3 b3 o3 d3) true := by
  refine Ev.step (f := fun _ => some true) (fun k => ?_) (Ev.now _)
  simp [switchbacklaw18_EmuFuel.j2, live_f, h1, h2]

theorem fuel_j1a (h : Ev (fun k => switchbacklaw18_EmuFuel.j2 k G false 3 b o d a2 b2 o2 d2 a3 b3 o3 d3) true) : Ev (fun k => switchbacklaw18_EmuFuel.j1 k G false 3 b o d a2 b2 o2 d2 a3 b3 o3 d3) true :=
  Ev.step (fun k => by simp [switchbacklaw18_EmuFuel.j1]) h

theorem fuel_j1b (hn : a ≠ 3) (h : Ev (fun k => switchbacklaw18_EmuFuel.j2 k G (decide (G ≥ d)) a b o d a2 b2 o2 d2 a3 b3 o3 d3) true) : Ev (fun k => switchbacklaw18_EmuFuel.j1 k G false a b o d a2 b2 o2 d2 a3 b3 o3 d3) true :=
  Ev.step (fun k => by simp only [switchbacklaw18_EmuFuel.j1]; rw [if_neg (by decide), if_neg hn]) h

theorem fuel_j0a (h : Ev (fun k => switchbacklaw18_EmuFuel.j1 k G false 3 b o F a2 b2 o2 d2 a3 b3 o3 d3) true) : Ev (fun k => switchbacklaw18_EmuFuel.j0 k F G 0 0 0 false 3 b o F a2 b2 o2 d2 a3 b3 o3 d3) true :=
  Ev.step (fun k => by simp only [switchbacklaw18_EmuFuel.j0]; rw [if_neg (by decide), if_pos trivial, if_pos trivial, decide_eq_false (show ¬ F > F by omega)]) h

theorem fuel_j0b (hn : a ≠ 3) (h1 : 1 ≤ d) (h2 : d ≤ F) (h : Ev (fun k => switchbacklaw18_EmuFuel.j1 k G false a b o d a2 b2 o2 d2 a b o d) true) : Ev (fun k => switchbacklaw18_EmuFuel.j0 k F G 0 0 0 false a b o d a2 b2 o2 d2 a b o d) true :=
  Ev.step (fun k => by
    simp only [switchbacklaw18_EmuFuel.j0]
    rw [if_neg (by decide), if_neg hn, if_neg (by simp), if_neg (by omega), decide_eq_false (show ¬ d > F by omega)]) h
end

theorem fuel_f (W K D : List Int) (e : Int) (s : ByteArray) (f g : Int) (hW : w32s W = true) (hD : w32s D = true) (hf : -9223372036854775808 ≤ f ∧ f ≤ 9223372036854775807) (hg : -9223372036854775808 ≤ g ∧ g ≤ 9223372036854775807) : Ev (fun k => switchbacklaw18_EmuFuel.f k W K D e s f g) true := by
  obtain ⟨F, hF, f0, f1⟩ := pick_f (a := f) (n := 30000) hf.1 hf.2 (by decide)
  obtain ⟨G, hG, g0, g1⟩ := pick_f (a := g) (n := F + 1) hg.1 hg.2 (by omega)
  obtain ⟨X, hX, x0, x1⟩ := pick_f (a := G) (n := 100) (by omega) (by omega) (by decide)
  unfold switchbacklaw18_EmuFuel.f
  rw [hF]
  simp only [Option.bind_some]
  rw [wrap_i64 (x := F + 1) (by omega) (by omega), hG]
  simp only [Option.bind_some]
  rw [hX]
  simp only [Option.bind_some]
  rw [wrap_i64 (x := F + X) (by omega) (by omega)]
  have eG : runErr (mayB W K D e) s.size G = runErr (mayB W K D e) s.size F := err_fuel (by omega) (by omega)
  have eX : runErr (mayB W K D e) s.size (F + X) = runErr (mayB W K D e) s.size F := err_fuel (by omega) (by omega)
  by_cases h0 : runErr (mayB W K D e) s.size F = 0
  · rw [run_f h0 hW hD (by omega), run_f (eG.trans h0) hW hD (by omega), run_f (eX.trans h0) hW hD (by omega)]
    simp only [Option.bind_some, if_true]
    have hz : (mach0 D e s).steps = 0 := rfl
    have r1 := (runP_ends W F.toNat (mach0 D e s)).1
    have l1 := runP_less W F.toNat (mach0 D e s) G.toNat (by omega)
    have l2 := runP_less W (F + X).toNat (mach0 D e s) F.toNat (by omega)
    have s1 := runP_same W F.toNat (mach0 D e s)
    have s2 := runP_same W (F + X).toNat (mach0 D e s)
    have s3 := fun h => s1 h (F + X).toNat
    have s4 := fun h => s1 h G.toNat
    have s5 := fun h => s2 h F.toNat
    clear s1 s2
    rw [hz] at r1 l1 l2 s3 s4 s5
    have eF : ((F.toNat : Nat) : Int) = F := by omega
    have eG' : ((G.toNat : Nat) : Int) = G := by omega
    have eX' : (((F + X).toNat : Nat) : Int) = F + X := by omega
    rw [eF] at r1 l2 s5
    rw [eG'] at l1 s4
    rw [eX'] at s3
    generalize runP W F.toNat (mach0 D e s) = R1 at r1 l1 l2 s3 s4 s5 ⊢
    generalize runP W G.toNat (mach0 D e s) = R2 at l1 s4 ⊢
    generalize runP W (F + X).toNat (mach0 D e s) = R3 at l2 s3 s5 ⊢
    obtain ⟨m1, a1, b1⟩ := R1
    obtain ⟨m2, a2, b2⟩ := R2
    obtain ⟨m3, a3, b3⟩ := R3
    simp only [Prod.mk.injEq, ne_eq] at r1 l1 l2 s3 s4 s5
    show Ev (fun k => switchbacklaw18_EmuFuel.j0 k F G 0 0 0 (0 != (0 : Int)) a1 b1 (strOfNums m1.out) m1.steps a2 b2 (strOfNums m2.out) m2.steps a3 b3 (strOfNums m3.out) m3.steps) true
    rw [show ((0 : Int) != 0) = false from rfl]
    by_cases h3 : a1 = 3
    · subst h3
      have hst : m1.steps = F := by omega
      obtain ⟨⟨rfl, rfl⟩, q2, q3⟩ := l1 (Or.inr rfl)
      have hp : m1.out <+: m3.out := by
        by_cases h33 : a3 = 3
        · exact (l2 (Or.inr h33)).2.2
        · by_cases hlt : F + 0 < m3.steps
          · exact (l2 (Or.inl hlt)).2.2
          · obtain ⟨_, rfl, _⟩ := s5 h33 (by omega)
            exact absurd rfl h33
      rw [hst, show m2.steps = G by omega]
      exact fuel_j0a _ _ _ _ _ _ _ _ _ _ _ _ (fuel_j1a _ _ _ _ _ _ _ _ _ _ _ _ (fuel_j2n _ _ _ _ _ _ _ _ _ _ (begins_f q3) (begins_f hp)))
    · obtain ⟨_, t1, t2⟩ : (a1 = 1 ∨ a1 = 2 ∧ b1 ≤ 255) ∧ 0 + 1 ≤ m1.steps ∧ m1.steps ≤ 0 + F := by
        rcases r1 with ⟨⟨h, _⟩, _⟩ | h
        · exact absurd h h3
        · exact h
      obtain ⟨rfl, rfl, rfl⟩ := s3 h3 (by omega)
      refine fuel_j0b _ _ _ _ _ _ _ _ _ _ h3 (by omega) (by omega) (fuel_j1b _ _ _ _ _ _ _ _ _ _ _ _ _ h3 ?_)
      by_cases hG2 : G ≥ m3.steps
      · obtain ⟨rfl, rfl, rfl⟩ := s4 h3 (by omega)
        rw [decide_eq_true hG2]
        exact fuel_j2s _ _ _ _ _ _ _ _ _
      · rw [decide_eq_false hG2]
        obtain ⟨⟨rfl, rfl⟩, q2, q3⟩ := l1 (Or.inl (by omega))
        rw [show m2.steps = G by omega]
        exact fuel_j2n _ _ _ _ _ _ _ _ _ _ (begins_f q3) (begins_f (List.prefix_refl _))
  · rw [run_no h0, run_no (fun h => h0 (eG.symm.trans h)), run_no (fun h => h0 (eX.symm.trans h)), eG, eX]
    generalize runErr (mayB W K D e) s.size F = E at h0 ⊢
    simp only [Option.bind_some, if_true]
    refine Ev.step (f := fun _ => some true) (fun k => ?_) (Ev.now _)
    simp [switchbacklaw18_EmuFuel.j0, live_f, h0, no_bytes]

theorem fuel_row {A0 A1 A2 : Option Addr} {c0 c1 c2 : Nat} (l0 l1 l2 : List Int) (e : Int) (s : ByteArray) (a b : Int) (w : World) (hL : Laid w) (h0 : Kd.C (Kd.int .u32) w A0 l0.length l0) (w0 : ∀ y ∈ l0, (Lit.int .u32 y).wf = true) (k0 : l0.length ≤ c0) (h1 : Kd.C (Kd.int .i64) w A1 l1.length l1) (k1 : l1.length ≤ c1) (h2 : Kd.C (Kd.int .u32) w A2 l2.length l2) (w2 : ∀ y ∈ l2, (Lit.int .u32 y).wf = true) (k2 : l2.length ≤ c2)
    (wa : (Lit.int .i64 a).wf = true) (wb : (Lit.int .i64 b).wf = true) : Calls Tryd.prog 11 #[.agg #[.slice A0 l0.length c0, .slice A1 l1.length c1, .slice A2 l2.length c2, .int .i64 e], .string s, .int .i64 a, .int .i64 b] w fun e w' => e = .returned (.bool true) ∧ Below w.heap.size w w' := by
  obtain ⟨k, h⟩ := (fuel_f l0 l1 l2 e s a b (w32s_of w0) (w32s_of w2) (wf64 wa) (wf64 wb)).rounds
  exact switchbacklaw18_EmuFuel.calls k A0 c0 l0 A1 c1 l1 A2 c2 l2 e s a b true w h0 k0 h1 k1 h2 k2 ⟨hL⟩ h

end Go.Proofs.YtamimnaafiphcaaDoor.PR18

namespace Go.Proofs.YtamimnaafiphcaaDoor.emuFuel
open Go.ChangeShapes Go.WideShapes Go.ChangeAt Go.RowKit Go.Joins
open Go.ChangeMaps (open_string)
theorem own : ownKnob Tryd.prog.godebug = none := by kernel_rfl
theorem laidOut : laidOutB Tryd.prog = true := by kernel_rfl
theorem gTab : Tryd.prog.globalNamed "switchback/enc.forms" = some 0 := by kernel_rfl
theorem gTabType : (Tryd.prog.globals[0]?).map (·.type) = some 133 := by kernel_rfl
theorem cellsTab : Tryd.prog.cellsOf 133 = 49 := by kernel_rfl
theorem cellsByte : Tryd.prog.cellsOf 5 = 1 := by kernel_rfl
theorem table {W : World} (h : laidMetH Tryd.prog Rows.emuFuelRow.laid W) : Lib.TabIs Tryd.prog W "switchback/enc.forms" .u8 tbl :=
  Lib.tabIs_of_head (rest := []) gTab gTabType Tryd.underlying133 Tryd.underlying5 cellsByte cellsTab h
theorem laid_of {W : World} (h : laidMetH Tryd.prog Rows.emuFuelRow.laid W) : Laid W := by
  have hc : ∀ i, i < 49 → W.cell? ⟨0, i, none⟩ = some (.int .u8 (tbl.getD i 9)) := fun i hi => by
    rw [(table h).cell gTab i hi]
    have : ∀ i, i < 49 → tbl.getD i 0 = tbl.getD i 9 := by decide
    rw [this i hi]
  exact ⟨lt_of_cell (hc 0 (by decide)), hc⟩
set_option maxRecDepth 100000 in
theorem contract (H : Type) (enc : TypeId × Value → H) (W : World) (base : Nat) (args : Array Value) (ds gs : List (DataW H)) (before : List MemPlace)
    (hval : ∀ (j : Nat) t v, Tryd.f11.params[j]? = some t → args[j]? = some v → Value.okWide Tryd.prog W .any base t v)
    (hW : DataW.Whole enc Tryd.prog Tryd.f11.params.toList Rows.emuFuelSpec.vars false W args.toList ds gs before) (hL : laidMetH Tryd.prog Rows.emuFuelRow.laid W) :
    Calls Tryd.prog 11 args W fun e W' => ∃ v, e = .returned v ∧ Rows.emuFuelSpec.post enc Tryd.prog Tryd.f11 false true false false W args v W' := by
  have hW' := hW
  obtain ⟨p, q, hA0, hV, rfl, hfz, hnd⟩ := hW
  have hA : DataW.TrodAll enc Tryd.prog W 0 (fun _ => true) true Tryd.f11.params.toList args.toList ds p := hA0
  rw [Tryd.params11] at hA hval
  obtain ⟨v0, vs0, d0, ds0, p0, q0, hargs, rfl, rfl, h0, r0⟩ := trodAll_cons hA
  obtain ⟨v1, vs1, d1, ds1, p1, q1, rfl, rfl, rfl, h1, r1⟩ := trodAll_cons r0
  obtain ⟨v2, vs2, d2, ds2, p2, q2, rfl, rfl, rfl, h2, r2⟩ := trodAll_cons r1
  obtain ⟨v3, vs3, d3, ds3, p3, q3, rfl, rfl, rfl, h3, r3⟩ := trodAll_cons r2
  obtain ⟨rfl, rfl, rfl⟩ := trodAll_nil r3
  obtain rfl : args = #[v0, v1, v2, v3] := by cases args; simp_all
  obtain ⟨rfl, rfl⟩ := trodVars_none hV
  clear hA0
  have k0 := h0
  have lt0 : ∀ x ∈ p0, x.block < W.heap.size := by obtain ⟨m, hm⟩ := k0; exact DataW.trod_lt m _ _ _ hm
  obtain ⟨x0, y0, z0, u0, e0, f0, g0, j0, m0, rfl, rfl, rfl, b0, c0, l0, o0⟩ := open_agg4 Tryd.underlying59 (by kernel_rfl) (by kernel_rfl) (hval 0 59 v0 rfl rfl) h0
  obtain ⟨lsx0, Ax0, cx0, ex0, hlx0, hwx0, hcx0⟩ := open_u32s b0
  obtain rfl : x0 = .slice Ax0 lsx0.length cx0 := by simpa using ex0
  obtain ⟨lsy0, Ay0, cy0, ey0, hly0, hwy0, hcy0⟩ := open_ints c0
  obtain rfl : y0 = .slice Ay0 lsy0.length cy0 := by simpa using ey0
  obtain ⟨lsz0, Az0, cz0, ez0, hlz0, hwz0, hcz0⟩ := open_u32s l0
  obtain rfl : z0 = .slice Az0 lsz0.length cz0 := by simpa using ez0
  obtain ⟨nu0, eu0, rfl, wu0⟩ := DataW.trod_int Tryd.underlying3 o0
  obtain rfl : u0 = .int .i64 nu0 := by simpa using eu0
  have k1 := h1
  have lt1 : ∀ x ∈ p1, x.block < W.heap.size := by obtain ⟨m, hm⟩ := k1; exact DataW.trod_lt m _ _ _ hm
  obtain ⟨a1, rfl, rfl, rfl, w1⟩ := open_string Tryd.underlying9 (hval 1 9 v1 rfl rfl) h1
  have k2 := h2
  have lt2 : ∀ x ∈ p2, x.block < W.heap.size := by obtain ⟨m, hm⟩ := k2; exact DataW.trod_lt m _ _ _ hm
  obtain ⟨a2, rfl, rfl, rfl, w2⟩ := open_int Tryd.underlying3 (hval 2 3 v2 rfl rfl) h2
  have k3 := h3
  have lt3 : ∀ x ∈ p3, x.block < W.heap.size := by obtain ⟨m, hm⟩ := k3; exact DataW.trod_lt m _ _ _ hm
  obtain ⟨a3, rfl, rfl, rfl, w3⟩ := open_int Tryd.underlying3 (hval 3 3 v3 rfl rfl) h3
  refine (PR18.fuel_row lsx0 lsy0 lsz0 nu0 a1 a2 a3 W (laid_of hL) hlx0 hwx0 hcx0 hly0 hcy0 hlz0 hwz0 hcz0 w2 w3).mono fun e W' ⟨he, bel⟩ => ?_
  subst he
  exact ⟨_, rfl, _, _, _, [], _, [], hW', trodAll_mk1 (shut_bool Tryd.underlying4 _), (trodAll_cons_mk (Below.trod laidOut (by kernel_rfl) (of_decide_eq_true (by kernel_rfl)) k0 bel lt0) (trodAll_cons_mk (Below.trod laidOut (by kernel_rfl) (of_decide_eq_true (by kernel_rfl)) k1 bel lt1) (trodAll_cons_mk (Below.trod laidOut (by kernel_rfl) (of_decide_eq_true (by kernel_rfl)) k2 bel lt2) (trodAll_cons_mk (Below.trod laidOut (by kernel_rfl) (of_decide_eq_true (by kernel_rfl)) k3 bel lt3) trodAll_mk0)))), rfl, bel.frame _, fun h => by cases h⟩
noncomputable def laidWorld (os : Os) : World :=
  { World.holding Tryd.prog os ⟨#[], #[], []⟩ with heap := (World.holding Tryd.prog os ⟨#[], #[], []⟩).heap.modify 0 fun
      | .cells _ t frozen => .cells #[.int .u8 9, .int .u8 1, .int .u8 2, .int .u8 3, .int .u8 4, .int .u8 5, .int .u8 5, .int .u8 5, .int .u8 5, .int .u8 5, .int .u8 5, .int .u8 5, .int .u8 5, .int .u8 5, .int .u8 5, .int .u8 5, .int .u8 5, .int .u8 5, .int .u8 5, .int .u8 5, .int .u8 5, .int .u8 5, .int .u8 5, .int .u8 5, .int .u8 3, .int .u8 3, .int .u8 3, .int .u8 4, .int .u8 4, .int .u8 3, .int .u8 6, .int .u8 6, .int .u8 6, .int .u8 6, .int .u8 6, .int .u8 6, .int .u8 6, .int .u8 6, .int .u8 6, .int .u8 6, .int .u8 7, .int .u8 0, .int .u8 2, .int .u8 0, .int .u8 0, .int .u8 2, .int .u8 2, .int .u8 2, .int .u8 8] t frozen
      | o => o }
theorem laid_met (os : Os) : laidMet Tryd.prog Rows.emuFuelRow.laid ((laidWorld os).forCall (fun _ _ => 0) ⟨#[], #[.agg #[.slice none 0 0, .slice none 0 0, .slice none 0 0, .int .i64 0], .string ByteArray.empty, .int .i64 0, .int .i64 0], []⟩).memory :=
  laidMet_of_run' 8 (by kernel_rfl) (by kernel_rfl)
theorem reads (os : Os) {H : Type} (enc : TypeId × Value → H) : ∃ places, DataW.whole enc Tryd.prog ((laidWorld os).forCall (fun _ _ => 0) ⟨#[], #[.agg #[.slice none 0 0, .slice none 0 0, .slice none 0 0, .int .i64 0], .string ByteArray.empty, .int .i64 0, .int .i64 0], []⟩).memory Tryd.f11.params.toList Rows.emuFuelSpec.vars false (#[.agg #[.slice none 0 0, .slice none 0 0, .slice none 0 0, .int .i64 0], .string ByteArray.empty, .int .i64 0, .int .i64 0] : Array Value).toList 8 = some ([.agg [.nil, .nil, .nil, .lit (.int .i64 0)], .lit (.string []), .lit (.int .i64 0), .lit (.int .i64 0)], [], places) :=
  ⟨[], by kernel_rfl⟩
set_option maxRecDepth 100000 in
theorem lifted (os : Os) (started : os.Started) (H : Type) (enc : TypeId × Value → H) (F : Stop.Interp) :
    ReturnsInHanded {} Tryd.checked os 11 .any ((OpenSpec.ofChange Rows.emuFuelSpec).preRow enc Tryd.prog Tryd.f11 Rows.emuFuelRow.domain false Rows.emuFuelRow.laid) (((OpenSpec.ofChange Rows.emuFuelSpec).at F).post enc Tryd.prog Tryd.f11 false true false false) := by
  obtain ⟨places, hx⟩ := reads os enc
  refine returnsInHanded_of_row (C := Tryd.checked) (s := OpenSpec.ofChange Rows.emuFuelSpec) own started (by kernel_rfl) Tryd.func11
    (witness_row_at (enc := enc) (C := Tryd.checked) false (laidWorld os) #[.agg #[.slice none 0 0, .slice none 0 0, .slice none 0 0, .int .i64 0], .string ByteArray.empty, .int .i64 0, .int .i64 0] rfl (by kernel_rfl) (by kernel_rfl) (by kernel_rfl)
      (OpenSpec.preRow_of_cond 8 hx (by kernel_rfl) (fun k hk => by cases hk) (by kernel_rfl) (laid_met os))) ?_
  intro W base args ds gs before hval hW _ _ _ hL _ _
  exact contract H enc W base args ds gs before hval hW hL
theorem said : Rows.EmuFuelSaid :=
  OpenClaim.holds_of_cond 11 Tryd.f11 rfl rfl rfl rfl rfl rfl rfl ⟨rfl, rfl, rfl, rfl, rfl⟩ rfl rfl rfl rfl rfl (by kernel_rfl) Tryd.func11 (by kernel_rfl)
    (of_decide_eq_true (by kernel_rfl)) (by unfold Func.isWrapper; first | (rw [if_pos (by decide +kernel)]; kernel_rfl) | (rw [if_neg (by decide +kernel)]; exact ⟨rfl, rfl⟩))
    (fun os started H enc _ F => by rw [OpenClaim.pre_eq_preRow]; exact lifted os started H enc F)
theorem plain (f : FuncId) (fn : Func) (hf : Tryd.pinned.checked.prog.funcNamed "switchback/switchbacklaw18.EmuFuel" = some f) (hfn : Tryd.pinned.checked.prog.funcs[f]? = some fn) :
    true = Tryd.pinned.checked.prog.looks [] ∧ ∀ (j : Nat) t, fn.params[j]? = some t → Tryd.pinned.checked.prog.wantsStandIn t = false := by
  obtain rfl : f = 11 := Option.some.inj ((show Tryd.prog.funcNamed "switchback/switchbacklaw18.EmuFuel" = some 11 by kernel_rfl).symm.trans hf) |>.symm
  obtain rfl : fn = Tryd.f11 := (Option.some.inj (Tryd.func11.symm.trans hfn)).symm
  refine ⟨by kernel_rfl, fun j t ht => ?_⟩
  rw [Tryd.params11] at ht
  have h : t ∈ [59, 9, 3, 3] := by simpa using Array.mem_of_getElem? ht
  have s0 : Tryd.prog.wantsStandIn 59 = false := by kernel_rfl
  have s1 : Tryd.prog.wantsStandIn 9 = false := by kernel_rfl
  have s2 : Tryd.prog.wantsStandIn 3 = false := by kernel_rfl
  simp only [List.mem_cons, List.not_mem_nil, or_false] at h
  rcases h with rfl | rfl | rfl | rfl
  · exact s0
  · exact s1
  · exact s2
  · exact s2
/-- The card. -/
theorem card : Rows.EmuFuelCardSaid :=
  Claim7.holds_tied_plain_at .later [] _ _ _ _ said (fun _ h => by cases h) (by kernel_rfl) (fun _ h => by cases h) emuFuel_row_tie rfl ⟨rfl, rfl⟩ (by kernel_rfl) rfl plain (by kernel_rfl)
#print axioms card
end Go.Proofs.YtamimnaafiphcaaDoor.emuFuel
