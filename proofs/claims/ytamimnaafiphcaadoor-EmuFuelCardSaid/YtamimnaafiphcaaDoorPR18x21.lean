/- emu.Run, given to the print: its plain form and its contract, out of the walk of its real body. -/
import Derived.Test.YtamimnaafiphcaaDoorPR18x0
import Derived.Test.YtamimnaafiphcaaDoorPR18x4
import Derived.Test.YtamimnaafiphcaaDoorEmZ4
set_option linter.unusedVariables false
set_option linter.unusedSimpArgs false
namespace Go.Proofs.YtamimnaafiphcaaDoor.PR18
open Go.RowKit Go.Proofs.YtamimnaafiphcaaDoorW.PrintWords Go.Proofs.YtamimnaafiphcaaDoorW.PrintLast Go.Proofs.YtamimnaafiphcaaDoorW.PrintMore

/-- What may answers. -/
def mayB (ws ks ds : List Int) (entry : Int) : Bool :=
  (!decide (ws.length < 1) && !decide (ws.length > 65536) && decide (ks.length = ws.length) && !decide (ds.length > 524288) && !decide (entry < 0) && !decide (entry ≥ ws.length)) && ks.all fun k => !decide (k < 1) && !decide (k > 3)

theorem may_loop (ks : List Int) (hn : ks.length ≤ 65536) : ∀ (d i : Nat), ks.length - i = d → i ≤ ks.length → Ev (fun k => emu_may.l0 k ks (ks.length : Int) (i : Int)) ((ks.drop i).all fun k => !decide (k < 1) && !decide (k > 3)) := by
  intro d
  induction d with
  | zero =>
    intro i hd hi
    obtain rfl : i = ks.length := by omega
    rw [List.drop_length]
    exact Ev.step (f := fun _ => some true) (fun k => by simp only [emu_may.l0]; rw [if_neg (by omega)]) (Ev.now _)
  | succ d ih =>
    intro i hd hi
    have hlt : i < ks.length := by omega
    have hr : rd ks (i : Int) = ks[i] := by unfold rd; simp [hlt]
    rw [List.drop_eq_getElem_cons hlt, List.all_cons]
    by_cases h1 : ks[i] < 1
    · refine Ev.step (f := fun _ => some false) (fun k => ?_) (by rw [decide_eq_true h1]; exact Ev.now _)
      simp only [emu_may.l0]
      rw [if_pos (by omega), if_pos (by omega), if_pos (by omega), hr, if_pos h1]
    · by_cases h3 : ks[i] > 3
      · refine Ev.step (f := fun _ => some false) (fun k => ?_) (by rw [decide_eq_true h3, decide_eq_false h1]; exact Ev.now _)
        simp only [emu_may.l0]
        rw [if_pos (by omega), if_pos (by omega), if_pos (by omega), hr, if_neg h1, if_pos h3]
      · refine Ev.step (f := fun k => emu_may.l0 k ks (ks.length : Int) ((i + 1 : Nat) : Int)) (fun k => ?_) (by rw [decide_eq_false h1, decide_eq_false h3]; exact ih (i + 1) (by omega) (by omega))
        simp only [emu_may.l0]
        rw [if_pos (by omega), if_pos (by omega), if_pos (by omega), hr, if_neg h1, if_neg h3]
        rw [show wrap64 ((i : Int) + 1) = ((i + 1 : Nat) : Int) by unfold wrap64; omega]

theorem may_f (ws ks ds : List Int) (entry : Int) : Ev (fun k => emu_may.f k ws ks ds entry) (mayB ws ks ds entry) := by
  have hno : ∀ b, b = false → Ev (fun k => emu_may.j0 k true ws ks ds entry) b := fun b hb => by
    subst hb
    exact Ev.step (f := fun _ => some false) (fun k => by simp [emu_may.j0]) (Ev.now _)
  unfold emu_may.f mayB
  by_cases h1 : (ws.length : Int) < 1
  · simp only [if_pos h1]
    exact hno _ (by rw [decide_eq_true (show ws.length < 1 by omega)]; rfl)
  simp only [if_neg h1]
  by_cases h2 : (ws.length : Int) > 65536
  · simp only [if_pos h2]
    exact hno _ (by rw [decide_eq_true (show ws.length > 65536 by omega)]; simp)
  simp only [if_neg h2]
  by_cases h3 : (ks.length : Int) = (ws.length : Int)
  · simp only [if_pos h3]
    by_cases h4 : (ds.length : Int) > 524288
    · simp only [if_pos h4]
      exact hno _ (by rw [decide_eq_true (show ds.length > 524288 by omega)]; simp)
    simp only [if_neg h4]
    by_cases h5 : entry < 0
    · simp only [if_pos h5]
      exact hno _ (by rw [decide_eq_true h5]; simp)
    simp only [if_neg h5]
    by_cases h6 : entry ≥ (ws.length : Int)
    · rw [decide_eq_true h6]
      exact hno _ (by simp)
    · rw [decide_eq_false h6, decide_eq_false (show ¬ ws.length < 1 by omega), decide_eq_false (show ¬ ws.length > 65536 by omega), decide_eq_true (show ks.length = ws.length by omega), decide_eq_false (show ¬ ds.length > 524288 by omega), decide_eq_false h5]
      refine Ev.step (f := fun k => emu_may.l0 k ks (ks.length : Int) 0) (fun k => by simp [emu_may.j0]) ?_
      have := may_loop ks (by omega) ks.length 0 (by omega) (by omega)
      simpa using this
  · simp only [if_neg h3]
    exact hno _ (by rw [decide_eq_false (show ¬ ks.length = ws.length by omega)]; simp)

theorem may_yes {ws ks ds : List Int} {entry : Int} (h : mayB ws ks ds entry = true) : (1 ≤ ws.length ∧ ws.length ≤ 65536) ∧ ds.length ≤ 524288 ∧ (0 ≤ entry ∧ entry < ws.length) ∧ ks.length = ws.length ∧ ∀ k ∈ ks, 1 ≤ k ∧ k ≤ 3 := by
  unfold mayB at h
  simp only [Bool.and_eq_true, Bool.not_eq_true', decide_eq_true_eq, decide_eq_false_iff_not, List.all_eq_true] at h
  obtain ⟨⟨⟨⟨⟨⟨h1, h2⟩, h3⟩, h4⟩, h5⟩, h6⟩, h7⟩ := h
  refine ⟨⟨by omega, by omega⟩, by omega, ⟨by omega, by omega⟩, h3, fun k hk => ?_⟩
  have := h7 k hk
  omega

def w32s (xs : List Int) : Bool := xs.all fun x => decide (0 ≤ x) && decide (x < 4294967296)

theorem w32s_mem {xs : List Int} (h : w32s xs = true) : ∀ x ∈ xs, W32 x := fun x hx => by
  have := List.all_eq_true.1 h x hx
  simp only [Bool.and_eq_true, decide_eq_true_eq] at this
  exact this

/-! ### emu_Run: function 36 -/
def emu_Run.f (l0_0 : List Int) (l0_1 : List Int) (l0_2 : List Int) (a0_3 : Int) (a1 : ByteArray) (a2 : Int) : Option (Int × Int × ByteArray × Int × Int) :=
  if runErr (mayB l0_0 l0_1 l0_2 a0_3) a1.size a2 = 0 then
    if w32s l0_0 && w32s l0_2 && decide (a2 ≤ 1000000) then
      some ((runP l0_0 a2.toNat (mach0 l0_2 a0_3 a1)).2.1, (runP l0_0 a2.toNat (mach0 l0_2 a0_3 a1)).2.2, strOfNums (runP l0_0 a2.toNat (mach0 l0_2 a0_3 a1)).1.out, (runP l0_0 a2.toNat (mach0 l0_2 a0_3 a1)).1.steps, 0)
    else none
  else some (0, 0, (⟨#[]⟩ : ByteArray), 0, runErr (mayB l0_0 l0_1 l0_2 a0_3) a1.size a2)

theorem emu_Run.calls (A0_0 : Option Addr) (c0_0 : Nat) (l0_0 : List Int) (A0_1 : Option Addr) (c0_1 : Nat) (l0_1 : List Int) (A0_2 : Option Addr) (c0_2 : Nat) (l0_2 : List Int) (a0_3 : Int) (a1 : ByteArray) (a2 : Int) (r1 : Int) (r2 : Int) (r3 : ByteArray) (r4 : Int) (r5 : Int) (w : World) (hr0_0 : Kd.C (Kd.int .u32) w A0_0 l0_0.length l0_0) (hc0_0 : l0_0.length ≤ c0_0) (hr0_1 : Kd.C (Kd.int .i64) w A0_1 l0_1.length l0_1) (hc0_1 : l0_1.length ≤ c0_1) (hr0_2 : Kd.C (Kd.int .u32) w A0_2 l0_2.length l0_2) (hc0_2 : l0_2.length ≤ c0_2) (hLaid_ : Aside0 (Laid w)) (h : emu_Run.f l0_0 l0_1 l0_2 a0_3 a1 a2 = some (r1, r2, r3, r4, r5)) :
    Calls Tryd.prog 36 #[.agg #[.slice A0_0 l0_0.length c0_0, .slice A0_1 l0_1.length c0_1, .slice A0_2 l0_2.length c0_2, .int .i64 a0_3], .string a1, .int .i64 a2] w fun e w' => e = .returned (.tuple #[.agg #[.int .i64 r1, .int .u32 r2, .string r3, .int .i64 r4], .int .i64 r5]) ∧ Below w.heap.size w w' := by
  obtain ⟨k, hk⟩ := (may_f l0_0 l0_1 l0_2 a0_3).rounds
  have hm : ∀ W, Below w.heap.size w W → Calls Tryd.prog 57 #[.agg #[.slice A0_0 l0_0.length c0_0, .slice A0_1 l0_1.length c0_1, .slice A0_2 l0_2.length c0_2, .int .i64 a0_3]] W fun e w' => e = .returned (.bool (mayB l0_0 l0_1 l0_2 a0_3)) ∧ Below W.heap.size W w' := fun W hb =>
    emu_may.calls k A0_0 c0_0 l0_0 A0_1 c0_1 l0_1 A0_2 c0_2 l0_2 a0_3 _ W (Kd.C_below hr0_0 hb) hc0_0 (Kd.C_below hr0_1 hb) hc0_1 (Kd.C_below hr0_2 hb) hc0_2 hk
  unfold emu_Run.f at h
  by_cases h0 : runErr (mayB l0_0 l0_1 l0_2 a0_3) a1.size a2 = 0
  · rw [if_pos h0] at h
    split at h
    · rename_i h1
      simp only [Bool.and_eq_true, decide_eq_true_eq] at h1
      obtain ⟨⟨h1, h2⟩, h3⟩ := h1
      have hb : mayB l0_0 l0_1 l0_2 a0_3 = true := by
        cases hb : mayB l0_0 l0_1 l0_2 a0_3
        · unfold runErr at h0; rw [if_pos hb] at h0; exact absurd h0 (by decide)
        · rfl
      obtain ⟨m1, m2, m3, m4, _⟩ := may_yes hb
      rw [hb] at h0 hm
      unfold runErr at h0
      rw [if_neg (by decide)] at h0
      have h4 : ¬ (a1.size : Int) > 10000 := fun hc => by rw [if_pos hc] at h0; exact absurd h0 (by decide)
      rw [if_neg h4] at h0
      have h5 : ¬ a2 < 0 := fun hc => by rw [if_pos hc] at h0; exact absurd h0 (by decide)
      have := run_walk l0_0 l0_1 l0_2 A0_0 A0_1 A0_2 c0_0 c0_1 c0_2 a0_3 a1 a2.toNat hLaid_.out hr0_0 hr0_2 (w32s_mem h1) (w32s_mem h2) m1 m2 m3 (by omega) (by omega) hm
      rw [show ((a2.toNat : Nat) : Int) = a2 by omega] at this
      simp only [Option.some.injEq, Prod.mk.injEq] at h
      obtain ⟨rfl, rfl, rfl, rfl, rfl⟩ := h
      exact this
    · cases h
  · rw [if_neg h0] at h
    simp only [Option.some.injEq, Prod.mk.injEq] at h
    obtain ⟨rfl, rfl, rfl, rfl, rfl⟩ := h
    exact run_refused A0_0 A0_1 A0_2 l0_0.length l0_1.length l0_2.length c0_0 c0_1 c0_2 a0_3 a1 a2 _ h0 hm

end Go.Proofs.YtamimnaafiphcaaDoor.PR18
