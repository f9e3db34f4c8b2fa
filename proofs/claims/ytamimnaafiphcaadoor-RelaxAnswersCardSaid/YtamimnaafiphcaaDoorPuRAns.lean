/- The law RelaxAnswers, plainly; its contract. -/
import Derived.Test.YtamimnaafiphcaaDoorPuRE
import Derived.Test.YtamimnaafiphcaaDoorPR1Dd44
set_option linter.unusedVariables false
set_option linter.unusedSimpArgs false
namespace Go.Proofs.YtamimnaafiphcaaDoor.PR1D
open Go.RowKit Go.Proofs.YtamimnaafiphcaaDoorW.PrintWords Go.Proofs.YtamimnaafiphcaaDoorW.PrintLast Go.Proofs.YtamimnaafiphcaaDoorW.PrintMore

theorem written_f (W K P : List Int) (R : Int) (hW : W.length ≤ 100000000) (hK : K.length ≤ 100000000) (hP : P.length ≤ 100000000) : ∃ r, Ev (fun k => switchbacklaw17_written.f k W K P R) r := by
  have l2 : ∀ (d : Nat) (W K P : List Int) (i : Nat), W.length ≤ 100000000 → K.length ≤ 100000000 → P.length ≤ 100000000 → P.length - i = d → i ≤ P.length → ∃ r, Ev (fun k => switchbacklaw17_written.l2 k (i : Int) W K P R) r := by
    intro d
    induction d with
    | zero =>
      intro W K P i hW hK hP hd hi
      refine ⟨W, Ev.step (f := fun _ => some W) (fun k => ?_) (Ev.now _)⟩
      simp only [switchbacklaw17_written.l2]
      rw [if_neg (by omega), if_pos (by omega)]
      simp only [Option.bind_some]
      rw [if_pos (by omega)]
      simp only [Option.bind_some, List.length_append, List.length_singleton]
      rw [wrap_i64 (by omega) (by omega), wrap_i64 (by omega) (by omega), if_pos (by omega), if_pos (by omega), if_pos (by omega), if_pos (by omega)]
    | succ d ih =>
      intro W K P i hW hK hP hd hi
      obtain ⟨r, h⟩ := ih W K (P.set i (-8)) (i + 1) hW hK (by rw [List.length_set]; exact hP) (by rw [List.length_set]; omega) (by rw [List.length_set]; omega)
      refine ⟨r, Ev.step (fun k => ?_) h⟩
      simp only [switchbacklaw17_written.l2]
      rw [if_pos (by omega), if_pos (by omega), wrap_i64 (x := (i : Int) + 1) (by omega) (by omega), Int.toNat_natCast]
      rfl
  have l1 : ∀ (d : Nat) (W K P : List Int) (i : Nat), W.length ≤ 100000000 → K.length ≤ 100000000 → P.length ≤ 100000000 → K.length - i = d → i ≤ K.length → ∃ r, Ev (fun k => switchbacklaw17_written.l1 k (i : Int) W K P R) r := by
    intro d
    induction d with
    | zero =>
      intro W K P i hW hK hP hd hi
      obtain ⟨r, h⟩ := l2 P.length W K P 0 hW hK hP (by omega) (by omega)
      refine ⟨r, Ev.step (fun k => ?_) h⟩
      simp only [switchbacklaw17_written.l1]
      rw [if_neg (by omega)]
      rfl
    | succ d ih =>
      intro W K P i hW hK hP hd hi
      obtain ⟨r, h⟩ := ih W (K.set i (-7)) P (i + 1) hW (by rw [List.length_set]; exact hK) hP (by rw [List.length_set]; omega) (by rw [List.length_set]; omega)
      refine ⟨r, Ev.step (fun k => ?_) h⟩
      simp only [switchbacklaw17_written.l1]
      rw [if_pos (by omega), if_pos (by omega), wrap_i64 (x := (i : Int) + 1) (by omega) (by omega), Int.toNat_natCast]
      rfl
  have l0 : ∀ (d : Nat) (W K P : List Int) (i : Nat), W.length ≤ 100000000 → K.length ≤ 100000000 → P.length ≤ 100000000 → W.length - i = d → i ≤ W.length → ∃ r, Ev (fun k => switchbacklaw17_written.l0 k (i : Int) W K P R) r := by
    intro d
    induction d with
    | zero =>
      intro W K P i hW hK hP hd hi
      obtain ⟨r, h⟩ := l1 K.length W K P 0 hW hK hP (by omega) (by omega)
      refine ⟨r, Ev.step (fun k => ?_) h⟩
      simp only [switchbacklaw17_written.l0]
      rw [if_neg (by omega)]
      rfl
    | succ d ih =>
      intro W K P i hW hK hP hd hi
      obtain ⟨r, h⟩ := ih (W.set i 7) K P (i + 1) (by rw [List.length_set]; exact hW) hK hP (by rw [List.length_set]; omega) (by rw [List.length_set]; omega)
      refine ⟨r, Ev.step (fun k => ?_) h⟩
      simp only [switchbacklaw17_written.l0]
      rw [if_pos (by omega), if_pos (by omega), wrap_i64 (x := (i : Int) + 1) (by omega) (by omega), Int.toNat_natCast]
      rfl
  unfold switchbacklaw17_written.f
  exact l0 W.length W K P 0 hW hK hP (by omega) (by omega)

theorem asm_small (l : List S40) (hw : wfS l = true) : (asm (l.map toLine)).words.length ≤ 100000000 ∧ (asm (l.map toLine)).kinds.length ≤ 100000000 ∧ (asm (l.map toLine)).places.length ≤ 100000000 := by
  by_cases he : (asm (l.map toLine)).err = 0
  · obtain ⟨T, hp, e⟩ := asm_ok' he
    have hsz := ref_sized l hw T
    have hsm := T.small
    have h1 := wordsOf_len (l.map toLine) (fin (l.map toLine)).1 hsz (l.map toLine).length
    have h2 := kindsOf_len (l.map toLine) (fin (l.map toLine)).1 hsz (l.map toLine).length
    rw [e]
    refine ⟨?_, ?_, ?_⟩
    · show (wordsOf _ _ _).length ≤ _; omega
    · show (kindsOf _ _ _).length ≤ _; omega
    · show ((List.range _).map _).length ≤ _; rw [List.length_map, List.length_range]; omega
  · have e : ∃ i er, asm (l.map toLine) = ⟨[], [], [], 0, i, er⟩ := by
      unfold asm at he ⊢
      by_cases h1 : (refusedP (l.map toLine)).2 ≠ 0
      · rw [if_pos h1]; exact ⟨_, _, rfl⟩
      · rw [if_neg h1] at he ⊢
        by_cases h2 : 65536 < pl (l.map toLine) (fin (l.map toLine)).1 (l.map toLine).length
        · rw [if_pos h2]; exact ⟨_, _, rfl⟩
        · rw [if_neg h2] at he; exact absurd rfl he
    obtain ⟨i, er, e⟩ := e
    rw [e]
    exact ⟨Nat.zero_le _, Nat.zero_le _, Nat.zero_le _⟩

theorem answers_f (l : List S40) (hw : wfS l = true) (hn : l.length < 1954687338268) (hf : ∀ x ∈ l, x.f6.length < 17592186044416) : Ev (fun k => switchbacklaw17_RelaxAnswers.f k l) true := by
  obtain ⟨s1, s2, s3⟩ := asm_small l hw
  obtain ⟨r, hwr⟩ := written_f (asm (l.map toLine)).words (asm (l.map toLine)).kinds (asm (l.map toLine)).places ((asm (l.map toLine)).rounds : Int) s1 s2 s3
  have hsame : switchbacklaw17_Same.f (asm (l.map toLine)).words (asm (l.map toLine)).kinds (asm (l.map toLine)).places ((asm (l.map toLine)).rounds : Int) (asm (l.map toLine)).words (asm (l.map toLine)).kinds (asm (l.map toLine)).places ((asm (l.map toLine)).rounds : Int) = some true := by
    unfold switchbacklaw17_Same.f
    rw [if_pos ⟨⟨s1, s2, s3⟩, s1, s2, s3⟩]
    simp
  have hlines : switchbacklaw17_SameLines.f l l = some true := by
    unfold switchbacklaw17_SameLines.f
    rw [if_pos (by omega), if_pos (eqL_self fun x hx => by have := hf x hx; omega)]
  have hj : Ev (fun k => switchbacklaw17_RelaxAnswers.j0 k l ((asm (l.map toLine)).line : Int) (asm (l.map toLine)).err false (asm (l.map toLine)).words (asm (l.map toLine)).kinds (asm (l.map toLine)).places ((asm (l.map toLine)).rounds : Int) (asm (l.map toLine)).words (asm (l.map toLine)).kinds (asm (l.map toLine)).places ((asm (l.map toLine)).rounds : Int)) true := by
    refine Ev.step (f := fun k => (switchbacklaw17_written.f k (asm (l.map toLine)).words (asm (l.map toLine)).kinds (asm (l.map toLine)).places ((asm (l.map toLine)).rounds : Int)).bind fun _ => some true) (fun k => ?_) (Ev.bind hwr (Ev.now _))
    simp only [switchbacklaw17_RelaxAnswers.j0]
    rw [if_neg (by decide), assemble_f hw]
    simp only [Option.bind_some]
    rw [if_pos trivial, if_pos trivial, hsame]
    rfl
  unfold switchbacklaw17_RelaxAnswers.f
  refine Ev.bind (copy_f l hn hf) ?_
  rw [assemble_f hw]
  simp only [Option.bind_some]
  refine Ev.bind (assemble_ref l hw) ?_
  simp only [switchbacklaw17_live.f, Option.bind_some, if_true, hsame, hlines]
  exact hj

end Go.Proofs.YtamimnaafiphcaaDoor.PR1D
