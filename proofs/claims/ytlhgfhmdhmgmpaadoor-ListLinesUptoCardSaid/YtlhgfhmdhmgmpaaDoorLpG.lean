/- Plainly: what is read may be written (ListAgain). -/
import Derived.Test.YtlhgfhmdhmgmpaaDoorLpF
set_option linter.unusedVariables false
set_option linter.unusedSimpArgs false
namespace Go.Proofs.YtlhgfhmdhmgmpaaDoor
open Go.RowKit

def nRng (l : Line) : Prop := 0 ≤ l.n ∧ l.n ≤ 4294967295

theorem bd_rng (f : Int) : -32768 ≤ (bd f).1.1 ∧ (bd f).1.2 ≤ 32767 ∧ -32768 ≤ (bd f).2.1.1 ∧ (bd f).2.1.2 ≤ 32767 ∧ -32768 ≤ (bd f).2.2.1 ∧ (bd f).2.2.2 ≤ 32767 := by
  unfold bd
  repeat' split
  all_goals decide

theorem may_wf {l : Line} (hm : mayP l = true) (hn : nRng l) : WfL l := by
  have n0 := hn.1
  have n1 := hn.2
  by_cases h0 : l.op = 0
  · obtain ⟨e, h1, h2⟩ := label_of hm h0
    have ea := congrArg Line.a e
    have eb := congrArg Line.b e
    have ei := congrArg Line.imm e
    have el := congrArg Line.list e
    simp only [labelL] at ea eb ei el
    exact ⟨by omega, by omega, by omega, by omega, by omega, by omega, n0, n1, by omega, by omega, fun x hx => by rw [el] at hx; cases hx⟩
  · have hE := may_ends hm h0
    have hk := hE.okA
    have hb := bd_rng (formOf l.op)
    unfold okA within at hk
    simp only [Bool.and_eq_true, decide_eq_true_eq] at hk
    have hl := hE.lab
    exact ⟨by omega, by omega, by omega, by omega, by omega, by omega, n0, n1, by omega, by omega, fun x hx => by have := hE.ls x hx; omega⟩

theorem take_rng {l l' : Line} {p : Part} {ws ws' : List ByteArray} (h : takeP l p ws = some (l', ws')) (hn : nRng l) : nRng l' := by
  cases p with
  | places =>
    rw [takeP] at h
    cases hl : labsP ws with
    | none => rw [hl] at h; cases h
    | some ns => rw [hl] at h; cases h; exact hn
  | reg o =>
    cases ws with
    | nil => simp [takeP] at h
    | cons s r =>
      rw [takeP] at h
      split at h
      · cases h; unfold setF nRng at *; split; exact hn; split <;> exact hn
      · cases h
  | num =>
    cases ws with
    | nil => simp [takeP] at h
    | cons s r =>
      rw [takeP] at h
      split at h
      · cases h; exact hn
      · cases h
  | word =>
    cases ws with
    | nil => simp [takeP] at h
    | cons s r =>
      rw [takeP] at h
      split at h
      · rename_i hc
        simp only [Bool.and_eq_true, decide_eq_true_eq] at hc
        cases h
        exact ⟨hc.1.2, by show (valueP s.data.toList).1 ≤ _; omega⟩
      · cases h
  | place =>
    cases ws with
    | nil => simp [takeP] at h
    | cons s r =>
      rw [takeP] at h
      split at h
      · cases h; exact hn
      · cases h

theorem takes_rng : ∀ {ps : List Part} {l : Line} {ws : List ByteArray} {x : Line × List ByteArray}, takeF l ps ws = some x → nRng l → nRng x.1
  | [], l, ws, x, h, hn => by
    rw [takeF] at h
    cases h
    exact hn
  | p :: ps, l, ws, x, h, hn => by
    rw [takeF] at h
    cases ht : takeP l p ws with
    | none => rw [ht] at h; cases h
    | some y =>
      rw [ht] at h
      exact takes_rng h (take_rng (l' := y.1) (ws' := y.2) ht hn)

theorem line_good {x : ByteArray} {r : List ByteArray} {l : Line} (h : lineP x r = some l) : WfL l ∧ mayP l = true := by
  have key : mayP l = true ∧ nRng l := by
    unfold lineP at h
    split at h
    · unfold labelR at h
      split at h
      · rename_i hc
        rw [Bool.and_eq_true] at hc
        cases h
        exact ⟨hc.2, by unfold nRng labelL; simp⟩
      · cases h
    · unfold lineI at h
      split at h
      · cases h
      · cases ht : takeF (newL (opOf x)) (partsP (opOf x)) r with
        | none => rw [ht] at h; cases h
        | some y =>
          rw [ht, Option.bind_some] at h
          split at h
          · rename_i hc
            rw [Bool.and_eq_true] at hc
            cases h
            exact ⟨hc.2, takes_rng ht (by unfold nRng newL; simp)⟩
          · cases h
  exact ⟨may_wf key.1 key.2, key.1⟩

/-- What Parse answers: lines that may be written, or none. -/
theorem parse_good : ∀ (f : Nat) (s : ByteArray) (i : Nat) (acc : List Line), (∀ l ∈ acc, WfL l ∧ mayP l = true) →
    (((parseF f s i acc).2.2 = 0 ∧ (parseF f s i acc).2.1 = 0 ∧ (parseF f s i acc).1.length ≤ 60000 ∧ ∀ l ∈ (parseF f s i acc).1, WfL l ∧ mayP l = true) ∨ ((parseF f s i acc).2.2 ≠ 0 ∧ (parseF f s i acc).1 = [] ∧ 0 ≤ (parseF f s i acc).2.1)) := by
  have fin : ∀ acc : List Line, (∀ l ∈ acc, WfL l ∧ mayP l = true) →
      (((finP acc).2.2 = 0 ∧ (finP acc).2.1 = 0 ∧ (finP acc).1.length ≤ 60000 ∧ ∀ l ∈ (finP acc).1, WfL l ∧ mayP l = true) ∨ ((finP acc).2.2 ≠ 0 ∧ (finP acc).1 = [] ∧ 0 ≤ (finP acc).2.1)) := by
    intro acc h
    unfold finP
    split
    · exact .inr ⟨by simp, rfl, by simp⟩
    · exact .inl ⟨rfl, rfl, by simp only; omega, h⟩
  intro f
  induction f with
  | zero => intro s i acc h; exact fin acc h
  | succ f ih =>
    intro s i acc h
    rw [parseF]
    split
    · exact fin acc h
    · split
      · exact ih _ _ _ h
      · split
        · exact .inr ⟨by simp, rfl, by simp⟩
        · rename_i x r _ l hl
          refine ih _ _ _ fun m hm => ?_
          rcases List.mem_append.1 hm with hm | hm
          · exact h m hm
          · rw [List.mem_singleton.1 hm]; exact line_good hl

end Go.Proofs.YtlhgfhmdhmgmpaaDoor
