/- The assembler's reference and the assembler agree on which lines may be. -/
import Derived.Test.YtamimnaafiphcaaDoorRyA
import Derived.Test.YtamimnaafiphcaaDoorEncP
import Derived.Test.YtamimnaafiphcaaDoorRxZ3
set_option linter.unusedVariables false
set_option linter.unusedSimpArgs false
namespace Go.Proofs.YtamimnaafiphcaaDoor
open Go.RowKit

theorem enc_beq (op a b c : Int) : ((enc op a b c).2 == 0) = mayR op a b c := by
  cases h : mayR op a b c with
  | true => rw [enc_of h]; rfl
  | false =>
    cases h2 : (enc op a b c).2 == 0 with
    | false => rfl
    | true =>
      have := (enc_ok (op := op) (a := a) (b := b) (c := c) (by simpa using h2)).1
      rw [h] at this; cases this

theorem goOp_in {n : Int} (h : goOp n = true) : (30 ≤ n ∧ n ≤ 41) ∨ n = 43 := by
  unfold goOp brOp isBr within at h
  simp only [Bool.or_eq_true, Bool.and_eq_true, decide_eq_true_eq, beq_iff_eq] at h
  omega

theorem mayL_fits (l : Line) : mayL l = fitsB l := by
  obtain ⟨op, a, b, imm, n, lb, list⟩ := l
  unfold mayL fitsB x4 x6 x8
  simp only []
  rw [enc_beq]
  by_cases h0 : op = 0
  · rw [if_pos h0, if_pos h0]
  rw [if_neg h0, if_neg h0]
  by_cases hg : goOp op = true
  · have hr := goOp_in hg
    have h42 : (op == 42) = false := by simp; omega
    have h2 : (op != 2) = true := by simp; omega
    rw [if_pos hg, hg, h42, h2]
    by_cases hi : imm = 0
    · subst hi
      by_cases hn : n = 0
      · subst hn
        cases list with
        | nil => cases isLabel lb <;> simp
        | cons x r => simp
      · simp [hn]
    · simp [hi]
  · rw [if_neg hg]
    replace hg : goOp op = false := by simpa using hg
    rw [hg]
    by_cases h42 : op = 42
    · subst h42
      rw [if_pos rfl]
      have hl0 : isLabel 0 = true := by decide
      by_cases hn : n = 0
      · subst hn
        by_cases hb : lb = 0
        · subst hb
          by_cases h1 : 0 < list.length
          · by_cases h4 : 400 < list.length
            · simp [h1, h4, show ¬ list.length ≤ 400 by omega]
            · cases hal : list.all isLabel <;> simp [h1, h4, show list.length ≤ 400 by omega, hl0, hal, show 1 ≤ list.length by omega]
          · simp [h1, show ¬ 1 ≤ list.length by omega, hl0]
        · simp [hb]
      · simp [hn]
    · rw [if_neg h42]
      have h42' : (op == 42) = false := by simpa using h42
      have hl0 : isLabel 0 = true := by decide
      rw [h42']
      by_cases h2 : op = 2
      · subst h2
        rw [if_pos rfl]
        by_cases hb : lb = 0
        · subst hb
          cases list with
          | nil => simp [hl0]
          | cons x r => simp [hl0]
        · simp [hb]
      · rw [if_neg h2]
        have h2' : (op != 2) = true := by simpa using h2
        rw [h2']
        by_cases hn : n = 0
        · subst hn
          by_cases hb : lb = 0
          · subst hb
            cases list with
            | nil => simp [hl0]
            | cons x r => simp [hl0]
          · simp [hb]
        · simp [hn]

theorem fits_goes {l : Line} (h : fitsB l = true) (hg : goOp l.op = true) : isLabel l.label = true ∧ l.list = [] := by
  rw [← mayL_fits] at h
  have hr := goOp_in hg
  unfold mayL at h
  rw [if_neg (by omega), if_pos hg] at h
  simp only [Bool.and_eq_true, beq_iff_eq, List.length_eq_zero_iff] at h
  exact ⟨h.2, h.1.2⟩

theorem fits_at {l : Line} (h : fitsB l = true) (h0 : l.op = 0) : isLabel l.label = true ∧ l.list = [] := by
  rw [← mayL_fits] at h
  unfold mayL at h
  rw [if_pos h0] at h
  simp only [Bool.and_eq_true, beq_iff_eq, List.length_eq_zero_iff] at h
  exact ⟨h.2, h.1.2⟩

theorem fits_all {l : Line} (h : fitsB l = true) : l.list.all isLabel = true := by
  by_cases h0 : l.op = 0
  · rw [(fits_at h h0).2]; rfl
  by_cases hg : goOp l.op = true
  · rw [(fits_goes h hg).2]; rfl
  rw [← mayL_fits] at h
  unfold mayL at h
  rw [if_neg h0, if_neg hg] at h
  by_cases h42 : l.op = 42
  · rw [if_pos h42, Bool.and_eq_true] at h
    exact h.1
  · rw [if_neg h42] at h
    by_cases h2 : l.op = 2
    · rw [if_pos h2] at h
      simp only [Bool.and_eq_true, beq_iff_eq, List.length_eq_zero_iff] at h
      rw [h.2]; rfl
    · rw [if_neg h2] at h
      simp only [Bool.and_eq_true, beq_iff_eq, List.length_eq_zero_iff] at h
      rw [h.2]; rfl

end Go.Proofs.YtamimnaafiphcaaDoor
