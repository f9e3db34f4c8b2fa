import Derived.Test.YtlhgfhmdhmgmpaaGreatDoorEncR
namespace Go.Proofs.YtlhgfhmdhmgmpaaGreatDoor
open Go.RowKit

theorem ok_may (op a b c : Int) (h1 : 1 ≤ op) (h2 : op ≤ 48) : okA (formOf op) a b c = mayR op a b c := by
  obtain ⟨k, rfl⟩ : ∃ k : Nat, op = k := ⟨op.toNat, by omega⟩
  have hk : k ∈ List.range 49 := by simp; omega
  have hk0 : k ≠ 0 := by omega
  clear h1 h2
  simp only [List.range, List.range.loop, List.mem_cons, List.not_mem_nil, or_false] at hk
  rcases hk with rfl | rfl | rfl | rfl | rfl | rfl | rfl | rfl | rfl | rfl | rfl | rfl | rfl | rfl | rfl | rfl | rfl | rfl | rfl | rfl | rfl | rfl | rfl | rfl | rfl | rfl | rfl | rfl | rfl | rfl | rfl | rfl | rfl | rfl | rfl | rfl | rfl | rfl | rfl | rfl | rfl | rfl | rfl | rfl | rfl | rfl | rfl | rfl | rfl
  · exact absurd rfl hk0
  all_goals
    simp [formOf, tbl, okA, bd, mayR, isBr, reg, wide, near, within]
  all_goals
    rw [Bool.eq_iff_iff]; simp only [Bool.and_eq_true, decide_eq_true_eq, beq_iff_eq]; omega

theorem enc_eq (op a b c : Int) : enc op a b c = encR op a b c := by
  unfold enc encR
  by_cases h : isOp op = false
  · have hf : formOf op = 9 := by
      by_cases h9 : formOf op = 9
      · exact h9
      · have := formOf_no op h9
        rw [show isOp op = true from within_t this.1 this.2] at h
        exact absurd h (by decide)
    rw [if_pos hf, if_pos h]
  · have h' : isOp op = true := by simpa using h
    simp only [isOp, within, Bool.and_eq_true, decide_eq_true_eq] at h'
    have hf : formOf op ≠ 9 := by
      obtain ⟨k, rfl⟩ : ∃ k : Nat, op = k := ⟨op.toNat, by omega⟩
      have : ∀ k, k < 49 → k ≠ 0 → formOf (k : Nat) ≠ 9 := by decide
      exact this k (by omega) (by omega)
    rw [if_neg hf, if_neg h, ok_may op a b c h'.1 h'.2]
    cases mayR op a b c <;> rfl

theorem enc_ok {op a b c : Int} (h : (enc op a b c).2 = 0) : mayR op a b c = true ∧ (enc op a b c).1 = word op a b c := by
  rw [enc_eq] at h ⊢
  unfold encR at h ⊢
  split at h
  · exact absurd h (by decide)
  · split at h
    · exact absurd h (by decide)
    · rename_i h1 h2
      rw [if_neg h1, if_neg h2]
      exact ⟨by simpa using h2, rfl⟩

theorem word_range {op a b c : Int} (h : mayR op a b c = true) : 0 ≤ word op a b c ∧ word op a b c < 4294967296 ∧ word op a b c / 16777216 = op ∧ word op a b c / 1048576 % 16 = a ∧ word op a b c / 65536 % 16 = b ∧ i16 (word op a b c) = c := by
  obtain ⟨o0, o1, a0, a1, b0, b1, c0, c1⟩ := mayR_in h
  unfold word i16
  refine ⟨by omega, by omega, by omega, by omega, by omega, by omega⟩

theorem enc_of {op a b c : Int} (h : mayR op a b c = true) : enc op a b c = (word op a b c, 0) := by
  obtain ⟨o0, o1, -⟩ := mayR_in h
  rw [enc_eq]
  unfold encR
  rw [if_neg (by rw [show isOp op = true from within_t o0 o1]; decide), if_neg (by rw [h]; decide)]

theorem dec_word {op a b c : Int} (h : mayR op a b c = true) : dec (word op a b c) = ((op, a, b, c), 0) := by
  obtain ⟨-, -, e1, e2, e3, e4⟩ := word_range h
  unfold dec
  rw [e1, e2, e3, e4, enc_of h]
  rfl

theorem dec_ok {n : Int} (h : (dec n).2 = 0) : mayR (dec n).1.1 (dec n).1.2.1 (dec n).1.2.2.1 (dec n).1.2.2.2 = true ∧ word (dec n).1.1 (dec n).1.2.1 (dec n).1.2.2.1 (dec n).1.2.2.2 = n := by
  by_cases e : (enc (n / 16777216) (n / 1048576 % 16) (n / 65536 % 16) (i16 n)).2 = 0
  · have hd : dec n = ((n / 16777216, n / 1048576 % 16, n / 65536 % 16, i16 n), 0) := by unfold dec; simp only [e, if_true]
    rw [hd]
    refine ⟨(enc_ok e).1, ?_⟩
    simp only [word, i16]
    omega
  · have hd : dec n = ((0, 0, 0, 0), (enc (n / 16777216) (n / 1048576 % 16) (n / 65536 % 16) (i16 n)).2) := by unfold dec; simp only [e, if_false]
    rw [hd] at h
    exact absurd h e

theorem dec_eq (n : Int) : dec n = decR n := by
  unfold dec decR
  simp only [enc_eq]
  have hm : ∀ c : Int, 32768 ≤ c → mayR (n / 16777216) (n / 1048576 % 16) (n / 65536 % 16) c = true → False := fun c hc h => by
    have := mayR_in h
    omega
  by_cases h : isOp (n / 16777216) = false
  · rw [if_pos h]
    simp [encR, h]
  · rw [if_neg h]
    by_cases hg : 32768 ≤ n % 65536
    · have e : i16 n = n % 65536 - 65536 := by unfold i16; omega
      rw [e, if_neg (fun hx => hm _ hg hx)]
      unfold encR
      rw [if_neg h]
      cases hc : mayR (n / 16777216) (n / 1048576 % 16) (n / 65536 % 16) (n % 65536 - 65536) <;> simp [hg]
    · have e : i16 n = n % 65536 := by unfold i16; omega
      rw [e]
      unfold encR
      rw [if_neg h]
      cases hc : mayR (n / 16777216) (n / 1048576 % 16) (n / 65536 % 16) (n % 65536) <;> simp [hg]

end Go.Proofs.YtlhgfhmdhmgmpaaGreatDoor
