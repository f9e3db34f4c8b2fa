/- Plainly: a number that is written is read. -/
import Derived.Test.YtlhgfhmdhmgmpaaGreatDoorLpA
set_option linter.unusedVariables false
set_option linter.unusedSimpArgs false
namespace Go.Proofs.YtlhgfhmdhmgmpaaGreatDoor
open Go.RowKit

theorem ofNat_dig {d : Nat} (h : d < 10) : (UInt8.ofNat (48 + d)).toNat = 48 + d := by
  simp; omega

theorem parse_dec : ∀ (u : Nat) (r : List UInt8), u ≤ 9223372036854775808 → Lib.parseUint10 0 (Lib.decDigits u ++ r) = Lib.parseUint10 u r := by
  intro u
  induction u using Nat.strongRecOn with
  | ind u ih =>
    intro r hu
    rw [Lib.decDigits]
    by_cases h : u < 10
    · rw [dif_pos h, List.cons_append, List.nil_append, Lib.parseUint10, ofNat_dig h, if_pos (by omega), if_neg (by omega), if_neg (by omega)]
      congr 1
      omega
    · rw [dif_neg h, List.append_assoc, ih (u / 10) (by omega) _ (by omega), List.cons_append, List.nil_append, Lib.parseUint10, ofNat_dig (by omega), if_pos (by omega), if_neg (by omega), if_neg (by omega)]
      congr 1
      omega

theorem dec_chars : ∀ (u : Nat), ∀ c ∈ Lib.decDigits u, 48 ≤ c.toNat ∧ c.toNat ≤ 57 := by
  intro u
  induction u using Nat.strongRecOn with
  | ind u ih =>
    intro c hc
    rw [Lib.decDigits] at hc
    by_cases h : u < 10
    · rw [dif_pos h] at hc
      have := List.mem_singleton.1 hc
      rw [this, ofNat_dig h]
      omega
    · rw [dif_neg h] at hc
      rcases List.mem_append.1 hc with hc | hc
      · exact ih (u / 10) (by omega) c hc
      · have := List.mem_singleton.1 hc
        rw [this, ofNat_dig (by omega)]
        omega

theorem dec_ne (u : Nat) : Lib.decDigits u ≠ [] := by
  rw [Lib.decDigits]
  split <;> simp

theorem mag_dec (u : Nat) (hu : u ≤ 9223372036854775808) : Lib.parseMag (Lib.decDigits u) = .ok u := by
  unfold Lib.parseMag
  rw [if_neg (dec_ne u)]
  have := parse_dec u [] hu
  rw [List.append_nil] at this
  rw [this]
  rfl

theorem atoi_nonneg (u : Nat) (hu : u ≤ 9223372036854775807) : Lib.atoiAll (Lib.decDigits u) = .ok (u : Int) := by
  obtain ⟨c, r, e⟩ := List.exists_cons_of_ne_nil (dec_ne u)
  have hc := dec_chars u c (by rw [e]; simp)
  have hm := mag_dec u (by omega)
  rw [e] at hm ⊢
  have h1 : ¬ (c.toNat = 43 ∨ c.toNat = 45) := by omega
  have h2 : ¬ c.toNat = 45 := by omega
  unfold Lib.atoiAll
  simp only [if_neg h1]
  rw [hm]
  simp only
  rw [if_neg (by omega), if_neg (fun h => h2 h.1), if_neg h2]

theorem atoi_neg (u : Nat) (h1 : 1 ≤ u) (hu : u ≤ 9223372036854775808) : Lib.atoiAll (45 :: Lib.decDigits u) = .ok (-(u : Int)) := by
  have hm := mag_dec u hu
  have hc : ((45 : UInt8).toNat = 43 ∨ (45 : UInt8).toNat = 45) := .inr rfl
  have hc2 : ((45 : UInt8).toNat = 45) := rfl
  unfold Lib.atoiAll
  simp only [if_pos hc]
  rw [hm]
  simp only
  rw [if_neg (fun h => h.1 hc2), if_neg (by omega), if_pos hc2]

theorem atoi_itoa (n : Int) (h0 : -9223372036854775808 ≤ n) (h1 : n ≤ 9223372036854775807) : Lib.atoiAll (Lib.itoa n) = .ok n := by
  by_cases h : n < 0
  · obtain ⟨u, rfl⟩ : ∃ u : Nat, n = -(u : Int) := ⟨n.natAbs, by omega⟩
    rw [Lib.itoa_neg u (by omega), atoi_neg u (by omega) (by omega)]
  · obtain ⟨u, rfl⟩ : ∃ u : Nat, n = (u : Int) := ⟨n.toNat, by omega⟩
    rw [Lib.itoa_nonneg u, atoi_nonneg u (by omega)]

theorem itoa_chars (n : Int) : ∀ c ∈ Lib.itoa n, c = 45 ∨ (48 ≤ c.toNat ∧ c.toNat ≤ 57) := by
  intro c hc
  unfold Lib.itoa at hc
  split at hc
  · rcases List.mem_cons.1 hc with rfl | hc
    · exact .inl rfl
    · exact .inr (dec_chars _ c hc)
  · exact .inr (dec_chars _ c hc)

theorem itoa_ne (n : Int) : Lib.itoa n ≠ [] := by
  unfold Lib.itoa
  split
  · simp
  · exact dec_ne _

theorem value_itoa (n : Int) (h0 : -9223372036854775808 ≤ n) (h1 : n ≤ 9223372036854775807) : valueP (Lib.itoa n) = (n, true) := by
  unfold valueP
  rw [atoi_itoa n h0 h1]
  simp

theorem hasPrefix_cons (c : UInt8) (l : List UInt8) : Lib.hasPrefix (c :: l) [c] = true := by
  unfold Lib.hasPrefix
  simp [List.isPrefixOf]

theorem signed_itoa (c : UInt8) (n : Int) (h0 : 0 ≤ n) (h1 : n ≤ 9223372036854775807) : signedP (c :: Lib.itoa n) c = (n, true) := by
  unfold signedP Lib.trimPrefix
  rw [hasPrefix_cons, if_pos rfl]
  have : (c :: Lib.itoa n).drop [c].length = Lib.itoa n := rfl
  rw [this, value_itoa n (by omega) h1]
  simp [h0]

/-- A byte of a word: neither a blank nor a line's end nor a remark's start. -/
def WordB (l : List UInt8) : Prop := l ≠ [] ∧ ∀ c ∈ l, c ≠ 32 ∧ c ≠ 9 ∧ c ≠ 10 ∧ c ≠ 59

theorem word_itoa (n : Int) : WordB (Lib.itoa n) := by
  refine ⟨itoa_ne n, fun c hc => ?_⟩
  rcases itoa_chars n c hc with rfl | h
  · decide
  · refine ⟨?_, ?_, ?_, ?_⟩ <;> (rintro rfl; revert h; decide)

theorem WordB.cons {c : UInt8} {l : List UInt8} (h : WordB l) (hc : c ≠ 32 ∧ c ≠ 9 ∧ c ≠ 10 ∧ c ≠ 59) : WordB (c :: l) := by
  refine ⟨by simp, fun d hd => ?_⟩
  rcases List.mem_cons.1 hd with rfl | hd
  · exact hc
  · exact h.2 d hd

theorem WordB.sep {l : List UInt8} (h : WordB l) : ∀ c ∈ l, sepB c = false := by
  intro c hc
  have := h.2 c hc
  unfold sepB
  simp [this.1, this.2.1]

/-- Words joined by a blank are those words. -/
theorem words_join : ∀ (xs : List (List UInt8)), (∀ x ∈ xs, WordB x) → wordsB [] (Lib.join xs [32]) = xs
  | [], _ => rfl
  | x :: r, h => by
    have key : ∀ (r : List (List UInt8)) (cur : List UInt8), cur ≠ [] → (∀ y ∈ r, WordB y) → wordsB cur (Lib.joinTail [32] r) = cur :: r := by
      intro r
      induction r with
      | nil => intro cur hc _; rw [show Lib.joinTail [32] [] = [] from rfl, wordsB, if_neg hc]
      | cons y r ih =>
        intro cur hc hy
        have e : Lib.joinTail [32] (y :: r) = 32 :: (y ++ Lib.joinTail [32] r) := by unfold Lib.joinTail; simp
        rw [e, wordsB, if_pos (by decide), if_neg hc, wordsB_run _ _ _ (hy y (by simp)).sep, List.nil_append, ih y (hy y (by simp)).1 (fun z hz => hy z (by simp [hz]))]
    rw [Lib.join_cons, wordsB_run _ _ _ (h x (by simp)).sep, List.nil_append, key r x (h x (by simp)).1 (fun y hy => h y (by simp [hy]))]

theorem join_chars (P : UInt8 → Prop) (xs : List (List UInt8)) (h : ∀ x ∈ xs, ∀ c ∈ x, P c) (h32 : P 32) : ∀ c ∈ Lib.join xs [32], P c := by
  cases xs with
  | nil => intro c hc; cases hc
  | cons x r =>
    intro c hc
    rw [Lib.join_cons] at hc
    rcases List.mem_append.1 hc with hc | hc
    · exact h x (by simp) c hc
    · unfold Lib.joinTail at hc
      obtain ⟨l, hl, hc⟩ := List.mem_flatten.1 hc
      obtain ⟨y, hy, rfl⟩ := List.mem_map.1 hl
      rcases List.mem_append.1 hc with hc | hc
      · rw [List.mem_singleton.1 hc]; exact h32
      · exact h y (by simp [hy]) c hc

theorem takeWhile_all {α : Type} (p : α → Bool) : ∀ l : List α, (∀ c ∈ l, p c = true) → l.takeWhile p = l
  | [], _ => rfl
  | x :: l, h => by rw [List.takeWhile_cons, if_pos (h x (by simp)), takeWhile_all p l (fun c hc => h c (by simp [hc]))]

theorem wordsL_join (xs : List (List UInt8)) (h : ∀ x ∈ xs, WordB x) : wordsL (Lib.join xs [32]) = xs := by
  unfold wordsL
  rw [takeWhile_all _ _ (fun c hc => decide_eq_true (join_chars (fun c => c ≠ 59) xs (fun x hx c hc => ((h x hx).2 c hc).2.2.2) (by decide) c hc)), words_join xs h]

theorem join_no10 (xs : List (List UInt8)) (h : ∀ x ∈ xs, WordB x) : (10 : UInt8) ∉ Lib.join xs [32] :=
  fun hc => join_chars (fun c => c ≠ 10) xs (fun x hx c hc => ((h x hx).2 c hc).2.2.1) (by decide) 10 hc rfl

end Go.Proofs.YtlhgfhmdhmgmpaaGreatDoor
