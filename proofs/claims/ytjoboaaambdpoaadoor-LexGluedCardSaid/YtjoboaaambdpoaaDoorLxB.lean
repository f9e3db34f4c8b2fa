/- The lexer plainly: a blank more at the end. -/
import Derived.Test.YtjoboaaambdpoaaDoorLxG
set_option linter.unusedVariables false
set_option linter.unusedSimpArgs false
namespace Go.Proofs.YtjoboaaambdpoaaDoor
open Go.RowKit

section
variable (b : UInt8) (hb : 9 ≤ b.toNat ∧ b.toNat ≤ 13)
include hb

theorem gt_snoc (l : List UInt8) : 9 ≤ gt (l ++ [b]) l.length ∧ gt (l ++ [b]) l.length ≤ 13 := by
  have : gt (l ++ [b]) l.length = (b.toNat : Int) := by unfold gt; simp [List.getD_eq_getElem?_getD]
  rw [this]
  omega

theorem raw_one : raw [b] = ([], 0, 0) := by
  have h : stepL [b] = .skip 1 := by
    unfold stepL
    rw [if_neg (by simp), if_pos (by
      have : gt [b] 0 = (b.toNat : Int) := rfl
      rw [this]
      simp [blank]
      omega)]
  rw [raw_skip h]
  rfl

theorem index_snoc (s : List UInt8) (h : Lib.index s [42, 47] < 0) : Lib.index (s ++ [b]) [42, 47] < 0 := by
  have hs : ∀ j, j ≤ s.length → Lib.occAt s [42, 47] j = false := by
    rcases Lib.index_spec s [42, 47] with ⟨-, h2⟩ | ⟨i, h2, -⟩
    · exact h2
    · omega
  rw [Lib.index_none (s := s ++ [b]) (sub := [42, 47]) (fun j hj => ?_)]
  · decide
  rw [List.length_append, List.length_singleton] at hj
  by_cases h1 : j + 2 ≤ s.length
  · rw [occ_take (s := s) (m := s.length) (by rw [List.take_left', List.take_of_length_le (Nat.le_refl _)]; rfl) h1]
    exact hs j (by omega)
  · unfold Lib.occAt
    rw [Bool.eq_false_iff]
    intro hp
    have hp := List.isPrefixOf_iff_prefix.1 hp
    have hl := hp.length_le
    rw [List.length_drop, List.length_append, List.length_singleton] at hl
    simp only [List.length_cons, List.length_nil] at hl
    have hj1 : j + 1 = s.length := by omega
    obtain ⟨t, ht⟩ := hp
    have h47 := congrArg (fun x => x[1]?) ht
    simp only [List.getElem?_drop] at h47
    rw [hj1, List.getElem?_append_right (Nat.le_refl _)] at h47
    simp at h47
    rw [← h47] at hb
    exact absurd hb (by decide)

theorem bad_snoc {l : List UInt8} {e : Int} (h : stepL l = .bad e) : stepL (l ++ [b]) = .bad e := by
  obtain ⟨-, hne, h1, h2, h3, h4⟩ := stepL_bad h
  have hl0 : 1 ≤ l.length := by cases l with | nil => exact absurd rfl hne | cons _ _ => simp
  have e0 : gt (l ++ [b]) 0 = gt l 0 := gt_app_lt (by omega)
  have hi : ∀ i, i < l.length → gt (l ++ [b]) i = gt l i := fun i h => gt_app_lt h
  have hz : ∀ i, l.length ≤ i → gt l i = 0 := fun i h => gt_out l i h
  have hbl := gt_snoc b hb l
  have hz' : ∀ i, l.length + 1 ≤ i → gt (l ++ [b]) i = 0 := fun i h => gt_out _ i (by simpa using h)
  have hlen : (l ++ [b]).length = l.length + 1 := by simp
  have n1 : ∀ x : Int, x = 47 ∨ x = 42 → ¬ (gt l 0 = 47 ∧ gt l 1 = x) → ¬ (gt (l ++ [b]) 0 = 47 ∧ gt (l ++ [b]) 1 = x) := by
    intro x hx hn
    rw [e0]
    by_cases h : 1 < l.length
    · rw [hi 1 h]; exact hn
    · have : l.length = 1 := by omega
      rw [this] at hbl
      omega
  rw [stepL_of (by simp) (by rw [e0]; exact h1) (n1 47 (.inl rfl) h2) (n1 42 (.inr rfl) h3)]
  have hrl := runL_le l
  have hrun : runL (l ++ [b]) = runL l := runL_same (List.take_append_of_le_length hrl) (by rw [hlen]; omega) (by
    by_cases h : runL l < l.length
    · exact .inl (hi _ h)
    · have : runL l = l.length := by omega
      rw [this]
      exact .inr hbl)
  have htk : (l ++ [b]).take (runL l) = l.take (runL l) := List.take_append_of_le_length hrl
  unfold tokL at h4 ⊢
  rw [e0, hrun, htk]
  by_cases hL : isL (gt l 0) = true
  · rw [if_pos hL] at h4 ⊢; exact h4
  rw [if_neg hL] at h4 ⊢
  by_cases hD : isD (gt l 0) = true
  · rw [if_pos hD] at h4 ⊢; exact h4
  rw [if_neg hD] at h4 ⊢
  by_cases hq : gt l 0 = 39
  · rw [if_pos hq] at h4 ⊢
    by_cases hc : (charL l).2 = 0
    · rw [if_pos hc] at h4
      rw [if_pos ?_]
      · exact h4
      · have i1 := hi 1
        have i2 := hi 2
        have i3 := hi 3
        have z1 := hz' 1
        have z2 := hz' 2
        have z3 := hz' 3
        have b1 : 1 = l.length → 9 ≤ gt (l ++ [b]) 1 ∧ gt (l ++ [b]) 1 ≤ 13 := fun h => by rw [h]; exact hbl
        have b2 : 2 = l.length → 9 ≤ gt (l ++ [b]) 2 ∧ gt (l ++ [b]) 2 ≤ 13 := fun h => by rw [h]; exact hbl
        have b3 : 3 = l.length → 9 ≤ gt (l ++ [b]) 3 ∧ gt (l ++ [b]) 3 ≤ 13 := fun h => by rw [h]; exact hbl
        rcases charL_n (l ++ [b]) (by simp) with h | ⟨h, hll⟩ | ⟨h, hll⟩
        · exact h
        · exfalso
          rw [hlen] at hll
          have h39 : gt (l ++ [b]) 2 = 39 := by
            unfold charL charP at h
            repeat' (split at h)
            all_goals first
              | omega
              | (simp at h; done)
              | (rename_i hx; simpa using hx)
          have hlg : 3 ≤ l.length := by omega
          have hsame := charL_same (l := l ++ [b]) (l' := l) (by simp) (by rw [h]; decide) (by rw [h]; exact hlg) (by rw [h]; exact (List.take_append_of_le_length hlg).symm)
          rw [hsame, h] at hc
          cases hc
        · exfalso
          rw [hlen] at hll
          have h39 : gt (l ++ [b]) 3 = 39 := by
            unfold charL charP at h
            repeat' (split at h)
            all_goals first
              | omega
              | (simp at h; done)
          have hlg : 4 ≤ l.length := by omega
          have hsame := charL_same (l := l ++ [b]) (l' := l) (by simp) (by rw [h]; decide) (by rw [h]; exact hlg) (by rw [h]; exact (List.take_append_of_le_length hlg).symm)
          rw [hsame, h] at hc
          cases hc
    · rw [if_neg hc] at h4; cases h4
  rw [if_neg hq] at h4 ⊢
  by_cases hs : signL l = 0
  · rw [if_pos hs] at h4
    rw [if_pos ?_]
    · exact h4
    · unfold signL at hs ⊢
      rw [e0]
      generalize gt l 0 = c at hs
      generalize gt l 1 = p at hs
      generalize gt l 2 = q at hs
      generalize gt (l ++ [b]) 1 = p'
      generalize gt (l ++ [b]) 2 = q'
      unfold signP at hs ⊢
      repeat' (split at hs)
      all_goals first
        | omega
        | (rw [if_neg (by assumption), if_neg (by assumption), if_neg (by assumption), if_neg (by assumption)])
  · rw [if_neg hs] at h4; cases h4

theorem raw_blank : ∀ (m : Nat) (l : List UInt8), l.length ≤ m → raw (l ++ [b]) = ((raw l).1.map (fun p => (p.1 + 1, p.2)), (raw l).2.1, if (raw l).2.1 = 0 then 0 else (raw l).2.2 + 1) := by
  intro m
  induction m with
  | zero =>
    intro l hl
    have : l = [] := List.eq_nil_of_length_eq_zero (by omega)
    subst this
    exact raw_one b hb
  | succ m ih =>
    intro l hl
    have hlen : (l ++ [b]).length = l.length + 1 := by simp
    cases e : stepL l with
    | fin =>
      have := stepL_fin e
      subst this
      exact raw_one b hb
    | opn =>
      have hne : l ≠ [] := by rintro rfl; cases e
      have e2 : stepL (l ++ [b]) = .opn := by
        rw [stepL_eq hne] at e
        rw [stepL_eq (by simp)]
        have hl0 : 1 ≤ l.length := by cases l with | nil => exact absurd rfl hne | cons _ _ => simp
        rw [gt_app_lt (show 0 < l.length by omega)]
        split at e
        · cases e
        split at e
        · split at e <;> cases e
        split at e
        · rename_i h1 h2 h3
          have h2l : 1 < l.length := by
            apply Classical.byContradiction
            intro h
            have := gt_out l 1 (by omega)
            omega
          rw [if_neg h1, gt_app_lt h2l, if_neg h2, if_pos h3, List.drop_append_of_le_length (by omega)]
          split at e
          · rename_i h4
            rw [if_pos (index_snoc b hb _ h4)]
          · cases e
        · rcases tokL_form l with ⟨n', t', e'⟩ | ⟨e', e'', -⟩
          · rw [e'] at e; cases e
          · rw [e''] at e; cases e
      rw [raw_opn e, raw_opn e2, hlen]
      rfl
    | bad x =>
      have hx : x ≠ 0 := by rcases (stepL_bad e).1 with h | h | h | h <;> rw [h] <;> decide
      rw [raw_bad e, raw_bad (bad_snoc b hb e), hlen]
      simp only [if_neg hx]
      rfl
    | tok n t =>
      have hn := stepL_tok e
      have e' : stepL (l ++ [b]) = .tok n t := stepL_same e (by rw [hlen]; omega) (List.take_append_of_le_length hn.2) (by
        by_cases h : n < l.length
        · exact .inl (gt_app_lt h)
        · have : n = l.length := by omega
          rw [this]
          exact .inr (gt_snoc b hb l))
      rw [raw_tok e, raw_tok e', List.drop_append_of_le_length hn.2, ih (l.drop n) (by rw [List.length_drop]; omega), hlen]
      rfl
    | skip n =>
      have hn := stepL_skip e
      by_cases h : n < l.length
      · have e' : stepL (l ++ [b]) = .skip n := skip_same e (by rw [hlen]; omega) (List.take_append_of_le_length hn.2) (.inr ⟨h, gt_app_lt h⟩)
        rw [raw_skip e, raw_skip e', List.drop_append_of_le_length hn.2]
        exact ih (l.drop n) (by rw [List.length_drop]; omega)
      · have hnl : n = l.length := by omega
        have hr : raw l = ([], 0, 0) := by rw [raw_skip e, hnl, List.drop_length]; rfl
        rw [hr]
        show raw (l ++ [b]) = ([], 0, 0)
        have hne : l ≠ [] := by rintro rfl; cases e
        have hl0 : 1 ≤ l.length := by omega
        have two : stepL (l ++ [b]) = .skip l.length ∨ stepL (l ++ [b]) = .skip (l.length + 1) := by
          rw [stepL_eq hne] at e
          rw [stepL_eq (by simp), gt_app_lt (show 0 < l.length by omega)]
          by_cases h1 : blank (gt l 0) = true
          · rw [if_pos h1] at e ⊢
            cases e
            exact .inl (by rw [← hnl])
          rw [if_neg h1] at e ⊢
          by_cases h2 : gt l 0 = 47 ∧ gt l 1 = 47
          · have h2l : 1 < l.length := by
              apply Classical.byContradiction
              intro h
              have := gt_out l 1 (by omega)
              omega
            rw [if_pos h2] at e
            rw [gt_app_lt h2l, if_pos h2]
            rcases indexByte_form 10 l with ⟨hi, hm⟩ | ⟨x, y, rfl, hx, hi⟩
            · by_cases hb10 : b = 10
              · subst hb10
                have := indexByte_app 10 l [] hm
                rw [this, if_pos (by omega)]
                exact .inl (by simp)
              · rw [if_neg (by rw [indexByte_not 10 (l ++ [b]) (by simp; exact ⟨hm, fun h => hb10 h.symm⟩)]; decide), hlen]
                exact .inr rfl
            · rw [if_pos (by omega), hi] at e
              cases e
              rw [Int.toNat_natCast] at hnl
              rw [List.length_append, List.length_cons] at hnl
              omega
          rw [if_neg h2] at e
          by_cases h3 : gt l 0 = 47 ∧ gt l 1 = 42
          · have h2l : 1 < l.length := by
              apply Classical.byContradiction
              intro h
              have := gt_out l 1 (by omega)
              omega
            rw [if_pos h3] at e
            rw [gt_app_lt h2l, if_neg h2, if_pos h3]
            by_cases h4 : Lib.index (l.drop 2) [42, 47] < 0
            · rw [if_pos h4] at e; cases e
            · rw [if_neg h4] at e
              cases e
              obtain ⟨i, hi⟩ : ∃ i : Nat, Lib.index (l.drop 2) [42, 47] = i := ⟨_, (Int.toNat_of_nonneg (by omega)).symm⟩
              rw [hi, Int.toNat_natCast] at hnl
              have hdl : (l.drop 2).length = l.length - 2 := List.length_drop
              rw [List.drop_append_of_le_length (by omega), index_same (s' := l.drop 2 ++ [b]) hi (by rw [List.length_append]; omega) (List.take_append_of_le_length (by simp only [List.length_cons, List.length_nil]; omega)), if_neg (by omega), Int.toNat_natCast]
              exact .inl (by rw [← hnl])
          · rw [if_neg h3] at e
            rcases tokL_form l with ⟨n', t', e'⟩ | ⟨e', e'', -⟩
            · rw [e'] at e; cases e
            · rw [e''] at e; cases e
        rcases two with h2 | h2
        · rw [raw_skip h2, List.drop_left']
          · exact raw_one b hb
          · rfl
        · rw [raw_skip h2, show l.length + 1 = (l ++ [b]).length from hlen.symm, List.drop_length]
          rfl
end

end Go.Proofs.YtjoboaaambdpoaaDoor
