/- The lexer plainly: what another text ahead of the same bytes changes. -/
import Derived.Test.YtjoboaaambdpoaaDoorLxP
set_option linter.unusedVariables false
set_option linter.unusedSimpArgs false
namespace Go.Proofs.YtjoboaaambdpoaaDoor
open Go.RowKit

theorem gt_take {l l' : List UInt8} {n i : Nat} (h : l'.take n = l.take n) (hi : i < n) : gt l' i = gt l i := by
  unfold gt
  have := congrArg (fun x => x[i]?) h
  simp only [List.getElem?_take, if_pos hi] at this
  rw [List.getD_eq_getElem?_getD, List.getD_eq_getElem?_getD, this]

/-- The byte behind: as it was, or a blank. -/
def Sep (l l' : List UInt8) (n : Nat) : Prop := gt l' n = gt l n ∨ (9 ≤ gt l' n ∧ gt l' n ≤ 13)

theorem runL_lt : ∀ (l : List UInt8) (i : Nat), i < runL l → isL (gt l i) = true ∨ isD (gt l i) = true
  | [], i, h => by rw [runL] at h; omega
  | c :: r, i, h => by
    rw [runL] at h
    by_cases hc : isL (c.toNat : Int) = true ∨ isD (c.toNat : Int) = true
    · cases i with
      | zero => exact hc
      | succ i =>
        rw [if_pos hc] at h
        exact runL_lt r i (by omega)
    · rw [if_neg hc] at h; omega

theorem runL_end : ∀ (l : List UInt8), ¬ (isL (gt l (runL l)) = true ∨ isD (gt l (runL l)) = true)
  | [] => by decide
  | c :: r => by
    rw [runL]
    by_cases hc : isL (c.toNat : Int) = true ∨ isD (c.toNat : Int) = true
    · rw [if_pos hc, Nat.add_comm]
      exact runL_end r
    · rw [if_neg hc]
      exact hc

theorem runL_is : ∀ (l : List UInt8) (n : Nat), n ≤ l.length → (∀ i, i < n → isL (gt l i) = true ∨ isD (gt l i) = true) → ¬ (isL (gt l n) = true ∨ isD (gt l n) = true) → runL l = n
  | [], n, hn, h, he => by
    have : n = 0 := by simpa using hn
    subst this
    rfl
  | c :: r, 0, hn, h, he => by
    rw [runL, if_neg (show ¬ (isL (c.toNat : Int) = true ∨ isD (c.toNat : Int) = true) from he)]
  | c :: r, n + 1, hn, h, he => by
    rw [runL, if_pos (show isL (c.toNat : Int) = true ∨ isD (c.toNat : Int) = true from h 0 (Nat.succ_pos _))]
    rw [runL_is r n (by simpa using hn) (fun i hi => h (i + 1) (by omega)) he]
    omega

theorem blank_no (c : Int) (h : 9 ≤ c ∧ c ≤ 13) : ¬ (isL c = true ∨ isD c = true) := by
  simp [isL, isD]
  omega

theorem runL_same {l l' : List UInt8} (ht : l'.take (runL l) = l.take (runL l)) (hl : runL l ≤ l'.length) (hs : Sep l l' (runL l)) : runL l' = runL l := by
  refine runL_is l' _ hl (fun i hi => ?_) ?_
  · rw [gt_take ht hi]; exact runL_lt l i hi
  · rcases hs with hs | hs
    · rw [hs]; exact runL_end l
    · exact blank_no _ hs

theorem signL_same {l l' : List UInt8} {n : Nat} (hn : signL l = n) (h1 : 1 ≤ n) (ht : l'.take n = l.take n) (hs : Sep l l' n) : signL l' = n := by
  have h0 : gt l' 0 = gt l 0 := gt_take ht (by omega)
  have hp : 1 < n → gt l' 1 = gt l 1 := fun h => gt_take ht h
  have hq : 2 < n → gt l' 2 = gt l 2 := fun h => gt_take ht h
  unfold Sep at hs
  unfold signL at hn ⊢
  rw [h0]
  have hn3 : n = 1 ∨ n = 2 ∨ n = 3 := by
    generalize gt l 0 = c at hn
    generalize gt l 1 = p at hn
    generalize gt l 2 = q at hn
    unfold signP at hn
    repeat' (split at hn)
    all_goals omega
  generalize gt l 0 = c at hn ⊢
  rcases hn3 with rfl | rfl | rfl
  · generalize gt l 1 = p at hn hs
    generalize gt l 2 = q at hn
    generalize gt l' 1 = p' at hs ⊢
    generalize gt l' 2 = q' at *
    clear hp hq
    unfold signP at hn ⊢
    repeat' (split at hn)
    all_goals first
      | omega
      | (repeat' split) <;> omega
  · rw [hp (by decide)]
    generalize gt l 1 = p at hn
    generalize gt l 2 = q at hn hs
    generalize gt l' 2 = q' at *
    clear hp hq
    unfold signP at hn ⊢
    repeat' (split at hn)
    all_goals first
      | omega
      | (repeat' split) <;> omega
  · rw [hp (by decide), hq (by decide)]
    exact hn

theorem charL_same {l l' : List UInt8} (hne : l ≠ []) (hz : (charL l).2 ≠ 0) (hl : (charL l).2.toNat ≤ l'.length) (ht : l'.take (charL l).2.toNat = l.take (charL l).2.toNat) : charL l' = charL l := by
  have h1 : 1 < (charL l).2.toNat → gt l' 1 = gt l 1 := fun h => gt_take ht h
  have h2 : 2 < (charL l).2.toNat → gt l' 2 = gt l 2 := fun h => gt_take ht h
  have h3 : 3 < (charL l).2.toNat → gt l' 3 = gt l 3 := fun h => gt_take ht h
  clear ht
  rcases charL_n l hne with h | ⟨h, hll⟩ | ⟨h, hll⟩
  · exact absurd h hz
  · have e1 := h1 (by rw [h]; decide)
    have e2 := h2 (by rw [h]; decide)
    have hl3 : 3 ≤ l'.length := by rw [h] at hl; exact hl
    clear h1 h2 h3 hl
    unfold charL at h hz ⊢
    rw [e1, e2]
    generalize gt l 1 = a at *
    generalize gt l 2 = b at *
    generalize gt l 3 = d at *
    generalize gt l' 3 = d' at *
    unfold charP at h hz ⊢
    repeat' (split at h)
    all_goals first
      | (exfalso; simp at h; done)
      | skip
    all_goals (rw [if_neg (show ¬ (l'.length ≤ 0 + 2 ∨ a = 39 ∨ a = 10) by omega), if_neg (show ¬ (l.length ≤ 0 + 2 ∨ a = 39 ∨ a = 10) by omega), if_pos (show a ≠ 92 by assumption), if_pos (show a ≠ 92 by assumption)])
  · have e1 := h1 (by rw [h]; decide)
    have e2 := h2 (by rw [h]; decide)
    have e3 := h3 (by rw [h]; decide)
    have hl4 : 4 ≤ l'.length := by rw [h] at hl; exact hl
    clear h1 h2 h3 hl
    unfold charL
    rw [e1, e2, e3]
    exact charP_len _ _ _ _ _ _ _ (by omega) (by omega)

/-- A token stays that token. -/
theorem tokL_same {l l' : List UInt8} {n : Nat} {t : T} (hne : l ≠ []) (h : tokL l = .tok n t) (hl : n ≤ l'.length) (ht : l'.take n = l.take n) (hs : Sep l l' n) : tokL l' = .tok n t := by
  have hn := tokL_n hne h
  have h0 : gt l' 0 = gt l 0 := gt_take ht (by omega)
  unfold tokL at h ⊢
  rw [h0]
  by_cases hL : isL (gt l 0) = true
  · rw [if_pos hL] at h ⊢
    by_cases h3 : 31 < runL l
    · rw [if_pos h3] at h; cases h
    · rw [if_neg h3] at h
      have hnr : n = runL l := by cases h; rfl
      subst hnr
      rw [runL_same ht hl hs, if_neg h3, ht]
      exact h
  rw [if_neg hL] at h ⊢
  by_cases hD : isD (gt l 0) = true
  · rw [if_pos hD] at h ⊢
    by_cases h3 : (numP (l.take (runL l))).2.2 = true
    · rw [if_pos h3] at h
      have hnr : n = runL l := by cases h; rfl
      subst hnr
      rw [runL_same ht hl hs, ht, if_pos h3]
      exact h
    · rw [if_neg h3] at h; cases h
  rw [if_neg hD] at h ⊢
  by_cases hq : gt l 0 = 39
  · rw [if_pos hq] at h ⊢
    by_cases h3 : (charL l).2 = 0
    · rw [if_pos h3] at h; cases h
    · rw [if_neg h3] at h
      have hnr : n = (charL l).2.toNat := by cases h; rfl
      rw [hnr] at ht hl
      rw [charL_same hne h3 hl ht, if_neg h3]
      exact h
  rw [if_neg hq] at h ⊢
  by_cases h3 : signL l = 0
  · rw [if_pos h3] at h; cases h
  · rw [if_neg h3] at h
    have hnr : n = (signL l).toNat := by cases h; rfl
    have hg := (signL_n l hne).1
    have hsn : signL l = n := by omega
    rw [signL_same hsn hn.1 ht hs, if_neg (by omega)]
    rw [hsn] at h
    rw [show ((n : Int)).toNat = n by omega] at h ⊢
    rw [ht]
    exact h

theorem stepL_kind {l : List UInt8} {n : Nat} {t : T} (h : stepL l = .tok n t) : l ≠ [] ∧ blank (gt l 0) = false ∧ ¬ (gt l 0 = 47 ∧ gt l 1 = 47) ∧ ¬ (gt l 0 = 47 ∧ gt l 1 = 42) ∧ tokL l = .tok n t := by
  unfold stepL at h
  split at h
  · cases h
  split at h
  · cases h
  rename_i hb
  split at h
  · split at h <;> cases h
  split at h
  · split at h <;> cases h
  exact ⟨by assumption, by simpa using hb, by assumption, by assumption, h⟩

theorem stepL_of {l : List UInt8} (h0 : l ≠ []) (h1 : blank (gt l 0) = false) (h2 : ¬ (gt l 0 = 47 ∧ gt l 1 = 47)) (h3 : ¬ (gt l 0 = 47 ∧ gt l 1 = 42)) : stepL l = tokL l := by
  unfold stepL
  rw [if_neg h0, if_neg (by rw [h1]; decide), if_neg h2, if_neg h3]

theorem stepL_same {l l' : List UInt8} {n : Nat} {t : T} (h : stepL l = .tok n t) (hl : n ≤ l'.length) (ht : l'.take n = l.take n) (hs : Sep l l' n) : stepL l' = .tok n t := by
  obtain ⟨h0, h1, h2, h3, h4⟩ := stepL_kind h
  have hn := tokL_n h0 h4
  have e0 : gt l' 0 = gt l 0 := gt_take ht (by omega)
  have e1 : gt l' 1 = gt l 1 ∨ (9 ≤ gt l' 1 ∧ gt l' 1 ≤ 13) := by
    by_cases hn1 : n = 1
    · subst hn1; exact hs
    · exact .inl (gt_take ht (by omega))
  have hne : l' ≠ [] := by rintro rfl; simp at hl; omega
  have h2' : ¬ (gt l' 0 = 47 ∧ gt l' 1 = 47) := by
    rw [e0]
    rcases e1 with e1 | e1
    · rw [e1]; exact h2
    · omega
  have h3' : ¬ (gt l' 0 = 47 ∧ gt l' 1 = 42) := by
    rw [e0]
    rcases e1 with e1 | e1
    · rw [e1]; exact h3
    · omega
  rw [stepL_of hne (by rw [e0]; exact h1) h2' h3']
  exact tokL_same h0 h4 hl ht hs

theorem indexByte_app (c : UInt8) : ∀ (a b : List UInt8), c ∉ a → Lib.indexByte (a ++ c :: b) c = a.length
  | [], b, _ => by rw [List.nil_append, Lib.indexByte, if_pos (by simp)]; rfl
  | x :: a, b, h => by
    have hx : ¬ (x == c) = true := by
      intro e
      exact h (by rw [← eq_of_beq e]; exact List.mem_cons_self ..)
    have ih := indexByte_app c a b (fun hm => h (List.mem_cons_of_mem _ hm))
    rw [List.cons_append, Lib.indexByte, if_neg hx, ih, if_neg (by simp), List.length_cons]
    rfl

theorem indexByte_not (c : UInt8) : ∀ (a : List UInt8), c ∉ a → Lib.indexByte a c = -1
  | [], _ => rfl
  | x :: a, h => by
    have hx : ¬ (x == c) = true := by
      intro e
      exact h (by rw [← eq_of_beq e]; exact List.mem_cons_self ..)
    rw [Lib.indexByte, if_neg hx, indexByte_not c a (fun hm => h (List.mem_cons_of_mem _ hm))]
    rfl

theorem indexByte_form (c : UInt8) : ∀ (l : List UInt8), (Lib.indexByte l c < 0 ∧ c ∉ l) ∨ ∃ a b, l = a ++ c :: b ∧ c ∉ a ∧ Lib.indexByte l c = a.length
  | [] => .inl ⟨show (-1 : Int) < 0 by decide, by simp⟩
  | x :: l => by
    by_cases hx : x = c
    · subst hx
      exact .inr ⟨[], l, rfl, by simp, indexByte_app x [] l (by simp)⟩
    · rcases indexByte_form c l with ⟨h, hn⟩ | ⟨a, b, rfl, hn, h⟩
      · have hm : c ∉ x :: l := by
          intro hm
          rcases List.mem_cons.1 hm with e | e
          · exact hx e.symm
          · exact hn e
        exact .inl ⟨by rw [indexByte_not c _ hm]; decide, hm⟩
      · have hm : c ∉ x :: a := by
          intro hm
          rcases List.mem_cons.1 hm with e | e
          · exact hx e.symm
          · exact hn e
        exact .inr ⟨x :: a, b, rfl, hm, indexByte_app c (x :: a) b hm⟩

theorem occ_take {s s' sub : List UInt8} {m i : Nat} (h : s'.take m = s.take m) (hi : i + sub.length ≤ m) : Lib.occAt s' sub i = Lib.occAt s sub i := by
  unfold Lib.occAt
  have e : (s'.drop i).take sub.length = (s.drop i).take sub.length := by
    have := congrArg (fun x => (x.drop i).take sub.length) h
    simp only [List.drop_take, List.take_take] at this
    rwa [show min sub.length (m - i) = sub.length by omega] at this
  have f : ∀ x : List UInt8, sub.isPrefixOf x = decide (sub = x.take sub.length) := by
    intro x
    rw [Bool.eq_iff_iff, List.isPrefixOf_iff_prefix, decide_eq_true_eq, List.prefix_iff_eq_take]
  rw [f, f, e]

theorem index_same {s s' sub : List UInt8} {i : Nat} (h : Lib.index s sub = i) (hl : i ≤ s'.length) (ht : s'.take (i + sub.length) = s.take (i + sub.length)) : Lib.index s' sub = i := by
  rcases Lib.index_spec s sub with ⟨h1, -⟩ | ⟨j, h1, h2, h3, h4⟩
  · omega
  · obtain rfl : i = j := by omega
    refine Lib.index_first hl ?_ ?_
    · rw [occ_take ht (Nat.le_refl _)]; exact h3
    · intro j hj
      rw [occ_take ht (by omega)]
      exact h4 j hj

/-- Bytes passed over stay so, if a line's end stands behind. -/
theorem skip_same {l l' : List UInt8} {n : Nat} (h : stepL l = .skip n) (hl : n < l'.length) (ht : l'.take n = l.take n) (hs : gt l' n = 10 ∨ (n < l.length ∧ gt l' n = gt l n)) : stepL l' = .skip n := by
  have hn := stepL_skip h
  have e0 : gt l' 0 = gt l 0 := gt_take ht (by omega)
  have hne : l ≠ [] := by rintro rfl; simp at hn; omega
  have hne' : l' ≠ [] := by rintro rfl; simp at hl
  unfold stepL at h ⊢
  rw [if_neg hne] at h
  rw [if_neg hne', e0]
  by_cases h1 : blank (gt l 0) = true
  · rw [if_pos h1] at h ⊢
    exact h
  rw [if_neg h1] at h ⊢
  by_cases h2 : gt l 0 = 47 ∧ gt l 1 = 47
  · rw [if_pos h2] at h
    have hn10 : (10 : UInt8) ∉ l.take n ∧ (n < l.length → gt l n = 10) ∧ 2 ≤ n := by
      rcases indexByte_form 10 l with ⟨hi, hm⟩ | ⟨a, b, rfl, ha, hi⟩
      · rw [if_neg (by omega)] at h
        cases h
        refine ⟨fun hm' => hm (List.mem_of_mem_take hm'), fun h => absurd h (Nat.lt_irrefl _), ?_⟩
        rcases l with _ | ⟨x, _ | ⟨y, l⟩⟩
        · exact absurd rfl hne
        · exact absurd (show (0 : Int) = 47 from h2.2) (by decide)
        · simp
      · rw [if_pos (by omega), hi] at h
        cases h
        rw [show ((a.length : Int)).toNat = a.length by omega]
        refine ⟨by rw [List.take_left']; exact ha; rfl, fun _ => by unfold gt; simp [List.getD_eq_getElem?_getD], ?_⟩
        rcases a with _ | ⟨x, _ | ⟨y, a⟩⟩
        · exact absurd h2.1 (by simp [gt])
        · exact absurd h2.2 (by simp [gt])
        · simp
    have e1 : gt l' 1 = gt l 1 := gt_take ht (by omega)
    rw [e1, if_pos h2]
    have e10 : gt l' n = 10 := by
      rcases hs with hs | ⟨hs, hs2⟩
      · exact hs
      · rw [hs2]; exact hn10.2.1 hs
    have hform : l' = l.take n ++ 10 :: l'.drop (n + 1) := by
      rw [← ht]
      have hd : l'.drop n = l'[n] :: l'.drop (n + 1) := List.drop_eq_getElem_cons hl
      have hv : l'[n] = 10 := by
        unfold gt at e10
        rw [List.getD_eq_getElem?_getD, List.getElem?_eq_getElem hl] at e10
        have : (l'[n]).toNat = 10 := by
          have e11 : ((l'[n]).toNat : Int) = 10 := e10
          omega
        exact UInt8.toNat_inj.1 this
      rw [hv] at hd
      rw [← hd, List.take_append_drop]
    have hix : Lib.indexByte l' 10 = n := by
      rw [hform, indexByte_app 10 _ _ hn10.1, List.length_take]
      omega
    rw [hix, if_pos (by omega)]
    rfl
  rw [if_neg h2] at h
  by_cases h3 : gt l 0 = 47 ∧ gt l 1 = 42
  · rw [if_pos h3] at h
    by_cases h4 : Lib.index (l.drop 2) [42, 47] < 0
    · rw [if_pos h4] at h; cases h
    · rw [if_neg h4] at h
      cases h
      obtain ⟨i, hi⟩ : ∃ i : Nat, Lib.index (l.drop 2) [42, 47] = i := ⟨_, (Int.toNat_of_nonneg (by omega)).symm⟩
      rw [hi] at hl ht hs ⊢
      rw [show ((i : Int)).toNat = i by omega] at hl ht hs ⊢
      have e1 : gt l' 1 = gt l 1 := gt_take ht (by omega)
      have hix : Lib.index (l'.drop 2) [42, 47] = i := by
        refine index_same hi (by rw [List.length_drop]; omega) ?_
        have := congrArg (fun x => x.drop 2) ht
        simp only [List.drop_take] at this
        exact this
      rw [e1, if_neg h2, if_pos h3, hix, if_neg (by omega)]
      rfl
  · rw [if_neg h3] at h
    rcases tokL_form l with ⟨n', t', e⟩ | ⟨e', e, -⟩ <;> rw [e] at h <;> cases h

end Go.Proofs.YtjoboaaambdpoaaDoor
