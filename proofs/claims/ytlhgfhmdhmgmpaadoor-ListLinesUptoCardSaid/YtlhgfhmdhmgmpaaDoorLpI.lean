/- Plainly: two texts put together (ListLines). -/
import Derived.Test.YtlhgfhmdhmgmpaaDoorLpF
set_option linter.unusedVariables false
set_option linter.unusedSimpArgs false
namespace Go.Proofs.YtlhgfhmdhmgmpaaDoor
open Go.RowKit

theorem split10 (s : List UInt8) : (10 : UInt8) ∉ s ∨ ∃ x r, s = x ++ 10 :: r ∧ (10 : UInt8) ∉ x := by
  by_cases h : (10 : UInt8) ∈ s
  · exact .inr (List.eq_append_cons_of_mem h)
  · exact .inl h

def EndsNl (s : List UInt8) : Prop := s = [] ∨ ∃ y, s = y ++ [10]

theorem ends_rest {x r : List UInt8} (h : EndsNl (x ++ 10 :: r)) : EndsNl r := by
  rcases List.eq_nil_or_concat r with rfl | ⟨r', c, rfl⟩
  · exact .inl rfl
  · rcases h with h | ⟨y, h⟩
    · simp at h
    · refine .inr ⟨r', ?_⟩
      rw [List.concat_eq_append] at h ⊢
      rw [show x ++ 10 :: (r' ++ [c]) = (x ++ 10 :: r') ++ [c] by simp] at h
      have := List.append_inj' h rfl
      rw [this.2]

/-- Where a text begins changes nothing but the number of its line. -/
theorem parse_shift : ∀ (m : Nat) (t : List UInt8) (f1 f2 i j : Nat) (acc acc0 : List Line), t.length ≤ m → t.length ≤ f1 → t.length ≤ f2 →
    (∃ k : Nat, parseF f1 (baL t) j acc0 = ([], ((j + k : Nat) : Int), 220) ∧ parseF f2 (baL t) i acc = ([], ((i + k : Nat) : Int), 220)) ∨
    (∃ ls, parseF f1 (baL t) j acc0 = finP (acc0 ++ ls) ∧ parseF f2 (baL t) i acc = finP (acc ++ ls)) := by
  intro m
  induction m with
  | zero =>
    intro t f1 f2 i j acc acc0 hm _ _
    obtain rfl : t = [] := List.length_eq_zero_iff.1 (by omega)
    exact .inr ⟨[], by rw [List.append_nil]; exact parseF_end rfl _ _ _, by rw [List.append_nil]; exact parseF_end rfl _ _ _⟩
  | succ m ih =>
    intro t f1 f2 i j acc acc0 hm h1 h2
    by_cases ht : t = []
    · subst ht
      exact .inr ⟨[], by rw [List.append_nil]; exact parseF_end rfl _ _ _, by rw [List.append_nil]; exact parseF_end rfl _ _ _⟩
    · have hpos : 0 < t.length := List.length_pos_iff.2 ht
      obtain ⟨g1, rfl⟩ : ∃ g, f1 = g + 1 := ⟨f1 - 1, by omega⟩
      obtain ⟨g2, rfl⟩ : ∃ g, f2 = g + 1 := ⟨f2 - 1, by omega⟩
      rcases split10 t with h10 | ⟨x, r, rfl, hx⟩
      · rw [parse_last g1 t j acc0 h10 ht, parse_last g2 t i acc h10 ht]
        cases wordsL t with
        | nil => exact .inr ⟨[], by simp, by simp⟩
        | cons w ws =>
          simp only
          cases lineP (baL w) (ws.map baL) with
          | none => exact .inl ⟨0, rfl, rfl⟩
          | some l => exact .inr ⟨[l], rfl, rfl⟩
      · rw [parse_line g1 x r j acc0 hx, parse_line g2 x r i acc hx]
        rw [List.length_append, List.length_cons] at hm h1 h2
        have next : ∀ (a a0 : List Line) (ls0 : List Line), a = acc ++ ls0 → a0 = acc0 ++ ls0 →
            (∃ k : Nat, parseF g1 (baL r) (j + 1) a0 = ([], ((j + k : Nat) : Int), 220) ∧ parseF g2 (baL r) (i + 1) a = ([], ((i + k : Nat) : Int), 220)) ∨
            (∃ ls, parseF g1 (baL r) (j + 1) a0 = finP (acc0 ++ ls) ∧ parseF g2 (baL r) (i + 1) a = finP (acc ++ ls)) := by
          intro a a0 ls0 ha ha0
          rcases ih r g1 g2 (i + 1) (j + 1) a a0 (by omega) (by omega) (by omega) with ⟨k, e1, e2⟩ | ⟨ls, e1, e2⟩
          · exact .inl ⟨k + 1, by rw [e1]; congr 2; omega, by rw [e2]; congr 2; omega⟩
          · exact .inr ⟨ls0 ++ ls, by rw [e1, ha0, List.append_assoc], by rw [e2, ha, List.append_assoc]⟩
        cases wordsL x with
        | nil => exact next acc acc0 [] (by simp) (by simp)
        | cons w ws =>
          simp only
          cases lineP (baL w) (ws.map baL) with
          | none => exact .inl ⟨0, rfl, rfl⟩
          | some l => exact next (acc ++ [l]) (acc0 ++ [l]) [l] rfl rfl

/-- What stands behind a line's end is read on from there. -/
theorem parse_join : ∀ (m : Nat) (s t : List UInt8) (f1 f2 i : Nat) (acc : List Line), s.length ≤ m → EndsNl s → s.length ≤ f1 → s.length + t.length ≤ f2 →
    (∃ k : Int, parseF f1 (baL s) i acc = ([], k, 220)) ∨
    (∃ (g i' : Nat) (acc' : List Line), t.length ≤ g ∧ parseF f1 (baL s) i acc = finP acc' ∧ parseF f2 (baL (s ++ t)) i acc = parseF g (baL t) i' acc') := by
  intro m
  induction m with
  | zero =>
    intro s t f1 f2 i acc hm _ _ h2
    obtain rfl : s = [] := List.length_eq_zero_iff.1 (by omega)
    exact .inr ⟨f2, i, acc, by simpa using h2, parseF_end rfl _ _ _, rfl⟩
  | succ m ih =>
    intro s t f1 f2 i acc hm he h1 h2
    rcases split10 s with h10 | ⟨x, r, rfl, hx⟩
    · rcases he with rfl | ⟨y, rfl⟩
      · exact .inr ⟨f2, i, acc, by simpa using h2, parseF_end rfl _ _ _, rfl⟩
      · exact absurd (by simp) h10
    · rw [List.length_append, List.length_cons] at hm h1 h2
      obtain ⟨g1, rfl⟩ : ∃ g, f1 = g + 1 := ⟨f1 - 1, by omega⟩
      obtain ⟨g2, rfl⟩ : ∃ g, f2 = g + 1 := ⟨f2 - 1, by omega⟩
      have hr := ends_rest he
      rw [show (x ++ 10 :: r) ++ t = x ++ 10 :: (r ++ t) by simp, parse_line g1 x r i acc hx, parse_line g2 x (r ++ t) i acc hx]
      cases wordsL x with
      | nil => exact ih r t g1 g2 (i + 1) acc (by omega) hr (by omega) (by omega)
      | cons w ws =>
        simp only
        cases lineP (baL w) (ws.map baL) with
        | none => exact .inl ⟨_, rfl⟩
        | some l => exact ih r t g1 g2 (i + 1) (acc ++ [l]) (by omega) hr (by omega) (by omega)

theorem fin_ok {acc : List Line} (h : (finP acc).2.2 = 0) : acc.length ≤ 60000 ∧ finP acc = (acc, 0, 0) := by
  unfold finP at h ⊢
  split at h
  · exact absurd h (by decide)
  · rename_i hn
    exact ⟨by omega, if_neg hn⟩

/-- The law, plainly. -/
theorem lines_law (s t : List UInt8) (he : EndsNl s) (h0 : (parseR (baL s)).2.2 = 0) (hlen : (parseR (baL s)).1.length + (parseR (baL t)).1.length ≤ 60000) :
    ((parseR (baL t)).2.2 ≠ 0 → (parseR (baL (s ++ t))).2.2 = (parseR (baL t)).2.2 ∧ (parseR (baL t)).2.1 ≤ (parseR (baL (s ++ t))).2.1) ∧
    ((parseR (baL t)).2.2 = 0 → parseR (baL (s ++ t)) = ((parseR (baL s)).1 ++ (parseR (baL t)).1, 0, 0)) := by
  have J := parse_join s.length s t (baL s).size (baL (s ++ t)).size 0 [] (Nat.le_refl _) he (by rw [baL_size]; exact Nat.le_refl _) (by rw [baL_size, List.length_append]; exact Nat.le_refl _)
  rcases J with ⟨k, e⟩ | ⟨g, i', acc', hg, e1, e2⟩
  · rw [show parseR (baL s) = ([], k, 220) from e] at h0
    exact absurd h0 (by simp)
  · have r1 : parseR (baL s) = finP acc' := e1
    have r2 : parseR (baL (s ++ t)) = parseF g (baL t) i' acc' := e2
    rw [r1] at h0
    obtain ⟨ha, hfin⟩ := fin_ok h0
    rw [hfin] at r1
    rw [r1] at hlen
    rw [r1, r2]
    have S := parse_shift t.length t (baL t).size g i' 0 acc' [] (Nat.le_refl _) (by rw [baL_size]; exact Nat.le_refl _) hg
    rcases S with ⟨k, e3, e4⟩ | ⟨ls, e3, e4⟩
    · have r3 : parseR (baL t) = ([], ((0 + k : Nat) : Int), 220) := e3
      rw [r3, e4]
      refine ⟨fun _ => ⟨rfl, ?_⟩, fun h => absurd h (by simp)⟩
      show ((0 + k : Nat) : Int) ≤ ((i' + k : Nat) : Int)
      omega
    · have r3 : parseR (baL t) = finP ls := e3
      rw [r3] at hlen ⊢
      rw [e4]
      by_cases hb : 60000 < ls.length
      · have f1 : finP ls = ([], 0, 2) := by unfold finP; rw [if_pos hb]
        have f2 : finP (acc' ++ ls) = ([], 0, 2) := by unfold finP; rw [if_pos (by rw [List.length_append]; omega)]
        rw [f1, f2]
        exact ⟨fun _ => ⟨rfl, Int.le_refl _⟩, fun h => absurd h (by decide)⟩
      · have f1 : finP ls = (ls, 0, 0) := by unfold finP; rw [if_neg hb]
        rw [f1] at hlen ⊢
        have f2 : finP (acc' ++ ls) = (acc' ++ ls, 0, 0) := by unfold finP; rw [if_neg (by rw [List.length_append]; simp only at hlen; omega)]
        rw [f2]
        exact ⟨fun h => absurd rfl h, fun _ => rfl⟩

end Go.Proofs.YtlhgfhmdhmgmpaaDoor
