/- Plainly: a list that is written is read. -/
import Derived.Test.YtlhgfhmdhmgmpaaGreatDoorLpD
import Derived.Test.YtlhgfhmdhmgmpaaGreatDoorLiH
set_option linter.unusedVariables false
set_option linter.unusedSimpArgs false
namespace Go.Proofs.YtlhgfhmdhmgmpaaGreatDoor
open Go.RowKit

theorem suffix_snoc (a : List UInt8) (c : UInt8) : Lib.hasSuffix (a ++ [c]) [c] = true := by
  unfold Lib.hasSuffix
  exact List.isSuffixOf_iff_suffix.2 (List.suffix_append a [c])

theorem label_of {l : Line} (h : mayP l = true) (h0 : l.op = 0) : l = labelL l.label ∧ 0 ≤ l.label ∧ l.label ≤ 100000 := by
  unfold mayP at h
  rw [if_pos h0] at h
  unfold labelP inLab at h
  simp only [Bool.and_eq_true, decide_eq_true_eq] at h
  obtain ⟨⟨⟨⟨⟨a1, a2⟩, a3⟩, a4⟩, a5⟩, a6⟩ := h
  exact ⟨line_ext h0 a1 a2 a3 a4 rfl (List.length_eq_zero_iff.1 a5), a6⟩

theorem wordsL_one (x : List UInt8) (h : WordB x) : wordsL x = [x] := by
  have := wordsL_join [x] (fun y hy => by rw [List.mem_singleton.1 hy]; exact h)
  rwa [Lib.join_one] at this

/-- A line that is written: its words say that line. -/
theorem line_back {l : Line} (hwf : WfL l) (hm : mayP l = true) :
    (10 : UInt8) ∉ textP l ∧ ∃ x r, wordsL (textP l) = x :: r ∧ lineP (baL x) (r.map baL) = some l := by
  by_cases h0 : l.op = 0
  · have hl := label_of hm h0
    have e : textP l = (76 :: Lib.itoa l.label) ++ [58] := by unfold textP; rw [if_pos h0]
    have hw : WordB (textP l) := by
      rw [e]
      refine ⟨by simp, fun c hc => ?_⟩
      rcases List.mem_append.1 hc with hc | hc
      · exact ((word_itoa l.label).cons (c := 76) (by decide)).2 c hc
      · rw [List.mem_singleton.1 hc]; decide
    refine ⟨fun hc => (hw.2 10 hc).2.2.1 rfl, textP l, [], wordsL_one _ hw, ?_⟩
    have ht : Lib.trimSuffix ((76 :: Lib.itoa l.label) ++ [58]) [58] = 76 :: Lib.itoa l.label := by
      unfold Lib.trimSuffix
      rw [suffix_snoc, if_pos rfl]
      exact List.take_left' (by simp)
    unfold lineP
    rw [baL_list, e, suffix_snoc, if_pos (by simp), ht]
    unfold labelR
    rw [signed_itoa 76 _ hl.2.1 (by have := hl.2.2; omega)]
    simp only [Bool.true_and]
    rw [← hl.1, if_pos hm]
  · have hE := may_ends hm h0
    obtain ⟨h1, h2, _⟩ := may_op hm h0
    have hfit := fit_all hwf hE h1 h2
    obtain ⟨e, hw⟩ := text_words l h1 h2 hfit
    refine ⟨by rw [e]; exact join_no10 _ hw, _, _, by rw [e]; exact wordsL_join _ hw, ?_⟩
    have hk : l.op.toNat - 1 < 48 := by omega
    have hop := name_op _ hk
    rw [show ((l.op.toNat - 1 : Nat) : Int) + 1 = l.op by omega] at hop
    unfold lineP
    rw [baL_list, (name_word _ hk).2, Bool.false_and, if_neg (by simp)]
    unfold lineI
    rw [hop, if_neg h0, takes_back l (partsP l.op) (newL l.op) (partsP_last _) hfit, fold_back hE h1 h2, Option.bind_some]
    simp only
    rw [hm, if_pos (by simp)]

theorem parse_line (f : Nat) (x r : List UInt8) (i : Nat) (acc : List Line) (h : (10 : UInt8) ∉ x) :
    parseF (f + 1) (baL (x ++ 10 :: r)) i acc = match wordsL x with
      | [] => parseF f (baL r) (i + 1) acc
      | w :: ws => match lineP (baL w) (ws.map baL) with
        | none => ([], (i : Int), 220)
        | some l => parseF f (baL r) (i + 1) (acc ++ [l]) := by
  rw [parseF, if_neg (by rw [baL_size]; simp), (one_at x r h).1, (one_at x r h).2, words_list]
  cases wordsL x <;> rfl

theorem parse_body : ∀ (ls : List Line) (f i : Nat) (acc : List Line), (∀ l ∈ ls, WfL l ∧ mayP l = true) → (bodyP ls).length ≤ f → parseF f (baL (bodyP ls)) i acc = finP (acc ++ ls)
  | [], f, i, acc, _, _ => by
    rw [List.append_nil]
    exact parseF_end rfl _ _ _
  | l :: ls, f, i, acc, h, hf => by
    have e : bodyP (l :: ls) = textP l ++ 10 :: bodyP ls := by unfold bodyP; simp
    rw [e] at hf ⊢
    rw [List.length_append, List.length_cons] at hf
    obtain ⟨g, rfl⟩ : ∃ g, f = g + 1 := ⟨f - 1, by omega⟩
    obtain ⟨hn, x, r, hw, hl⟩ := line_back (h l (by simp)).1 (h l (by simp)).2
    rw [parse_line g _ _ i acc hn, hw]
    simp only
    rw [hl]
    simp only
    rw [parse_body ls g (i + 1) (acc ++ [l]) (fun m hm => h m (by simp [hm])) (by omega), List.append_assoc]
    rfl

/-- What is written is read. -/
theorem parse_print {ls : List Line} (hwf : ∀ l ∈ ls, WfL l) (h : (printP ls).2 = 0) : parseR (baL (printP ls).1) = (ls, 0, 0) := by
  unfold printP at h ⊢
  split at h
  · exact absurd h (by decide)
  · rename_i hlen
    rw [if_neg hlen]
    split at h
    · rename_i hall
      rw [if_pos hall]
      unfold parseR
      rw [parse_body ls _ 0 [] (fun l hl => ⟨hwf l hl, List.all_eq_true.1 hall l hl⟩) (by rw [baL_size]; exact Nat.le_refl _), List.nil_append]
      unfold finP
      rw [if_neg hlen]
    · exact absurd h (by decide)

theorem print_fail {ls : List Line} (h : (printP ls).2 ≠ 0) : (printP ls).1 = [] := by
  unfold printP at h ⊢
  split
  · rfl
  · rename_i hlen
    split
    · rename_i hall
      rw [if_neg hlen, if_pos hall] at h
      exact absurd rfl h
    · rfl

end Go.Proofs.YtlhgfhmdhmgmpaaGreatDoor
