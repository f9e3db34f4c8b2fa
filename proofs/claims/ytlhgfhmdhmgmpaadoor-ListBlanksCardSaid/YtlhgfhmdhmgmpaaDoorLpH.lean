/- Plainly: blanks, remarks and empty lines change nothing (ListBlanks). -/
import Derived.Test.YtlhgfhmdhmgmpaaDoorLpF
set_option linter.unusedVariables false
set_option linter.unusedSimpArgs false
namespace Go.Proofs.YtlhgfhmdhmgmpaaDoor
open Go.RowKit

def pickP (c : Int) : Int := (if c < 0 then -(c + 1) else c).tmod 6

def remB : List UInt8 := [59, 32, 97, 32, 114, 101, 109, 97, 114, 107, 32, 59, 32, 76, 55, 58, 10]

/-- What stands in the place of a byte. -/
def pieceB (c : UInt8) (k : Int) : List UInt8 :=
  if c = 32 ∧ k = 1 then [9, 32] else if c = 32 ∧ k = 2 then [32, 32, 32] else if c = 10 ∧ k = 1 then [32, 10] else if c = 10 ∧ k = 2 then remB
  else if c = 10 ∧ k = 3 then [10, 10, 32, 9, 59, 10, 9] else [c]

def gapB (how : List Int) (c : UInt8) : Bool := decide (how ≠ []) && (decide (c = 32) || decide (c = 10))

def kAt (how : List Int) (n : Nat) : Int := pickP (how.getD (n % how.length) 0)

/-- The text with other blanks, and how far the row of choices has come. -/
def blankB (how : List Int) : Nat → List UInt8 → List UInt8
  | _, [] => []
  | n, c :: s => if gapB how c = true then pieceB c (kAt how n) ++ blankB how (n + 1) s else c :: blankB how n s

def blankN (how : List Int) : Nat → List UInt8 → Nat
  | n, [] => n
  | n, c :: s => if gapB how c = true then blankN how (n + 1) s else blankN how n s

theorem blank_app (how : List Int) : ∀ (x : List UInt8) (n : Nat) (r : List UInt8), blankB how n (x ++ r) = blankB how n x ++ blankB how (blankN how n x) r
  | [], n, r => rfl
  | c :: x, n, r => by
    rw [List.cons_append, blankB, blankB, blankN]
    split
    · rw [blank_app how x, List.append_assoc]
    · rw [blank_app how x]; rfl

theorem gap_no (how : List Int) {c : UInt8} (h1 : c ≠ 32) (h2 : c ≠ 10) : gapB how c = false := by
  unfold gapB
  simp [h1, h2]

theorem piece_32 (k : Int) : pieceB 32 k = [9, 32] ∨ pieceB 32 k = [32, 32, 32] ∨ pieceB 32 k = [32] := by
  unfold pieceB
  by_cases h1 : k = 1
  · simp [h1]
  · by_cases h2 : k = 2
    · simp [h2]
    · simp [h1, h2]

theorem piece_10 (k : Int) : pieceB 10 k = [32, 10] ∨ pieceB 10 k = remB ∨ pieceB 10 k = [10, 10, 32, 9, 59, 10, 9] ∨ pieceB 10 k = [10] := by
  unfold pieceB
  by_cases h1 : k = 1
  · simp [h1]
  · by_cases h2 : k = 2
    · simp [h2]
    · by_cases h3 : k = 3
      · simp [h3]
      · simp [h1, h2, h3]

theorem blank_ends (how : List Int) (n : Nat) (r : List UInt8) : ∃ p n', (p = [32, 10] ∨ p = remB ∨ p = [10, 10, 32, 9, 59, 10, 9] ∨ p = [10]) ∧ blankB how n (10 :: r) = p ++ blankB how n' r := by
  rw [blankB]
  split
  · exact ⟨_, _, piece_10 _, rfl⟩
  · exact ⟨[10], n, .inr (.inr (.inr rfl)), rfl⟩

/-- Within a line: no line's end, no remark, the same words. -/
theorem blank_line (how : List Int) : ∀ (x : List UInt8) (n : Nat), (10 : UInt8) ∉ x → (59 : UInt8) ∉ x →
    ((10 : UInt8) ∉ blankB how n x ∧ (59 : UInt8) ∉ blankB how n x) ∧ ∀ cur z, wordsB cur (blankB how n x ++ z) = wordsB cur (x ++ z)
  | [], n, _, _ => ⟨⟨by simp [blankB], by simp [blankB]⟩, fun _ _ => rfl⟩
  | c :: x, n, h1, h2 => by
    have c1 : c ≠ 10 := fun e => h1 (by simp [e])
    have c2 : c ≠ 59 := fun e => h2 (by simp [e])
    have x1 : (10 : UInt8) ∉ x := fun e => h1 (by simp [e])
    have x2 : (59 : UInt8) ∉ x := fun e => h2 (by simp [e])
    rw [blankB]
    split
    · rename_i hg
      have hc : c = 32 := by
        by_cases h : c = 32
        · exact h
        · rw [gap_no how h c1] at hg; cases hg
      subst hc
      have ih := blank_line how x (n + 1) x1 x2
      rcases piece_32 (kAt how n) with e | e | e <;> rw [e]
      · refine ⟨⟨by simp [ih.1.1], by simp [ih.1.2]⟩, fun cur z => ?_⟩
        have := ih.2 [] z
        simp only [List.cons_append, List.nil_append, wordsB]
        rw [this]
        simp [sepB]
      · refine ⟨⟨by simp [ih.1.1], by simp [ih.1.2]⟩, fun cur z => ?_⟩
        have := ih.2 [] z
        simp only [List.cons_append, List.nil_append, wordsB]
        rw [this]
        simp [sepB]
      · refine ⟨⟨by simp [ih.1.1], by simp [ih.1.2]⟩, fun cur z => ?_⟩
        have := ih.2 [] z
        simp only [List.cons_append, List.nil_append, wordsB]
        rw [this]
        simp [sepB]
    · have ih := blank_line how x n x1 x2
      refine ⟨⟨by simp [ih.1.1, Ne.symm c1], by simp [ih.1.2, Ne.symm c2]⟩, fun cur z => ?_⟩
      have i1 := ih.2 [] z
      have i2 := ih.2 (cur ++ [c]) z
      simp only [List.cons_append, wordsB]
      rw [i1, i2]

theorem words_end : ∀ (x cur : List UInt8), wordsB cur (x ++ [32]) = wordsB cur x
  | [], cur => by simp [wordsB, sepB]
  | c :: x, cur => by
    simp only [List.cons_append, wordsB]
    rw [words_end x [], words_end x (cur ++ [c])]

def TailB (t : List UInt8) : Prop := t = [] ∨ t = [32] ∨ ∃ r, t = 59 :: r

theorem wordsL_line (how : List Int) (n : Nat) (x pre t : List UInt8) (h1 : (10 : UInt8) ∉ x) (h2 : (59 : UInt8) ∉ x) (hp : pre = [] ∨ pre = [9]) (ht : TailB t) :
    wordsL (pre ++ (blankB how n x ++ t)) = wordsL x := by
  have hb := blank_line how x n h1 h2
  have key : ∀ y : List UInt8, (59 : UInt8) ∉ y → y.takeWhile (fun c => decide (c ≠ 59)) = y := fun y hy => takeWhile_all _ y fun c hc => decide_eq_true fun e => hy (e ▸ hc)
  have kapp : ∀ (y z : List UInt8), (59 : UInt8) ∉ y → (y ++ z).takeWhile (fun c => decide (c ≠ 59)) = y ++ z.takeWhile (fun c => decide (c ≠ 59)) := fun y z hy =>
    List.takeWhile_append_of_pos fun c hc => decide_eq_true fun e => hy (e ▸ hc)
  have hpre : (59 : UInt8) ∉ pre := by rcases hp with rfl | rfl <;> simp
  have kw : ∀ y, wordsB [] (pre ++ y) = wordsB [] y := fun y => by
    rcases hp with rfl | rfl
    · rfl
    · simp [wordsB, sepB]
  unfold wordsL
  rw [kapp _ _ hpre, kapp _ _ hb.1.2, kw, key x h2]
  have hx : wordsB [] (blankB how n x) = wordsB [] x := by have := hb.2 [] []; simpa using this
  rcases ht with rfl | rfl | ⟨r, rfl⟩
  · simpa using hx
  · rw [show [32].takeWhile (fun c : UInt8 => decide (c ≠ 59)) = [32] by decide, words_end, hx]
  · rw [show (59 :: r).takeWhile (fun c : UInt8 => decide (c ≠ 59)) = [] by simp, List.append_nil, hx]

/-- A line's text: words, parted by blanks. -/
theorem text_line {l : Line} (hwf : WfL l) (hm : mayP l = true) : ∃ ws, (∀ x ∈ ws, WordB x) ∧ textP l = Lib.join ws [32] ∧ ws.length ≤ 1300 := by
  by_cases h0 : l.op = 0
  · have e : textP l = (76 :: Lib.itoa l.label) ++ [58] := by unfold textP; rw [if_pos h0]
    have hw : WordB (textP l) := by
      rw [e]
      refine ⟨by simp, fun c hc => ?_⟩
      rcases List.mem_append.1 hc with hc | hc
      · exact ((word_itoa l.label).cons (c := 76) (by decide)).2 c hc
      · rw [List.mem_singleton.1 hc]; decide
    exact ⟨[textP l], fun x hx => by rw [List.mem_singleton.1 hx]; exact hw, (Lib.join_one _ _).symm, by simp⟩
  · have hE := may_ends hm h0
    obtain ⟨h1, h2, hf⟩ := may_op hm h0
    obtain ⟨e, hw⟩ := text_words l h1 h2 (fit_all hwf hE h1 h2)
    refine ⟨_, hw, e, ?_⟩
    have hs : l.list.length ≤ 400 := by
      unfold fitsP at hf
      simp only [Bool.and_eq_true, decide_eq_true_eq] at hf
      first | exact hf.1.1.2 | exact hf.2 | exact hf.1.1.1.2 | exact hf.1.2.2
    have hk : ∀ ps : List Part, (ps.flatMap (wsP l)).length ≤ 401 * ps.length := by
      intro ps
      induction ps with
      | nil => simp
      | cons p ps ih =>
        rw [List.flatMap_cons, List.length_append, List.length_cons]
        have : (wsP l p).length ≤ 401 := by
          cases p <;> simp [wsP]
          omega
        omega
    have := hk (partsP l.op)
    have := partsP_len l.op
    rw [List.length_cons]
    omega

theorem join_no59 (ws : List (List UInt8)) (h : ∀ x ∈ ws, WordB x) : (10 : UInt8) ∉ Lib.join ws [32] ∧ (59 : UInt8) ∉ Lib.join ws [32] := by
  have := join_chars (fun c => c ≠ 10 ∧ c ≠ 59) ws (fun x hx c hc => ⟨((h x hx).2 c hc).2.2.1, ((h x hx).2 c hc).2.2.2⟩) (by decide)
  exact ⟨fun hc => (this 10 hc).1 rfl, fun hc => (this 59 hc).2 rfl⟩

theorem parse_empty (f : Nat) (x r : List UInt8) (i : Nat) (acc : List Line) (h : (10 : UInt8) ∉ x) (hw : wordsL x = []) :
    parseF (f + 1) (baL (x ++ 10 :: r)) i acc = parseF f (baL r) (i + 1) acc := by
  rw [parse_line f x r i acc h, hw]

/-- What is written, with other blanks, is read as it was. -/
theorem parse_blank (how : List Int) : ∀ (ls : List Line) (f i n : Nat) (acc : List Line) (pre : List UInt8), (pre = [] ∨ pre = [9]) → (∀ l ∈ ls, WfL l ∧ mayP l = true) → (pre ++ blankB how n (bodyP ls)).length ≤ f →
    parseF f (baL (pre ++ blankB how n (bodyP ls))) i acc = finP (acc ++ ls)
  | [], f, i, n, acc, pre, hp, _, hf => by
    rw [List.append_nil]
    rcases hp with rfl | rfl
    · exact parseF_end rfl _ _ _
    · obtain ⟨g, rfl⟩ : ∃ g, f = g + 1 := ⟨f - 1, by have : 1 ≤ f := hf; omega⟩
      exact parse_last g [9] i acc (by decide) (by decide)
  | l :: ls, f, i, n, acc, pre, hp, h, hf => by
    have e : bodyP (l :: ls) = textP l ++ 10 :: bodyP ls := by unfold bodyP; simp
    obtain ⟨ws, hws, ht, _⟩ := text_line (h l (by simp)).1 (h l (by simp)).2
    have hno := join_no59 ws hws
    rw [← ht] at hno
    obtain ⟨_, x, r, hw, hl⟩ := line_back (h l (by simp)).1 (h l (by simp)).2
    have hb := blank_line how (textP l) n hno.1 hno.2
    obtain ⟨p, n', hpp, he⟩ := blank_ends how (blankN how n (textP l)) (bodyP ls)
    rw [e, blank_app, he] at hf ⊢
    have hpre : (10 : UInt8) ∉ pre := by rcases hp with rfl | rfl <;> simp
    have one : ∀ (t R : List UInt8) (g : Nat), TailB t → (10 : UInt8) ∉ t → parseF (g + 1) (baL ((pre ++ (blankB how n (textP l) ++ t)) ++ 10 :: R)) i acc = parseF g (baL R) (i + 1) (acc ++ [l]) := by
      intro t R g htl ht10
      rw [parse_line g _ R i acc (by simp [hpre, hb.1.1, ht10]), wordsL_line how n _ pre t hno.1 hno.2 hp htl, hw]
      simp only
      rw [hl]
    have hrest : ∀ l ∈ ls, WfL l ∧ mayP l = true := fun m hm => h m (by simp [hm])
    rw [show acc ++ l :: ls = (acc ++ [l]) ++ ls by simp]
    simp only [List.length_append] at hf
    rcases hpp with rfl | rfl | rfl | rfl
    · simp only [List.length_cons, List.length_nil] at hf
      obtain ⟨g, rfl⟩ : ∃ g, f = g + 1 := ⟨f - 1, by omega⟩
      rw [show pre ++ (blankB how n (textP l) ++ ([32, 10] ++ blankB how n' (bodyP ls))) = (pre ++ (blankB how n (textP l) ++ [32])) ++ 10 :: blankB how n' (bodyP ls) by simp]
      rw [one [32] _ g (.inr (.inl rfl)) (by decide)]
      exact parse_blank how ls g (i + 1) n' (acc ++ [l]) [] (.inl rfl) hrest (by simp; omega)
    · simp only [remB, List.length_cons, List.length_nil] at hf
      obtain ⟨g, rfl⟩ : ∃ g, f = g + 1 := ⟨f - 1, by omega⟩
      rw [show pre ++ (blankB how n (textP l) ++ (remB ++ blankB how n' (bodyP ls))) = (pre ++ (blankB how n (textP l) ++ [59, 32, 97, 32, 114, 101, 109, 97, 114, 107, 32, 59, 32, 76, 55, 58])) ++ 10 :: blankB how n' (bodyP ls) by simp [remB]]
      rw [one _ _ g (.inr (.inr ⟨_, rfl⟩)) (by decide)]
      exact parse_blank how ls g (i + 1) n' (acc ++ [l]) [] (.inl rfl) hrest (by simp; omega)
    · simp only [List.length_cons, List.length_nil] at hf
      obtain ⟨g, rfl⟩ : ∃ g, f = g + 3 := ⟨f - 3, by omega⟩
      rw [show pre ++ (blankB how n (textP l) ++ ([10, 10, 32, 9, 59, 10, 9] ++ blankB how n' (bodyP ls))) = (pre ++ (blankB how n (textP l) ++ [])) ++ 10 :: ([] ++ 10 :: ([32, 9, 59] ++ 10 :: ([9] ++ blankB how n' (bodyP ls)))) by simp]
      rw [one [] _ (g + 2) (.inl rfl) (by simp), parse_empty (g + 1) [] _ _ _ (by simp) rfl, parse_empty g [32, 9, 59] _ _ _ (by decide) (by decide)]
      exact parse_blank how ls g (i + 1 + 1 + 1) n' (acc ++ [l]) [9] (.inr rfl) hrest (by simp; omega)
    · simp only [List.length_cons, List.length_nil] at hf
      obtain ⟨g, rfl⟩ : ∃ g, f = g + 1 := ⟨f - 1, by omega⟩
      rw [show pre ++ (blankB how n (textP l) ++ ([10] ++ blankB how n' (bodyP ls))) = (pre ++ (blankB how n (textP l) ++ [])) ++ 10 :: blankB how n' (bodyP ls) by simp]
      rw [one [] _ g (.inl rfl) (by simp)]
      exact parse_blank how ls g (i + 1) n' (acc ++ [l]) [] (.inl rfl) hrest (by simp; omega)

/-! ### how long -/
theorem blank_len (how : List Int) : ∀ (s : List UInt8) (n : Nat), (blankB how n s).length ≤ s.length + 2 * s.count 32 + 16 * s.count 10
  | [], n => by simp [blankB]
  | c :: s, n => by
    rw [blankB]
    split
    · rename_i hg
      have ih := blank_len how s (n + 1)
      rw [List.length_append, List.length_cons]
      by_cases h32 : c = 32
      · subst h32
        have h1 : (pieceB 32 (kAt how n)).length ≤ 3 := by rcases piece_32 (kAt how n) with e | e | e <;> rw [e] <;> simp
        rw [List.count_cons_self, List.count_cons_of_ne (by decide)]
        omega
      · by_cases h10 : c = 10
        · subst h10
          have h1 : (pieceB 10 (kAt how n)).length ≤ 17 := by rcases piece_10 (kAt how n) with e | e | e | e <;> rw [e] <;> simp [remB]
          rw [List.count_cons_self, List.count_cons_of_ne (by decide)]
          omega
        · rw [gap_no how h32 h10] at hg; cases hg
    · have ih := blank_len how s n
      rw [List.length_cons, List.length_cons, List.count_cons, List.count_cons]
      omega

theorem count_tail : ∀ ws : List (List UInt8), (∀ x ∈ ws, WordB x) → (Lib.joinTail [32] ws).count 32 = ws.length
  | [], _ => rfl
  | x :: ws, h => by
    have ih := count_tail ws fun y hy => h y (by simp [hy])
    have hx : x.count 32 = 0 := List.count_eq_zero.2 fun hc => ((h x (by simp)).2 32 hc).1 rfl
    have e : Lib.joinTail [32] (x :: ws) = 32 :: (x ++ Lib.joinTail [32] ws) := by simp [Lib.joinTail]
    rw [e, List.count_cons_self, List.count_append, hx, ih, List.length_cons]
    omega

theorem count_join (ws : List (List UInt8)) (h : ∀ x ∈ ws, WordB x) : (Lib.join ws [32]).count 32 ≤ ws.length := by
  cases ws with
  | nil => simp [Lib.join_nil]
  | cons x ws =>
    have hx : x.count 32 = 0 := List.count_eq_zero.2 fun hc => ((h x (by simp)).2 32 hc).1 rfl
    rw [Lib.join_cons, List.count_append, hx, count_tail ws (fun y hy => h y (by simp [hy])), List.length_cons]
    omega

theorem body_counts : ∀ ls : List Line, (∀ l ∈ ls, WfL l ∧ mayP l = true) → (bodyP ls).count 32 ≤ 1300 * ls.length ∧ (bodyP ls).count 10 ≤ ls.length
  | [], _ => by simp [bodyP]
  | l :: ls, h => by
    have e : bodyP (l :: ls) = textP l ++ 10 :: bodyP ls := by unfold bodyP; simp
    obtain ⟨ws, hws, ht, hn⟩ := text_line (h l (by simp)).1 (h l (by simp)).2
    have hno := join_no59 ws hws
    have h1 := count_join ws hws
    rw [← ht] at hno h1
    have h2 : (textP l).count 10 = 0 := List.count_eq_zero.2 hno.1
    have ih := body_counts ls fun m hm => h m (by simp [hm])
    rw [e, List.count_append, List.count_append, List.count_cons_self, List.count_cons_of_ne (by decide), List.length_cons]
    omega

theorem blank_size (how : List Int) {ls : List Line} (hwf : ∀ l ∈ ls, WfL l) (h : (printP ls).2 = 0) : (blankB how 0 (printP ls).1).length ≤ 4294967290 ∧ (printP ls).1.length ≤ 4294967290 := by
  unfold printP at h ⊢
  split at h
  · exact absurd h (by decide)
  · rename_i hlen
    rw [if_neg hlen]
    split at h
    · rename_i hall
      rw [if_pos hall]
      simp only
      have hm : ∀ l ∈ ls, WfL l ∧ mayP l = true := fun l hl => ⟨hwf l hl, List.all_eq_true.1 hall l hl⟩
      have h1 := blank_len how (bodyP ls) 0
      have h2 := body_counts ls hm
      have h3 := bodyP_len ls hm
      have h4 : 40005 * ls.length ≤ 40005 * 60000 := Nat.mul_le_mul_left _ (by omega)
      have h5 : 1300 * ls.length ≤ 1300 * 60000 := Nat.mul_le_mul_left _ (by omega)
      omega
    · exact absurd h (by decide)

/-- The law, plainly. -/
theorem parse_blanks (how : List Int) {ls : List Line} (hwf : ∀ l ∈ ls, WfL l) (h : (printP ls).2 = 0) : parseR (baL (blankB how 0 (printP ls).1)) = (ls, 0, 0) := by
  unfold printP at h ⊢
  split at h
  · exact absurd h (by decide)
  · rename_i hlen
    rw [if_neg hlen]
    split at h
    · rename_i hall
      rw [if_pos hall]
      unfold parseR
      have := parse_blank how ls (baL (blankB how 0 (bodyP ls))).size 0 0 [] [] (.inl rfl) (fun l hl => ⟨hwf l hl, List.all_eq_true.1 hall l hl⟩) (by rw [baL_size]; exact Nat.le_refl _)
      rw [List.nil_append, List.nil_append] at this
      rw [this]
      unfold finP
      rw [if_neg hlen]
    · exact absurd h (by decide)

end Go.Proofs.YtlhgfhmdhmgmpaaDoor
