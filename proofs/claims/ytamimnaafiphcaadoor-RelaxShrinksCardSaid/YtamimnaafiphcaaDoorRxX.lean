/- The assembler's rounds, plainly: what is long in the end is long in every choice in which all others reach; where a line's words stand, and what they say. -/
import Derived.Test.YtamimnaafiphcaaDoorRxZ3
import Derived.Test.YtamimnaafiphcaaDoorRyB
set_option linter.unusedVariables false
set_option linter.unusedSimpArgs false
namespace Go.Proofs.YtamimnaafiphcaaDoor
open Go.RowKit

theorem mp_idx (ls : List Line) (x : Int) : ∀ k, (∃ j, j < k ∧ (ls.getD j default).op = 0 ∧ (ls.getD j default).label = x) → ∃ j, j < k ∧ ((ls.getD j default).op = 0 ∧ (ls.getD j default).label = x) ∧ ∀ long, mp ls long (fun _ => none) k x = some (pl ls long j) := by
  intro k
  induction k with
  | zero => rintro ⟨j, hj, _⟩; exact absurd hj (Nat.not_lt_zero _)
  | succ k ih =>
    rintro ⟨j, hj, h0, h1⟩
    by_cases hk : (ls.getD k default).op = 0 ∧ (ls.getD k default).label = x
    · refine ⟨k, Nat.lt_succ_self _, hk, fun long => ?_⟩
      simp only [mp]
      rw [if_pos hk.1]
      exact if_pos hk.2.symm
    · have hjk : j ≠ k := fun e => hk (e ▸ ⟨h0, h1⟩)
      obtain ⟨m, hm, hm1, hm2⟩ := ih ⟨j, by omega, h0, h1⟩
      refine ⟨m, by omega, hm1, fun long => ?_⟩
      simp only [mp]
      by_cases hz : (ls.getD k default).op = 0
      · rw [if_pos hz]
        have hne : ¬ x = (ls.getD k default).label := fun e => hk ⟨hz, e.symm⟩
        exact (if_neg hne).trans (hm2 long)
      · rw [if_neg hz]
        exact hm2 long

theorem getD_mem {ls : List Line} {i : Nat} (h : i < ls.length) : ls.getD i default ∈ ls := by
  rw [List.getD_eq_getElem?_getD, List.getElem?_eq_getElem h]
  exact List.getElem_mem h

/-- A label's line is the same, whatever is long. -/
theorem lab_idx {ls : List Line} {x : Int} (hx : x ∈ labs ls) : ∃ j, j < ls.length ∧ ∀ long, fl ls long x = some (pl ls long j) := by
  obtain ⟨l, hl, h0, h1⟩ := labs_mem.1 hx
  obtain ⟨j, hj, e⟩ := List.getElem_of_mem hl
  have e2 : ls.getD j default = l := by rw [List.getD_eq_getElem?_getD, List.getElem?_eq_getElem hj]; exact e
  obtain ⟨m, hm, _, hm2⟩ := mp_idx ls x ls.length ⟨j, hj, by rw [e2]; exact h0, by rw [e2]; exact h1⟩
  exact ⟨m, hm, hm2⟩

theorem sizeP_mono {l : Line} {a b : Bool} (h : brOp l.op = true → a = true → b = true) : sizeP l a ≤ sizeP l b := by
  have hf := follows_range l.op
  cases a with
  | false =>
    unfold sizeP
    repeat' split
    all_goals first | omega | simp_all
  | true =>
    cases b with
    | true => exact Int.le_refl _
    | false =>
      have hb : brOp l.op = false := by
        cases hb : brOp l.op
        · rfl
        · exact absurd (h hb rfl) (by decide)
      unfold brOp at hb
      rw [Bool.or_eq_false_iff] at hb
      have h40 : ¬ l.op = 40 := by simpa using hb.2
      unfold sizeP
      rw [hb.1]
      simp [h40]

/-- On branches, what is long in a is long in b. -/
def Sub (ls : List Line) (a b : List Bool) : Prop := ∀ i, brOp (ls.getD i default).op = true → a.getD i false = true → b.getD i false = true

theorem pl_mono {ls : List Line} {a b : List Bool} (h : Sub ls a b) (i : Nat) : ∀ d, pl ls a (i + d) - pl ls a i ≤ pl ls b (i + d) - pl ls b i
  | 0 => by simp
  | d + 1 => by
    have ih := pl_mono h i d
    have hs := sizeP_mono (l := ls.getD (i + d) default) (h (i + d))
    show pl ls a (i + d) + sizeP (ls.getD (i + d) default) (a.getD (i + d) false) - _ ≤ pl ls b (i + d) + sizeP (ls.getD (i + d) default) (b.getD (i + d) false) - _
    omega

theorem size_pos {ls : List Line} (hs : ∀ l ∈ ls, l.list.length ≤ 400) (a : List Bool) (k : Nat) : 0 ≤ sizeP (ls.getD k default) (a.getD k false) := by
  refine (sizeP_range _ _ ?_).1
  by_cases hk : k < ls.length
  · exact hs _ (getD_mem hk)
  · rw [List.getD_eq_getElem?_getD, List.getElem?_eq_none (by omega)]
    exact Nat.zero_le _

theorem pl_up {ls : List Line} (hs : ∀ l ∈ ls, l.list.length ≤ 400) (a : List Bool) (i : Nat) : ∀ d, pl ls a i ≤ pl ls a (i + d)
  | 0 => Int.le_refl _
  | d + 1 => by
    have ih := pl_up hs a i d
    have := size_pos hs a (i + d)
    show _ ≤ pl ls a (i + d) + sizeP (ls.getD (i + d) default) (a.getD (i + d) false)
    omega

theorem near_iff {n : Int} : near n = true ↔ -128 ≤ n ∧ n ≤ 127 := by
  unfold near within
  simp only [Bool.and_eq_true, decide_eq_true_eq]

theorem need_iff {ls : List Line} {long : List Bool} {i : Nat} : need ls long i = true ↔ brOp (ls.getD i default).op = true ∧ near (at_ ls long (ls.getD i default).label - pl ls long i - 1) = false := by
  unfold need
  rw [Bool.and_eq_true, Bool.not_eq_true']

theorem getD_br {ls : List Line} {i : Nat} (h : brOp (ls.getD i default).op = true) : i < ls.length := by
  apply Classical.byContradiction
  intro hn
  rw [List.getD_eq_getElem?_getD, List.getElem?_eq_none (by omega)] at h
  exact absurd h (by decide)

theorem br_lab {ls : List Line} (T : Takes ls) {i : Nat} (h : brOp (ls.getD i default).op = true) : (ls.getD i default).label ∈ labs ls :=
  T.goal _ (getD_mem (getD_br h)) _ (by unfold targets; rw [if_pos (brOp_go h)]; exact List.mem_singleton.2 rfl)

/-- What does not reach by a short choice does not by a longer one. -/
theorem need_mono {ls : List Line} (T : Takes ls) {a b : List Bool} (h : Sub ls a b) {i : Nat} (hn : need ls a i = true) : need ls b i = true := by
  rw [need_iff] at hn ⊢
  refine ⟨hn.1, ?_⟩
  have hs : ∀ l ∈ ls, l.list.length ≤ 400 := fun l hl => fits_list l (T.fits l hl).2.2
  obtain ⟨j, hj, hat⟩ := lab_idx (br_lab T hn.1)
  have ea : at_ ls a (ls.getD i default).label = pl ls a j := by unfold at_ toW; rw [hat a]; rfl
  have eb : at_ ls b (ls.getD i default).label = pl ls b j := by unfold at_ toW; rw [hat b]; rfl
  have h2 := hn.2
  rw [ea] at h2
  rw [eb]
  cases hc : near (pl ls b j - pl ls b i - 1)
  · rfl
  · rw [near_iff] at hc
    have : near (pl ls a j - pl ls a i - 1) = true := by
      rw [near_iff]
      rcases Nat.lt_or_ge i j with hij | hij
      · obtain ⟨d, rfl⟩ : ∃ d, j = i + d := ⟨j - i, by omega⟩
        have h1 := pl_mono h i d
        have h3 := pl_up hs a i d
        omega
      · obtain ⟨d, rfl⟩ : ∃ d, i = j + d := ⟨i - j, by omega⟩
        have h1 := pl_mono h j d
        have h3 := pl_up hs a j d
        omega
    rw [h2] at this
    cases this

theorem step_getD (ls : List Line) (long : List Bool) (hl : long.length = ls.length) (i : Nat) : (step ls long).getD i false = (long.getD i false || need ls long i) := by
  by_cases hi : i < long.length
  · exact step_get ls long i hi
  · have e1 : (step ls long).getD i false = false := by rw [List.getD_eq_getElem?_getD, List.getElem?_eq_none (by rw [step_len]; omega)]; rfl
    have e2 : long.getD i false = false := by rw [List.getD_eq_getElem?_getD, List.getElem?_eq_none (by omega)]; rfl
    have e3 : need ls long i = false := by
      cases h : need ls long i
      · rfl
      · exact absurd (getD_br (need_iff.1 h).1) (by omega)
    rw [e1, e2, e3]
    rfl

theorem rounds_sub {ls : List Line} (T : Takes ls) {choice : List Bool} (hc : ∀ i, need ls choice i = true → choice.getD i false = true) : ∀ (m : Nat) (long : List Bool) (r : Nat), long.count false = m → long.length = ls.length → Sub ls long choice →
    Sub ls (rounds ls long r).1 choice ∧ (rounds ls long r).1.length = ls.length ∧ step ls (rounds ls long r).1 = (rounds ls long r).1 := by
  intro m
  induction m using Nat.strongRecOn with
  | ind m ih =>
    intro long r hm hl hs
    rw [rounds.eq_1 ls long r]
    by_cases h : step ls long = long
    · rw [dif_pos h]
      exact ⟨hs, hl, h⟩
    · rw [dif_neg h]
      refine ih _ (by rw [← hm]; exact step_lt ls long h) _ _ rfl (by rw [step_len]; exact hl) fun i hb hi => ?_
      rw [step_getD ls long hl i, Bool.or_eq_true] at hi
      rcases hi with hi | hi
      · exact hs i hb hi
      · exact hc i (need_mono T hs hi)

theorem getD_rep (n i : Nat) : (List.replicate n false).getD i false = false := by
  rw [List.getD_eq_getElem?_getD, List.getElem?_replicate]
  split <;> rfl

theorem fin_sub {ls : List Line} (T : Takes ls) {choice : List Bool} (hc : ∀ i, need ls choice i = true → choice.getD i false = true) : Sub ls (fin ls).1 choice :=
  (rounds_sub T hc _ (List.replicate ls.length false) 0 rfl (by simp) fun i hb hi => by rw [getD_rep] at hi; cases hi).1

theorem fin_fix {ls : List Line} (T : Takes ls) : (fin ls).1.length = ls.length ∧ step ls (fin ls).1 = (fin ls).1 :=
  (rounds_sub T (choice := List.replicate ls.length true) (fun i hi => by
    have := getD_br (need_iff.1 hi).1
    rw [List.getD_eq_getElem?_getD, List.getElem?_replicate, if_pos this]
    rfl) _ (List.replicate ls.length false) 0 rfl (by simp) fun i hb hi => by rw [getD_rep] at hi; cases hi).2

/-- In the end what is short reaches. -/
theorem fin_near {ls : List Line} (T : Takes ls) {i : Nat} (hb : brOp (ls.getD i default).op = true) (hs : (fin ls).1.getD i false = false) : near (at_ ls (fin ls).1 (ls.getD i default).label - pl ls (fin ls).1 i - 1) = true := by
  obtain ⟨hl, hf⟩ := fin_fix T
  have := step_getD ls (fin ls).1 hl i
  rw [hf, hs, Bool.false_or] at this
  cases hn : near (at_ ls (fin ls).1 (ls.getD i default).label - pl ls (fin ls).1 i - 1)
  · rw [need_iff.2 ⟨hb, hn⟩] at this
    cases this
  · rfl

theorem brOp_range {n : Int} (h : brOp n = true) : 30 ≤ n ∧ n ≤ 40 := by
  unfold brOp isBr within at h
  simp only [Bool.or_eq_true, Bool.and_eq_true, decide_eq_true_eq, beq_iff_eq] at h
  omega

theorem line_size (f : Int → Option Int) (lg : Bool) (p : Int) (l : Line) : ((lineW f lg p l).length : Int) = sizeP l lg := by
  by_cases h0 : l.op = 0
  · have e1 : lineW f lg p l = [] := by unfold lineW; rw [if_pos h0]
    have e2 : sizeP l lg = 0 := by unfold sizeP; rw [if_pos h0]
    rw [e1, e2]; rfl
  by_cases hb : brOp l.op = true
  · have hr := brOp_range hb
    have hfo : follows l.op = 0 := by unfold follows; rw [if_neg (by omega), if_neg (by omega)]
    have h42 : ¬ l.op = 42 := by omega
    cases lg with
    | false =>
      have e1 : lineW f false p l = [(enc l.op l.a l.b (toW f l.label - p - 1)).1] := by unfold lineW; rw [if_neg h0, if_pos ⟨hb, rfl⟩]
      have e2 : sizeP l false = 1 := by unfold sizeP; rw [if_neg h0, if_neg h42, hfo]; simp
      rw [e1, e2]; rfl
    | true =>
      by_cases hi : isBr l.op = true
      · have e1 : lineW f true p l = [(enc (otherOp l.op) l.a l.b 2).1] ++ [(enc 41 0 0 0).1, toW f l.label] := by unfold lineW; rw [if_neg h0, if_neg (by simp), if_pos hb, if_pos hi]
        have e2 : sizeP l true = 3 := by unfold sizeP; rw [if_neg h0, if_neg h42, if_pos ⟨hi, rfl⟩]
        rw [e1, e2]; rfl
      · have h40 : l.op = 40 := by
          unfold brOp at hb
          rw [Bool.or_eq_true] at hb
          rcases hb with hb | hb
          · exact absurd hb hi
          · simpa using hb
        have e1 : lineW f true p l = [] ++ [(enc 41 0 0 0).1, toW f l.label] := by unfold lineW; rw [if_neg h0, if_neg (by simp), if_pos hb, if_neg hi]
        have e2 : sizeP l true = 2 := by unfold sizeP; rw [if_neg h0, if_neg h42, if_neg (fun h => hi h.1), if_pos ⟨h40, rfl⟩]
        rw [e1, e2]; rfl
  · have hi : ¬ isBr l.op = true := fun h => hb (by unfold brOp; rw [h]; rfl)
    have h40 : ¬ l.op = 40 := fun h => hb (by rw [h]; decide)
    have hb2 : ¬ (brOp l.op = true ∧ lg = false) := fun h => hb h.1
    have n1 : ¬ (isBr l.op = true ∧ lg = true) := fun h => hi h.1
    have n2 : ¬ (l.op = 40 ∧ lg = true) := fun h => h40 h.1
    by_cases hg : goOp l.op = true
    · have h43 : l.op = 41 ∨ l.op = 43 := by
        have := goOp_in hg
        have hnb : ¬ (30 ≤ l.op ∧ l.op ≤ 39) := fun h => hi (by unfold isBr; exact within_t h.1 h.2)
        omega
      have e1 : lineW f lg p l = [(enc l.op l.a l.b l.imm).1, toW f l.label] := by unfold lineW; rw [if_neg h0, if_neg hb2, if_neg hb, if_pos hg]
      have e2 : sizeP l lg = 2 := by unfold sizeP follows; rw [if_neg h0, if_neg (show ¬ l.op = 42 by omega), if_neg n1, if_neg n2, if_pos (by omega)]; rfl
      rw [e1, e2]; rfl
    · have h41 : ¬ (l.op = 41 ∨ l.op = 43) := by
        rintro (h | h) <;> (rw [h] at hg; exact hg (by decide))
      by_cases h2 : l.op = 2
      · have e1 : lineW f lg p l = [(enc l.op l.a l.b l.imm).1, l.n] := by unfold lineW; rw [if_neg h0, if_neg hb2, if_neg hb, if_neg hg, if_pos h2]
        have e2 : sizeP l lg = 2 := by unfold sizeP follows; rw [if_neg h0, if_neg (show ¬ l.op = 42 by omega), if_neg n1, if_neg n2, if_pos (.inl h2)]; rfl
        rw [e1, e2]; rfl
      · by_cases h42 : l.op = 42
        · have e1 : lineW f lg p l = (enc l.op l.a l.b l.imm).1 :: (l.list.length : Int) :: l.list.map (toW f) := by unfold lineW; rw [if_neg h0, if_neg hb2, if_neg hb, if_neg hg, if_neg h2, if_pos h42]
          have e2 : sizeP l lg = 2 + l.list.length := by unfold sizeP; rw [if_neg h0, if_pos h42]
          rw [e1, e2]
          simp
          omega
        · have e1 : lineW f lg p l = [(enc l.op l.a l.b l.imm).1] := by unfold lineW; rw [if_neg h0, if_neg hb2, if_neg hb, if_neg hg, if_neg h2, if_neg h42]
          have e2 : sizeP l lg = 1 := by unfold sizeP follows; rw [if_neg h0, if_neg h42, if_neg n1, if_neg n2, if_neg (by omega), if_neg h42]; rfl
          rw [e1, e2]; rfl

theorem words_pl (ls : List Line) (long : List Bool) : ∀ k, ((wordsOf ls long k).length : Int) = pl ls long k
  | 0 => rfl
  | k + 1 => by
    rw [wordsOf_succ, List.length_append]
    have := words_pl ls long k
    have := line_size (fl ls long) (long.getD k false) (pl ls long k) (ls.getD k default)
    show _ = pl ls long k + _
    omega

theorem kinds_pl (ls : List Line) (long : List Bool) (k : Nat) : ((kindsOf ls long k).length : Int) = pl ls long k := by
  rw [← words_pl, words_kinds]

theorem words_split (ls : List Line) (long : List Bool) (i : Nat) : ∀ d, ∃ r, wordsOf ls long (i + 1 + d) = wordsOf ls long i ++ (lineW (fl ls long) (long.getD i false) (pl ls long i) (ls.getD i default) ++ r)
  | 0 => ⟨[], by rw [List.append_nil]; exact wordsOf_succ ls long i⟩
  | d + 1 => by
    obtain ⟨r, e⟩ := words_split ls long i d
    exact ⟨r ++ lineW (fl ls long) (long.getD (i + 1 + d) false) (pl ls long (i + 1 + d)) (ls.getD (i + 1 + d) default), by rw [← Nat.add_assoc, wordsOf_succ, e]; simp⟩

theorem kinds_split (ls : List Line) (long : List Bool) (i : Nat) : ∀ d, ∃ r, kindsOf ls long (i + 1 + d) = kindsOf ls long i ++ (lineK (long.getD i false) (ls.getD i default) ++ r)
  | 0 => ⟨[], by rw [List.append_nil]; exact kindsOf_succ ls long i⟩
  | d + 1 => by
    obtain ⟨r, e⟩ := kinds_split ls long i d
    exact ⟨r ++ lineK (long.getD (i + 1 + d) false) (ls.getD (i + 1 + d) default), by rw [← Nat.add_assoc, kindsOf_succ, e]; simp⟩

theorem getD_mid {α : Type} (a b r : List α) (t : Nat) (d : α) (ht : t < b.length) : (a ++ (b ++ r)).getD (a.length + t) d = b.getD t d := by
  rw [List.getD_eq_getElem?_getD, List.getElem?_append_right (by omega), Nat.add_sub_cancel_left, List.getElem?_append_left ht, List.getD_eq_getElem?_getD]

theorem words_at {ls : List Line} {long : List Bool} {i : Nat} (hi : i < ls.length) {t : Nat} (ht : t < (lineW (fl ls long) (long.getD i false) (pl ls long i) (ls.getD i default)).length) (d : Int) :
    (wordsOf ls long ls.length).getD ((pl ls long i).toNat + t) d = (lineW (fl ls long) (long.getD i false) (pl ls long i) (ls.getD i default)).getD t d ∧ (pl ls long i).toNat + t < (wordsOf ls long ls.length).length := by
  obtain ⟨r, e⟩ := words_split ls long i (ls.length - (i + 1))
  rw [show i + 1 + (ls.length - (i + 1)) = ls.length by omega] at e
  have hl := words_pl ls long i
  have ep : (pl ls long i).toNat = (wordsOf ls long i).length := by omega
  rw [e, ep]
  exact ⟨getD_mid _ _ _ _ _ ht, by rw [List.length_append, List.length_append]; omega⟩

theorem kinds_at {ls : List Line} {long : List Bool} {i : Nat} (hi : i < ls.length) {t : Nat} (ht : t < (lineK (long.getD i false) (ls.getD i default)).length) (d : Int) :
    (kindsOf ls long ls.length).getD ((pl ls long i).toNat + t) d = (lineK (long.getD i false) (ls.getD i default)).getD t d := by
  obtain ⟨r, e⟩ := kinds_split ls long i (ls.length - (i + 1))
  rw [show i + 1 + (ls.length - (i + 1)) = ls.length by omega] at e
  have hl := kinds_pl ls long i
  have ep : (pl ls long i).toNat = (kindsOf ls long i).length := by omega
  rw [e, ep]
  exact getD_mid _ _ _ _ _ ht

/-- A line that is no label may be, as an instruction. -/
theorem fits_may {l : Line} (h : fitsB l = true) (h0 : l.op ≠ 0) : mayR l.op l.a l.b l.imm = true ∧ (goOp l.op = true → l.imm = 0) := by
  unfold fitsB at h
  rw [if_neg h0] at h
  by_cases h4 : x4 l = true
  · rw [if_pos h4] at h; cases h
  rw [if_neg h4] at h
  by_cases h6 : x6 l = true
  · rw [if_pos h6] at h; cases h
  rw [if_neg h6] at h
  by_cases h8 : x8 l = true
  · rw [if_pos h8] at h; cases h
  rw [if_neg h8] at h
  by_cases hl : l.list.all isLabel = false
  · rw [if_pos hl] at h; cases h
  rw [if_neg hl] at h
  refine ⟨(enc_ok (by simpa using h)).1, fun hg => ?_⟩
  unfold x4 at h4
  rw [hg] at h4
  simp only [Bool.true_and, Bool.or_eq_true, not_or] at h4
  simpa using h4.1

/-- A branch that may be may be with every near number. -/
theorem may_near {op a b : Int} (h : mayR op a b 0 = true) (hb : brOp op = true) {n : Int} (hn : near n = true) : mayR op a b n = true := by
  have hr := brOp_range hb
  unfold mayR at h ⊢
  rw [if_neg (by omega), if_neg (by omega), if_neg (by omega), if_neg (by omega), if_neg (by omega)] at h ⊢
  by_cases hi : isBr op = true
  · rw [if_pos hi] at h ⊢
    rw [Bool.and_eq_true] at h ⊢
    exact ⟨h.1, hn⟩
  · rw [if_neg hi] at h ⊢
    by_cases h40 : op = 40
    · rw [if_pos h40] at h ⊢
      rw [Bool.and_eq_true] at h ⊢
      exact ⟨h.1, hn⟩
    · unfold brOp at hb
      rw [Bool.or_eq_true] at hb
      rcases hb with hb | hb
      · exact absurd hb hi
      · exact absurd (by simpa using hb) h40

theorem other_br {op : Int} (h : isBr op = true) : isBr (otherOp op) = true := by
  unfold isBr within at h ⊢
  unfold otherOp
  simp only [Bool.and_eq_true, decide_eq_true_eq] at h ⊢
  split <;> omega

theorem may_other {op a b c : Int} (h : mayR op a b c = true) (hi : isBr op = true) : mayR (otherOp op) a b c = true := by
  have hr : 30 ≤ op ∧ op ≤ 39 := by unfold isBr within at hi; simpa using hi
  have ho := other_br hi
  have hr2 : 30 ≤ otherOp op ∧ otherOp op ≤ 39 := by unfold isBr within at ho; simpa using ho
  unfold mayR at h ⊢
  rw [if_neg (by omega), if_neg (by omega), if_neg (by omega), if_neg (by omega), if_neg (by omega)] at h ⊢
  rw [if_pos hi] at h
  rw [if_pos ho]
  exact h

end Go.Proofs.YtamimnaafiphcaaDoor
