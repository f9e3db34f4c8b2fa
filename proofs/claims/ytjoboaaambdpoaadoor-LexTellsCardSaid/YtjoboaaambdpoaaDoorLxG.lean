/- The lexer plainly: texts put together; a blank more; pieces. -/
import Derived.Test.YtjoboaaambdpoaaDoorLxL
set_option linter.unusedVariables false
set_option linter.unusedSimpArgs false
namespace Go.Proofs.YtjoboaaambdpoaaDoor
open Go.RowKit

theorem stepL_fin {l : List UInt8} (h : stepL l = .fin) : l = [] := by
  unfold stepL at h
  split at h
  · assumption
  split at h
  · cases h
  split at h
  · split at h <;> cases h
  split at h
  · split at h <;> cases h
  rcases tokL_form l with ⟨n', t', e⟩ | ⟨e', e, -⟩ <;> rw [e] at h <;> cases h

theorem stepL_bad {l : List UInt8} {e : Int} (h : stepL l = .bad e) : (e = 10 ∨ e = 11 ∨ e = 12 ∨ e = 14) ∧ l ≠ [] ∧ blank (gt l 0) = false ∧ ¬ (gt l 0 = 47 ∧ gt l 1 = 47) ∧ ¬ (gt l 0 = 47 ∧ gt l 1 = 42) ∧ tokL l = .bad e := by
  unfold stepL at h
  split at h
  · cases h
  split at h
  · cases h
  rename_i hb
  split at h
  · split at h <;> cases h
  split at h
  · split at h <;> cases h
  rcases tokL_form l with ⟨n', t', e'⟩ | ⟨e', e'', h'⟩
  · rw [e'] at h; cases h
  · have : e = e' := by rw [e''] at h; cases h; rfl
    subst this
    exact ⟨h', by assumption, by simpa using hb, by assumption, by assumption, h⟩

theorem raw_nl (b : List UInt8) : raw (10 :: b) = raw b := raw_skip (l := 10 :: b) (n := 1) (by unfold stepL; rw [if_neg (by simp), if_pos (by simp [gt, blank])])

theorem gt_app (a : List UInt8) (b : List UInt8) : gt (a ++ 10 :: b) a.length = 10 := by
  unfold gt
  simp [List.getD_eq_getElem?_getD]

theorem gt_app_lt {a b : List UInt8} {n : Nat} (h : n < a.length) : gt (a ++ b) n = gt a n := by
  unfold gt
  rw [List.getD_eq_getElem?_getD, List.getD_eq_getElem?_getD, List.getElem?_append_left h]

theorem gt_take_lt {a : List UInt8} {n r : Nat} (h : n < r) : gt (a.take r) n = gt a n := by
  unfold gt
  rw [List.getD_eq_getElem?_getD, List.getD_eq_getElem?_getD, List.getElem?_take, if_pos h]

/-- Two texts with a line's end between. -/
theorem raw_glue (b : List UInt8) : ∀ (m : Nat) (a : List UInt8), a.length ≤ m → (raw a).2.1 = 0 → raw (a ++ 10 :: b) = ((raw a).1.map (fun p => (p.1 + (b.length + 1), p.2)) ++ (raw b).1, (raw b).2) := by
  intro m
  induction m with
  | zero =>
    intro a ha _
    have : a = [] := List.eq_nil_of_length_eq_zero (by omega)
    subst this
    rw [List.nil_append, raw_nl, show raw [] = ([], 0, 0) from rfl]
    rfl
  | succ m ih =>
    intro a ha h0
    cases e : stepL a with
    | fin =>
      have := stepL_fin e
      subst this
      rw [List.nil_append, raw_nl, show raw [] = ([], 0, 0) from rfl]
      rfl
    | opn => rw [raw_opn e] at h0; cases h0
    | bad x => rw [raw_bad e] at h0; rcases (stepL_bad e).1 with h | h | h | h <;> rw [h] at h0 <;> cases h0
    | skip n =>
      have hn := stepL_skip e
      have e' : stepL (a ++ 10 :: b) = .skip n := skip_same e (by rw [List.length_append, List.length_cons]; omega) (List.take_append_of_le_length hn.2) (by
        by_cases h : n < a.length
        · exact .inr ⟨h, gt_app_lt h⟩
        · have : n = a.length := by omega
          subst this
          exact .inl (gt_app a b))
      rw [raw_skip e] at h0 ⊢
      rw [raw_skip e', List.drop_append_of_le_length hn.2]
      exact ih (a.drop n) (by rw [List.length_drop]; omega) h0
    | tok n t =>
      have hn := stepL_tok e
      have e' : stepL (a ++ 10 :: b) = .tok n t := stepL_same e (by rw [List.length_append]; omega) (List.take_append_of_le_length hn.2) (by
        by_cases h : n < a.length
        · exact .inl (gt_app_lt h)
        · have : n = a.length := by omega
          subst this
          exact .inr (by rw [gt_app]; decide))
      rw [raw_tok e] at h0 ⊢
      rw [raw_tok e', List.drop_append_of_le_length hn.2, ih (a.drop n) (by rw [List.length_drop]; omega) h0]
      rw [List.length_append, List.length_cons]
      rfl

theorem raw_ok0 : ∀ (m : Nat) (l : List UInt8), l.length ≤ m → (raw l).2.1 = 0 → (raw l).2.2 = 0 := by
  intro m
  induction m with
  | zero =>
    intro a ha _
    have : a = [] := List.eq_nil_of_length_eq_zero (by omega)
    subst this
    rfl
  | succ m ih =>
    intro a ha h0
    cases e : stepL a with
    | fin => rw [raw_fin e]
    | opn => rw [raw_opn e] at h0; cases h0
    | bad x => rw [raw_bad e] at h0; rcases (stepL_bad e).1 with h | h | h | h <;> rw [h] at h0 <;> cases h0
    | skip n =>
      have hn := stepL_skip e
      rw [raw_skip e] at h0 ⊢
      exact ih (a.drop n) (by rw [List.length_drop]; omega) h0
    | tok n t =>
      have hn := stepL_tok e
      rw [raw_tok e] at h0 ⊢
      exact ih (a.drop n) (by rw [List.length_drop]; omega) h0

/-- Where the first token stands. -/
def nxt : List (Nat × T) → Nat
  | [] => 0
  | p :: _ => p.1

/-- Rest lengths fall, from so many on; no token is an end. -/
def Desc : Nat → List (Nat × T) → Prop
  | _, [] => True
  | b, p :: ts => 0 < p.1 ∧ p.1 ≤ b ∧ (1 ≤ p.2.kind ∧ p.2.kind ≤ 4) ∧ Desc (p.1 - 1) ts

theorem Desc.mono {b b' : Nat} (hb : b ≤ b') : ∀ {ts : List (Nat × T)}, Desc b ts → Desc b' ts
  | [], _ => trivial
  | p :: ts, h => ⟨h.1, Nat.le_trans h.2.1 hb, h.2.2⟩

theorem tokL_kind {l : List UInt8} {n : Nat} {t : T} (h : tokL l = .tok n t) : 1 ≤ t.kind ∧ t.kind ≤ 4 := by
  unfold tokL at h
  split at h
  · split at h
    · cases h
    · cases h
      show 1 ≤ (if _ then (3 : Int) else 1) ∧ (if _ then (3 : Int) else 1) ≤ 4
      split <;> decide
  · split at h
    · split at h <;> cases h
      exact ⟨show (1 : Int) ≤ 2 by decide, show (2 : Int) ≤ 4 by decide⟩
    · split at h
      · split at h <;> cases h
        exact ⟨show (1 : Int) ≤ 2 by decide, show (2 : Int) ≤ 4 by decide⟩
      · split at h <;> cases h
        exact ⟨show (1 : Int) ≤ 4 by decide, show (4 : Int) ≤ 4 by decide⟩

theorem raw_desc : ∀ (m : Nat) (l : List UInt8), l.length ≤ m → Desc l.length (raw l).1 ∧ (raw l).2.2 ≤ l.length := by
  intro m
  induction m with
  | zero =>
    intro a ha
    have : a = [] := List.eq_nil_of_length_eq_zero (by omega)
    subst this
    exact ⟨trivial, Nat.le_refl _⟩
  | succ m ih =>
    intro a ha
    cases e : stepL a with
    | fin => rw [raw_fin e]; exact ⟨trivial, Nat.zero_le _⟩
    | opn => rw [raw_opn e]; exact ⟨trivial, Nat.le_refl _⟩
    | bad x => rw [raw_bad e]; exact ⟨trivial, Nat.le_refl _⟩
    | skip n =>
      have hn := stepL_skip e
      have hd : (a.drop n).length ≤ a.length := by rw [List.length_drop]; omega
      obtain ⟨h1, h2⟩ := ih (a.drop n) (by rw [List.length_drop]; omega)
      rw [raw_skip e]
      exact ⟨h1.mono hd, Nat.le_trans h2 hd⟩
    | tok n t =>
      have hn := stepL_tok e
      have hd : (a.drop n).length ≤ a.length - 1 := by rw [List.length_drop]; omega
      obtain ⟨h1, h2⟩ := ih (a.drop n) (by rw [List.length_drop]; omega)
      rw [raw_tok e]
      exact ⟨⟨by show 0 < a.length; omega, Nat.le_refl _, tokL_kind (stepL_kind e).2.2.2.2, h1.mono hd⟩, by show (raw (a.drop n)).2.2 ≤ _; omega⟩

theorem nxt_le {l : List UInt8} : nxt (raw l).1 ≤ l.length := by
  have h := (raw_desc l.length l (Nat.le_refl _)).1
  cases hr : (raw l).1 with
  | nil => exact Nat.zero_le _
  | cons p ts => rw [hr] at h; exact h.2.1

/-- What stands between two tokens is passed over, a line's end behind it too. -/
theorem raw_gap (Y : List UInt8) : ∀ (m : Nat) (l : List UInt8), l.length ≤ m → (raw l).2.1 = 0 → raw (l.take (l.length - nxt (raw l).1) ++ 10 :: Y) = raw (10 :: Y) := by
  intro m
  induction m with
  | zero =>
    intro l hl _
    have : l = [] := List.eq_nil_of_length_eq_zero (by omega)
    subst this
    rfl
  | succ m ih =>
    intro l hl h0
    cases e : stepL l with
    | fin =>
      have := stepL_fin e
      subst this
      rfl
    | opn => rw [raw_opn e] at h0; cases h0
    | bad x => rw [raw_bad e] at h0; rcases (stepL_bad e).1 with h | h | h | h <;> rw [h] at h0 <;> cases h0
    | skip n =>
      have hn := stepL_skip e
      have hx := nxt_le (l := l.drop n)
      have hi := ih (l.drop n) (by rw [List.length_drop]; omega) (by rw [raw_skip e] at h0; exact h0)
      rw [raw_skip e]
      rw [List.length_drop] at hx hi
      obtain ⟨q, hq⟩ : ∃ q, q = l.length - nxt (raw (l.drop n)).1 := ⟨_, rfl⟩
      have hqn : n ≤ q := by omega
      rw [show l.length - n - nxt (raw (l.drop n)).1 = q - n by omega] at hi
      rw [← hq]
      have hql : (l.take q).length = q := by rw [List.length_take]; omega
      have e' : stepL (l.take q ++ 10 :: Y) = .skip n := skip_same e (by rw [List.length_append, List.length_cons]; omega) (by rw [List.take_append_of_le_length (by omega), List.take_take, show min n q = n by omega]) (by
        by_cases h : n < q
        · exact .inr ⟨by omega, by rw [gt_app_lt (by omega), gt_take_lt h]⟩
        · have h2 := gt_app (l.take q) Y
          rw [hql, show q = n by omega] at h2
          rw [show q = n by omega]
          exact .inl h2)
      rw [raw_skip e', List.drop_append_of_le_length (by omega), List.drop_take]
      exact hi
    | tok n t =>
      rw [raw_tok e]
      show raw (l.take (l.length - l.length) ++ 10 :: Y) = _
      rw [Nat.sub_self, List.take_zero, List.nil_append]

/-- The pieces from token to token, something between. -/
def pieces (L sep : List UInt8) : List (Nat × T) → List UInt8
  | [] => []
  | p :: ts => (L.drop (L.length - p.1)).take (p.1 - nxt ts) ++ (sep ++ pieces L sep ts)

theorem raw_pieces (L sep' : List UInt8) (hsep : ∀ x, raw (10 :: sep' ++ x) = raw x) : ∀ (m : Nat) (l : List UInt8), l.length ≤ m → L.drop (L.length - l.length) = l → l.length ≤ L.length → (raw l).2.1 = 0 →
    (raw (pieces L (10 :: sep') (raw l).1)).2.1 = 0 ∧ (raw (pieces L (10 :: sep') (raw l).1)).1.map (·.2) = (raw l).1.map (·.2) := by
  intro m
  induction m with
  | zero =>
    intro l hl _ _ _
    have : l = [] := List.eq_nil_of_length_eq_zero (by omega)
    subst this
    exact ⟨rfl, rfl⟩
  | succ m ih =>
    intro l hl hL hLl h0
    have hsuf : ∀ n, n ≤ l.length → L.drop (L.length - (l.drop n).length) = l.drop n := by
      intro n hn
      rw [List.length_drop, show L.length - (l.length - n) = (L.length - l.length) + n by omega, ← List.drop_drop, hL]
    cases e : stepL l with
    | fin => rw [raw_fin e]; exact ⟨rfl, rfl⟩
    | opn => rw [raw_opn e] at h0; cases h0
    | bad x => rw [raw_bad e] at h0; rcases (stepL_bad e).1 with h | h | h | h <;> rw [h] at h0 <;> cases h0
    | skip n =>
      have hn := stepL_skip e
      rw [raw_skip e] at h0 ⊢
      exact ih (l.drop n) (by rw [List.length_drop]; omega) (hsuf n hn.2) (by rw [List.length_drop]; omega) h0
    | tok n t =>
      have hn := stepL_tok e
      have hx := nxt_le (l := l.drop n)
      rw [raw_tok e] at h0 ⊢
      obtain ⟨i1, i2⟩ := ih (l.drop n) (by rw [List.length_drop]; omega) (hsuf n hn.2) (by rw [List.length_drop]; omega) h0
      have hg := raw_gap (sep' ++ pieces L (10 :: sep') (raw (l.drop n)).1) (l.drop n).length (l.drop n) (Nat.le_refl _) h0
      have hs := hsep (pieces L (10 :: sep') (raw (l.drop n)).1)
      rw [List.cons_append] at hs
      rw [hs] at hg
      rw [List.length_drop] at hx hg
      show (raw ((L.drop (L.length - l.length)).take (l.length - nxt (raw (l.drop n)).1) ++ (10 :: sep' ++ pieces L (10 :: sep') (raw (l.drop n)).1))).2.1 = 0 ∧ (raw ((L.drop (L.length - l.length)).take (l.length - nxt (raw (l.drop n)).1) ++ (10 :: sep' ++ pieces L (10 :: sep') (raw (l.drop n)).1))).1.map (·.2) = t :: (raw (l.drop n)).1.map (·.2)
      rw [hL]
      obtain ⟨q, hq⟩ : ∃ q, q = l.length - nxt (raw (l.drop n)).1 := ⟨_, rfl⟩
      rw [show l.length - n - nxt (raw (l.drop n)).1 = q - n by omega] at hg
      rw [← hq, List.cons_append]
      generalize sep' ++ pieces L (10 :: sep') (raw (l.drop n)).1 = Y at hg hs ⊢
      have hqn : n ≤ q := by omega
      have hql : (l.take q).length = q := by rw [List.length_take]; omega
      have e' : stepL (l.take q ++ 10 :: Y) = .tok n t := stepL_same e (by rw [List.length_append]; omega) (by rw [List.take_append_of_le_length (by omega), List.take_take, show min n q = n by omega]) (by
        by_cases h : n < q
        · exact .inl (by rw [gt_app_lt (by omega), gt_take_lt h])
        · have h2 := gt_app (l.take q) Y
          rw [hql, show q = n by omega] at h2
          rw [show q = n by omega]
          exact .inr (by rw [h2]; decide))
      rw [raw_tok e', List.drop_append_of_le_length (by omega), List.drop_take, hg]
      exact ⟨i1, by rw [List.map_cons, i2]⟩

end Go.Proofs.YtjoboaaambdpoaaDoor
