/- The lexer plainly, over lists of bytes: steps, tokens, the whole. -/
import Derived.Test.YtjoboaaambdpoaaDoorLxT
import Derived.Lib.IndexMore
set_option linter.unusedVariables false
set_option linter.unusedSimpArgs false
namespace Go.Proofs.YtjoboaaambdpoaaDoor
open Go.RowKit

def gt (l : List UInt8) (i : Nat) : Int := ((l.getD i 0).toNat : Int)

theorem gt_drop (l : List UInt8) (k i : Nat) : gt (l.drop k) i = gt l (k + i) := by
  unfold gt
  simp [List.getD_eq_getElem?_getD, List.getElem?_drop]

theorem gt_out (l : List UInt8) (i : Nat) (h : l.length ≤ i) : gt l i = 0 := by
  unfold gt
  rw [List.getD_eq_getElem?_getD, List.getElem?_eq_none h]
  rfl

theorem bz_gt (src : ByteArray) (i : Nat) : bz src (i : Int) = gt src.data.toList i := by
  unfold bz Go.Proofs.YtjoboaaambdpoaaDoorW.PrintWords.bt gt
  by_cases h : i < src.size
  · have h' : i < src.data.toList.length := by rw [Array.length_toList]; exact h
    rw [dif_pos (show ((i : Int)).toNat < src.size by omega), List.getD_eq_getElem?_getD, List.getElem?_eq_getElem h']
    simp [ByteArray.getElem_eq_getElem_data]
  · have h' : src.data.toList.length ≤ i := by
      rw [Array.length_toList]
      have : src.data.size = src.size := rfl
      omega
    rw [dif_neg (by omega), List.getD_eq_getElem?_getD, List.getElem?_eq_none h']
    rfl

theorem bz_gd (src : ByteArray) (k i : Nat) : bz src ((k : Int) + (i : Int)) = gt (src.data.toList.drop k) i := by
  rw [show (k : Int) + (i : Int) = ((k + i : Nat) : Int) by omega, bz_gt, gt_drop]

theorem bz_g0 (src : ByteArray) (k : Nat) : bz src (k : Int) = gt (src.data.toList.drop k) 0 := by
  rw [bz_gt, gt_drop]
  rfl

/-- A token's kind, text, number, and whether it is unsigned. -/
structure T where
  kind : Int
  text : List UInt8
  num : Int
  uns : Bool

/-- One step: the end; bytes passed over; a comment that is not closed; a token of so many bytes; an error. -/
inductive St
  | fin
  | skip (n : Nat)
  | opn
  | tok (n : Nat) (t : T)
  | bad (e : Int)

def isWordL (t : List UInt8) : Bool := Lib.contains wordsB.data.toList (32 :: t ++ [32])

def charL (l : List UInt8) : Int × Int := charP l.length 0 (gt l 1) (gt l 2) (gt l 3)
def signL (l : List UInt8) : Int := signP (gt l 0) (gt l 1) (gt l 2)

def tokL (l : List UInt8) : St :=
  if isL (gt l 0) = true then
    if 31 < runL l then .bad 10
    else .tok (runL l) ⟨if isWordL (l.take (runL l)) = true then 3 else 1, l.take (runL l), 0, false⟩
  else if isD (gt l 0) = true then
    if (numP (l.take (runL l))).2.2 = true then .tok (runL l) ⟨2, [], (numP (l.take (runL l))).1, (numP (l.take (runL l))).2.1⟩
    else .bad 11
  else if gt l 0 = 39 then
    if (charL l).2 = 0 then .bad 12
    else .tok (charL l).2.toNat ⟨2, [], (charL l).1, false⟩
  else
    if signL l = 0 then .bad 14
    else .tok (signL l).toNat ⟨4, l.take (signL l).toNat, 0, false⟩

def stepL (l : List UInt8) : St :=
  if l = [] then .fin
  else if blank (gt l 0) = true then .skip 1
  else if gt l 0 = 47 ∧ gt l 1 = 47 then
    if 0 ≤ Lib.indexByte l 10 then .skip (Lib.indexByte l 10).toNat else .skip l.length
  else if gt l 0 = 47 ∧ gt l 1 = 42 then
    if Lib.index (l.drop 2) [42, 47] < 0 then .opn else .skip ((Lib.index (l.drop 2) [42, 47]).toNat + 4)
  else tokL l

/-- The tokens, each with how many bytes stand from it on; the error; how many bytes stand from there on. -/
def rawF : Nat → List UInt8 → List (Nat × T) × Int × Nat
  | 0, _ => ([], 0, 0)
  | f + 1, l => match stepL l with
    | .fin => ([], 0, 0)
    | .skip n => rawF f (l.drop n)
    | .opn => ([], 13, l.length)
    | .bad e => ([], e, l.length)
    | .tok n t => let r := rawF f (l.drop n); ((l.length, t) :: r.1, r.2)

def raw (l : List UInt8) : List (Nat × T) × Int × Nat := rawF (l.length + 1) l

theorem charP_len (sz k sz' k' : Nat) (a b d : Int) (h2 : sz ≤ k + 2 ↔ sz' ≤ k' + 2) (h3 : sz ≤ k + 3 ↔ sz' ≤ k' + 3) : charP sz k a b d = charP sz' k' a b d := by
  unfold charP
  simp only [h2, h3]

theorem runL_pos (l : List UInt8) (h : isL (gt l 0) = true ∨ isD (gt l 0) = true) : 1 ≤ runL l := by
  cases l with
  | nil => rcases h with h | h <;> exact absurd h (by decide)
  | cons c r =>
    rw [runL, if_pos (show isL (c.toNat : Int) = true ∨ isD (c.toNat : Int) = true from h)]
    omega

theorem charL_n (l : List UInt8) (hl : l ≠ []) : (charL l).2 = 0 ∨ ((charL l).2 = 3 ∧ 3 ≤ l.length) ∨ ((charL l).2 = 4 ∧ 4 ≤ l.length) := by
  unfold charL charP
  repeat' split
  all_goals first
    | exact .inl rfl
    | exact .inr (.inl ⟨rfl, by omega⟩)
    | exact .inr (.inr ⟨rfl, by omega⟩)

theorem signL_n (l : List UInt8) (hl : l ≠ []) : 0 ≤ signL l ∧ signL l ≤ l.length := by
  have h1 := gt_out l 1
  have h2 := gt_out l 2
  have h0 : 1 ≤ l.length := by cases l with | nil => exact absurd rfl hl | cons _ _ => simp
  unfold signL
  generalize gt l 0 = c
  generalize gt l 1 = p at h1 ⊢
  generalize gt l 2 = q at h2 ⊢
  unfold signP
  repeat' split
  all_goals omega

theorem tokL_n {l : List UInt8} {n : Nat} {t : T} (hl : l ≠ []) (h : tokL l = .tok n t) : 1 ≤ n ∧ n ≤ l.length := by
  unfold tokL at h
  have hr := runL_le l
  split at h
  · rename_i hL
    have := runL_pos l (.inl hL)
    split at h <;> cases h
    exact ⟨this, hr⟩
  · split at h
    · rename_i hD
      have := runL_pos l (.inr hD)
      split at h <;> cases h
      exact ⟨this, hr⟩
    · split at h
      · have := charL_n l hl
        split at h <;> cases h
        omega
      · have := signL_n l hl
        split at h <;> cases h
        omega

theorem tokL_form (l : List UInt8) : (∃ n t, tokL l = .tok n t) ∨ (∃ e, tokL l = .bad e ∧ (e = 10 ∨ e = 11 ∨ e = 12 ∨ e = 14)) := by
  unfold tokL
  repeat' split
  all_goals first
    | exact .inl ⟨_, _, rfl⟩
    | exact .inr ⟨_, rfl, by decide⟩

theorem gt_ne {l : List UInt8} (h : gt l 0 ≠ 0) : l ≠ [] := by
  rintro rfl
  exact h rfl

theorem stepL_skip {l : List UInt8} {n : Nat} (h : stepL l = .skip n) : 1 ≤ n ∧ n ≤ l.length := by
  unfold stepL at h
  split at h
  · cases h
  · rename_i hl
    have h0 : 1 ≤ l.length := by cases l with | nil => exact absurd rfl hl | cons _ _ => simp
    split at h
    · cases h; omega
    · split at h
      · rename_i h47
        split at h
        · rename_i hi
          cases h
          have hlt := indexByte_lt l 10
          cases l with
          | nil => exact absurd rfl hl
          | cons a r =>
            have := indexByte_pos a 10 r (by rintro rfl; exact absurd (show (10 : Int) = 47 from h47.1) (by decide)) hi
            rcases hlt with hlt | hlt
            · omega
            · cases hlt
        · cases h; omega
      · split at h
        · split at h
          · cases h
          · rename_i hi
            cases h
            rcases index_le (l.drop 2) [42, 47] with h | h
            · rw [List.length_drop] at h
              simp at h
              omega
            · omega
        · rcases tokL_form l with ⟨n', t', e⟩ | ⟨e', e, -⟩ <;> rw [e] at h <;> cases h

theorem stepL_tok {l : List UInt8} {n : Nat} {t : T} (h : stepL l = .tok n t) : 1 ≤ n ∧ n ≤ l.length := by
  unfold stepL at h
  split at h
  · cases h
  · rename_i hl
    repeat' (split at h)
    all_goals first
      | cases h; done
      | exact tokL_n hl h

theorem rawF_any : ∀ (f f' : Nat) (l : List UInt8), l.length < f → l.length < f' → rawF f l = rawF f' l := by
  intro f
  induction f with
  | zero => intro f' l h; omega
  | succ f ih =>
    intro f' l h h'
    obtain ⟨f', rfl⟩ : ∃ m, f' = m + 1 := ⟨f' - 1, by omega⟩
    rw [rawF, rawF]
    cases e : stepL l with
    | fin => rfl
    | opn => rfl
    | bad e => rfl
    | skip n =>
      have := stepL_skip e
      have hd : (l.drop n).length < l.length := by rw [List.length_drop]; omega
      exact ih f' (l.drop n) (by omega) (by omega)
    | tok n t =>
      have := stepL_tok e
      have hd : (l.drop n).length < l.length := by rw [List.length_drop]; omega
      simp only
      rw [ih f' (l.drop n) (by omega) (by omega)]

theorem raw_fin {l : List UInt8} (h : stepL l = .fin) : raw l = ([], 0, 0) := by
  unfold raw; rw [rawF, h]

theorem raw_opn {l : List UInt8} (h : stepL l = .opn) : raw l = ([], 13, l.length) := by
  unfold raw; rw [rawF, h]

theorem raw_bad {l : List UInt8} {e : Int} (h : stepL l = .bad e) : raw l = ([], e, l.length) := by
  unfold raw; rw [rawF, h]

theorem raw_skip {l : List UInt8} {n : Nat} (h : stepL l = .skip n) : raw l = raw (l.drop n) := by
  have := stepL_skip h
  have hd : (l.drop n).length < l.length := by rw [List.length_drop]; omega
  unfold raw; rw [rawF, h]
  exact rawF_any _ _ _ hd (by omega)

theorem raw_tok {l : List UInt8} {n : Nat} {t : T} (h : stepL l = .tok n t) : raw l = ((l.length, t) :: (raw (l.drop n)).1, (raw (l.drop n)).2) := by
  have := stepL_tok h
  have hd : (l.drop n).length < l.length := by rw [List.length_drop]; omega
  have e : raw (l.drop n) = rawF l.length (l.drop n) := rawF_any _ _ _ (by omega) hd
  rw [e]
  unfold raw
  rw [rawF, h]

theorem drop_len (src : ByteArray) (k : Nat) : (src.data.toList.drop k).length = src.size - k := by
  rw [List.length_drop, Array.length_toList]
  rfl

theorem stepL_eq {l : List UInt8} (h : l ≠ []) : stepL l = if blank (gt l 0) = true then .skip 1
    else if gt l 0 = 47 ∧ gt l 1 = 47 then (if 0 ≤ Lib.indexByte l 10 then .skip (Lib.indexByte l 10).toNat else .skip l.length)
    else if gt l 0 = 47 ∧ gt l 1 = 42 then (if Lib.index (l.drop 2) [42, 47] < 0 then .opn else .skip ((Lib.index (l.drop 2) [42, 47]).toNat + 4))
    else tokL l := by
  unfold stepL
  rw [if_neg h]

/-- The program's skip, by steps. -/
theorem skip_raw (src : ByteArray) : ∀ (f i : Nat), i ≤ src.size → src.size - i < f →
    ((skipF src f i).1 = true → raw (src.data.toList.drop i) = raw (src.data.toList.drop (skipF src f i).2) ∧ ((skipF src f i).2 < src.size → stepL (src.data.toList.drop (skipF src f i).2) = tokL (src.data.toList.drop (skipF src f i).2))) ∧
    ((skipF src f i).1 = false → raw (src.data.toList.drop i) = ([], 13, src.size - (skipF src f i).2)) := by
  intro f
  induction f with
  | zero => intro i hi hf; omega
  | succ f ih =>
    intro i hi hf
    rw [skipF]
    have hs : (src.data.toList.drop i).length = src.size - i := drop_len src i
    by_cases hl : i < src.size
    · rw [if_pos hl]
      have hne : src.data.toList.drop i ≠ [] := fun h => by rw [h] at hs; simp at hs; omega
      have e0 := bz_g0 src i
      have e1 := bz_gd src i 1
      rw [show ((1 : Nat) : Int) = 1 from rfl] at e1
      rw [e0, e1]
      have hst := stepL_eq hne
      rw [List.drop_drop] at hst
      by_cases h1 : blank (gt (src.data.toList.drop i) 0) = true
      · rw [if_pos h1] at hst ⊢
        rw [raw_skip hst, List.drop_drop]
        exact ih (i + 1) (by omega) (by omega)
      rw [if_neg h1] at hst ⊢
      by_cases h2 : gt (src.data.toList.drop i) 0 = 47 ∧ gt (src.data.toList.drop i) 1 = 47
      · rw [if_pos h2] at hst ⊢
        by_cases h3 : 0 ≤ Lib.indexByte (src.data.toList.drop i) 10
        · rw [if_pos h3] at hst ⊢
          have hn := stepL_skip hst
          rw [raw_skip hst, List.drop_drop]
          rw [hs] at hn
          exact ih _ (by omega) (by omega)
        · rw [if_neg h3] at hst ⊢
          rw [raw_skip hst, List.drop_drop, hs, show i + (src.size - i) = src.size by omega]
          exact ih _ (by omega) (by omega)
      rw [if_neg h2] at hst ⊢
      by_cases h3 : gt (src.data.toList.drop i) 0 = 47 ∧ gt (src.data.toList.drop i) 1 = 42
      · rw [if_pos h3] at hst ⊢
        by_cases h4 : Lib.index (src.data.toList.drop (i + 2)) [42, 47] < 0
        · rw [if_pos h4] at hst ⊢
          exact ⟨fun h => absurd (show false = true from h) (by decide), fun _ => by rw [raw_opn hst, hs]⟩
        · rw [if_neg h4] at hst ⊢
          have hn := stepL_skip hst
          rw [raw_skip hst, List.drop_drop]
          rw [hs] at hn
          rw [show i + (Lib.index (src.data.toList.drop (i + 2)) [42, 47]).toNat + 4 = i + ((Lib.index (src.data.toList.drop (i + 2)) [42, 47]).toNat + 4) by omega]
          exact ih _ (by omega) (by omega)
      rw [if_neg h3] at hst ⊢
      exact ⟨fun _ => ⟨rfl, fun _ => hst⟩, fun h => absurd (show true = false from h) (by decide)⟩
    · rw [if_neg hl]
      exact ⟨fun _ => ⟨rfl, fun h => absurd h hl⟩, fun h => absurd (show true = false from h) (by decide)⟩

theorem cut_take (src : ByteArray) (k n : Nat) : (cut src k (n : Int)).data.toList = (src.data.toList.drop k).take n := by
  unfold cut
  rw [show ((k : Int) + (n : Int)).toNat = k + n by omega, ByteArray.data_extract, Array.toList_extract]
  show (src.data.toList.drop k).take (k + n - k) = _
  rw [show k + n - k = n by omega]

theorem isWord_l (t : ByteArray) : isWord t = isWordL t.data.toList := by
  unfold isWord isWordL
  simp [ByteArray.data_append]

/-- The program's token, by its list. -/
theorem tok_raw (src : ByteArray) (k : Nat) (hk : k < src.size) :
    ((tokP src k).err ≠ 0 → tokL (src.data.toList.drop k) = .bad (tokP src k).err) ∧
    ((tokP src k).err = 0 → tokL (src.data.toList.drop k) = .tok (tokP src k).n.toNat ⟨(tokP src k).kind, (tokP src k).text.data.toList, (tokP src k).num, (tokP src k).uns⟩ ∧ 0 ≤ (tokP src k).n) := by
  have hs : (src.data.toList.drop k).length = src.size - k := drop_len src k
  have hne : src.data.toList.drop k ≠ [] := fun h => by rw [h] at hs; simp at hs; omega
  have e0 := bz_g0 src k
  have e1 := bz_gd src k 1
  have e2 := bz_gd src k 2
  have e3 := bz_gd src k 3
  rw [show ((1 : Nat) : Int) = 1 from rfl] at e1
  rw [show ((2 : Nat) : Int) = 2 from rfl] at e2
  rw [show ((3 : Nat) : Int) = 3 from rfl] at e3
  have ec : charP src.size k (bz src ((k : Int) + 1)) (bz src ((k : Int) + 2)) (bz src ((k : Int) + 3)) = charL (src.data.toList.drop k) := by
    unfold charL
    rw [e1, e2, e3, hs]
    exact charP_len _ _ _ _ _ _ _ (by omega) (by omega)
  have es : signP (bz src k) (bz src ((k : Int) + 1)) (bz src ((k : Int) + 2)) = signL (src.data.toList.drop k) := by
    unfold signL
    rw [e0, e1, e2]
  unfold tokP tokL
  rw [ec, es, e0, isWord_l, cut_take]
  have hcut : ∀ z : Int, 0 ≤ z → (cut src k z).data.toList = (src.data.toList.drop k).take z.toNat := by
    intro z hz
    obtain ⟨n, rfl⟩ : ∃ n : Nat, z = n := ⟨z.toNat, (Int.toNat_of_nonneg hz).symm⟩
    exact cut_take src k n
  clear hs e0 e1 e2 e3 ec es
  generalize src.data.toList.drop k = l at hne hcut ⊢
  have hc := charL_n l hne
  have hg := signL_n l hne
  have hr := hcut (runL l) (Int.natCast_nonneg _)
  have hq := hcut (signL l) hg.1
  rw [Int.toNat_natCast] at hr
  repeat' split
  all_goals first
    | exact ⟨fun _ => rfl, fun h => absurd h (by simp)⟩
    | exact ⟨fun h => absurd rfl h, fun _ => ⟨by simp only [hr, Int.toNat_natCast]; rfl, Int.natCast_nonneg _⟩⟩
    | exact ⟨fun h => absurd rfl h, fun _ => ⟨by simp only [hr, Int.toNat_natCast], Int.natCast_nonneg _⟩⟩
    | exact ⟨fun h => absurd rfl h, fun _ => ⟨by simp only [hq], hg.1⟩⟩
    | exact ⟨fun h => absurd rfl h, fun _ => ⟨rfl, by show 0 ≤ (charL l).2; omega⟩⟩
    | exact ⟨fun h => absurd rfl h, fun _ => ⟨rfl, Int.natCast_nonneg _⟩⟩

end Go.Proofs.YtjoboaaambdpoaaDoor
