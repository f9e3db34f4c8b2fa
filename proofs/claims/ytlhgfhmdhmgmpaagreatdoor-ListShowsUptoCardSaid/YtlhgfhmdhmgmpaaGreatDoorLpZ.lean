/- Texts joined: LpA LpB LpC LpD LpE LpF. -/
import Derived.Test.YtlhgfhmdhmgmpaaGreatDoorLiX
import Derived.Test.YtlhgfhmdhmgmpaaGreatDoorLiAZ
set_option linter.unusedVariables false
set_option linter.unusedSimpArgs false
namespace Go.Proofs.YtlhgfhmdhmgmpaaGreatDoor
open Go.RowKit

def sepB (b : UInt8) : Bool := decide (b = 32) || decide (b = 9)

def wordsB : List UInt8 → List UInt8 → List (List UInt8)
  | cur, [] => if cur = [] then [] else [cur]
  | cur, c :: r => if sepB c = true then (if cur = [] then wordsB [] r else cur :: wordsB [] r) else wordsB (cur ++ [c]) r

theorem wordsB_run : ∀ (x cur r : List UInt8), (∀ c ∈ x, sepB c = false) → wordsB cur (x ++ r) = wordsB (cur ++ x) r
  | [], cur, r, _ => by simp
  | c :: x, cur, r, h => by
    rw [List.cons_append, wordsB, h c (by simp), if_neg (by simp), wordsB_run x _ r (fun d hd => h d (by simp [hd])), List.append_assoc]
    rfl

theorem gb_list (l : List UInt8) (i : Nat) (h : i < l.length) : gb ⟨l.toArray⟩ i = (l[i]).toNat := by
  unfold gb ByteArray.get!
  simp [h]

theorem sepB_nat (b : UInt8) : sepB b = sepR b.toNat := by
  unfold sepB sepR
  have h1 : b = 32 ↔ b.toNat = 32 := ⟨fun h => by rw [h]; rfl, fun h => UInt8.toNat_inj.1 h⟩
  have h2 : b = 9 ↔ b.toNat = 9 := ⟨fun h => by rw [h]; rfl, fun h => UInt8.toNat_inj.1 h⟩
  simp only [h1, h2]

def pcL (l : List UInt8) (a b : Nat) : List UInt8 := (l.drop a).take (b - a)

def opL (l : List UInt8) (st : Option Nat) (pos : Nat) : List UInt8 :=
  match st with
  | some a => pcL l a pos
  | none => []

theorem pcL_more (l : List UInt8) (a p k : Nat) (h : a ≤ p) : pcL l a (p + k) = pcL l a p ++ (l.drop p).take k := by
  unfold pcL
  rw [show p + k - a = (p - a) + k by omega, List.take_add, List.drop_drop, show a + (p - a) = p by omega]

theorem pcL_ne {l : List UInt8} {a p : Nat} (h : a < p) (hp : p ≤ l.length) : pcL l a p ≠ [] := by
  unfold pcL
  intro e
  have := congrArg List.length e
  simp at this
  omega

theorem spans_words (l : List UInt8) : ∀ (f pos : Nat) (st : Option Nat) (acc : List (Nat × Nat)), l.length ≤ pos + f → pos ≤ l.length → (∀ a, st = some a → a < pos) →
    (Lib.closeSpans ⟨l.toArray⟩ (Lib.spansFromP sepR ⟨l.toArray⟩ f pos st acc)).map (fun p => pcL l p.1 p.2) = acc.map (fun p => pcL l p.1 p.2) ++ wordsB (opL l st pos) (l.drop pos)
  | 0, pos, st, acc, h, hp, hst => by
    obtain rfl : pos = l.length := by omega
    rw [List.drop_length, wordsB]
    cases st with
    | none => simp [Lib.spansFromP, Lib.closeSpans, opL]
    | some a =>
      have := pcL_ne (hst a rfl) (Nat.le_refl l.length)
      rw [if_neg (show opL l (some a) l.length ≠ [] from this)]
      simp only [Lib.spansFromP, Lib.closeSpans]
      rw [List.map_append]
      rfl
  | f + 1, pos, st, acc, h, hp, hst => by
    by_cases hps : pos < l.length
    · have hsz : (⟨l.toArray⟩ : ByteArray).size = l.length := by simp [ByteArray.size]
      unfold Lib.spansFromP
      rw [if_pos (by rw [hsz]; exact hps)]
      have hdc := dec_cases ⟨l.toArray⟩ pos
      have hwn : pos + (Utf8.decode ⟨l.toArray⟩ pos).2 ≤ l.length := by
        have := Lib.decodeN_le_n' ((⟨l.toArray⟩ : ByteArray).size - pos) ((⟨l.toArray⟩ : ByteArray).get! pos).toNat ((⟨l.toArray⟩ : ByteArray).get! (pos + 1)).toNat ((⟨l.toArray⟩ : ByteArray).get! (pos + 2)).toNat ((⟨l.toArray⟩ : ByteArray).get! (pos + 3)).toNat (by rw [hsz]; omega)
        rw [← Lib.decode_at] at this
        rw [hsz] at this
        omega
      have hwd := Lib.width_pos ⟨l.toArray⟩ pos
      obtain ⟨R, hR⟩ : ∃ R, (Utf8.decode ⟨l.toArray⟩ pos).1 = R := ⟨_, rfl⟩
      obtain ⟨K, hK⟩ : ∃ K, (Utf8.decode ⟨l.toArray⟩ pos).2 = K := ⟨_, rfl⟩
      have hd2 : Utf8.decode ⟨l.toArray⟩ pos = (R, K) := by rw [← hR, ← hK]
      rw [hd2] at hdc hwn hwd ⊢
      simp only at hdc hwn hwd ⊢
      have hsplit : l.drop pos = (l.drop pos).take K ++ l.drop (pos + K) := by
        rw [← List.drop_drop, List.take_append_drop]
      have hne : ∀ k, 0 < k → pos < pos + k := fun k hk => by omega
      cases hs : sepR R with
      | true =>
        have hsm : gb ⟨l.toArray⟩ pos < 128 ∧ R = gb ⟨l.toArray⟩ pos ∧ K = 1 := by
          rcases hdc with ⟨h1, h2⟩ | ⟨h1, _⟩
          · injection h2 with h2 h3
            exact ⟨h1, h2, h3⟩
          · unfold sepR at hs
            simp at hs
            omega
        obtain ⟨h1, rfl, rfl⟩ := hsm
        have hdr : l.drop pos = l[pos] :: l.drop (pos + 1) := List.drop_eq_getElem_cons hps
        rw [gb_list l pos hps, ← sepB_nat] at hs
        rw [if_pos rfl, hdr, wordsB, if_pos hs]
        cases st with
        | none =>
          rw [if_pos (show opL l none pos = [] from rfl)]
          simp only
          rw [spans_words l f (pos + 1) none acc (by omega) (by omega) (fun a e => by cases e)]
          rfl
        | some a =>
          rw [if_neg (show opL l (some a) pos ≠ [] from pcL_ne (hst a rfl) (by omega))]
          simp only
          rw [spans_words l f (pos + 1) none _ (by omega) (by omega) (fun a e => by cases e), List.map_append, List.append_assoc]
          rfl
      | false =>
        have hall : ∀ c ∈ (l.drop pos).take K, sepB c = false := by
          rcases hdc with ⟨h1, h2⟩ | ⟨h1, h2⟩
          · injection h2 with h2 h3
            subst h2 h3
            rw [List.drop_eq_getElem_cons hps]
            intro c hc
            have hc := List.mem_singleton.1 (show c ∈ [l[pos]] from hc)
            rw [hc, sepB_nat, ← gb_list l pos hps]
            exact hs
          · intro c hc
            obtain ⟨i, hi, rfl⟩ := List.getElem_of_mem hc
            simp at hi
            have := h2 (pos + i) (by omega) (by omega)
            rw [gb_list l (pos + i) (by omega)] at this
            rw [List.getElem_take, List.getElem_drop, sepB_nat]
            unfold sepR
            simp
            omega
        rw [if_neg (by simp), hsplit, wordsB_run _ _ _ hall]
        cases st with
        | none =>
          simp only
          rw [spans_words l f (pos + K) (some pos) acc (by omega) (by omega) (fun a e => by cases e; omega)]
          congr 2
          simp only [opL, List.nil_append]
          unfold pcL
          rw [show pos + K - pos = K by omega]
        | some a =>
          have := hst a rfl
          simp only
          rw [spans_words l f (pos + K) (some a) acc (by omega) (by omega) (fun a' e => by cases e; omega)]
          congr 2
          simp only [opL]
          exact pcL_more l a pos K (by omega)
    · obtain rfl : pos = l.length := by omega
      have hsz : (⟨l.toArray⟩ : ByteArray).size = l.length := by simp [ByteArray.size]
      rw [Lib.spansFromP_end _ _ _ _ _ _ (by rw [hsz]; exact hps), List.drop_length, wordsB]
      cases st with
      | none => simp [Lib.closeSpans, opL]
      | some a =>
        have := pcL_ne (hst a rfl) (Nat.le_refl l.length)
        rw [if_neg (show opL l (some a) l.length ≠ [] from this)]
        simp only [Lib.closeSpans]
        rw [List.map_append, hsz]
        rfl

def baL (l : List UInt8) : ByteArray := ⟨l.toArray⟩

theorem baL_data (s : ByteArray) : baL s.data.toList = s := by
  unfold baL
  cases s
  simp
theorem baL_list (l : List UInt8) : (baL l).data.toList = l := by unfold baL; simp
theorem baL_size (l : List UInt8) : (baL l).size = l.length := by unfold baL; simp [ByteArray.size]

theorem fields_words (l : List UInt8) : Lib.goFieldsP sepR (baL l) = (wordsB [] l).map baL := by
  have h := spans_words l l.length 0 none [] (by omega) (by omega) (fun a e => by cases e)
  have h2 := congrArg (List.map baL) h
  simp only [List.map_nil, List.nil_append, List.drop_zero, opL, List.map_map] at h2
  rw [← h2]
  unfold Lib.goFieldsP Lib.spansOfP
  rw [baL_size]
  unfold baL
  apply List.map_congr_left
  intro p hp
  apply ByteArray.ext
  simp only [Function.comp]
  apply Array.toList_inj.1
  rw [Lib.extract_data]
  rfl

theorem semiFrom_list (l : List UInt8) : ∀ (f i : Nat), l.length = i + f → semiFrom (baL l) f i = i + ((l.drop i).takeWhile (fun c => decide (c ≠ 59))).length
  | 0, i, h => by
    rw [List.drop_of_length_le (by omega)]
    rfl
  | f + 1, i, h => by
    have hi : i < l.length := by omega
    rw [semiFrom, List.drop_eq_getElem_cons hi, List.takeWhile_cons]
    have e : gb (baL l) i = 59 ↔ l[i] = 59 := by
      unfold baL
      rw [gb_list l i hi]
      exact ⟨fun h => UInt8.toNat_inj.1 h, fun h => by rw [h]; rfl⟩
    by_cases h1 : l[i] = 59
    · rw [if_pos (e.2 h1), if_neg (by simp [h1])]
      rfl
    · rw [if_neg (fun h => h1 (e.1 h)), if_pos (by simp [h1]), semiFrom_list l f (i + 1) (by omega), List.length_cons]
      omega

theorem takeWhile_take {α : Type} (p : α → Bool) : ∀ l : List α, l.take (l.takeWhile p).length = l.takeWhile p
  | [] => rfl
  | x :: l => by
    rw [List.takeWhile_cons]
    split
    · rw [List.length_cons, List.take_succ_cons, takeWhile_take p l]
    · rfl

theorem cut_list (l : List UInt8) : cutR (baL l) = baL (l.takeWhile (fun c => decide (c ≠ 59))) := by
  unfold cutR semi
  rw [baL_size, semiFrom_list l l.length 0 (by omega)]
  apply ByteArray.ext
  apply Array.toList_inj.1
  rw [Lib.extract_data, baL_list, baL_list, List.drop_zero, Nat.zero_add, Nat.sub_zero, takeWhile_take]

/-- The words of a line. -/
def wordsL (l : List UInt8) : List (List UInt8) := wordsB [] (l.takeWhile (fun c => decide (c ≠ 59)))

theorem words_list (l : List UInt8) : wordsR (baL l) = (wordsL l).map baL := by
  unfold wordsR wordsL
  rw [cut_list, fields_words]

theorem nl_index_at (x r : List UInt8) (h : (10 : UInt8) ∉ x) : Lib.indexByte (x ++ 10 :: r) 10 = (x.length : Int) := by
  induction x with
  | nil => rfl
  | cons c x ih =>
    have h1 : (c == 10) = false := beq_eq_false_iff_ne.mpr (fun e => h (by simp [e]))
    have := ih (fun hx => h (by simp [hx]))
    rw [List.cons_append, Lib.indexByte, h1, this]
    rw [if_neg (by simp), if_neg (by simp), List.length_cons]
    omega

theorem nl_index_none (x : List UInt8) (h : (10 : UInt8) ∉ x) : Lib.indexByte x 10 = -1 := by
  induction x with
  | nil => rfl
  | cons c x ih =>
    have h1 : (c == 10) = false := beq_eq_false_iff_ne.mpr (fun e => h (by simp [e]))
    have := ih (fun hx => h (by simp [hx]))
    rw [Lib.indexByte, h1, this]
    rfl

theorem one_at (x r : List UInt8) (h : (10 : UInt8) ∉ x) : oneR (baL (x ++ 10 :: r)) = baL x ∧ restR (baL (x ++ 10 :: r)) = baL r := by
  unfold oneR restR nlAt
  rw [baL_list, nl_index_at x r h, if_pos (by omega), if_pos (by omega)]
  constructor
  · apply ByteArray.ext
    apply Array.toList_inj.1
    rw [Lib.extract_data, baL_list, baL_list]
    simp
  · apply ByteArray.ext
    apply Array.toList_inj.1
    rw [Lib.extract_data, baL_list, baL_list, baL_size]
    rw [show x ++ 10 :: r = (x ++ [10]) ++ r by simp, List.drop_left' (by simp), List.take_of_length_le (by simp; omega)]

theorem one_none (x : List UInt8) (h : (10 : UInt8) ∉ x) : oneR (baL x) = baL x ∧ restR (baL x) = baL [] := by
  unfold oneR restR nlAt
  rw [baL_list, nl_index_none x h, if_neg (by omega), if_neg (by omega)]
  exact ⟨rfl, rfl⟩

end Go.Proofs.YtlhgfhmdhmgmpaaGreatDoor

set_option linter.unusedVariables false
set_option linter.unusedSimpArgs false
namespace Go.Proofs.YtlhgfhmdhmgmpaaGreatDoor
open Go.RowKit

theorem ofNat_dig {d : Nat} (h : d < 10) : (UInt8.ofNat (48 + d)).toNat = 48 + d := by
  simp; omega

theorem parse_dec : ∀ (u : Nat) (r : List UInt8), u ≤ 9223372036854775808 → Lib.parseUint10 0 (Lib.decDigits u ++ r) = Lib.parseUint10 u r := by
  intro u
  induction u using Nat.strongRecOn with
  | ind u ih =>
    intro r hu
    rw [Lib.decDigits]
    by_cases h : u < 10
    · rw [dif_pos h, List.cons_append, List.nil_append, Lib.parseUint10, ofNat_dig h, if_pos (by omega), if_neg (by omega), if_neg (by omega)]
      congr 1
      omega
    · rw [dif_neg h, List.append_assoc, ih (u / 10) (by omega) _ (by omega), List.cons_append, List.nil_append, Lib.parseUint10, ofNat_dig (by omega), if_pos (by omega), if_neg (by omega), if_neg (by omega)]
      congr 1
      omega

theorem dec_chars : ∀ (u : Nat), ∀ c ∈ Lib.decDigits u, 48 ≤ c.toNat ∧ c.toNat ≤ 57 := by
  intro u
  induction u using Nat.strongRecOn with
  | ind u ih =>
    intro c hc
    rw [Lib.decDigits] at hc
    by_cases h : u < 10
    · rw [dif_pos h] at hc
      have := List.mem_singleton.1 hc
      rw [this, ofNat_dig h]
      omega
    · rw [dif_neg h] at hc
      rcases List.mem_append.1 hc with hc | hc
      · exact ih (u / 10) (by omega) c hc
      · have := List.mem_singleton.1 hc
        rw [this, ofNat_dig (by omega)]
        omega

theorem dec_ne (u : Nat) : Lib.decDigits u ≠ [] := by
  rw [Lib.decDigits]
  split <;> simp

theorem mag_dec (u : Nat) (hu : u ≤ 9223372036854775808) : Lib.parseMag (Lib.decDigits u) = .ok u := by
  unfold Lib.parseMag
  rw [if_neg (dec_ne u)]
  have := parse_dec u [] hu
  rw [List.append_nil] at this
  rw [this]
  rfl

theorem atoi_nonneg (u : Nat) (hu : u ≤ 9223372036854775807) : Lib.atoiAll (Lib.decDigits u) = .ok (u : Int) := by
  obtain ⟨c, r, e⟩ := List.exists_cons_of_ne_nil (dec_ne u)
  have hc := dec_chars u c (by rw [e]; simp)
  have hm := mag_dec u (by omega)
  rw [e] at hm ⊢
  have h1 : ¬ (c.toNat = 43 ∨ c.toNat = 45) := by omega
  have h2 : ¬ c.toNat = 45 := by omega
  unfold Lib.atoiAll
  simp only [if_neg h1]
  rw [hm]
  simp only
  rw [if_neg (by omega), if_neg (fun h => h2 h.1), if_neg h2]

theorem atoi_neg (u : Nat) (h1 : 1 ≤ u) (hu : u ≤ 9223372036854775808) : Lib.atoiAll (45 :: Lib.decDigits u) = .ok (-(u : Int)) := by
  have hm := mag_dec u hu
  have hc : ((45 : UInt8).toNat = 43 ∨ (45 : UInt8).toNat = 45) := .inr rfl
  have hc2 : ((45 : UInt8).toNat = 45) := rfl
  unfold Lib.atoiAll
  simp only [if_pos hc]
  rw [hm]
  simp only
  rw [if_neg (fun h => h.1 hc2), if_neg (by omega), if_pos hc2]

theorem atoi_itoa (n : Int) (h0 : -9223372036854775808 ≤ n) (h1 : n ≤ 9223372036854775807) : Lib.atoiAll (Lib.itoa n) = .ok n := by
  by_cases h : n < 0
  · obtain ⟨u, rfl⟩ : ∃ u : Nat, n = -(u : Int) := ⟨n.natAbs, by omega⟩
    rw [Lib.itoa_neg u (by omega), atoi_neg u (by omega) (by omega)]
  · obtain ⟨u, rfl⟩ : ∃ u : Nat, n = (u : Int) := ⟨n.toNat, by omega⟩
    rw [Lib.itoa_nonneg u, atoi_nonneg u (by omega)]

theorem itoa_chars (n : Int) : ∀ c ∈ Lib.itoa n, c = 45 ∨ (48 ≤ c.toNat ∧ c.toNat ≤ 57) := by
  intro c hc
  unfold Lib.itoa at hc
  split at hc
  · rcases List.mem_cons.1 hc with rfl | hc
    · exact .inl rfl
    · exact .inr (dec_chars _ c hc)
  · exact .inr (dec_chars _ c hc)

theorem itoa_ne (n : Int) : Lib.itoa n ≠ [] := by
  unfold Lib.itoa
  split
  · simp
  · exact dec_ne _

theorem value_itoa (n : Int) (h0 : -9223372036854775808 ≤ n) (h1 : n ≤ 9223372036854775807) : valueP (Lib.itoa n) = (n, true) := by
  unfold valueP
  rw [atoi_itoa n h0 h1]
  simp

theorem hasPrefix_cons (c : UInt8) (l : List UInt8) : Lib.hasPrefix (c :: l) [c] = true := by
  unfold Lib.hasPrefix
  simp [List.isPrefixOf]

theorem signed_itoa (c : UInt8) (n : Int) (h0 : 0 ≤ n) (h1 : n ≤ 9223372036854775807) : signedP (c :: Lib.itoa n) c = (n, true) := by
  unfold signedP Lib.trimPrefix
  rw [hasPrefix_cons, if_pos rfl]
  have : (c :: Lib.itoa n).drop [c].length = Lib.itoa n := rfl
  rw [this, value_itoa n (by omega) h1]
  simp [h0]

/-- A byte of a word: neither a blank nor a line's end nor a remark's start. -/
def WordB (l : List UInt8) : Prop := l ≠ [] ∧ ∀ c ∈ l, c ≠ 32 ∧ c ≠ 9 ∧ c ≠ 10 ∧ c ≠ 59

theorem word_itoa (n : Int) : WordB (Lib.itoa n) := by
  refine ⟨itoa_ne n, fun c hc => ?_⟩
  rcases itoa_chars n c hc with rfl | h
  · decide
  · refine ⟨?_, ?_, ?_, ?_⟩ <;> (rintro rfl; revert h; decide)

theorem WordB.cons {c : UInt8} {l : List UInt8} (h : WordB l) (hc : c ≠ 32 ∧ c ≠ 9 ∧ c ≠ 10 ∧ c ≠ 59) : WordB (c :: l) := by
  refine ⟨by simp, fun d hd => ?_⟩
  rcases List.mem_cons.1 hd with rfl | hd
  · exact hc
  · exact h.2 d hd

theorem WordB.sep {l : List UInt8} (h : WordB l) : ∀ c ∈ l, sepB c = false := by
  intro c hc
  have := h.2 c hc
  unfold sepB
  simp [this.1, this.2.1]

/-- Words joined by a blank are those words. -/
theorem words_join : ∀ (xs : List (List UInt8)), (∀ x ∈ xs, WordB x) → wordsB [] (Lib.join xs [32]) = xs
  | [], _ => rfl
  | x :: r, h => by
    have key : ∀ (r : List (List UInt8)) (cur : List UInt8), cur ≠ [] → (∀ y ∈ r, WordB y) → wordsB cur (Lib.joinTail [32] r) = cur :: r := by
      intro r
      induction r with
      | nil => intro cur hc _; rw [show Lib.joinTail [32] [] = [] from rfl, wordsB, if_neg hc]
      | cons y r ih =>
        intro cur hc hy
        have e : Lib.joinTail [32] (y :: r) = 32 :: (y ++ Lib.joinTail [32] r) := by unfold Lib.joinTail; simp
        rw [e, wordsB, if_pos (by decide), if_neg hc, wordsB_run _ _ _ (hy y (by simp)).sep, List.nil_append, ih y (hy y (by simp)).1 (fun z hz => hy z (by simp [hz]))]
    rw [Lib.join_cons, wordsB_run _ _ _ (h x (by simp)).sep, List.nil_append, key r x (h x (by simp)).1 (fun y hy => h y (by simp [hy]))]

theorem join_chars (P : UInt8 → Prop) (xs : List (List UInt8)) (h : ∀ x ∈ xs, ∀ c ∈ x, P c) (h32 : P 32) : ∀ c ∈ Lib.join xs [32], P c := by
  cases xs with
  | nil => intro c hc; cases hc
  | cons x r =>
    intro c hc
    rw [Lib.join_cons] at hc
    rcases List.mem_append.1 hc with hc | hc
    · exact h x (by simp) c hc
    · unfold Lib.joinTail at hc
      obtain ⟨l, hl, hc⟩ := List.mem_flatten.1 hc
      obtain ⟨y, hy, rfl⟩ := List.mem_map.1 hl
      rcases List.mem_append.1 hc with hc | hc
      · rw [List.mem_singleton.1 hc]; exact h32
      · exact h y (by simp [hy]) c hc

theorem takeWhile_all {α : Type} (p : α → Bool) : ∀ l : List α, (∀ c ∈ l, p c = true) → l.takeWhile p = l
  | [], _ => rfl
  | x :: l, h => by rw [List.takeWhile_cons, if_pos (h x (by simp)), takeWhile_all p l (fun c hc => h c (by simp [hc]))]

theorem wordsL_join (xs : List (List UInt8)) (h : ∀ x ∈ xs, WordB x) : wordsL (Lib.join xs [32]) = xs := by
  unfold wordsL
  rw [takeWhile_all _ _ (fun c hc => decide_eq_true (join_chars (fun c => c ≠ 59) xs (fun x hx c hc => ((h x hx).2 c hc).2.2.2) (by decide) c hc)), words_join xs h]

theorem join_no10 (xs : List (List UInt8)) (h : ∀ x ∈ xs, WordB x) : (10 : UInt8) ∉ Lib.join xs [32] :=
  fun hc => join_chars (fun c => c ≠ 10) xs (fun x hx c hc => ((h x hx).2 c hc).2.2.1) (by decide) 10 hc rfl

end Go.Proofs.YtlhgfhmdhmgmpaaGreatDoor

set_option linter.unusedVariables false
set_option linter.unusedSimpArgs false
namespace Go.Proofs.YtlhgfhmdhmgmpaaGreatDoor
open Go.RowKit

def wsP (l : Line) : Part → List (List UInt8)
  | .places => l.list.map fun n => 76 :: Lib.itoa n
  | p => [partT l p]

def putF (l : Line) (x : Line) : Part → Line
  | .reg o => setF x o (fieldI l o)
  | .num => { x with imm := l.imm }
  | .word => { x with n := l.n }
  | .place => { x with label := l.label }
  | .places => { x with list := l.list }

def FitP (l : Line) : Part → Prop
  | .reg o => 0 ≤ fieldI l o ∧ fieldI l o ≤ 11
  | .num => -9223372036854775808 ≤ l.imm ∧ l.imm ≤ 9223372036854775807
  | .word => 0 ≤ l.n ∧ l.n ≤ 4294967295
  | .place => 0 ≤ l.label ∧ l.label ≤ 100000
  | .places => l.list ≠ [] ∧ ∀ n ∈ l.list, 0 ≤ n ∧ n ≤ 100000

def PlLast : List Part → Prop
  | [] => True
  | p :: r => (p = .places → r = []) ∧ PlLast r

theorem partsP_last (op : Int) : PlLast (partsP op) := by
  unfold partsP
  repeat' split
  all_goals simp [PlLast]

theorem labs_back : ∀ (ns : List Int), (∀ n ∈ ns, 0 ≤ n ∧ n ≤ 100000) → labsP ((ns.map fun n => 76 :: Lib.itoa n).map baL) = some ns
  | [], _ => rfl
  | n :: ns, h => by
    have hn := h n (by simp)
    rw [List.map_cons, List.map_cons, labsP, baL_list, signed_itoa 76 n hn.1 (by omega), if_pos rfl, labs_back ns (fun m hm => h m (by simp [hm]))]
    rfl

theorem take_back (l x : Line) (p : Part) (rest : List (List UInt8)) (h : FitP l p) (hr : p = .places → rest = []) :
    takeP x p ((wsP l p ++ rest).map baL) = some (putF l x p, rest.map baL) := by
  cases p with
  | reg o =>
    rw [show (wsP l (.reg o) ++ rest).map baL = baL (82 :: Lib.itoa (fieldI l o)) :: rest.map baL from rfl, takeP, baL_list, signed_itoa 82 _ h.1 (by have := h.2; omega), if_pos rfl]
    rfl
  | num =>
    rw [show (wsP l .num ++ rest).map baL = baL (Lib.itoa l.imm) :: rest.map baL from rfl, takeP, baL_list, value_itoa _ h.1 h.2, if_pos rfl]
    rfl
  | word =>
    have h1 := h.1
    have h2 := h.2
    rw [show (wsP l .word ++ rest).map baL = baL (Lib.itoa l.n) :: rest.map baL from rfl, takeP, baL_list, value_itoa _ (by omega) (by omega), if_pos (by simp; omega)]
    rfl
  | place =>
    rw [show (wsP l .place ++ rest).map baL = baL (76 :: Lib.itoa l.label) :: rest.map baL from rfl, takeP, baL_list, signed_itoa 76 _ h.1 (by have := h.2; omega), if_pos rfl]
    rfl
  | places =>
    rw [hr rfl, List.append_nil]
    show (labsP ((l.list.map fun n => 76 :: Lib.itoa n).map baL)).map _ = _
    rw [labs_back l.list h.2]
    rfl

theorem takes_back (l : Line) : ∀ (ps : List Part) (x : Line), PlLast ps → (∀ p ∈ ps, FitP l p) → takeF x ps ((ps.flatMap (wsP l)).map baL) = some (ps.foldl (putF l) x, [])
  | [], x, _, _ => rfl
  | p :: ps, x, hl, h => by
    have hl1 : p = .places → ps.flatMap (wsP l) = [] := fun e => by rw [hl.1 e]; rfl
    rw [List.flatMap_cons, takeF, take_back l x p _ (h p (by simp)) hl1, Option.bind_some, takes_back l ps _ hl.2 (fun q hq => h q (by simp [hq]))]
    rfl

/-! ### the words of a line's text -/
theorem joinTail_app (a b : List (List UInt8)) : Lib.joinTail [32] (a ++ b) = Lib.joinTail [32] a ++ Lib.joinTail [32] b := by
  unfold Lib.joinTail; simp

theorem joinTail_join (ys : List (List UInt8)) (h : ys ≠ []) : Lib.joinTail [32] [Lib.join ys [32]] = Lib.joinTail [32] ys := by
  obtain ⟨y, r, rfl⟩ := List.exists_cons_of_ne_nil h
  rw [Lib.join_cons]
  unfold Lib.joinTail
  simp

theorem parts_join (l : Line) : ∀ (ps : List Part), (∀ p ∈ ps, FitP l p) → Lib.joinTail [32] (ps.map (partT l)) = Lib.joinTail [32] (ps.flatMap (wsP l))
  | [], _ => rfl
  | p :: ps, h => by
    have e1 : (p :: ps).map (partT l) = [partT l p] ++ ps.map (partT l) := rfl
    rw [e1, List.flatMap_cons, joinTail_app, joinTail_app, parts_join l ps (fun q hq => h q (by simp [hq]))]
    congr 1
    cases p with
    | places =>
      have := (h .places (by simp)).1
      exact joinTail_join _ (by simpa using this)
    | _ => rfl

theorem wsP_word (l : Line) (p : Part) : ∀ x ∈ wsP l p, WordB x := by
  intro x hx
  have k : ∀ (c : UInt8) n, c = 76 ∨ c = 82 → WordB (c :: Lib.itoa n) := fun c n hc => (word_itoa n).cons (by rcases hc with rfl | rfl <;> decide)
  cases p with
  | reg o => rw [List.mem_singleton.1 hx]; exact k 82 _ (.inr rfl)
  | num => rw [List.mem_singleton.1 hx]; exact word_itoa _
  | word => rw [List.mem_singleton.1 hx]; exact word_itoa _
  | place => rw [List.mem_singleton.1 hx]; exact k 76 _ (.inl rfl)
  | places =>
    obtain ⟨n, _, rfl⟩ := List.mem_map.1 hx
    exact k 76 _ (.inl rfl)

def nameOk (x : List UInt8) : Bool := !x.isEmpty && x.all (fun c => decide (c ≠ 32) && decide (c ≠ 9) && decide (c ≠ 10) && decide (c ≠ 59)) && !Lib.hasSuffix x [58]
theorem names_ok : opNames.all nameOk = true := by kernel_rfl
theorem names_op : (List.range 48).all (fun k => decide (opOf (baL (opNames.getD k [])) = (k : Int) + 1)) = true := by kernel_rfl

theorem name_word (k : Nat) (hk : k < 48) : WordB (opNames.getD k []) ∧ Lib.hasSuffix (opNames.getD k []) [58] = false := by
  have hk' : k < opNames.length := by rw [opNames_len]; exact hk
  have := List.all_eq_true.1 names_ok (opNames.getD k []) (by rw [List.getD_eq_getElem?_getD, List.getElem?_eq_getElem hk']; exact List.getElem_mem hk')
  unfold nameOk at this
  simp only [Bool.and_eq_true, Bool.not_eq_true', List.all_eq_true, decide_eq_true_eq] at this
  refine ⟨⟨fun e => ?_, fun c hc => ?_⟩, this.2⟩
  · rw [e] at this
    simp at this
  · have := this.1.2 c hc
    exact ⟨this.1.1.1, this.1.1.2, this.1.2, this.2⟩

theorem name_op (k : Nat) (hk : k < 48) : opOf (baL (opNames.getD k [])) = (k : Int) + 1 :=
  of_decide_eq_true (List.all_eq_true.1 names_op k (List.mem_range.2 hk))

theorem text_words (l : Line) (h1 : 1 ≤ l.op) (h2 : l.op ≤ 48) (h : ∀ p ∈ partsP l.op, FitP l p) :
    textP l = Lib.join (opNames.getD (l.op.toNat - 1) [] :: (partsP l.op).flatMap (wsP l)) [32] ∧ ∀ x ∈ opNames.getD (l.op.toNat - 1) [] :: (partsP l.op).flatMap (wsP l), WordB x := by
  constructor
  · unfold textP
    rw [if_neg (by omega), Lib.join_cons, Lib.join_cons, parts_join l _ h]
  · intro x hx
    rcases List.mem_cons.1 hx with rfl | hx
    · exact (name_word _ (by omega)).1
    · obtain ⟨p, _, hp⟩ := List.mem_flatMap.1 hx
      exact wsP_word l p x hp

end Go.Proofs.YtlhgfhmdhmgmpaaGreatDoor

set_option linter.unusedVariables false
set_option linter.unusedSimpArgs false
namespace Go.Proofs.YtlhgfhmdhmgmpaaGreatDoor
open Go.RowKit

def chkP (op : Int) : Bool :=
  (!(partsP op).contains (.reg 1) || decide ((bd (formOf op)).1 = (0, 11))) && (!(partsP op).contains (.reg 2) || decide ((bd (formOf op)).2.1 = (0, 11))) && (!(partsP op).contains (.reg 3) || decide ((bd (formOf op)).2.2 = (0, 11)))
  && ((partsP op).contains (.reg 1) || decide ((bd (formOf op)).1 = (0, 0))) && ((partsP op).contains (.reg 2) || decide ((bd (formOf op)).2.1 = (0, 0))) && ((partsP op).contains (.reg 3) || (partsP op).contains .num || brJ op || decide ((bd (formOf op)).2.2 = (0, 0)))

theorem chk_all : (List.range 48).all (fun k => chkP ((k : Int) + 1)) = true := by kernel_rfl

theorem chk_op (op : Int) (h1 : 1 ≤ op) (h2 : op ≤ 48) : chkP op = true := by
  have := List.all_eq_true.1 chk_all (op.toNat - 1) (List.mem_range.2 (by omega))
  rw [show ((op.toNat - 1 : Nat) : Int) + 1 = op by omega] at this
  exact this

structure Ends (l : Line) : Prop where
  okA : okA (formOf l.op) l.a l.b l.imm = true
  br : brJ l.op = true → l.imm = 0
  lab : 0 ≤ l.label ∧ l.label ≤ 100000
  ls : ∀ n ∈ l.list, 0 ≤ n ∧ n ≤ 100000
  n : hN l (partsP l.op) = l.n
  lb : hLb l (partsP l.op) = l.label
  len : hSl l (partsP l.op) = l.list.length
  pl : l.list.length = 0 ↔ l.op ≠ 42

theorem may_ends {l : Line} (h : mayP l = true) (h0 : l.op ≠ 0) : Ends l := by
  unfold mayP at h
  rw [if_neg h0] at h
  unfold fitsP endP inLab at h
  simp only [Bool.and_eq_true, decide_eq_true_eq, Bool.or_eq_true, Bool.not_eq_true', List.all_eq_true, bne_iff_ne] at h
  obtain ⟨⟨⟨⟨⟨a1, a2⟩, a3⟩, a4⟩, a5⟩, ⟨⟨b1, b2⟩, b3⟩, b4⟩ := h
  refine ⟨?_, fun e => ?_, b3, b4, a1, a2, a3, ?_⟩
  · unfold enc at b1
    split at b1
    · exact absurd b1 (by decide)
    · split at b1
      · assumption
      · exact absurd b1 (by decide)
  · rcases b2 with b2 | b2
    · rw [e] at b2; cases b2
    · exact b2
  · by_cases e1 : l.list.length = 0 <;> by_cases e2 : l.op = 42 <;> simp [e1, e2] at a4 ⊢

theorem ends_fields {l : Line} (h : Ends l) (h1 : 1 ≤ l.op) (h2 : l.op ≤ 48) :
    (∀ o, Part.reg o ∈ partsP l.op → 0 ≤ fieldI l o ∧ fieldI l o ≤ 11) ∧ (Part.reg 1 ∉ partsP l.op → l.a = 0) ∧ (Part.reg 2 ∉ partsP l.op → l.b = 0) ∧ (Part.reg 3 ∉ partsP l.op → Part.num ∉ partsP l.op → l.imm = 0) := by
  have hc := chk_op l.op h1 h2
  have hk := h.okA
  have hbr := h.br
  unfold chkP at hc
  unfold okA within at hk
  simp only [Bool.and_eq_true, Bool.or_eq_true, Bool.not_eq_true', decide_eq_true_eq, List.contains_iff_mem, ← Bool.not_eq_true] at hc hk
  obtain ⟨⟨⟨⟨⟨c1, c2⟩, c3⟩, c4⟩, c5⟩, c6⟩ := hc
  obtain ⟨⟨k1, k2⟩, k3⟩ := hk
  refine ⟨fun o ho => ?_, fun hn => ?_, fun hn => ?_, fun hn hm => ?_⟩
  · rcases partsP_reg _ _ ho with rfl | rfl | rfl
    · rcases c1 with c1 | c1
      · exact absurd ho c1
      · rw [c1] at k1; exact k1
    · rcases c2 with c1 | c1
      · exact absurd ho c1
      · rw [c1] at k2; exact k2
    · rcases c3 with c1 | c1
      · exact absurd ho c1
      · rw [c1] at k3; exact k3
  · rcases c4 with c | c
    · exact absurd c hn
    · rw [c] at k1; simp only at k1; omega
  · rcases c5 with c | c
    · exact absurd c hn
    · rw [c] at k2; simp only at k2; omega
  · rcases c6 with ((c | c) | c) | c
    · exact absurd c hn
    · exact absurd c hm
    · exact hbr c
    · rw [c] at k3; simp only at k3; omega

theorem fit_all {l : Line} (hwf : WfL l) (h : Ends l) (h1 : 1 ≤ l.op) (h2 : l.op ≤ 48) : ∀ p ∈ partsP l.op, FitP l p := by
  intro p hp
  cases p with
  | reg o => exact (ends_fields h h1 h2).1 o hp
  | num => exact ⟨hwf.i0, hwf.i1⟩
  | word => exact ⟨hwf.n0, hwf.n1⟩
  | place => exact h.lab
  | places =>
    have h42 := partsP_places _ hp
    refine ⟨fun e => ?_, h.ls⟩
    have := h.pl.1 (by rw [e]; rfl)
    exact this h42

theorem line_ext {l m : Line} (h1 : l.op = m.op) (h2 : l.a = m.a) (h3 : l.b = m.b) (h4 : l.imm = m.imm) (h5 : l.n = m.n) (h6 : l.label = m.label) (h7 : l.list = m.list) : l = m := by
  cases l; cases m; simp only at *; subst h1 h2 h3 h4 h5 h6 h7; rfl

theorem parts_cases (op : Int) : partsP op = [.reg 1, .num] ∨ partsP op = [.reg 1, .word] ∨ partsP op = [.reg 1, .places] ∨ partsP op = [.reg 1] ∨ partsP op = [.reg 1, .reg 2, .num] ∨ partsP op = [.reg 1, .reg 2, .reg 3] ∨ partsP op = [.reg 1, .reg 2, .place] ∨ partsP op = [.place] ∨ partsP op = [] ∨ partsP op = [.num] ∨ partsP op = [.reg 1, .reg 2] := by
  unfold partsP
  repeat' split
  all_goals simp

theorem fold_back {l : Line} (h : Ends l) (h1 : 1 ≤ l.op) (h2 : l.op ≤ 48) : (partsP l.op).foldl (putF l) (newL l.op) = l := by
  obtain ⟨_, z1, z2, z3⟩ := ends_fields h h1 h2
  have hn := h.n
  have hlb := h.lb
  have hlen := h.len
  have hc := parts_cases l.op
  clear h h1 h2
  unfold hN at hn
  unfold hLb at hlb
  unfold hSl at hlen
  generalize partsP l.op = ps at *
  have he : ∀ {α : Type} (xs : List α), 0 = xs.length → [] = xs := fun xs h => (List.length_eq_zero_iff.1 h.symm).symm
  rcases hc with rfl | rfl | rfl | rfl | rfl | rfl | rfl | rfl | rfl | rfl | rfl
  all_goals
    simp only [List.mem_cons, List.not_mem_nil, Part.reg.injEq, reduceCtorEq, or_false, false_or, or_true, true_or, not_true, not_false_eq_true, if_true, if_false, forall_const, false_implies, Nat.reduceEqDiff] at z1 z2 z3 hn hlb hlen
    simp only [List.foldl, putF, setF, fieldI, newL]
    refine line_ext ?_ ?_ ?_ ?_ ?_ ?_ ?_ <;> first | rfl | exact z1.symm | exact z2.symm | exact z3.symm | exact hn | exact hlb | exact he _ hlen

end Go.Proofs.YtlhgfhmdhmgmpaaGreatDoor

set_option linter.unusedVariables false
set_option linter.unusedSimpArgs false
namespace Go.Proofs.YtlhgfhmdhmgmpaaGreatDoor
open Go.RowKit

theorem suffix_snoc (a : List UInt8) (c : UInt8) : Lib.hasSuffix (a ++ [c]) [c] = true := by
  unfold Lib.hasSuffix
  exact List.isSuffixOf_iff_suffix.2 (List.suffix_append a [c])

theorem label_of {l : Line} (h : mayP l = true) (h0 : l.op = 0) : l = labelL l.label ∧ 0 ≤ l.label ∧ l.label ≤ 100000 := by
  unfold mayP at h
  rw [if_pos h0] at h
  unfold labelP inLab at h
  simp only [Bool.and_eq_true, decide_eq_true_eq] at h
  obtain ⟨⟨⟨⟨⟨a1, a2⟩, a3⟩, a4⟩, a5⟩, a6⟩ := h
  exact ⟨line_ext h0 a1 a2 a3 a4 rfl (List.length_eq_zero_iff.1 a5), a6⟩

theorem wordsL_one (x : List UInt8) (h : WordB x) : wordsL x = [x] := by
  have := wordsL_join [x] (fun y hy => by rw [List.mem_singleton.1 hy]; exact h)
  rwa [Lib.join_one] at this

/-- A line that is written: its words say that line. -/
theorem line_back {l : Line} (hwf : WfL l) (hm : mayP l = true) :
    (10 : UInt8) ∉ textP l ∧ ∃ x r, wordsL (textP l) = x :: r ∧ lineP (baL x) (r.map baL) = some l := by
  by_cases h0 : l.op = 0
  · have hl := label_of hm h0
    have e : textP l = (76 :: Lib.itoa l.label) ++ [58] := by unfold textP; rw [if_pos h0]
    have hw : WordB (textP l) := by
      rw [e]
      refine ⟨by simp, fun c hc => ?_⟩
      rcases List.mem_append.1 hc with hc | hc
      · exact ((word_itoa l.label).cons (c := 76) (by decide)).2 c hc
      · rw [List.mem_singleton.1 hc]; decide
    refine ⟨fun hc => (hw.2 10 hc).2.2.1 rfl, textP l, [], wordsL_one _ hw, ?_⟩
    have ht : Lib.trimSuffix ((76 :: Lib.itoa l.label) ++ [58]) [58] = 76 :: Lib.itoa l.label := by
      unfold Lib.trimSuffix
      rw [suffix_snoc, if_pos rfl]
      exact List.take_left' (by simp)
    unfold lineP
    rw [baL_list, e, suffix_snoc, if_pos (by simp), ht]
    unfold labelR
    rw [signed_itoa 76 _ hl.2.1 (by have := hl.2.2; omega)]
    simp only [Bool.true_and]
    rw [← hl.1, if_pos hm]
  · have hE := may_ends hm h0
    obtain ⟨h1, h2, _⟩ := may_op hm h0
    have hfit := fit_all hwf hE h1 h2
    obtain ⟨e, hw⟩ := text_words l h1 h2 hfit
    refine ⟨by rw [e]; exact join_no10 _ hw, _, _, by rw [e]; exact wordsL_join _ hw, ?_⟩
    have hk : l.op.toNat - 1 < 48 := by omega
    have hop := name_op _ hk
    rw [show ((l.op.toNat - 1 : Nat) : Int) + 1 = l.op by omega] at hop
    unfold lineP
    rw [baL_list, (name_word _ hk).2, Bool.false_and, if_neg (by simp)]
    unfold lineI
    rw [hop, if_neg h0, takes_back l (partsP l.op) (newL l.op) (partsP_last _) hfit, fold_back hE h1 h2, Option.bind_some]
    simp only
    rw [hm, if_pos (by simp)]

theorem parse_line (f : Nat) (x r : List UInt8) (i : Nat) (acc : List Line) (h : (10 : UInt8) ∉ x) :
    parseF (f + 1) (baL (x ++ 10 :: r)) i acc = match wordsL x with
      | [] => parseF f (baL r) (i + 1) acc
      | w :: ws => match lineP (baL w) (ws.map baL) with
        | none => ([], (i : Int), 220)
        | some l => parseF f (baL r) (i + 1) (acc ++ [l]) := by
  rw [parseF, if_neg (by rw [baL_size]; simp), (one_at x r h).1, (one_at x r h).2, words_list]
  cases wordsL x <;> rfl

end Go.Proofs.YtlhgfhmdhmgmpaaGreatDoor

set_option linter.unusedVariables false
set_option linter.unusedSimpArgs false
namespace Go.Proofs.YtlhgfhmdhmgmpaaGreatDoor
open Go.RowKit

def lvA : List Line := [⟨1, 3, 0, -2, 0, 0, []⟩, ⟨0, 0, 0, 0, 0, 7, []⟩]
def lvB : List Line := [⟨44, 0, 0, 0, 0, 0, []⟩, ⟨40, 0, 0, 0, 0, 0, []⟩]

theorem wf_of (l : Line) (h : l.list = []) (a : -100 ≤ l.a ∧ l.a ≤ 100) (b : -100 ≤ l.b ∧ l.b ≤ 100) (c : -100 ≤ l.imm ∧ l.imm ≤ 100) (d : 0 ≤ l.n ∧ l.n ≤ 100) (e : -100 ≤ l.label ∧ l.label ≤ 100) : WfL l :=
  ⟨by omega, by omega, by omega, by omega, by omega, by omega, by omega, by omega, by omega, by omega, fun x hx => by rw [h] at hx; cases hx⟩

theorem lvA_wf : ∀ l ∈ lvA, WfL l := by
  intro l hl
  simp only [lvA, List.mem_cons, List.not_mem_nil, or_false] at hl
  rcases hl with rfl | rfl <;> exact wf_of _ rfl (by decide) (by decide) (by decide) (by decide) (by decide)
theorem lvB_wf : ∀ l ∈ lvB, WfL l := by
  intro l hl
  simp only [lvB, List.mem_cons, List.not_mem_nil, or_false] at hl
  rcases hl with rfl | rfl <;> exact wf_of _ rfl (by decide) (by decide) (by decide) (by decide) (by decide)

theorem lvA_may : lvA.all mayP = true := by kernel_rfl

theorem itoa_small (n : Nat) (h : n < 10) : Lib.itoa (n : Int) = [UInt8.ofNat (48 + n)] := by rw [Lib.itoa_nonneg, Lib.decDigits_one h]

theorem lvA_print : printP lvA = ([76, 73, 32, 82, 51, 32, 45, 50, 10, 76, 55, 58, 10], 0) := by
  unfold printP
  rw [if_neg (by decide), if_pos lvA_may]
  have i3 : Lib.itoa 3 = [51] := itoa_small 3 (by decide)
  have i7 : Lib.itoa 7 = [55] := itoa_small 7 (by decide)
  have i2 : Lib.itoa (-2) = [45, 50] := by
    have := Lib.itoa_neg 2 (by decide)
    rw [Lib.decDigits_one (by decide)] at this
    exact this
  have t1 : textP ⟨1, 3, 0, -2, 0, 0, []⟩ = [76, 73, 32, 82, 51, 32, 45, 50] := by
    show Lib.join [[76, 73], 82 :: Lib.itoa 3, Lib.itoa (-2)] [32] = _
    rw [i3, i2]
    rfl
  have t2 : textP ⟨0, 0, 0, 0, 0, 7, []⟩ = [76, 55, 58] := by
    show (76 :: Lib.itoa 7) ++ [58] = _
    rw [i7]
    rfl
  unfold bodyP lvA
  simp only [List.map_cons, List.map_nil, t1, t2]
  rfl

theorem parse_last (f : Nat) (x : List UInt8) (i : Nat) (acc : List Line) (h : (10 : UInt8) ∉ x) (hx : x ≠ []) :
    parseF (f + 1) (baL x) i acc = match wordsL x with
      | [] => finP acc
      | w :: ws => match lineP (baL w) (ws.map baL) with
        | none => ([], (i : Int), 220)
        | some l => finP (acc ++ [l]) := by
  rw [parseF, if_neg (by rw [baL_size]; simpa using hx), (one_none x h).1, (one_none x h).2, words_list]
  cases wordsL x with
  | nil => exact parseF_end rfl _ _ _
  | cons w ws =>
    simp only [List.map_cons]
    cases lineP (baL w) (ws.map baL) with
    | none => rfl
    | some l => exact parseF_end rfl _ _ _

theorem lvB_one : lineP (baL [82, 69, 84]) ([].map baL) = some ⟨44, 0, 0, 0, 0, 0, []⟩ := by
  obtain ⟨_, x, r, h1, h2⟩ := line_back (l := ⟨44, 0, 0, 0, 0, 0, []⟩) (lvB_wf _ (by simp [lvB])) (by kernel_rfl)
  have t : textP ⟨44, 0, 0, 0, 0, 0, []⟩ = [82, 69, 84] := rfl
  rw [t, show wordsL [82, 69, 84] = [[82, 69, 84]] from rfl] at h1
  injection h1 with h3 h4
  subst h3 h4
  exact h2

theorem lvB_two : lineP (baL [74, 77, 80]) ([[76, 48]].map baL) = some ⟨40, 0, 0, 0, 0, 0, []⟩ := by
  obtain ⟨_, x, r, h1, h2⟩ := line_back (l := ⟨40, 0, 0, 0, 0, 0, []⟩) (lvB_wf _ (by simp [lvB])) (by kernel_rfl)
  have i0 : Lib.itoa 0 = [48] := itoa_small 0 (by decide)
  have t : textP ⟨40, 0, 0, 0, 0, 0, []⟩ = [74, 77, 80, 32, 76, 48] := by
    show Lib.join [[74, 77, 80], 76 :: Lib.itoa 0] [32] = _
    rw [i0]
    rfl
  rw [t, show wordsL [74, 77, 80, 32, 76, 48] = [[74, 77, 80], [76, 48]] from rfl] at h1
  injection h1 with h3 h4
  subst h3 h4
  exact h2

theorem lvB_parse : parseR (baL [32, 82, 69, 84, 32, 59, 32, 115, 111, 10, 10, 74, 77, 80, 9, 76, 48]) = (lvB, 0, 0) := by
  unfold parseR
  rw [baL_size]
  have e1 := parse_line 16 [32, 82, 69, 84, 32, 59, 32, 115, 111] [10, 74, 77, 80, 9, 76, 48] 0 [] (by decide)
  have e2 := parse_line 15 [] [74, 77, 80, 9, 76, 48] 1 [⟨44, 0, 0, 0, 0, 0, []⟩] (by decide)
  have e3 := parse_last 14 [74, 77, 80, 9, 76, 48] 2 [⟨44, 0, 0, 0, 0, 0, []⟩] (by decide) (by decide)
  rw [show wordsL [32, 82, 69, 84, 32, 59, 32, 115, 111] = [[82, 69, 84]] from rfl] at e1
  rw [show wordsL [] = [] from rfl] at e2
  rw [show wordsL [74, 77, 80, 9, 76, 48] = [[74, 77, 80], [76, 48]] from rfl] at e3
  simp only [lvB_one] at e1
  simp only [lvB_two] at e3
  refine (show parseF _ _ 0 [] = _ from e1).trans ((show parseF _ _ _ _ = _ from e2).trans (e3.trans ?_))
  rfl

end Go.Proofs.YtlhgfhmdhmgmpaaGreatDoor
