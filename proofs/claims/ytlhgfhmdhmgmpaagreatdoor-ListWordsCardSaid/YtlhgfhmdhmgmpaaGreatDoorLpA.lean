/- Plainly: words, lines, over lists of bytes. -/
import Derived.Test.YtlhgfhmdhmgmpaaGreatDoorLiX
set_option linter.unusedVariables false
set_option linter.unusedSimpArgs false
namespace Go.Proofs.YtlhgfhmdhmgmpaaGreatDoor
open Go.RowKit

def sepB (b : UInt8) : Bool := decide (b = 32) || decide (b = 9)

def wordsB : List UInt8 → List UInt8 → List (List UInt8)
  | cur, [] => if cur = [] then [] else [cur]
  | cur, c :: r => if sepB c = true then (if cur = [] then wordsB [] r else cur :: wordsB [] r) else wordsB (cur ++ [c]) r

theorem wordsB_run : ∀ (x cur r : List UInt8), (∀ c ∈ x, sepB c = false) → wordsB cur (x ++ r) = wordsB (cur ++ x) r
  | [], cur, r, _ => by simp
  | c :: x, cur, r, h => by
    rw [List.cons_append, wordsB, h c (by simp), if_neg (by simp), wordsB_run x _ r (fun d hd => h d (by simp [hd])), List.append_assoc]
    rfl

theorem gb_list (l : List UInt8) (i : Nat) (h : i < l.length) : gb ⟨l.toArray⟩ i = (l[i]).toNat := by
  unfold gb ByteArray.get!
  simp [h]

theorem sepB_nat (b : UInt8) : sepB b = sepR b.toNat := by
  unfold sepB sepR
  have h1 : b = 32 ↔ b.toNat = 32 := ⟨fun h => by rw [h]; rfl, fun h => UInt8.toNat_inj.1 h⟩
  have h2 : b = 9 ↔ b.toNat = 9 := ⟨fun h => by rw [h]; rfl, fun h => UInt8.toNat_inj.1 h⟩
  simp only [h1, h2]

def pcL (l : List UInt8) (a b : Nat) : List UInt8 := (l.drop a).take (b - a)

def opL (l : List UInt8) (st : Option Nat) (pos : Nat) : List UInt8 :=
  match st with
  | some a => pcL l a pos
  | none => []

theorem pcL_more (l : List UInt8) (a p k : Nat) (h : a ≤ p) : pcL l a (p + k) = pcL l a p ++ (l.drop p).take k := by
  unfold pcL
  rw [show p + k - a = (p - a) + k by omega, List.take_add, List.drop_drop, show a + (p - a) = p by omega]

theorem pcL_ne {l : List UInt8} {a p : Nat} (h : a < p) (hp : p ≤ l.length) : pcL l a p ≠ [] := by
  unfold pcL
  intro e
  have := congrArg List.length e
  simp at this
  omega

theorem spans_words (l : List UInt8) : ∀ (f pos : Nat) (st : Option Nat) (acc : List (Nat × Nat)), l.length ≤ pos + f → pos ≤ l.length → (∀ a, st = some a → a < pos) →
    (Lib.closeSpans ⟨l.toArray⟩ (Lib.spansFromP sepR ⟨l.toArray⟩ f pos st acc)).map (fun p => pcL l p.1 p.2) = acc.map (fun p => pcL l p.1 p.2) ++ wordsB (opL l st pos) (l.drop pos)
  | 0, pos, st, acc, h, hp, hst => by
    obtain rfl : pos = l.length := by omega
    rw [List.drop_length, wordsB]
    cases st with
    | none => simp [Lib.spansFromP, Lib.closeSpans, opL]
    | some a =>
      have := pcL_ne (hst a rfl) (Nat.le_refl l.length)
      rw [if_neg (show opL l (some a) l.length ≠ [] from this)]
      simp only [Lib.spansFromP, Lib.closeSpans]
      rw [List.map_append]
      rfl
  | f + 1, pos, st, acc, h, hp, hst => by
    by_cases hps : pos < l.length
    · have hsz : (⟨l.toArray⟩ : ByteArray).size = l.length := by simp [ByteArray.size]
      unfold Lib.spansFromP
      rw [if_pos (by rw [hsz]; exact hps)]
      have hdc := dec_cases ⟨l.toArray⟩ pos
      have hwn : pos + (Utf8.decode ⟨l.toArray⟩ pos).2 ≤ l.length := by
        have := Lib.decodeN_le_n' ((⟨l.toArray⟩ : ByteArray).size - pos) ((⟨l.toArray⟩ : ByteArray).get! pos).toNat ((⟨l.toArray⟩ : ByteArray).get! (pos + 1)).toNat ((⟨l.toArray⟩ : ByteArray).get! (pos + 2)).toNat ((⟨l.toArray⟩ : ByteArray).get! (pos + 3)).toNat (by rw [hsz]; omega)
        rw [← Lib.decode_at] at this
        rw [hsz] at this
        omega
      have hwd := Lib.width_pos ⟨l.toArray⟩ pos
      obtain ⟨R, hR⟩ : ∃ R, (Utf8.decode ⟨l.toArray⟩ pos).1 = R := ⟨_, rfl⟩
      obtain ⟨K, hK⟩ : ∃ K, (Utf8.decode ⟨l.toArray⟩ pos).2 = K := ⟨_, rfl⟩
      have hd2 : Utf8.decode ⟨l.toArray⟩ pos = (R, K) := by rw [← hR, ← hK]
      rw [hd2] at hdc hwn hwd ⊢
      simp only at hdc hwn hwd ⊢
      have hsplit : l.drop pos = (l.drop pos).take K ++ l.drop (pos + K) := by
        rw [← List.drop_drop, List.take_append_drop]
      have hne : ∀ k, 0 < k → pos < pos + k := fun k hk => by omega
      cases hs : sepR R with
      | true =>
        have hsm : gb ⟨l.toArray⟩ pos < 128 ∧ R = gb ⟨l.toArray⟩ pos ∧ K = 1 := by
          rcases hdc with ⟨h1, h2⟩ | ⟨h1, _⟩
          · injection h2 with h2 h3
            exact ⟨h1, h2, h3⟩
          · unfold sepR at hs
            simp at hs
            omega
        obtain ⟨h1, rfl, rfl⟩ := hsm
        have hdr : l.drop pos = l[pos] :: l.drop (pos + 1) := List.drop_eq_getElem_cons hps
        rw [gb_list l pos hps, ← sepB_nat] at hs
        rw [if_pos rfl, hdr, wordsB, if_pos hs]
        cases st with
        | none =>
          rw [if_pos (show opL l none pos = [] from rfl)]
          simp only
          rw [spans_words l f (pos + 1) none acc (by omega) (by omega) (fun a e => by cases e)]
          rfl
        | some a =>
          rw [if_neg (show opL l (some a) pos ≠ [] from pcL_ne (hst a rfl) (by omega))]
          simp only
          rw [spans_words l f (pos + 1) none _ (by omega) (by omega) (fun a e => by cases e), List.map_append, List.append_assoc]
          rfl
      | false =>
        have hall : ∀ c ∈ (l.drop pos).take K, sepB c = false := by
          rcases hdc with ⟨h1, h2⟩ | ⟨h1, h2⟩
          · injection h2 with h2 h3
            subst h2 h3
            rw [List.drop_eq_getElem_cons hps]
            intro c hc
            have hc := List.mem_singleton.1 (show c ∈ [l[pos]] from hc)
            rw [hc, sepB_nat, ← gb_list l pos hps]
            exact hs
          · intro c hc
            obtain ⟨i, hi, rfl⟩ := List.getElem_of_mem hc
            simp at hi
            have := h2 (pos + i) (by omega) (by omega)
            rw [gb_list l (pos + i) (by omega)] at this
            rw [List.getElem_take, List.getElem_drop, sepB_nat]
            unfold sepR
            simp
            omega
        rw [if_neg (by simp), hsplit, wordsB_run _ _ _ hall]
        cases st with
        | none =>
          simp only
          rw [spans_words l f (pos + K) (some pos) acc (by omega) (by omega) (fun a e => by cases e; omega)]
          congr 2
          simp only [opL, List.nil_append]
          unfold pcL
          rw [show pos + K - pos = K by omega]
        | some a =>
          have := hst a rfl
          simp only
          rw [spans_words l f (pos + K) (some a) acc (by omega) (by omega) (fun a' e => by cases e; omega)]
          congr 2
          simp only [opL]
          exact pcL_more l a pos K (by omega)
    · obtain rfl : pos = l.length := by omega
      have hsz : (⟨l.toArray⟩ : ByteArray).size = l.length := by simp [ByteArray.size]
      rw [Lib.spansFromP_end _ _ _ _ _ _ (by rw [hsz]; exact hps), List.drop_length, wordsB]
      cases st with
      | none => simp [Lib.closeSpans, opL]
      | some a =>
        have := pcL_ne (hst a rfl) (Nat.le_refl l.length)
        rw [if_neg (show opL l (some a) l.length ≠ [] from this)]
        simp only [Lib.closeSpans]
        rw [List.map_append, hsz]
        rfl

def baL (l : List UInt8) : ByteArray := ⟨l.toArray⟩

theorem baL_data (s : ByteArray) : baL s.data.toList = s := by
  unfold baL
  cases s
  simp
theorem baL_list (l : List UInt8) : (baL l).data.toList = l := by unfold baL; simp
theorem baL_size (l : List UInt8) : (baL l).size = l.length := by unfold baL; simp [ByteArray.size]

theorem fields_words (l : List UInt8) : Lib.goFieldsP sepR (baL l) = (wordsB [] l).map baL := by
  have h := spans_words l l.length 0 none [] (by omega) (by omega) (fun a e => by cases e)
  have h2 := congrArg (List.map baL) h
  simp only [List.map_nil, List.nil_append, List.drop_zero, opL, List.map_map] at h2
  rw [← h2]
  unfold Lib.goFieldsP Lib.spansOfP
  rw [baL_size]
  unfold baL
  apply List.map_congr_left
  intro p hp
  apply ByteArray.ext
  simp only [Function.comp]
  apply Array.toList_inj.1
  rw [Lib.extract_data]
  rfl

theorem semiFrom_list (l : List UInt8) : ∀ (f i : Nat), l.length = i + f → semiFrom (baL l) f i = i + ((l.drop i).takeWhile (fun c => decide (c ≠ 59))).length
  | 0, i, h => by
    rw [List.drop_of_length_le (by omega)]
    rfl
  | f + 1, i, h => by
    have hi : i < l.length := by omega
    rw [semiFrom, List.drop_eq_getElem_cons hi, List.takeWhile_cons]
    have e : gb (baL l) i = 59 ↔ l[i] = 59 := by
      unfold baL
      rw [gb_list l i hi]
      exact ⟨fun h => UInt8.toNat_inj.1 h, fun h => by rw [h]; rfl⟩
    by_cases h1 : l[i] = 59
    · rw [if_pos (e.2 h1), if_neg (by simp [h1])]
      rfl
    · rw [if_neg (fun h => h1 (e.1 h)), if_pos (by simp [h1]), semiFrom_list l f (i + 1) (by omega), List.length_cons]
      omega

theorem takeWhile_take {α : Type} (p : α → Bool) : ∀ l : List α, l.take (l.takeWhile p).length = l.takeWhile p
  | [] => rfl
  | x :: l => by
    rw [List.takeWhile_cons]
    split
    · rw [List.length_cons, List.take_succ_cons, takeWhile_take p l]
    · rfl

theorem cut_list (l : List UInt8) : cutR (baL l) = baL (l.takeWhile (fun c => decide (c ≠ 59))) := by
  unfold cutR semi
  rw [baL_size, semiFrom_list l l.length 0 (by omega)]
  apply ByteArray.ext
  apply Array.toList_inj.1
  rw [Lib.extract_data, baL_list, baL_list, List.drop_zero, Nat.zero_add, Nat.sub_zero, takeWhile_take]

/-- The words of a line. -/
def wordsL (l : List UInt8) : List (List UInt8) := wordsB [] (l.takeWhile (fun c => decide (c ≠ 59)))

theorem words_list (l : List UInt8) : wordsR (baL l) = (wordsL l).map baL := by
  unfold wordsR wordsL
  rw [cut_list, fields_words]

theorem nl_index_at (x r : List UInt8) (h : (10 : UInt8) ∉ x) : Lib.indexByte (x ++ 10 :: r) 10 = (x.length : Int) := by
  induction x with
  | nil => rfl
  | cons c x ih =>
    have h1 : (c == 10) = false := beq_eq_false_iff_ne.mpr (fun e => h (by simp [e]))
    have := ih (fun hx => h (by simp [hx]))
    rw [List.cons_append, Lib.indexByte, h1, this]
    rw [if_neg (by simp), if_neg (by simp), List.length_cons]
    omega

theorem nl_index_none (x : List UInt8) (h : (10 : UInt8) ∉ x) : Lib.indexByte x 10 = -1 := by
  induction x with
  | nil => rfl
  | cons c x ih =>
    have h1 : (c == 10) = false := beq_eq_false_iff_ne.mpr (fun e => h (by simp [e]))
    have := ih (fun hx => h (by simp [hx]))
    rw [Lib.indexByte, h1, this]
    rfl

theorem one_at (x r : List UInt8) (h : (10 : UInt8) ∉ x) : oneR (baL (x ++ 10 :: r)) = baL x ∧ restR (baL (x ++ 10 :: r)) = baL r := by
  unfold oneR restR nlAt
  rw [baL_list, nl_index_at x r h, if_pos (by omega), if_pos (by omega)]
  constructor
  · apply ByteArray.ext
    apply Array.toList_inj.1
    rw [Lib.extract_data, baL_list, baL_list]
    simp
  · apply ByteArray.ext
    apply Array.toList_inj.1
    rw [Lib.extract_data, baL_list, baL_list, baL_size]
    rw [show x ++ 10 :: r = (x ++ [10]) ++ r by simp, List.drop_left' (by simp), List.take_of_length_le (by simp; omega)]

theorem one_none (x : List UInt8) (h : (10 : UInt8) ∉ x) : oneR (baL x) = baL x ∧ restR (baL x) = baL [] := by
  unfold oneR restR nlAt
  rw [baL_list, nl_index_none x h, if_neg (by omega), if_neg (by omega)]
  exact ⟨rfl, rfl⟩

end Go.Proofs.YtlhgfhmdhmgmpaaGreatDoor
