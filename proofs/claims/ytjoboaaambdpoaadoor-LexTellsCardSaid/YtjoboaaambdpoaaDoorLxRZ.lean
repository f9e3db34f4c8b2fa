/- Texts joined: LxW PuLR PuLR2 LxRT. -/
import Derived.Test.YtjoboaaambdpoaaDoorLxG
import Derived.Test.YtjoboaaambdpoaaDoorPuL0
import Derived.Test.YtjoboaaambdpoaaDoorPR01x52
import Derived.Test.YtjoboaaambdpoaaDoorPR01x53
import Derived.Test.YtjoboaaambdpoaaDoorPR01RZ
import Derived.Outline
set_option linter.unusedVariables false
set_option linter.unusedSimpArgs false
namespace Go.Proofs.YtjoboaaambdpoaaDoor
open Go.RowKit

def wordsL : List (List UInt8) := [[98, 114, 101, 97, 107], [99, 97, 115, 101], [99, 104, 97, 114], [99, 111, 110, 116, 105, 110, 117, 101], [100, 101, 102, 97, 117, 108, 116], [100, 111], [101, 108, 115, 101], [101, 110, 117, 109], [102, 111, 114], [103, 111, 116, 111], [105, 102], [105, 110, 116], [114, 101, 116, 117, 114, 110], [115, 119, 105, 116, 99, 104], [117, 110, 115, 105, 103, 110, 101, 100], [118, 111, 105, 100], [119, 104, 105, 108, 101]]

def upTo : List UInt8 → List UInt8
  | [] => []
  | c :: r => if c = 32 then [] else c :: upTo r

theorem upTo_pre : ∀ (t l : List UInt8), 32 ∉ t → (t ++ [32]).isPrefixOf l = true → upTo l = t
  | [], l, _, h => by
    cases l with
    | nil => simp [List.isPrefixOf] at h
    | cons c r =>
      simp [List.isPrefixOf] at h
      rw [← h, upTo, if_pos rfl]
  | a :: t, l, hn, h => by
    cases l with
    | nil => simp [List.isPrefixOf] at h
    | cons c r =>
      simp only [List.cons_append, List.isPrefixOf, Bool.and_eq_true, beq_iff_eq] at h
      obtain ⟨rfl, h⟩ := h
      rw [upTo, if_neg (fun e => hn (by rw [e]; exact List.mem_cons_self ..)), upTo_pre t r (fun hm => hn (List.mem_cons_of_mem _ hm)) h]

set_option maxRecDepth 100000 in
theorem words_at : ∀ j : Fin 98, (wordsB.data.toList.drop j.val).headD 0 = 32 → upTo (wordsB.data.toList.drop (j.val + 1)) ∈ wordsL ∨ upTo (wordsB.data.toList.drop (j.val + 1)) = [] := by decide +kernel

theorem words_in : ∀ w ∈ wordsL, isWordL w = true := by decide +kernel

theorem isWord_iff (t : List UInt8) (hne : t ≠ []) (h32 : 32 ∉ t) : isWordL t = decide (t ∈ wordsL) := by
  rw [Bool.eq_iff_iff, decide_eq_true_eq]
  constructor
  · intro h
    unfold isWordL Lib.contains at h
    have h0 := of_decide_eq_true h
    rcases Lib.index_spec wordsB.data.toList (32 :: t ++ [32]) with ⟨h1, -⟩ | ⟨i, h1, h2, h3, -⟩
    · omega
    · unfold Lib.occAt at h3
      have hl : wordsB.data.toList.length = 97 := rfl
      rw [hl] at h2
      have hd : (wordsB.data.toList.drop i).headD 0 = 32 ∧ (t ++ [32]).isPrefixOf (wordsB.data.toList.drop (i + 1)) = true := by
        cases e : wordsB.data.toList.drop i with
        | nil => rw [e] at h3; simp [List.isPrefixOf] at h3
        | cons c r =>
          rw [e] at h3
          simp only [List.cons_append, List.isPrefixOf, Bool.and_eq_true, beq_iff_eq] at h3
          refine ⟨h3.1.symm, ?_⟩
          have : wordsB.data.toList.drop (i + 1) = r := by rw [← List.drop_drop, e]; rfl
          rw [this]
          exact h3.2
      have hu := upTo_pre t _ h32 hd.2
      rcases words_at ⟨i, by omega⟩ hd.1 with h | h
      · rw [hu] at h; exact h
      · rw [hu] at h; exact absurd h hne
  · exact words_in t

def sg3 (c p q : Int) : Bool := (c == 60 && p == 60 && q == 61) || (c == 62 && p == 62 && q == 61)
def sg2 (c p : Int) : Bool := (c == 43 && p == 43) || (c == 45 && p == 45) || (c == 60 && p == 60) || (c == 62 && p == 62) || (c == 60 && p == 61) || (c == 62 && p == 61) || (c == 61 && p == 61) || (c == 33 && p == 61) || (c == 38 && p == 38) || (c == 124 && p == 124) || (c == 43 && p == 61) || (c == 45 && p == 61) || (c == 42 && p == 61) || (c == 47 && p == 61) || (c == 37 && p == 61) || (c == 38 && p == 61) || (c == 124 && p == 61) || (c == 94 && p == 61)
def sg1 (c : Int) : Bool := c == 43 || c == 45 || c == 42 || c == 47 || c == 37 || c == 38 || c == 124 || c == 94 || c == 126 || c == 33 || c == 60 || c == 62 || c == 61 || c == 63 || c == 58 || c == 59 || c == 44 || c == 40 || c == 41 || c == 91 || c == 93 || c == 123 || c == 125

theorem sg_eq (c p q : Int) : signP c p q = if sg3 c p q = true then 3 else if sg2 c p = true then 2 else if sg1 c = true then 1 else 0 := by
  by_cases hc : c = 43 ∨ c = 45 ∨ c = 42 ∨ c = 47 ∨ c = 37 ∨ c = 38 ∨ c = 124 ∨ c = 94 ∨ c = 126 ∨ c = 33 ∨ c = 60 ∨ c = 62 ∨ c = 61 ∨ c = 63 ∨ c = 58 ∨ c = 59 ∨ c = 44 ∨ c = 40 ∨ c = 41 ∨ c = 91 ∨ c = 93 ∨ c = 123 ∨ c = 125
  · rcases hc with rfl | rfl | rfl | rfl | rfl | rfl | rfl | rfl | rfl | rfl | rfl | rfl | rfl | rfl | rfl | rfl | rfl | rfl | rfl | rfl | rfl | rfl | rfl
    all_goals
      simp [signP, sg3, sg2, sg1]
    all_goals
      (repeat' split)
    all_goals first
      | rfl
      | omega
  · simp only [not_or] at hc
    obtain ⟨h1, h2, h3, h4, h5, h6, h7, h8, h9, h10, h11, h12, h13, h14, h15, h16, h17, h18, h19, h20, h21, h22, h23⟩ := hc
    simp [signP, sg3, sg2, sg1, h1, h2, h3, h4, h5, h6, h7, h8, h9, h10, h11, h12, h13, h14, h15, h16, h17, h18, h19, h20, h21, h22, h23]

/-- A digit's value as the document has it; 99: none. -/
def valR (c : Nat) : Nat := if 48 ≤ c ∧ c ≤ 57 then c - 48 else if 97 ≤ c ∧ c ≤ 102 then c - 87 else if 65 ≤ c ∧ c ≤ 70 then c - 55 else 99

set_option maxRecDepth 100000 in
theorem valR_dig : ∀ c : Fin 256, (16 ≤ valR c.val ∧ 16 ≤ digV c.val) ∨ valR c.val = digV c.val := by decide +kernel

/-- The document's reading of digits: what is refused is (0, false, false). -/
def parseR (b acc : Nat) : List UInt8 → Option Nat
  | [] => some acc
  | c :: r => if b ≤ valR c.toNat then none else if 4294967295 < acc * b + valR c.toNat then none else parseR b (acc * b + valR c.toNat) r

def okOf : PU → Option Nat
  | .ok n => some n
  | _ => none

theorem parseR_eq (b : Nat) (hb : b ≤ 16) : ∀ (l : List UInt8) (acc : Nat), parseR b acc l = okOf (parseU b acc l)
  | [], acc => rfl
  | c :: r, acc => by
    rw [parseR, parseU]
    rcases valR_dig ⟨c.toNat, c.toNat_lt⟩ with ⟨h1, h2⟩ | h
    · simp only at h1 h2
      rw [if_pos (by omega), if_pos (by omega)]
      rfl
    · simp only at h
      rw [h]
      by_cases h1 : b ≤ digV c.toNat
      · rw [if_pos h1, if_pos h1]; rfl
      · rw [if_neg h1, if_neg h1]
        by_cases h2 : 4294967295 < acc * b + digV c.toNat
        · rw [if_pos h2, if_pos h2]; rfl
        · rw [if_neg h2, if_neg h2]
          exact parseR_eq b hb r _

theorem parseR_bad (b : Nat) (hb : b ≤ 16) (c : UInt8) (hc : 16 ≤ valR c.toNat) : ∀ (l : List UInt8) (acc : Nat), c ∈ l → parseR b acc l = none
  | [], acc, h => by simp at h
  | x :: r, acc, h => by
    rw [parseR]
    by_cases h1 : b ≤ valR x.toNat
    · rw [if_pos h1]
    · rw [if_neg h1]
      by_cases h2 : 4294967295 < acc * b + valR x.toNat
      · rw [if_pos h2]
      · rw [if_neg h2]
        rcases List.mem_cons.1 h with rfl | h
        · omega
        · exact parseR_bad b hb c hc r _ h

/-- The document's number: its digits (without a u at the end), what it comes to. -/
def numR (s : List UInt8) : Int × Bool × Bool :=
  let d := if s.getLastD 0 = 117 ∨ s.getLastD 0 = 85 then s.dropLast else s
  let b := baseOf d
  if b.2 = [] then (0, false, false) else
  match parseR b.1 0 b.2 with
  | none => (0, false, false)
  | some n => ((n : Int), decide (d.length < s.length) || decide (2147483647 < (n : Int)), true)

theorem trim_snoc (a : List UInt8) (z c : UInt8) : Lib.trimSuffix (a ++ [z]) [c] = if z = c then a else a ++ [z] := by
  unfold Lib.trimSuffix Lib.hasSuffix
  by_cases h : z = c
  · subst h
    rw [if_pos (List.isSuffixOf_iff_suffix.2 (List.suffix_append a [z])), if_pos rfl]
    simp
  · rw [if_neg, if_neg h]
    intro hs
    obtain ⟨t, ht⟩ := List.isSuffixOf_iff_suffix.1 hs
    have := congrArg List.getLast? ht
    simp at this
    exact h this.symm

theorem trim_nil (c : UInt8) : Lib.trimSuffix [] [c] = [] := rfl

theorem contains_mem (D : List UInt8) (c : UInt8) (h : Lib.contains D [c] = true) : c ∈ D := by
  apply Classical.byContradiction
  intro hn
  unfold Lib.contains at h
  rw [Lib.index_one, indexByte_not c D hn] at h
  exact absurd h (by decide)

theorem base_mem (a : List UInt8) (c : UInt8) (h2 : c ≠ 120) (h3 : c ≠ 88) (h4 : c ≠ 48) (h : c ∈ a) : c ∈ (baseOf a).2 := by
  unfold baseOf
  split
  · rename_i hp
    rcases a with _ | ⟨x, _ | ⟨y, r⟩⟩
    · simp at h
    · rcases hp with hp | hp <;> simp [Lib.hasPrefix, List.isPrefixOf] at hp
    · have hxy : (x = 48 ∧ y = 120) ∨ (x = 48 ∧ y = 88) := by
        rcases hp with hp | hp
        · simp [Lib.hasPrefix, List.isPrefixOf] at hp
          exact .inl ⟨hp.1.symm, hp.2.symm⟩
        · simp [Lib.hasPrefix, List.isPrefixOf] at hp
          exact .inr ⟨hp.1.symm, hp.2.symm⟩
      show c ∈ r
      rcases List.mem_cons.1 h with rfl | h
      · rcases hxy with ⟨e, -⟩ | ⟨e, -⟩ <;> exact absurd e h4
      rcases List.mem_cons.1 h with rfl | h
      · rcases hxy with ⟨-, e⟩ | ⟨-, e⟩
        · exact absurd e h2
        · exact absurd e h3
      · exact h
  · split <;> exact h

theorem numR_main (s d : List UInt8) (hd : digitsOf s = d) (hl : ¬ 1 < s.length - d.length) :
    (if (baseOf d).2 = [] then ((0 : Int), false, false) else match parseR (baseOf d).1 0 (baseOf d).2 with
      | none => (0, false, false)
      | some n => ((n : Int), decide (d.length < s.length) || decide (2147483647 < (n : Int)), true)) = if (numP s).2.2 = true then numP s else (0, false, false) := by
  have hb16 : (baseOf d).1 ≤ 16 := by rcases base_in d with h | h | h <;> omega
  unfold numP
  rw [hd, if_neg hl]
  by_cases hc : Lib.contains (baseOf d).2 [95] = true
  · have hm := contains_mem _ _ hc
    rw [if_pos hc, parseR_bad _ hb16 95 (by decide) _ 0 hm]
    by_cases he : (baseOf d).2 = []
    · rw [if_pos he]; rfl
    · rw [if_neg he]; rfl
  · rw [if_neg hc]
    by_cases he : (baseOf d).2 = []
    · rw [if_pos he]
      simp only [he, puOf, puOk, if_true]
      rfl
    · rw [if_neg he, parseR_eq _ hb16]
      have hp : puOf (baseOf d).1 (baseOf d).2 = parseU (baseOf d).1 0 (baseOf d).2 := by unfold puOf; rw [if_neg he]
      rw [hp]
      cases parseU (baseOf d).1 0 (baseOf d).2 with
      | ok n => rfl
      | syn => rfl
      | rng => rfl

theorem numR_eq (s : List UInt8) (hs : s ≠ []) : numR s = if (numP s).2.2 = true then numP s else (0, false, false) := by
  obtain ⟨a, z, rfl⟩ : ∃ a z, s = a ++ [z] := ⟨s.dropLast, s.getLast hs, (List.dropLast_concat_getLast hs).symm⟩
  have hg : (a ++ [z]).getLastD 0 = z := by simp
  have hdl : (a ++ [z]).dropLast = a := by simp
  unfold numR
  rw [hg, hdl]
  by_cases h1 : z = 117
  · subst h1
    simp only [true_or, if_true]
    by_cases h2 : ∃ a', a = a' ++ [85]
    · obtain ⟨a', rfl⟩ := h2
      have hd : digitsOf (a' ++ [85] ++ [117]) = a' := by unfold digitsOf; rw [trim_snoc, if_pos rfl, trim_snoc, if_pos rfl]
      have hr : (numP (a' ++ [85] ++ [117])) = (0, false, false) := by
        unfold numP
        rw [hd, if_pos (by simp only [List.length_append, List.length_singleton]; omega)]
      have hb16 : (baseOf (a' ++ [85])).1 ≤ 16 := by rcases base_in (a' ++ [85]) with h | h | h <;> omega
      rw [hr, parseR_bad _ hb16 85 (by decide) _ 0 (base_mem _ 85 (by decide) (by decide) (by decide) (by simp))]
      by_cases he : (baseOf (a' ++ [85])).2 = []
      · rw [if_pos he]; rfl
      · rw [if_neg he]; rfl
    · have hd : digitsOf (a ++ [117]) = a := by
        unfold digitsOf
        rw [trim_snoc, if_pos rfl]
        rcases List.eq_nil_or_concat a with rfl | ⟨a', y, rfl⟩
        · rfl
        · rw [List.concat_eq_append, trim_snoc, if_neg]
          rintro rfl
          exact h2 ⟨a', List.concat_eq_append⟩
      exact numR_main _ _ hd (by simp only [List.length_append, List.length_singleton]; omega)
  · by_cases h2 : z = 85
    · subst h2
      simp only [or_true, if_true]
      have hd : digitsOf (a ++ [85]) = a := by unfold digitsOf; rw [trim_snoc, if_neg (by decide), trim_snoc, if_pos rfl]
      exact numR_main _ _ hd (by simp only [List.length_append, List.length_singleton]; omega)
    · simp only [if_neg (show ¬ (z = 117 ∨ z = 85) from fun h => h.elim h1 h2)]
      have hd : digitsOf (a ++ [z]) = a ++ [z] := by unfold digitsOf; rw [trim_snoc, if_neg h1, trim_snoc, if_neg h2]
      exact numR_main _ _ hd (by omega)

end Go.Proofs.YtjoboaaambdpoaaDoor

set_option linter.unusedVariables false
set_option linter.unusedSimpArgs false
namespace Go.Proofs.YtjoboaaambdpoaaDoor.PR01
open Go.RowKit Go.Proofs.YtjoboaaambdpoaaDoorW.PrintWords Go.Proofs.YtjoboaaambdpoaaDoorW.PrintLast Go.Proofs.YtjoboaaambdpoaaDoorW.PrintMore

abbrev bw := Go.Proofs.YtjoboaaambdpoaaDoorW.PrintWords.bt

theorem dlen (s : ByteArray) : s.data.toList.length = s.size := Array.length_toList

theorem bw_gt (src : ByteArray) (i : Nat) : bw src (i : Int) = gt src.data.toList i := bz_gt src i

theorem gt_range (l : List UInt8) (i : Nat) : 0 ≤ gt l i ∧ gt l i ≤ 255 := by
  unfold gt
  have := (l.getD i 0).toNat_lt
  omega

theorem blank_f (c : Int) : switchbackref01_blank.f c = some (blank c) := by
  unfold switchbackref01_blank.f blank
  by_cases h1 : c = 32
  · rw [if_pos h1, decide_eq_true h1]; rfl
  · rw [if_neg h1, decide_eq_false h1]
    by_cases h2 : c ≥ 9
    · rw [if_pos h2, decide_eq_true (show 9 ≤ c from h2)]; rfl
    · rw [if_neg h2, decide_eq_false (show ¬ 9 ≤ c from h2)]; rfl

theorem letter_f (c : Int) : switchbackref01_letter.f c = some (isL c) := by
  unfold switchbackref01_letter.f isL
  repeat' split
  all_goals (congr 1; rw [Bool.eq_iff_iff]; simp; omega)

theorem digit_f (c : Int) : switchbackref01_digit.f c = some (isD c) := by
  unfold switchbackref01_digit.f isD
  repeat' split
  all_goals (congr 1; rw [Bool.eq_iff_iff]; simp; omega)

section
variable (src : ByteArray) (hs : src.size ≤ 1000000)
include hs

theorem run_f (d : Nat) : ∀ i : Nat, src.size - i = d → i ≤ src.size → Ev (fun k => switchbackref01_run.l0 k src i) ((i : Int) + runL (src.data.toList.drop i)) := by
  induction d with
  | zero =>
    intro i hd hi
    have hie : i = src.size := by omega
    rw [List.drop_eq_nil_of_le (by rw [dlen]; omega)]
    refine Ev.step (f := fun k => switchbackref01_run.j1 k src i false) (fun k => ?_) (Ev.step (f := fun _ => some ((i : Int) + ((runL [] : Nat) : Int))) (fun k => ?_) (Ev.now _))
    · simp only [switchbackref01_run.l0]
      rw [if_neg (by omega)]
    · simp only [switchbackref01_run.j1]
      rw [if_neg (by decide)]
      simp [runL]
  | succ d ih =>
    intro i hd hi
    have hlt : i < src.size := by omega
    obtain ⟨c, hdr, hb⟩ := bt_drop src i hlt
    have hb' : Go.Proofs.YtjoboaaambdpoaaDoorW.PrintWords.bt src (i : Int) = (c.toNat : Int) := hb
    have key : Ev (fun k => switchbackref01_run.j1 k src i (isL (c.toNat : Int) || isD (c.toNat : Int))) ((i : Int) + runL (src.data.toList.drop i)) := by
      rw [hdr, runL]
      by_cases h : isL (c.toNat : Int) = true ∨ isD (c.toNat : Int) = true
      · rw [if_pos h, show (isL (c.toNat : Int) || isD (c.toNat : Int)) = true by rw [Bool.or_eq_true]; exact h]
        refine Ev.step (f := fun k => switchbackref01_run.l0 k src ((i + 1 : Nat) : Int)) (fun k => ?_) ?_
        · simp only [switchbackref01_run.j1]
          rw [if_pos trivial, wrap_i64 (x := (i : Int) + 1) (by omega) (by omega)]
          rfl
        · have := ih (i + 1) (by omega) (by omega)
          rwa [show ((i + 1 : Nat) : Int) + ((runL (src.data.toList.drop (i + 1)) : Nat) : Int) = (i : Int) + ((1 + runL (src.data.toList.drop (i + 1)) : Nat) : Int) by omega] at this
      · rw [if_neg h, show (isL (c.toNat : Int) || isD (c.toNat : Int)) = false by rw [Bool.eq_false_iff, ne_eq, Bool.or_eq_true]; exact h]
        refine Ev.step (f := fun _ => some ((i : Int) + ((0 : Nat) : Int))) (fun k => ?_) (Ev.now _)
        simp only [switchbackref01_run.j1]
        rw [if_neg (by decide)]
        simp
    refine Ev.step (fun k => ?_) key
    simp only [switchbackref01_run.l0]
    rw [if_pos (by omega), if_pos (by omega)]
    simp only [show Go.Proofs.YtjoboaaambdpoaaDoorW.PrintWords.bt src (i : Int) = (c.toNat : Int) from hb', letter_f, digit_f, Option.bind_some]
    cases isL (c.toNat : Int) <;> simp

theorem com_l0 (d : Nat) : ∀ i : Nat, src.size - i = d → i ≤ src.size → Ev (fun k => switchbackref01_comment.l0 k src i) (if 0 ≤ Lib.indexByte (src.data.toList.drop i) 10 then (i : Int) + Lib.indexByte (src.data.toList.drop i) 10 else (src.size : Int)) := by
  induction d with
  | zero =>
    intro i hd hi
    have hie : i = src.size := by omega
    rw [List.drop_eq_nil_of_le (by rw [dlen]; omega)]
    refine Ev.step (f := fun _ => some (src.size : Int)) (fun k => ?_) (Ev.now _)
    simp only [switchbackref01_comment.l0]
    rw [if_neg (by omega), hie]
  | succ d ih =>
    intro i hd hi
    have hlt : i < src.size := by omega
    obtain ⟨c, hdr, hb⟩ := bt_drop src i hlt
    have hb' : Go.Proofs.YtjoboaaambdpoaaDoorW.PrintWords.bt src (i : Int) = (c.toNat : Int) := hb
    have hv : Lib.indexByte (src.data.toList.drop i) 10 = if (c == 10) = true then 0 else if (Lib.indexByte (src.data.toList.drop (i + 1)) 10 == -1) = true then -1 else Lib.indexByte (src.data.toList.drop (i + 1)) 10 + 1 := by rw [hdr, Lib.indexByte]
    by_cases h : c = 10
    · subst h
      rw [if_pos (by decide)] at hv
      rw [hv, if_pos (Int.le_refl _)]
      refine Ev.step (f := fun _ => some ((i : Int) + 0)) (fun k => ?_) (Ev.now _)
      simp only [switchbackref01_comment.l0]
      rw [if_pos (by omega), if_pos (by omega), if_pos (by rw [hb']; rfl)]
      simp
    · have hne : ¬ (c == 10) = true := by simpa using h
      rw [if_neg hne] at hv
      have hn : ¬ Go.Proofs.YtjoboaaambdpoaaDoorW.PrintWords.bt src (i : Int) = 10 := by
        rw [hb']
        intro e
        exact h (UInt8.toNat_inj.1 (by show c.toNat = 10; omega))
      have := ih (i + 1) (by omega) (by omega)
      have hge := Lib.indexByte_ge (src.data.toList.drop (i + 1)) 10
      refine Ev.step (f := fun k => switchbackref01_comment.l0 k src ((i + 1 : Nat) : Int)) (fun k => ?_) ?_
      · simp only [switchbackref01_comment.l0]
        rw [if_pos (by omega), if_pos (by omega), if_neg hn, wrap_i64 (x := (i : Int) + 1) (by omega) (by omega)]
        rfl
      · rw [hv]
        generalize Lib.indexByte (src.data.toList.drop (i + 1)) 10 = q at this hge ⊢
        by_cases hq : q = -1
        · subst hq
          rw [if_neg (by decide)] at this
          rw [show (if ((-1 : Int) == -1) = true then (-1 : Int) else -1 + 1) = -1 from rfl, if_neg (by decide)]
          exact this
        · rw [if_pos (by omega)] at this
          rw [show (if (q == -1) = true then (-1 : Int) else q + 1) = q + 1 from if_neg (by simpa using hq), if_pos (by omega)]
          rwa [show (i : Int) + (q + 1) = ((i + 1 : Nat) : Int) + q by omega]

theorem com_l1 (d : Nat) : ∀ i : Nat, src.size - i = d → i ≤ src.size → Ev (fun k => switchbackref01_comment.l1 k src i) (if Lib.index (src.data.toList.drop i) [42, 47] < 0 then -2 else (i : Int) + Lib.index (src.data.toList.drop i) [42, 47] + 2) := by
  have short : ∀ i : Nat, src.size < i + 2 → i ≤ src.size → Ev (fun k => switchbackref01_comment.l1 k src i) (if Lib.index (src.data.toList.drop i) [42, 47] < 0 then -2 else (i : Int) + Lib.index (src.data.toList.drop i) [42, 47] + 2) := by
    intro i h2 hi
    have hl : (src.data.toList.drop i).length = src.size - i := drop_len src i
    rw [if_pos (by
      rcases index_le (src.data.toList.drop i) [42, 47] with h | h
      · simp only [List.length_cons, List.length_nil] at h
        omega
      · omega)]
    refine Ev.step (f := fun _ => some (-2)) (fun k => ?_) (Ev.now _)
    simp only [switchbackref01_comment.l1]
    rw [wrap_i64 (x := (i : Int) + 2) (by omega) (by omega), if_neg (by omega)]
  induction d with
  | zero => intro i hd hi; exact short i (by omega) hi
  | succ d ih =>
    intro i hd hi
    by_cases h2 : src.size < i + 2
    · exact short i h2 hi
    have hlt : i < src.size := by omega
    obtain ⟨c, hdr, hb⟩ := bt_drop src i hlt
    have hb' : Go.Proofs.YtjoboaaambdpoaaDoorW.PrintWords.bt src (i : Int) = (c.toNat : Int) := hb
    obtain ⟨c2, hdr2, hb2⟩ := bt_drop src (i + 1) (by omega)
    have hb2' : Go.Proofs.YtjoboaaambdpoaaDoorW.PrintWords.bt src ((i + 1 : Nat) : Int) = (c2.toNat : Int) := hb2
    have hpre : [42, 47].isPrefixOf (c :: src.data.toList.drop (i + 1)) = (decide (c = 42) && decide (c2 = 47)) := by
      rw [hdr2, Bool.eq_iff_iff]
      simp [List.isPrefixOf]
      exact ⟨fun h => ⟨h.1.symm, h.2.symm⟩, fun h => ⟨h.1.symm, h.2.symm⟩⟩
    have u42 : c = 42 ↔ Go.Proofs.YtjoboaaambdpoaaDoorW.PrintWords.bt src (i : Int) = 42 := by
      rw [hb']
      exact ⟨fun h => by rw [h]; rfl, fun h => UInt8.toNat_inj.1 (by show c.toNat = 42; omega)⟩
    have u47 : c2 = 47 ↔ Go.Proofs.YtjoboaaambdpoaaDoorW.PrintWords.bt src ((i + 1 : Nat) : Int) = 47 := by
      rw [hb2']
      exact ⟨fun h => by rw [h]; rfl, fun h => UInt8.toNat_inj.1 (by show c2.toNat = 47; omega)⟩
    have hv : Lib.index (src.data.toList.drop i) [42, 47] = if (decide (c = 42) && decide (c2 = 47)) = true then 0 else if (Lib.index (src.data.toList.drop (i + 1)) [42, 47] == -1) = true then -1 else Lib.index (src.data.toList.drop (i + 1)) [42, 47] + 1 := by rw [hdr, Lib.index, hpre]
    by_cases hp : c = 42 ∧ c2 = 47
    · rw [if_pos (by simp [hp.1, hp.2])] at hv
      rw [hv, if_neg (by decide)]
      refine Ev.step (f := fun _ => some ((i : Int) + 0 + 2)) (fun k => ?_) (Ev.now _)
      simp only [switchbackref01_comment.l1]
      rw [wrap_i64 (x := (i : Int) + 2) (by omega) (by omega), wrap_i64 (x := (i : Int) + 1) (by omega) (by omega), if_pos (by omega), if_pos (by omega), if_pos (by omega), if_pos (u42.1 hp.1), if_pos (by omega), if_pos (by omega), if_pos (show Go.Proofs.YtjoboaaambdpoaaDoorW.PrintWords.bt src ((i : Int) + 1) = 47 from u47.1 hp.2)]
      simp
    · rw [if_neg (by simpa using hp)] at hv
      have := ih (i + 1) (by omega) (by omega)
      have hge := Lib.index_ge (src.data.toList.drop (i + 1)) [42, 47]
      refine Ev.step (f := fun k => switchbackref01_comment.l1 k src ((i + 1 : Nat) : Int)) (fun k => ?_) ?_
      · simp only [switchbackref01_comment.l1]
        rw [wrap_i64 (x := (i : Int) + 2) (by omega) (by omega), wrap_i64 (x := (i : Int) + 1) (by omega) (by omega), if_pos (by omega), if_pos (by omega), if_pos (by omega)]
        by_cases hc : c = 42
        · rw [if_pos (u42.1 hc), if_pos (by omega), if_pos (by omega), if_neg (show ¬ Go.Proofs.YtjoboaaambdpoaaDoorW.PrintWords.bt src ((i : Int) + 1) = 47 from fun h => hp ⟨hc, u47.2 h⟩)]
          rfl
        · rw [if_neg (fun h => hc (u42.2 h))]
          rfl
      · rw [hv]
        generalize Lib.index (src.data.toList.drop (i + 1)) [42, 47] = q at this hge ⊢
        by_cases hq : q = -1
        · subst hq
          rw [if_pos (by decide)] at this
          rw [show (if ((-1 : Int) == -1) = true then (-1 : Int) else -1 + 1) = -1 from rfl, if_pos (by decide)]
          exact this
        · rw [if_neg (by omega)] at this
          rw [show (if (q == -1) = true then (-1 : Int) else q + 1) = q + 1 from if_neg (by simpa using hq), if_neg (by omega)]
          rwa [show (i : Int) + (q + 1) + 2 = ((i + 1 : Nat) : Int) + q + 2 by omega]

/-- Where the comment ends that begins at a place: -1: none begins there; -2: it is not closed. -/
def comP (l : List UInt8) (i : Nat) : Int :=
  if gt l 0 = 47 ∧ gt l 1 = 47 then (if 0 ≤ Lib.indexByte l 10 then (i : Int) + Lib.indexByte l 10 else (i : Int) + l.length)
  else if gt l 0 = 47 ∧ gt l 1 = 42 then (if Lib.index (l.drop 2) [42, 47] < 0 then -2 else (i : Int) + Lib.index (l.drop 2) [42, 47] + 4)
  else -1

theorem comment_f (i : Nat) (hi : i < src.size) : Ev (fun k => switchbackref01_comment.f k src i) (comP (src.data.toList.drop i) i) := by
  have e0 : Go.Proofs.YtjoboaaambdpoaaDoorW.PrintWords.bt src (i : Int) = gt (src.data.toList.drop i) 0 := bz_g0 src i
  have e1 : Go.Proofs.YtjoboaaambdpoaaDoorW.PrintWords.bt src ((i : Int) + 1) = gt (src.data.toList.drop i) 1 := bz_gd src i 1
  have hl : (src.data.toList.drop i).length = src.size - i := drop_len src i
  have hout := gt_out (src.data.toList.drop i) 1
  unfold switchbackref01_comment.f comP
  have jt : Ev (fun k => switchbackref01_comment.j0 k src i true) (-1) := Ev.step (f := fun _ => some (-1)) (fun k => by simp only [switchbackref01_comment.j0]; rfl) (Ev.now _)
  by_cases h2 : wrap64 ((i : Int) + 2) > (src.size : Int)
  · simp only [if_pos h2]
    rw [wrap_i64 (by omega) (by omega)] at h2
    have := hout (by omega)
    rw [if_neg (by omega), if_neg (by omega)]
    exact jt
  · simp only [if_neg h2]
    rw [wrap_i64 (by omega) (by omega)] at h2
    simp only [if_pos (show 0 ≤ (i : Int) by omega), if_pos (show (i : Int) < (src.size : Int) by omega), e0]
    by_cases h47 : gt (src.data.toList.drop i) 0 = 47
    · rw [h47]
      have hj : ∀ k, switchbackref01_comment.j0 (k + 1) src i false = if gt (src.data.toList.drop i) 1 = 47 then switchbackref01_comment.l0 k src i else if gt (src.data.toList.drop i) 1 = 42 then switchbackref01_comment.l1 k src ((i + 2 : Nat) : Int) else some (-1) := by
        intro k
        simp only [switchbackref01_comment.j0]
        rw [if_neg (by decide), wrap_i64 (x := (i : Int) + 1) (by omega) (by omega), wrap_i64 (x := (i : Int) + 2) (by omega) (by omega), if_pos (by omega), if_pos (by omega), e1]
        rfl
      by_cases ha : gt (src.data.toList.drop i) 1 = 47
      · rw [if_pos ⟨rfl, ha⟩]
        have := com_l0 src hs _ i rfl (by omega)
        rw [show ((src.size : Nat) : Int) = (i : Int) + ((src.data.toList.drop i).length : Int) by omega] at this
        refine Ev.step (fun k => ?_) this
        show switchbackref01_comment.j0 (k + 1) src i (47 != 47) = _
        rw [show ((47 : Int) != 47) = false by decide, hj, if_pos ha]
      · rw [if_neg (fun h => ha h.2)]
        by_cases hb : gt (src.data.toList.drop i) 1 = 42
        · rw [if_pos ⟨rfl, hb⟩]
          have := com_l1 src hs _ (i + 2) rfl (by omega)
          rw [List.drop_drop]
          rw [show (i : Int) + Lib.index (src.data.toList.drop (i + 2)) [42, 47] + 4 = ((i + 2 : Nat) : Int) + Lib.index (src.data.toList.drop (i + 2)) [42, 47] + 2 by omega]
          refine Ev.step (fun k => ?_) this
          show switchbackref01_comment.j0 (k + 1) src i (47 != 47) = _
          rw [show ((47 : Int) != 47) = false by decide, hj, if_neg ha, if_pos hb]
        · rw [if_neg (fun h => hb h.2)]
          refine Ev.step (f := fun _ => some (-1)) (fun k => ?_) (Ev.now _)
          show switchbackref01_comment.j0 (k + 1) src i (47 != 47) = _
          rw [show ((47 : Int) != 47) = false by decide, hj, if_neg ha, if_neg hb]
    · rw [if_neg (fun h => h47 h.1), if_neg (fun h => h47 h.1), show (gt (src.data.toList.drop i) 0 != 47) = true by simpa using h47]
      exact jt
end

end Go.Proofs.YtjoboaaambdpoaaDoor.PR01

set_option linter.unusedVariables false
set_option linter.unusedSimpArgs false
namespace Go.Proofs.YtjoboaaambdpoaaDoor.PR01
open Go.RowKit Go.Proofs.YtjoboaaambdpoaaDoorW.PrintWords Go.Proofs.YtjoboaaambdpoaaDoorW.PrintLast Go.Proofs.YtjoboaaambdpoaaDoorW.PrintMore

theorem Ev_ite {α : Type} {c : Prop} [Decidable c] {f g : Nat → Option α} {r : α} (h1 : c → Ev f r) (h2 : ¬ c → Ev g r) : Ev (fun k => if c then f k else g k) r := by
  by_cases h : c
  · simp only [if_pos h]; exact h1 h
  · simp only [if_neg h]; exact h2 h

theorem value_f (c : Nat) (hc : c < 256) : Ev (fun k => switchbackref01_value.f k (c : Int)) ((valR c : Nat) : Int) := by
  unfold switchbackref01_value.f valR
  simp only [digit_f, Option.bind_some]
  by_cases h1 : 48 ≤ c ∧ c ≤ 57
  · rw [if_pos h1]
    simp only [show isD (c : Int) = true by simp [isD]; omega, if_true]
    rw [show ((c : Int) - 48) % 256 = ((c - 48 : Nat) : Int) by omega]
    exact Ev.now _
  · rw [if_neg h1]
    simp only [show isD (c : Int) = false by simp [isD]; omega, if_neg (show ¬ false = true by decide)]
    have j : ∀ x : Bool, Ev (fun k => switchbackref01_value.j0 k (c : Int) x) (if x = true then (((c : Int) - 97) % 256 + 10) else if (65 : Int) ≤ c ∧ (c : Int) ≤ 70 then (((c : Int) - 65) % 256 + 10) else 99) := by
      intro x
      refine Ev.step (fun k => ?_) (Ev.now _)
      simp only [switchbackref01_value.j0]
      cases x with
      | true => rfl
      | false =>
        simp only [if_neg (show ¬ false = true by decide)]
        by_cases h2 : (c : Int) ≥ 65
        · rw [if_pos h2]
          by_cases h3 : (c : Int) ≤ 70
          · rw [if_pos h3, if_pos ⟨h2, h3⟩]
          · rw [if_neg h3, if_neg (fun h => h3 h.2)]
        · rw [if_neg h2, if_neg (fun h => h2 h.1)]
    by_cases h2 : (c : Int) ≥ 97
    · simp only [if_pos h2]
      by_cases h3 : (c : Int) ≤ 102
      · rw [decide_eq_true h3]
        have := j true
        rw [if_pos rfl] at this
        rw [if_pos (by omega)]
        rwa [show (((c : Int) - 97) % 256 + 10) = ((c - 87 : Nat) : Int) by omega] at this
      · rw [decide_eq_false h3]
        have := j false
        rw [if_neg (by decide), if_neg (by omega)] at this
        rw [if_neg (by omega), if_neg (by omega)]
        exact this
    · simp only [if_neg h2]
      have := j false
      rw [if_neg (by decide)] at this
      rw [if_neg (by omega)]
      by_cases h3 : 65 ≤ c ∧ c ≤ 70
      · rw [if_pos (by omega)] at this
        rw [if_pos h3]
        rwa [show (((c : Int) - 65) % 256 + 10) = ((c - 55 : Nat) : Int) by omega] at this
      · rw [if_neg (by omega)] at this
        rw [if_neg h3]
        exact this

/-- What the document's loop over the digits comes to. -/
def outR (u : Bool) : Option Nat → Int × Bool × Bool
  | none => (0, false, false)
  | some n => ((n : Int), if u = true then true else decide ((n : Int) > 2147483647), true)

theorem num_l0 (s : ByteArray) (hs : s.size ≤ 1000000) (u : Bool) (b : Nat) (hb : b ≤ 16) (d : Nat) : ∀ (i acc : Nat), s.size - i = d → i ≤ s.size → acc ≤ 4294967295 → Ev (fun k => switchbackref01_Number.l0 k s u (b : Int) (acc : Int) i) (outR u (parseR b acc (s.data.toList.drop i))) := by
  induction d with
  | zero =>
    intro i acc hd hi ha
    rw [List.drop_eq_nil_of_le (by rw [dlen]; omega)]
    refine Ev.step (f := fun _ => some (outR u (some acc))) (fun k => ?_) (Ev.now _)
    simp only [switchbackref01_Number.l0, outR]
    rw [if_neg (by omega), show (acc : Int) % 4294967296 = acc by omega]
    cases u <;> rfl
  | succ d ih =>
    intro i acc hd hi ha
    have hlt : i < s.size := by omega
    obtain ⟨c, hdr, hb2⟩ := bt_drop s i hlt
    have hb' : Go.Proofs.YtjoboaaambdpoaaDoorW.PrintWords.bt s (i : Int) = (c.toNat : Int) := hb2
    have hv := value_f c.toNat c.toNat_lt
    rw [hdr, parseR]
    obtain ⟨v, hve⟩ : ∃ v, v = valR c.toNat := ⟨_, rfl⟩
    rw [← hve] at hv ⊢
    have hv99 : v ≤ 99 := by rw [hve]; unfold valR; (repeat' split) <;> omega
    have hab : acc * b ≤ 4294967295 * 16 := Nat.mul_le_mul ha hb
    have hw : IntKind.u64.wrap ((IntKind.u64.wrap ((acc : Int) * (b : Int))) + (v : Int)) = ((acc * b + v : Nat) : Int) := by
      rw [IntKind.wrap_u64, IntKind.wrap_u64]
      have : (acc : Int) * (b : Int) = ((acc * b : Nat) : Int) := (Int.natCast_mul _ _).symm
      rw [this]
      omega
    have step : Ev (fun k => (switchbackref01_value.f k (c.toNat : Int)).bind fun t => if t ≥ (b : Int) then some ((0 : Int), false, false) else if (IntKind.u64.wrap ((IntKind.u64.wrap ((acc : Int) * (b : Int))) + t)) > 4294967295 then some (0, false, false) else switchbackref01_Number.l0 k s u (b : Int) (IntKind.u64.wrap ((IntKind.u64.wrap ((acc : Int) * (b : Int))) + t)) ((i + 1 : Nat) : Int))
        (outR u (if b ≤ v then none else if 4294967295 < acc * b + v then none else parseR b (acc * b + v) (s.data.toList.drop (i + 1)))) := by
      refine Ev.bind (f := fun k t => if t ≥ (b : Int) then some ((0 : Int), false, false) else if (IntKind.u64.wrap ((IntKind.u64.wrap ((acc : Int) * (b : Int))) + t)) > 4294967295 then some (0, false, false) else switchbackref01_Number.l0 k s u (b : Int) (IntKind.u64.wrap ((IntKind.u64.wrap ((acc : Int) * (b : Int))) + t)) ((i + 1 : Nat) : Int)) hv ?_
      simp only [hw]
      by_cases h1 : b ≤ v
      · rw [if_pos h1]
        simp only [if_pos (show (v : Int) ≥ (b : Int) by omega)]
        exact Ev.now _
      · rw [if_neg h1]
        simp only [if_neg (show ¬ (v : Int) ≥ (b : Int) by omega)]
        by_cases h2 : 4294967295 < acc * b + v
        · rw [if_pos h2]
          simp only [if_pos (show ((acc * b + v : Nat) : Int) > 4294967295 by omega)]
          exact Ev.now _
        · rw [if_neg h2]
          simp only [if_neg (show ¬ ((acc * b + v : Nat) : Int) > 4294967295 by omega)]
          exact ih (i + 1) _ (by omega) (by omega) (by omega)
    refine Ev.step (fun k => ?_) step
    simp only [switchbackref01_Number.l0]
    rw [if_pos (by omega), if_pos (by omega), hb', wrap_i64 (x := (i : Int) + 1) (by omega) (by omega)]
    rfl

theorem base_not (c : UInt8) (r : List UInt8) (h : c ≠ 48) : baseOf (c :: r) = (10, c :: r) := by
  have h' : ¬ (48 : UInt8) = c := fun e => h e.symm
  unfold baseOf
  rw [if_neg (by simp [Lib.hasPrefix, List.isPrefixOf, h']), if_neg (by simp [Lib.hasPrefix, List.isPrefixOf, h'])]

theorem base_two (e : UInt8) (r : List UInt8) : baseOf (48 :: e :: r) = if e = 120 ∨ e = 88 then (16, r) else (8, 48 :: e :: r) := by
  unfold baseOf
  by_cases h : e = 120 ∨ e = 88
  · rw [if_pos (by rcases h with rfl | rfl <;> simp [Lib.hasPrefix, List.isPrefixOf]), if_pos h]
    rfl
  · have h1 : ¬ (120 : UInt8) = e := fun x => h (.inl x.symm)
    have h2 : ¬ (88 : UInt8) = e := fun x => h (.inr x.symm)
    rw [if_neg (by simp [Lib.hasPrefix, List.isPrefixOf, h1, h2]), if_pos (by simp [Lib.hasPrefix, List.isPrefixOf]), if_neg h]

theorem u8_int (c : UInt8) (n : Nat) (hn : n < 256) : (c.toNat : Int) = n ↔ c = UInt8.ofNat n := by
  constructor
  · intro h
    refine UInt8.toNat_inj.1 ?_
    rw [UInt8.toNat_ofNat', Nat.mod_eq_of_lt hn]
    omega
  · rintro rfl
    rw [UInt8.toNat_ofNat', Nat.mod_eq_of_lt hn]

theorem num_j4 (d : ByteArray) (hs : d.size ≤ 1000000) (u : Bool) (b f : Nat) (hb : b ≤ 16) : Ev (fun k => switchbackref01_Number.j4 k d u (b : Int) (f : Int)) (if d.data.toList.drop f = [] then (0, false, false) else outR u (parseR b 0 (d.data.toList.drop f))) := by
  by_cases h : d.size ≤ f
  · rw [if_pos (List.drop_eq_nil_of_le (by rw [dlen]; exact h))]
    refine Ev.step (f := fun _ => some (0, false, false)) (fun k => ?_) (Ev.now _)
    simp only [switchbackref01_Number.j4]
    rw [if_pos (by omega)]
  · rw [if_neg (fun e => by have := congrArg List.length e; rw [List.length_drop, dlen] at this; simp at this; omega)]
    refine Ev.step (fun k => ?_) (num_l0 d hs u b hb _ f 0 rfl (by omega) (by decide))
    simp only [switchbackref01_Number.j4]
    rw [if_neg (by omega)]
    rfl

theorem num_j1 (d : ByteArray) (hs : d.size ≤ 1000000) (u : Bool) : Ev (fun k => switchbackref01_Number.j1 k d u) (if (baseOf d.data.toList).2 = [] then (0, false, false) else outR u (parseR (baseOf d.data.toList).1 0 (baseOf d.data.toList).2)) := by
  have j0 : ∀ (b f : Nat), b ≤ 16 → baseOf d.data.toList = (b, d.data.toList.drop f) → Ev (fun k => switchbackref01_Number.j4 k d u (b : Int) (f : Int)) (if (baseOf d.data.toList).2 = [] then (0, false, false) else outR u (parseR (baseOf d.data.toList).1 0 (baseOf d.data.toList).2)) := by
    intro b f hb e
    rw [e]
    exact num_j4 d hs u b f hb
  have g0 : Go.Proofs.YtjoboaaambdpoaaDoorW.PrintWords.bt d 0 = gt d.data.toList 0 := bz_gt d 0
  have g1 : Go.Proofs.YtjoboaaambdpoaaDoorW.PrintWords.bt d 1 = gt d.data.toList 1 := bz_gt d 1
  have hl := dlen d
  rcases hd : d.data.toList with _ | ⟨c, r⟩
  · rw [hd] at hl
    have hz : d.size = 0 := by simpa using hl.symm
    have e10 := j0 10 0 (by decide) (by rw [hd]; rfl)
    rw [hd] at e10
    refine Ev.step (f := fun k => switchbackref01_Number.j2 k d u 10 0 false) (fun k => ?_) (Ev.step (fun k => ?_) e10)
    · simp only [switchbackref01_Number.j1]
      rw [if_neg (by omega)]
    · simp only [switchbackref01_Number.j2]
      rw [if_neg (by decide)]
      rfl
  · rw [hd] at hl g0 g1
    rw [List.length_cons] at hl
    have h0 : gt (c :: r) 0 = (c.toNat : Int) := rfl
    rw [h0] at g0
    refine Ev.step (f := fun k => switchbackref01_Number.j2 k d u 10 0 ((c.toNat : Int) == 48)) (fun k => ?_) ?_
    · simp only [switchbackref01_Number.j1]
      rw [if_pos (by omega), if_pos (by omega), g0]
    by_cases h48 : c = 48
    · subst h48
      rw [show (((48 : UInt8).toNat : Int) == 48) = true from rfl]
      rcases r with _ | ⟨e, r2⟩
      · have e8 := j0 8 0 (by decide) (by rw [hd]; rfl)
        rw [hd] at e8
        refine Ev.step (f := fun k => switchbackref01_Number.j3 k d u 8 0 false) (fun k => ?_) (Ev.step (fun k => ?_) e8)
        · simp only [switchbackref01_Number.j2]
          simp only [List.length_nil] at hl
          rw [if_pos trivial, if_neg (by omega)]
        · simp only [switchbackref01_Number.j3]
          rw [if_neg (by decide)]
          rfl
      · have h1 : gt (48 :: e :: r2) 1 = (e.toNat : Int) := rfl
        rw [h1] at g1
        rw [List.length_cons] at hl
        have hb2 := base_two e r2
        by_cases hx : e = 120 ∨ e = 88
        · rw [if_pos hx] at hb2
          have e16 := j0 16 2 (by decide) (by rw [hd, hb2]; rfl)
          rw [hd] at e16
          refine Ev.step (f := fun k => switchbackref01_Number.j3 k d u 8 0 true) (fun k => ?_) (Ev.step (fun k => ?_) e16)
          · simp only [switchbackref01_Number.j2]
            rw [if_pos trivial, if_pos (by omega), if_pos (by omega), g1]
            rcases hx with rfl | rfl
            · rw [if_pos (by decide)]
            · rw [if_neg (by decide)]
              rfl
          · simp only [switchbackref01_Number.j3]
            rw [if_pos trivial]
            rfl
        · rw [if_neg hx] at hb2
          have e8 := j0 8 0 (by decide) (by rw [hd, hb2]; rfl)
          rw [hd] at e8
          have n120 : ¬ (e.toNat : Int) = 120 := fun h => hx (.inl ((u8_int e 120 (by decide)).1 h))
          have n88 : ((e.toNat : Int) == 88) = false := by
            rw [beq_eq_false_iff_ne]
            exact fun h => hx (.inr ((u8_int e 88 (by decide)).1 h))
          refine Ev.step (f := fun k => switchbackref01_Number.j3 k d u 8 0 false) (fun k => ?_) (Ev.step (fun k => ?_) e8)
          · simp only [switchbackref01_Number.j2]
            rw [if_pos trivial, if_pos (by omega), if_pos (by omega), g1, if_neg n120, n88]
          · simp only [switchbackref01_Number.j3]
            rw [if_neg (by decide)]
            rfl
    · have n48 : ((c.toNat : Int) == 48) = false := by
        rw [beq_eq_false_iff_ne]
        exact fun h => h48 ((u8_int c 48 (by decide)).1 h)
      rw [n48]
      have e10 := j0 10 0 (by decide) (by rw [hd, base_not c r h48]; rfl)
      rw [hd] at e10
      refine Ev.step (fun k => ?_) e10
      simp only [switchbackref01_Number.j2]
      rw [if_neg (by decide)]
      rfl

theorem number_f (s : ByteArray) (hs : s.size ≤ 1000000) (hne : s.data.toList ≠ []) : Ev (fun k => switchbackref01_Number.f k s) (numR s.data.toList) := by
  obtain ⟨a, z, hz⟩ : ∃ a z, s.data.toList = a ++ [z] := ⟨s.data.toList.dropLast, s.data.toList.getLast hne, (List.dropLast_concat_getLast hne).symm⟩
  have hl := dlen s
  rw [hz, List.length_append, List.length_singleton] at hl
  have hlast : Go.Proofs.YtjoboaaambdpoaaDoorW.PrintWords.bt s ((s.size - 1 : Nat) : Int) = (z.toNat : Int) := by
    have : Go.Proofs.YtjoboaaambdpoaaDoorW.PrintWords.bt s ((s.size - 1 : Nat) : Int) = gt s.data.toList (s.size - 1) := bz_gt s _
    rw [this, hz, show s.size - 1 = a.length by omega]
    unfold gt
    simp [List.getD_eq_getElem?_getD]
  have hw0 := Lib.hid (show wrap64 ((s.size : Int) - 1) = ((s.size - 1 : Nat) : Int) by rw [wrap_i64 (by omega) (by omega)]; omega)
  have hg : (a ++ [z]).getLastD 0 = z := by simp
  have hdl : (a ++ [z]).dropLast = a := by simp
  have f0 : ∀ k, switchbackref01_Number.f k s = switchbackref01_Number.j0 k s false (decide (z = 117) || decide (z = 85)) := by
    intro k
    unfold switchbackref01_Number.f
    rw [hw0.out, if_pos (by omega), if_pos (by omega), hlast]
    by_cases h1 : z = 117
    · subst h1
      rw [if_pos (by decide)]
      rfl
    · rw [if_neg (show ¬ (z.toNat : Int) = 117 from fun h => h1 ((u8_int z 117 (by decide)).1 h)), decide_eq_false h1, Bool.false_or]
      congr 1
      rw [Bool.eq_iff_iff, beq_iff_eq, decide_eq_true_eq]
      exact u8_int z 85 (by decide)
  have hout : ∀ (u : Bool) (D : List UInt8), u = decide (D.length < (a ++ [z]).length) → (if (baseOf D).2 = [] then ((0 : Int), false, false) else outR u (parseR (baseOf D).1 0 (baseOf D).2)) = (if (baseOf D).2 = [] then ((0 : Int), false, false) else match parseR (baseOf D).1 0 (baseOf D).2 with
      | none => (0, false, false)
      | some n => ((n : Int), decide (D.length < (a ++ [z]).length) || decide (2147483647 < (n : Int)), true)) := by
    intro u D hu
    split
    · rfl
    · cases parseR (baseOf D).1 0 (baseOf D).2 with
      | none => rfl
      | some n =>
        simp only [outR]
        rw [← hu]
        cases u <;> rfl
  unfold numR
  rw [hz, hg, hdl]
  by_cases h : z = 117 ∨ z = 85
  · simp only [if_pos h]
    obtain ⟨d, hdd⟩ : ∃ d, d = s.extract 0 (s.size - 1) := ⟨_, rfl⟩
    have hda : d.data.toList = a := by
      rw [hdd, ByteArray.data_extract, Array.toList_extract]
      show (s.data.toList.drop 0).take (s.size - 1 - 0) = a
      rw [hz, List.drop_zero, show s.size - 1 - 0 = a.length by omega]
      simp
    have hj := num_j1 d (by rw [hdd, ByteArray.size_extract]; omega) true
    rw [hda, hout true a (by symm; rw [decide_eq_true_eq]; simp)] at hj
    refine Ev.congr f0 (Ev.step (fun k => ?_) hj)
    simp only [switchbackref01_Number.j0]
    rw [show (decide (z = 117) || decide (z = 85)) = true by simpa using h, if_pos rfl, hw0.out, if_pos (by omega), if_pos (by omega), Int.toNat_natCast, ← hdd]
  · simp only [if_neg h]
    have hj := num_j1 s hs false
    rw [hz, hout false (a ++ [z]) (by simp)] at hj
    refine Ev.congr f0 (Ev.step (fun k => ?_) hj)
    simp only [switchbackref01_Number.j0]
    rw [show (decide (z = 117) || decide (z = 85)) = false by simpa using h, if_neg (by decide)]

/-- Of the character that begins at a place, as the document has it: its number, its end; -1: none. -/
def charO (l : List UInt8) (i : Nat) : Int × Int := if (charL l).2 = 0 then (0, -1) else ((charL l).1, (i : Int) + (charL l).2)

theorem char_f (src : ByteArray) (hs : src.size ≤ 1000000) (i : Nat) (hi : i < src.size) : Ev (fun k => switchbackref01_character.f k src i) (charO (src.data.toList.drop i) i) := by
  have e1 : Go.Proofs.YtjoboaaambdpoaaDoorW.PrintWords.bt src ((i : Int) + 1) = gt (src.data.toList.drop i) 1 := bz_gd src i 1
  have e2 : Go.Proofs.YtjoboaaambdpoaaDoorW.PrintWords.bt src ((i : Int) + 2) = gt (src.data.toList.drop i) 2 := bz_gd src i 2
  have e3 : Go.Proofs.YtjoboaaambdpoaaDoorW.PrintWords.bt src ((i : Int) + 3) = gt (src.data.toList.drop i) 3 := bz_gd src i 3
  have hl : (src.data.toList.drop i).length = src.size - i := drop_len src i
  have r1 := gt_range (src.data.toList.drop i) 1
  have r2 := gt_range (src.data.toList.drop i) 2
  generalize src.data.toList.drop i = l at e1 e2 e3 hl r1 r2 ⊢
  have w1 := Lib.hid (show wrap64 ((i : Int) + 1) = (i : Int) + 1 from wrap_i64 (by omega) (by omega))
  have w2 := Lib.hid (show wrap64 ((i : Int) + 2) = (i : Int) + 2 from wrap_i64 (by omega) (by omega))
  have w3 := Lib.hid (show wrap64 ((i : Int) + 3) = (i : Int) + 3 from wrap_i64 (by omega) (by omega))
  have w4 := Lib.hid (show wrap64 ((i : Int) + 4) = (i : Int) + 4 from wrap_i64 (by omega) (by omega))
  unfold charO charL
  generalize gt l 1 = a at e1 r1 ⊢
  generalize gt l 2 = b at e2 r2 ⊢
  generalize gt l 3 = d at e3 ⊢
  have no : ∀ x : Int × Int, x.2 = 0 → (if x.2 = 0 then ((0 : Int), (-1 : Int)) else (x.1, (i : Int) + x.2)) = (0, -1) := fun x h => if_pos h
  have j0t : Ev (fun k => switchbackref01_character.j0 k src i true) (0, -1) := Ev.step (f := fun _ => some (0, -1)) (fun k => by simp only [switchbackref01_character.j0]; rfl) (Ev.now _)
  have j1t : Ev (fun k => switchbackref01_character.j1 k src i true) (0, -1) := Ev.step (f := fun _ => some (0, -1)) (fun k => by simp only [switchbackref01_character.j1]; rfl) (Ev.now _)
  unfold switchbackref01_character.f
  simp only [w1.out, w2.out, w3.out, w4.out]
  by_cases h3 : (i : Int) + 3 > (src.size : Int)
  · simp only [if_pos h3]
    have hc : charP l.length 0 a b d = (0, 0) := by unfold charP; rw [if_pos (by omega)]
    rw [hc]
    exact Ev.now _
  simp only [if_neg h3, if_pos (show 0 ≤ (i : Int) + 1 by omega), if_pos (show (i : Int) + 1 < (src.size : Int) by omega), if_pos (show 0 ≤ (i : Int) + 2 by omega), if_pos (show (i : Int) + 2 < (src.size : Int) by omega), e1, e2]
  by_cases ha92 : a = 92
  · simp only [if_pos ha92]
    by_cases h4 : (i : Int) + 4 > (src.size : Int)
    · simp only [if_pos h4]
      have hc : charP l.length 0 a b d = (0, 0) := by unfold charP; rw [if_neg (by omega), if_neg (by omega), if_pos (by omega)]
      rw [hc]
      exact j1t
    simp only [if_neg h4, if_pos (show 0 ≤ (i : Int) + 3 by omega), if_pos (show (i : Int) + 3 < (src.size : Int) by omega), e3]
    by_cases hd : d = 39
    · have hc : charP l.length 0 a b d = if b = 110 then (10, 4) else if b = 116 then (9, 4) else if b = 114 then (13, 4) else if b = 48 then (0, 4) else if b = 92 ∨ b = 39 ∨ b = 34 then (b, 4) else (0, 0) := by unfold charP; rw [if_neg (by omega), if_neg (by omega), if_neg (by omega)]
      rw [hc, show (d != 39) = false by simpa using hd]
      have j2 : ∀ x : Bool, Ev (fun k => switchbackref01_character.j2 k src i x) (if x = true then (b, (i : Int) + 4) else (0, -1)) := by
        intro x
        refine Ev.step (fun k => ?_) (Ev.now _)
        simp only [switchbackref01_character.j2, w2.out, w4.out, e2]
        cases x with
        | true => rw [if_pos rfl, if_pos (by omega), if_pos (by omega), if_pos rfl, show b % 4294967296 = b by omega]
        | false => rfl
      have hstep : ∀ k, switchbackref01_character.j1 (k + 1) src i false = if b = 110 then some (10, (i : Int) + 4) else if b = 116 then some (9, (i : Int) + 4) else if b = 114 then some (13, (i : Int) + 4) else if b = 48 then some (0, (i : Int) + 4) else if b = 92 then switchbackref01_character.j2 k src i (b == 92) else if b = 39 then switchbackref01_character.j2 k src i (b == 39) else switchbackref01_character.j2 k src i (b == 34) := by
        intro k
        simp only [switchbackref01_character.j1, w2.out, w4.out, e2]
        rw [if_neg (by decide), if_pos (by omega), if_pos (by omega)]
      refine Ev.step hstep ?_
      by_cases b1 : b = 110
      · simp only [if_pos b1]; exact Ev.now _
      simp only [if_neg b1]
      by_cases b2 : b = 116
      · simp only [if_pos b2]; exact Ev.now _
      simp only [if_neg b2]
      by_cases b3 : b = 114
      · simp only [if_pos b3]; exact Ev.now _
      simp only [if_neg b3]
      by_cases b4 : b = 48
      · simp only [if_pos b4]; exact Ev.now _
      simp only [if_neg b4]
      have fin_ : ∀ x : Bool, (x = true ↔ (b = 92 ∨ b = 39 ∨ b = 34)) → Ev (fun k => switchbackref01_character.j2 k src i x) (if (if b = 92 ∨ b = 39 ∨ b = 34 then (b, (4 : Int)) else (0, 0)).2 = 0 then (0, -1) else ((if b = 92 ∨ b = 39 ∨ b = 34 then (b, (4 : Int)) else (0, 0)).1, (i : Int) + (if b = 92 ∨ b = 39 ∨ b = 34 then (b, (4 : Int)) else (0, 0)).2)) := by
        intro x hx
        have := j2 x
        by_cases h : b = 92 ∨ b = 39 ∨ b = 34
        · rw [if_pos (hx.2 h)] at this
          simp only [if_pos h]
          exact this
        · rw [if_neg (fun e => h (hx.1 e))] at this
          simp only [if_neg h]
          exact this
      by_cases b5 : b = 92
      · simp only [if_pos b5]
        have := fin_ (b == 92) (by rw [beq_iff_eq]; omega)
        exact this
      simp only [if_neg b5]
      by_cases b6 : b = 39
      · simp only [if_pos b6]
        have := fin_ (b == 39) (by rw [beq_iff_eq]; omega)
        simpa only [b5, false_or] using this
      simp only [if_neg b6]
      have := fin_ (b == 34) (by rw [beq_iff_eq]; omega)
      simpa only [b5, false_or] using this
    · have hc : charP l.length 0 a b d = (0, 0) := by unfold charP; rw [if_neg (by omega), if_neg (by omega), if_pos (by omega)]
      rw [hc, show (d != 39) = true by simpa using hd]
      exact j1t
  simp only [if_neg ha92]
  by_cases ha39 : a = 39
  · simp only [if_pos ha39]
    have hc : charP l.length 0 a b d = (0, 0) := by unfold charP; rw [if_pos (by omega)]
    rw [hc]
    exact j0t
  simp only [if_neg ha39]
  by_cases ha10 : a = 10
  · simp only [if_pos ha10]
    have hc : charP l.length 0 a b d = (0, 0) := by unfold charP; rw [if_pos (by omega)]
    rw [hc]
    exact j0t
  simp only [if_neg ha10]
  by_cases hb39 : b = 39
  · have hc : charP l.length 0 a b d = (a, 3) := by unfold charP; rw [if_neg (by omega), if_pos ha92, if_neg (by omega)]
    rw [hc, show (b != 39) = false by simpa using hb39]
    refine Ev.step (f := fun _ => some (a, (i : Int) + 3)) (fun k => ?_) (Ev.now _)
    simp only [switchbackref01_character.j0, w1.out, w3.out, e1]
    rw [if_neg (by decide), if_pos (by omega), if_pos (by omega), show a % 4294967296 = a by omega]
  · have hc : charP l.length 0 a b d = (0, 0) := by unfold charP; rw [if_neg (by omega), if_pos ha92, if_pos hb39]
    rw [hc, show (b != 39) = true by simpa using hb39]
    exact j0t

theorem word_f (t : ByteArray) : Ev (fun k => switchbackref01_word.f k t) (decide (t.data.toList ∈ wordsL)) := by
  have j : ∀ b : Bool, Ev (fun k => switchbackref01_word.j0 k b) b := by
    intro b
    refine Ev.step (f := fun _ => some b) (fun k => ?_) (Ev.now _)
    simp only [switchbackref01_word.j0]
    cases b <;> rfl
  unfold switchbackref01_word.f
  simp only [ByteArray.toList_eq]
  generalize t.data.toList = L
  have yes : ∀ W : List UInt8, W ∈ wordsL → L = W → Ev (fun k => switchbackref01_word.j0 k (L == W)) (decide (L ∈ wordsL)) := by
    intro W hW h
    subst h
    rw [decide_eq_true hW]
    have := j (L == L)
    rw [beq_self_eq_true] at this ⊢
    exact this
  repeat (refine Ev_ite (yes _ (by decide)) (fun _ => ?_))
  by_cases h : L = [119, 104, 105, 108, 101]
  · exact yes _ (by decide) h
  · have := j (L == [119, 104, 105, 108, 101])
    rw [show (L == [119, 104, 105, 108, 101]) = false by simpa using h] at this ⊢
    rwa [decide_eq_false (by
      unfold wordsL
      simp only [List.mem_cons, List.not_mem_nil, or_false]
      simp only [*, or_self, not_false_eq_true])]

end Go.Proofs.YtjoboaaambdpoaaDoor.PR01

set_option linter.unusedVariables false
set_option linter.unusedSimpArgs false
namespace Go.Proofs.YtjoboaaambdpoaaDoor.PR01
open Go.RowKit Go.Proofs.YtjoboaaambdpoaaDoorW.PrintWords Go.Proofs.YtjoboaaambdpoaaDoorW.PrintLast Go.Proofs.YtjoboaaambdpoaaDoorW.PrintMore Go.Maps Go.Joins

def signsA : List (List UInt8) := [[60, 60, 61], [62, 62, 61], [43, 43], [45, 45], [60, 60], [62, 62], [60, 61], [62, 61], [61, 61], [33, 61], [38, 38], [124, 124], [43, 61], [45, 61], [42, 61], [47, 61], [37, 61], [38, 61], [124, 61], [94, 61]]
def signsB : List (List UInt8) := [[43], [45], [42], [47], [37], [38], [124], [94], [126], [33], [60], [62], [61], [63], [58], [59], [44], [40], [41], [91], [93], [123], [125]]
def signB (t : List UInt8) : Bool := decide (t ∈ signsA) || decide (t ∈ signsB)

theorem sign_f (t : ByteArray) : Ev (fun k => switchbackref01_sign.f k t) (signB t.data.toList) := by
  have j1 : ∀ b : Bool, Ev (fun k => switchbackref01_sign.j1 k b) b := by
    intro b
    refine Ev.step (f := fun _ => some b) (fun k => ?_) (Ev.now _)
    simp only [switchbackref01_sign.j1]
    cases b <;> rfl
  have jt : Ev (fun k => switchbackref01_sign.j0 k t true) true := Ev.step (f := fun _ => some true) (fun k => by simp only [switchbackref01_sign.j0]; rfl) (Ev.now _)
  have jf : Ev (fun k => switchbackref01_sign.j0 k t false) (decide (t.data.toList ∈ signsB)) := by
    have yes : ∀ W : List UInt8, W ∈ signsB → t.data.toList = W → Ev (fun k => switchbackref01_sign.j1 k (t.data.toList == W)) (decide (t.data.toList ∈ signsB)) := by
      intro W hW h
      rw [h, decide_eq_true hW, beq_self_eq_true]
      exact j1 true
    refine Ev.step (f := fun k => _) (fun k => by simp only [switchbackref01_sign.j0, ByteArray.toList_eq]; rw [if_neg (by decide)]) ?_
    repeat (refine Ev_ite (yes _ (by decide)) (fun _ => ?_))
    by_cases h : t.data.toList = [125]
    · exact yes _ (by decide) h
    · rw [show (t.data.toList == [125]) = false by simpa using h, decide_eq_false (by
        unfold signsB
        simp only [List.mem_cons, List.not_mem_nil, or_false]
        simp only [*, or_self, not_false_eq_true])]
      exact j1 false
  unfold switchbackref01_sign.f signB
  simp only [ByteArray.toList_eq]
  have yes : ∀ W : List UInt8, W ∈ signsA → t.data.toList = W → Ev (fun k => switchbackref01_sign.j0 k t (t.data.toList == W)) (decide (t.data.toList ∈ signsA) || decide (t.data.toList ∈ signsB)) := by
    intro W hW h
    rw [h, decide_eq_true hW, beq_self_eq_true, Bool.true_or]
    exact jt
  repeat (refine Ev_ite (yes _ (by decide)) (fun _ => ?_))
  by_cases h : t.data.toList = [94, 61]
  · exact yes _ (by decide) h
  · rw [show (t.data.toList == [94, 61]) = false by simpa using h, decide_eq_false (by
      unfold signsA
      simp only [List.mem_cons, List.not_mem_nil, or_false]
      simp only [*, or_self, not_false_eq_true]), Bool.false_or]
    exact jf

theorem u8b (c : UInt8) (n : Nat) (hn : n < 256) : ((c.toNat : Int) == (n : Int)) = decide (c = UInt8.ofNat n) := by
  rw [Bool.eq_iff_iff, beq_iff_eq, decide_eq_true_eq]
  exact u8_int c n hn

theorem sg1_b : ∀ a : Fin 256, signB [UInt8.ofNat a.val] = sg1 (a.val : Int) := by decide +kernel

theorem sgB1 (a : UInt8) : signB [a] = sg1 (a.toNat : Int) := by
  have := sg1_b ⟨a.toNat, a.toNat_lt⟩
  simpa using this

theorem u8i (c : UInt8) (n : UInt8) : ((c.toNat : Int) == (n.toNat : Int)) = decide (c = n) := by
  rw [Bool.eq_iff_iff, beq_iff_eq, decide_eq_true_eq]
  exact ⟨fun h => UInt8.toNat_inj.1 (by omega), fun h => by rw [h]⟩

theorem sgB2 (a b : UInt8) : signB [a, b] = sg2 (a.toNat : Int) (b.toNat : Int) := by
  unfold sg2
  simp only [show (43 : Int) = ((43 : UInt8).toNat : Int) from rfl, show (45 : Int) = ((45 : UInt8).toNat : Int) from rfl, show (60 : Int) = ((60 : UInt8).toNat : Int) from rfl, show (62 : Int) = ((62 : UInt8).toNat : Int) from rfl, show (61 : Int) = ((61 : UInt8).toNat : Int) from rfl, show (33 : Int) = ((33 : UInt8).toNat : Int) from rfl, show (38 : Int) = ((38 : UInt8).toNat : Int) from rfl, show (124 : Int) = ((124 : UInt8).toNat : Int) from rfl, show (42 : Int) = ((42 : UInt8).toNat : Int) from rfl, show (47 : Int) = ((47 : UInt8).toNat : Int) from rfl, show (37 : Int) = ((37 : UInt8).toNat : Int) from rfl, show (94 : Int) = ((94 : UInt8).toNat : Int) from rfl, u8i]
  rw [Bool.eq_iff_iff]
  simp [signB, signsA, signsB, or_assoc]

theorem sgB3 (a b c : UInt8) : signB [a, b, c] = sg3 (a.toNat : Int) (b.toNat : Int) (c.toNat : Int) := by
  unfold sg3
  simp only [show (60 : Int) = ((60 : UInt8).toNat : Int) from rfl, show (62 : Int) = ((62 : UInt8).toNat : Int) from rfl, show (61 : Int) = ((61 : UInt8).toNat : Int) from rfl, u8i]
  rw [Bool.eq_iff_iff]
  simp [signB, signsA, signsB, and_assoc]

theorem sign_take (l : List UInt8) (n : Nat) (h1 : 1 ≤ n) (h3 : n ≤ 3) (hl : n ≤ l.length) : (signB (l.take n) = true → signL l ≤ n → signL l = n) ∧ (signB (l.take n) = false → signL l ≠ n) := by
  unfold signL
  rw [sg_eq]
  have hn : n = 1 ∨ n = 2 ∨ n = 3 := by omega
  rcases hn with rfl | rfl | rfl
  · rcases l with _ | ⟨a, l⟩
    · simp at hl
    · rw [show (a :: l).take 1 = [a] from rfl, sgB1, show gt (a :: l) 0 = (a.toNat : Int) from rfl]
      generalize gt (a :: l) 1 = p
      generalize gt (a :: l) 2 = q
      cases h1 : sg1 (a.toNat : Int) <;> cases h2 : sg2 (a.toNat : Int) p <;> cases h3 : sg3 (a.toNat : Int) p q <;> simp
  · rcases l with _ | ⟨a, _ | ⟨b, l⟩⟩
    · simp at hl
    · simp at hl
    · rw [show (a :: b :: l).take 2 = [a, b] from rfl, sgB2, show gt (a :: b :: l) 0 = (a.toNat : Int) from rfl, show gt (a :: b :: l) 1 = (b.toNat : Int) from rfl]
      generalize gt (a :: b :: l) 2 = q
      cases h1 : sg1 (a.toNat : Int) <;> cases h2 : sg2 (a.toNat : Int) (b.toNat : Int) <;> cases h3 : sg3 (a.toNat : Int) (b.toNat : Int) q <;> simp
  · rcases l with _ | ⟨a, _ | ⟨b, _ | ⟨c, l⟩⟩⟩
    · simp at hl
    · simp at hl
    · simp at hl
    · rw [show (a :: b :: c :: l).take 3 = [a, b, c] from rfl, sgB3, show gt (a :: b :: c :: l) 0 = (a.toNat : Int) from rfl, show gt (a :: b :: c :: l) 1 = (b.toNat : Int) from rfl, show gt (a :: b :: c :: l) 2 = (c.toNat : Int) from rfl]
      cases h1 : sg1 (a.toNat : Int) <;> cases h2 : sg2 (a.toNat : Int) (b.toNat : Int) <;> cases h3 : sg3 (a.toNat : Int) (b.toNat : Int) (c.toNat : Int) <;> simp

end Go.Proofs.YtjoboaaambdpoaaDoor.PR01
