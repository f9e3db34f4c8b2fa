/- Texts joined: RxP RxQ RyB. -/
import Derived.Test.YtlhgfhmdhmgmpaaGreatDoorRxK
import Derived.Test.YtlhgfhmdhmgmpaaGreatDoorRyA
import Derived.Test.YtlhgfhmdhmgmpaaGreatDoorEncP
namespace Go.Proofs.YtlhgfhmdhmgmpaaGreatDoor
open Go.RowKit

def isLab (ls : List Line) (x : Int) : Prop := ∃ l ∈ ls, l.op = 0 ∧ l.label = x

/-- The labels' places under a choice. -/
def fl (ls : List Line) (long : List Bool) : Int → Option Int := mp ls long (fun _ => none) ls.length

def at_ (ls : List Line) (long : List Bool) (x : Int) : Int := toW (fl ls long) x

def need (ls : List Line) (long : List Bool) (i : Nat) : Bool :=
  brOp (ls.getD i default).op && !near (at_ ls long (ls.getD i default).label - pl ls long i - 1)

/-- A round, as far as line k. -/
def stK (ls : List Line) (long : List Bool) (k : Nat) : List Bool := long.mapIdx fun i b => b || (decide (i < k) && need ls long i)
def grK (ls : List Line) (long : List Bool) (k : Nat) : Bool := (List.range k).any fun i => !long.getD i false && need ls long i
def step (ls : List Line) (long : List Bool) : List Bool := long.mapIdx fun i b => b || need ls long i

theorem mp_or (ls : List Line) (long : List Bool) (f : Int → Option Int) (k : Nat) (x : Int) : mp ls long f k x = (mp ls long (fun _ => none) k x).or (f x) := by
  induction k with
  | zero => rfl
  | succ k ih =>
    simp only [mp]
    by_cases h : (ls.getD k default).op = 0
    · rw [if_pos h, if_pos h]
      by_cases h2 : x = (ls.getD k default).label
      · simp [h2]
      · simp only [h2, if_false]
        exact ih
    · rw [if_neg h, if_neg h]
      exact ih

theorem mp_lab (ls : List Line) (long : List Bool) (k : Nat) (x : Int) : (mp ls long (fun _ => none) k x).isSome = true ↔ ∃ j, j < k ∧ (ls.getD j default).op = 0 ∧ (ls.getD j default).label = x := by
  induction k with
  | zero => simp [mp]
  | succ k ih =>
    simp only [mp]
    by_cases h : (ls.getD k default).op = 0
    · rw [if_pos h]
      by_cases h2 : x = (ls.getD k default).label
      · simp only [h2, if_true]
        exact ⟨fun _ => ⟨k, Nat.lt_succ_self _, h, rfl⟩, fun _ => rfl⟩
      · simp only [h2, if_false]
        rw [ih]
        constructor
        · rintro ⟨j, hj, a, b⟩
          exact ⟨j, by omega, a, b⟩
        · rintro ⟨j, hj, a, b⟩
          refine ⟨j, ?_, a, b⟩
          rcases Nat.lt_or_ge j k with h' | h'
          · exact h'
          · exact absurd (by rw [show j = k by omega] at b; exact b.symm) h2
    · rw [if_neg h, ih]
      constructor
      · rintro ⟨j, hj, a, b⟩
        exact ⟨j, by omega, a, b⟩
      · rintro ⟨j, hj, a, b⟩
        refine ⟨j, ?_, a, b⟩
        rcases Nat.lt_or_ge j k with h' | h'
        · exact h'
        · exact absurd (by rw [show j = k by omega] at a; exact a) h

theorem fl_lab (ls : List Line) (long : List Bool) (x : Int) : (fl ls long x).isSome = true ↔ isLab ls x := by
  unfold fl
  rw [mp_lab]
  constructor
  · rintro ⟨j, hj, a, b⟩
    refine ⟨ls.getD j default, ?_, a, b⟩
    rw [List.getD_eq_getElem?_getD, List.getElem?_eq_getElem hj]
    exact List.getElem_mem hj
  · rintro ⟨l, hl, a, b⟩
    obtain ⟨j, hj, e⟩ := List.getElem_of_mem hl
    have e2 : ls.getD j default = l := by rw [List.getD_eq_getElem?_getD, List.getElem?_eq_getElem hj]; exact e
    exact ⟨j, hj, by rw [e2]; exact a, by rw [e2]; exact b⟩

theorem mp_fl (ls : List Line) (long : List Bool) (f : Int → Option Int) (hf : ∀ x, (f x).isSome = true → isLab ls x) : mp ls long f ls.length = fl ls long := by
  funext x
  rw [mp_or]
  show (fl ls long x).or (f x) = fl ls long x
  cases h : fl ls long x with
  | some v => rfl
  | none =>
    cases h2 : f x with
    | none => rfl
    | some v =>
      have := (fl_lab ls long x).2 (hf x (by rw [h2]; rfl))
      rw [h] at this
      cases this

theorem mp_range (ls : List Line) (long : List Bool) (h : Sized ls) (k : Nat) (x v : Int) (hv : mp ls long (fun _ => none) k x = some v) : 0 ≤ v ∧ v ≤ 402 * k := by
  induction k with
  | zero => cases hv
  | succ k ih =>
    simp only [mp] at hv
    have hp := pl_range ls long h k
    by_cases h1 : (ls.getD k default).op = 0
    · rw [if_pos h1] at hv
      by_cases h2 : x = (ls.getD k default).label
      · simp only [h2, if_true] at hv
        cases hv
        omega
      · simp only [h2, if_false] at hv
        have := ih hv
        omega
    · rw [if_neg h1] at hv
      have := ih hv
      omega

theorem at_range (ls : List Line) (long : List Bool) (h : Sized ls) (x : Int) : 0 ≤ at_ ls long x ∧ at_ ls long x ≤ 100000000 := by
  unfold at_ toW
  cases hv : fl ls long x with
  | none => exact ⟨Int.le_refl _, by decide⟩
  | some v =>
    have := mp_range ls long h ls.length x v hv
    have := h.small
    show 0 ≤ v ∧ v ≤ 100000000
    omega

theorem step_len (ls : List Line) (long : List Bool) : (step ls long).length = long.length := by simp [step]
theorem stK_len (ls : List Line) (long : List Bool) (k : Nat) : (stK ls long k).length = long.length := by simp [stK]

theorem stK_zero (ls : List Line) (long : List Bool) : stK ls long 0 = long := by
  apply List.ext_getElem
  · simp [stK]
  · intro i h1 h2
    simp [stK]

theorem stK_all (ls : List Line) (long : List Bool) (n : Nat) (h : long.length = n) : stK ls long n = step ls long := by
  apply List.ext_getElem
  · simp [stK, step]
  · intro i h1 h2
    have : i < n := by rw [stK_len] at h1; omega
    simp [stK, step, this]

theorem stK_get (ls : List Line) (long : List Bool) (k : Nat) (hk : k < long.length) : (stK ls long k).getD k false = long.getD k false := by
  simp [stK, List.getD, hk]

theorem stK_yes (ls : List Line) (long : List Bool) (k : Nat) (_hk : k < long.length) (h : need ls long k = true) : (stK ls long k).set k true = stK ls long (k + 1) := by
  apply List.ext_getElem
  · simp [stK]
  · intro i h1 h2
    rw [List.getElem_set]
    by_cases e : k = i
    · subst e
      simp [stK, h]
    · rw [if_neg e]
      have : (i < k + 1) ↔ (i < k) := by omega
      simp [stK, this]

theorem stK_no (ls : List Line) (long : List Bool) (k : Nat) (hk : k < long.length) (h : (long.getD k false || need ls long k) = long.getD k false) : stK ls long k = stK ls long (k + 1) := by
  apply List.ext_getElem
  · simp [stK]
  · intro i h1 h2
    by_cases e : k = i
    · subst e
      simp only [stK, List.getElem_mapIdx]
      have hx : long.getD k false = long[k] := by simp [List.getD, hk]
      rw [hx] at h
      simp [h]
    · have : (i < k + 1) ↔ (i < k) := by omega
      simp [stK, this]

theorem grK_succ (ls : List Line) (long : List Bool) (k : Nat) : grK ls long (k + 1) = (grK ls long k || (!long.getD k false && need ls long k)) := by
  unfold grK
  rw [List.range_succ, List.any_append]
  simp

theorem grK_step (ls : List Line) (long : List Bool) (n : Nat) (h : long.length = n) : grK ls long n = false ↔ step ls long = long := by
  unfold grK
  rw [List.any_eq_false]
  constructor
  · intro hx
    apply List.ext_getElem (step_len ls long)
    intro i h1 h2
    have := hx i (List.mem_range.2 (by omega))
    have hx2 : long.getD i false = long[i] := by simp [List.getD, h2]
    rw [hx2] at this
    simp only [step, List.getElem_mapIdx]
    cases h3 : long[i] <;> simp_all
  · intro hx i hi
    have hi' := List.mem_range.1 hi
    have hx2 : long.getD i false = long[i] := by simp [List.getD, show i < long.length by omega]
    have hx3 : (step ls long)[i]'(by rw [step_len]; omega) = long[i] := by simp [hx]
    simp only [step, List.getElem_mapIdx] at hx3
    rw [hx2]
    cases h3 : long[i] <;> simp_all

theorem cnt_lt (a b : List Bool) (hl : a.length = b.length) (h : ∀ i (h1 : i < a.length) (h2 : i < b.length), a[i] = true → b[i] = true) (hne : b ≠ a) : b.count false < a.count false := by
  induction a generalizing b with
  | nil =>
    cases b with
    | nil => exact absurd rfl hne
    | cons => cases hl
  | cons x a ih =>
    cases b with
    | nil => cases hl
    | cons y b =>
      have hl' : a.length = b.length := by simpa using hl
      have h0 := h 0 (by simp) (by simp)
      have hs : ∀ i (h1 : i < a.length) (h2 : i < b.length), a[i] = true → b[i] = true := fun i h1 h2 hh => by
        have := h (i + 1) (by simpa using h1) (by simpa using h2)
        simpa using this (by simpa using hh)
      have hle : b.count false ≤ a.count false := by
        by_cases e : b = a
        · rw [e]; exact Nat.le_refl _
        · exact Nat.le_of_lt (ih b hl' hs e)
      cases x <;> cases y
      · have := ih b hl' hs (fun e => hne (by rw [e]))
        simp; omega
      · simp; omega
      · simp at h0
      · have := ih b hl' hs (fun e => hne (by rw [e]))
        simp; omega

theorem step_lt (ls : List Line) (long : List Bool) (h : step ls long ≠ long) : (step ls long).count false < long.count false :=
  cnt_lt long (step ls long) (step_len ls long).symm (fun i h1 h2 hh => by simp [step, hh]) h

/-- All rounds: what is long in the end, and how many there were. -/
def rounds (ls : List Line) (long : List Bool) (r : Nat) : List Bool × Nat :=
  if h : step ls long = long then (long, r + 1) else rounds ls (step ls long) (r + 1)
termination_by long.count false
decreasing_by exact step_lt ls long h

end Go.Proofs.YtlhgfhmdhmgmpaaGreatDoor

namespace Go.Proofs.YtlhgfhmdhmgmpaaGreatDoor
open Go.RowKit

theorem fits_list (l : Line) (h : fitsB l = true) : l.list.length ≤ 400 := by
  unfold fitsB at h
  by_cases h0 : l.op = 0
  · simp [h0] at h
    simp_all
  · simp [h0, x8] at h
    simp_all

theorem ref1_ok (ls : List Line) (seen s : List Int) (i : Nat) (h : ref1 seen i ls = .inr s) :
    (∀ l ∈ ls, 0 ≤ l.op ∧ l.op ≤ 48 ∧ fitsB l = true) ∧ ∀ x, x ∈ s ↔ x ∈ seen ∨ isLab ls x := by
  induction ls generalizing seen i with
  | nil =>
    simp only [ref1, Sum.inr.injEq] at h
    subst h
    exact ⟨by simp, fun x => by simp [isLab]⟩
  | cons l r ih =>
    simp only [ref1] at h
    by_cases h1 : l.op < 0 ∨ 48 < l.op
    · rw [if_pos h1] at h; cases h
    rw [if_neg h1] at h
    by_cases h2 : fitsB l = false
    · rw [if_pos h2] at h; cases h
    rw [if_neg h2] at h
    have hl : 0 ≤ l.op ∧ l.op ≤ 48 ∧ fitsB l = true := ⟨by omega, by omega, by simpa using h2⟩
    by_cases h3 : l.op = 0
    · rw [if_pos h3] at h
      by_cases h4 : l.label ∈ seen
      · rw [if_pos h4] at h; cases h
      rw [if_neg h4] at h
      obtain ⟨a, b⟩ := ih _ _ h
      refine ⟨fun m hm => ?_, fun x => ?_⟩
      · rcases List.mem_cons.1 hm with rfl | hm
        · exact hl
        · exact a m hm
      · rw [b x]
        constructor
        · rintro (hx | ⟨m, hm, e1, e2⟩)
          · rcases List.mem_cons.1 hx with rfl | hx
            · exact .inr ⟨l, List.mem_cons_self .., h3, rfl⟩
            · exact .inl hx
          · exact .inr ⟨m, List.mem_cons_of_mem _ hm, e1, e2⟩
        · rintro (hx | ⟨m, hm, e1, e2⟩)
          · exact .inl (List.mem_cons_of_mem _ hx)
          · rcases List.mem_cons.1 hm with rfl | hm
            · exact .inl (by rw [← e2]; exact List.mem_cons_self ..)
            · exact .inr ⟨m, hm, e1, e2⟩
    · rw [if_neg h3] at h
      obtain ⟨a, b⟩ := ih _ _ h
      refine ⟨fun m hm => ?_, fun x => ?_⟩
      · rcases List.mem_cons.1 hm with rfl | hm
        · exact hl
        · exact a m hm
      · rw [b x]
        constructor
        · rintro (hx | ⟨m, hm, e1, e2⟩)
          · exact .inl hx
          · exact .inr ⟨m, List.mem_cons_of_mem _ hm, e1, e2⟩
        · rintro (hx | ⟨m, hm, e1, e2⟩)
          · exact .inl hx
          · rcases List.mem_cons.1 hm with rfl | hm
            · exact absurd e1 h3
            · exact .inr ⟨m, hm, e1, e2⟩

structure Asm where
  words : List Int
  kinds : List Int
  places : List Int
  rounds : Nat
  line : Nat
  err : Int

def fin (ls : List Line) : List Bool × Nat := rounds ls (List.replicate ls.length false) 0

def wordsOf (ls : List Line) (long : List Bool) (k : Nat) : List Int := (List.range k).flatMap fun i => lineW (fl ls long) (long.getD i false) (pl ls long i) (ls.getD i default)
def kindsOf (ls : List Line) (long : List Bool) (k : Nat) : List Int := (List.range k).flatMap fun i => lineK (long.getD i false) (ls.getD i default)

/-- Assemble's answer. -/
def asm (ls : List Line) : Asm :=
  if (refusedP ls).2 ≠ 0 then ⟨[], [], [], 0, (refusedP ls).1, (refusedP ls).2⟩ else
  if 65536 < pl ls (fin ls).1 ls.length then ⟨[], [], [], 0, 0, 174⟩ else
  ⟨wordsOf ls (fin ls).1 ls.length, kindsOf ls (fin ls).1 ls.length, (List.range ls.length).map (pl ls (fin ls).1), (fin ls).2, 0, 0⟩

theorem wordsOf_succ (ls : List Line) (long : List Bool) (k : Nat) : wordsOf ls long (k + 1) = wordsOf ls long k ++ lineW (fl ls long) (long.getD k false) (pl ls long k) (ls.getD k default) := by
  unfold wordsOf
  rw [List.range_succ, List.flatMap_append]
  simp
theorem kindsOf_succ (ls : List Line) (long : List Bool) (k : Nat) : kindsOf ls long (k + 1) = kindsOf ls long k ++ lineK (long.getD k false) (ls.getD k default) := by
  unfold kindsOf
  rw [List.range_succ, List.flatMap_append]
  simp

theorem lineW_len (f : Int → Option Int) (lg : Bool) (p : Int) (l : Line) (h : l.list.length ≤ 400) : (lineW f lg p l).length ≤ 402 := by
  unfold lineW
  repeat' split
  all_goals (simp; try omega)
theorem lineK_len (lg : Bool) (l : Line) (h : l.list.length ≤ 400) : (lineK lg l).length ≤ 402 := by
  unfold lineK
  repeat' split
  all_goals (simp; try omega)

theorem getD_list (ls : List Line) (h : Sized ls) (k : Nat) : (ls.getD k default).list.length ≤ 400 := by
  by_cases hk : k < ls.length
  · rw [List.getD_eq_getElem?_getD, List.getElem?_eq_getElem hk]
    exact h.lists _ (List.getElem_mem hk)
  · rw [List.getD_eq_getElem?_getD, List.getElem?_eq_none (by omega)]
    exact Nat.zero_le _

theorem wordsOf_len (ls : List Line) (long : List Bool) (h : Sized ls) (k : Nat) : (wordsOf ls long k).length ≤ 402 * k := by
  induction k with
  | zero => simp [wordsOf]
  | succ k ih =>
    rw [wordsOf_succ, List.length_append]
    have := lineW_len (fl ls long) (long.getD k false) (pl ls long k) _ (getD_list ls h k)
    omega
theorem kindsOf_len (ls : List Line) (long : List Bool) (h : Sized ls) (k : Nat) : (kindsOf ls long k).length ≤ 402 * k := by
  induction k with
  | zero => simp [kindsOf]
  | succ k ih =>
    rw [kindsOf_succ, List.length_append]
    have := lineK_len (long.getD k false) _ (getD_list ls h k)
    omega

end Go.Proofs.YtlhgfhmdhmgmpaaGreatDoor

set_option linter.unusedVariables false
set_option linter.unusedSimpArgs false
namespace Go.Proofs.YtlhgfhmdhmgmpaaGreatDoor
open Go.RowKit

theorem enc_beq (op a b c : Int) : ((enc op a b c).2 == 0) = mayR op a b c := by
  cases h : mayR op a b c with
  | true => rw [enc_of h]; rfl
  | false =>
    cases h2 : (enc op a b c).2 == 0 with
    | false => rfl
    | true =>
      have := (enc_ok (op := op) (a := a) (b := b) (c := c) (by simpa using h2)).1
      rw [h] at this; cases this

theorem goOp_in {n : Int} (h : goOp n = true) : (30 ≤ n ∧ n ≤ 41) ∨ n = 43 := by
  unfold goOp brOp isBr within at h
  simp only [Bool.or_eq_true, Bool.and_eq_true, decide_eq_true_eq, beq_iff_eq] at h
  omega

theorem mayL_fits (l : Line) : mayL l = fitsB l := by
  obtain ⟨op, a, b, imm, n, lb, list⟩ := l
  unfold mayL fitsB x4 x6 x8
  simp only []
  rw [enc_beq]
  by_cases h0 : op = 0
  · rw [if_pos h0, if_pos h0]
  rw [if_neg h0, if_neg h0]
  by_cases hg : goOp op = true
  · have hr := goOp_in hg
    have h42 : (op == 42) = false := by simp; omega
    have h2 : (op != 2) = true := by simp; omega
    rw [if_pos hg, hg, h42, h2]
    by_cases hi : imm = 0
    · subst hi
      by_cases hn : n = 0
      · subst hn
        cases list with
        | nil => cases isLabel lb <;> simp
        | cons x r => simp
      · simp [hn]
    · simp [hi]
  · rw [if_neg hg]
    replace hg : goOp op = false := by simpa using hg
    rw [hg]
    by_cases h42 : op = 42
    · subst h42
      rw [if_pos rfl]
      have hl0 : isLabel 0 = true := by decide
      by_cases hn : n = 0
      · subst hn
        by_cases hb : lb = 0
        · subst hb
          by_cases h1 : 0 < list.length
          · by_cases h4 : 400 < list.length
            · simp [h1, h4, show ¬ list.length ≤ 400 by omega]
            · cases hal : list.all isLabel <;> simp [h1, h4, show list.length ≤ 400 by omega, hl0, hal, show 1 ≤ list.length by omega]
          · simp [h1, show ¬ 1 ≤ list.length by omega, hl0]
        · simp [hb]
      · simp [hn]
    · rw [if_neg h42]
      have h42' : (op == 42) = false := by simpa using h42
      have hl0 : isLabel 0 = true := by decide
      rw [h42']
      by_cases h2 : op = 2
      · subst h2
        rw [if_pos rfl]
        by_cases hb : lb = 0
        · subst hb
          cases list with
          | nil => simp [hl0]
          | cons x r => simp [hl0]
        · simp [hb]
      · rw [if_neg h2]
        have h2' : (op != 2) = true := by simpa using h2
        rw [h2']
        by_cases hn : n = 0
        · subst hn
          by_cases hb : lb = 0
          · subst hb
            cases list with
            | nil => simp [hl0]
            | cons x r => simp [hl0]
          · simp [hb]
        · simp [hn]

theorem fits_goes {l : Line} (h : fitsB l = true) (hg : goOp l.op = true) : isLabel l.label = true ∧ l.list = [] := by
  rw [← mayL_fits] at h
  have hr := goOp_in hg
  unfold mayL at h
  rw [if_neg (by omega), if_pos hg] at h
  simp only [Bool.and_eq_true, beq_iff_eq, List.length_eq_zero_iff] at h
  exact ⟨h.2, h.1.2⟩

theorem fits_at {l : Line} (h : fitsB l = true) (h0 : l.op = 0) : isLabel l.label = true ∧ l.list = [] := by
  rw [← mayL_fits] at h
  unfold mayL at h
  rw [if_pos h0] at h
  simp only [Bool.and_eq_true, beq_iff_eq, List.length_eq_zero_iff] at h
  exact ⟨h.2, h.1.2⟩

theorem fits_all {l : Line} (h : fitsB l = true) : l.list.all isLabel = true := by
  by_cases h0 : l.op = 0
  · rw [(fits_at h h0).2]; rfl
  by_cases hg : goOp l.op = true
  · rw [(fits_goes h hg).2]; rfl
  rw [← mayL_fits] at h
  unfold mayL at h
  rw [if_neg h0, if_neg hg] at h
  by_cases h42 : l.op = 42
  · rw [if_pos h42, Bool.and_eq_true] at h
    exact h.1
  · rw [if_neg h42] at h
    by_cases h2 : l.op = 2
    · rw [if_pos h2] at h
      simp only [Bool.and_eq_true, beq_iff_eq, List.length_eq_zero_iff] at h
      rw [h.2]; rfl
    · rw [if_neg h2] at h
      simp only [Bool.and_eq_true, beq_iff_eq, List.length_eq_zero_iff] at h
      rw [h.2]; rfl

end Go.Proofs.YtlhgfhmdhmgmpaaGreatDoor
