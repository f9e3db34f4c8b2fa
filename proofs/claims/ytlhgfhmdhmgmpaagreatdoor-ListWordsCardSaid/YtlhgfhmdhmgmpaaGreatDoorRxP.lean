/- relax's rounds, plainly. -/
import Derived.Test.YtlhgfhmdhmgmpaaGreatDoorRxK
namespace Go.Proofs.YtlhgfhmdhmgmpaaGreatDoor
open Go.RowKit

def isLab (ls : List Line) (x : Int) : Prop := ∃ l ∈ ls, l.op = 0 ∧ l.label = x

/-- The labels' places under a choice. -/
def fl (ls : List Line) (long : List Bool) : Int → Option Int := mp ls long (fun _ => none) ls.length

def at_ (ls : List Line) (long : List Bool) (x : Int) : Int := toW (fl ls long) x

def need (ls : List Line) (long : List Bool) (i : Nat) : Bool :=
  brOp (ls.getD i default).op && !near (at_ ls long (ls.getD i default).label - pl ls long i - 1)

/-- A round, as far as line k. -/
def stK (ls : List Line) (long : List Bool) (k : Nat) : List Bool := long.mapIdx fun i b => b || (decide (i < k) && need ls long i)
def grK (ls : List Line) (long : List Bool) (k : Nat) : Bool := (List.range k).any fun i => !long.getD i false && need ls long i
def step (ls : List Line) (long : List Bool) : List Bool := long.mapIdx fun i b => b || need ls long i

theorem mp_or (ls : List Line) (long : List Bool) (f : Int → Option Int) (k : Nat) (x : Int) : mp ls long f k x = (mp ls long (fun _ => none) k x).or (f x) := by
  induction k with
  | zero => rfl
  | succ k ih =>
    simp only [mp]
    by_cases h : (ls.getD k default).op = 0
    · rw [if_pos h, if_pos h]
      by_cases h2 : x = (ls.getD k default).label
      · simp [h2]
      · simp only [h2, if_false]
        exact ih
    · rw [if_neg h, if_neg h]
      exact ih

theorem mp_lab (ls : List Line) (long : List Bool) (k : Nat) (x : Int) : (mp ls long (fun _ => none) k x).isSome = true ↔ ∃ j, j < k ∧ (ls.getD j default).op = 0 ∧ (ls.getD j default).label = x := by
  induction k with
  | zero => simp [mp]
  | succ k ih =>
    simp only [mp]
    by_cases h : (ls.getD k default).op = 0
    · rw [if_pos h]
      by_cases h2 : x = (ls.getD k default).label
      · simp only [h2, if_true]
        exact ⟨fun _ => ⟨k, Nat.lt_succ_self _, h, rfl⟩, fun _ => rfl⟩
      · simp only [h2, if_false]
        rw [ih]
        constructor
        · rintro ⟨j, hj, a, b⟩
          exact ⟨j, by omega, a, b⟩
        · rintro ⟨j, hj, a, b⟩
          refine ⟨j, ?_, a, b⟩
          rcases Nat.lt_or_ge j k with h' | h'
          · exact h'
          · exact absurd (by rw [show j = k by omega] at b; exact b.symm) h2
    · rw [if_neg h, ih]
      constructor
      · rintro ⟨j, hj, a, b⟩
        exact ⟨j, by omega, a, b⟩
      · rintro ⟨j, hj, a, b⟩
        refine ⟨j, ?_, a, b⟩
        rcases Nat.lt_or_ge j k with h' | h'
        · exact h'
        · exact absurd (by rw [show j = k by omega] at a; exact a) h

theorem fl_lab (ls : List Line) (long : List Bool) (x : Int) : (fl ls long x).isSome = true ↔ isLab ls x := by
  unfold fl
  rw [mp_lab]
  constructor
  · rintro ⟨j, hj, a, b⟩
    refine ⟨ls.getD j default, ?_, a, b⟩
    rw [List.getD_eq_getElem?_getD, List.getElem?_eq_getElem hj]
    exact List.getElem_mem hj
  · rintro ⟨l, hl, a, b⟩
    obtain ⟨j, hj, e⟩ := List.getElem_of_mem hl
    have e2 : ls.getD j default = l := by rw [List.getD_eq_getElem?_getD, List.getElem?_eq_getElem hj]; exact e
    exact ⟨j, hj, by rw [e2]; exact a, by rw [e2]; exact b⟩

theorem mp_fl (ls : List Line) (long : List Bool) (f : Int → Option Int) (hf : ∀ x, (f x).isSome = true → isLab ls x) : mp ls long f ls.length = fl ls long := by
  funext x
  rw [mp_or]
  show (fl ls long x).or (f x) = fl ls long x
  cases h : fl ls long x with
  | some v => rfl
  | none =>
    cases h2 : f x with
    | none => rfl
    | some v =>
      have := (fl_lab ls long x).2 (hf x (by rw [h2]; rfl))
      rw [h] at this
      cases this

theorem mp_range (ls : List Line) (long : List Bool) (h : Sized ls) (k : Nat) (x v : Int) (hv : mp ls long (fun _ => none) k x = some v) : 0 ≤ v ∧ v ≤ 402 * k := by
  induction k with
  | zero => cases hv
  | succ k ih =>
    simp only [mp] at hv
    have hp := pl_range ls long h k
    by_cases h1 : (ls.getD k default).op = 0
    · rw [if_pos h1] at hv
      by_cases h2 : x = (ls.getD k default).label
      · simp only [h2, if_true] at hv
        cases hv
        omega
      · simp only [h2, if_false] at hv
        have := ih hv
        omega
    · rw [if_neg h1] at hv
      have := ih hv
      omega

theorem at_range (ls : List Line) (long : List Bool) (h : Sized ls) (x : Int) : 0 ≤ at_ ls long x ∧ at_ ls long x ≤ 100000000 := by
  unfold at_ toW
  cases hv : fl ls long x with
  | none => exact ⟨Int.le_refl _, by decide⟩
  | some v =>
    have := mp_range ls long h ls.length x v hv
    have := h.small
    show 0 ≤ v ∧ v ≤ 100000000
    omega

theorem step_len (ls : List Line) (long : List Bool) : (step ls long).length = long.length := by simp [step]
theorem stK_len (ls : List Line) (long : List Bool) (k : Nat) : (stK ls long k).length = long.length := by simp [stK]

theorem stK_zero (ls : List Line) (long : List Bool) : stK ls long 0 = long := by
  apply List.ext_getElem
  · simp [stK]
  · intro i h1 h2
    simp [stK]

theorem stK_all (ls : List Line) (long : List Bool) (n : Nat) (h : long.length = n) : stK ls long n = step ls long := by
  apply List.ext_getElem
  · simp [stK, step]
  · intro i h1 h2
    have : i < n := by rw [stK_len] at h1; omega
    simp [stK, step, this]

theorem stK_get (ls : List Line) (long : List Bool) (k : Nat) (hk : k < long.length) : (stK ls long k).getD k false = long.getD k false := by
  simp [stK, List.getD, hk]

theorem stK_yes (ls : List Line) (long : List Bool) (k : Nat) (_hk : k < long.length) (h : need ls long k = true) : (stK ls long k).set k true = stK ls long (k + 1) := by
  apply List.ext_getElem
  · simp [stK]
  · intro i h1 h2
    rw [List.getElem_set]
    by_cases e : k = i
    · subst e
      simp [stK, h]
    · rw [if_neg e]
      have : (i < k + 1) ↔ (i < k) := by omega
      simp [stK, this]

theorem stK_no (ls : List Line) (long : List Bool) (k : Nat) (hk : k < long.length) (h : (long.getD k false || need ls long k) = long.getD k false) : stK ls long k = stK ls long (k + 1) := by
  apply List.ext_getElem
  · simp [stK]
  · intro i h1 h2
    by_cases e : k = i
    · subst e
      simp only [stK, List.getElem_mapIdx]
      have hx : long.getD k false = long[k] := by simp [List.getD, hk]
      rw [hx] at h
      simp [h]
    · have : (i < k + 1) ↔ (i < k) := by omega
      simp [stK, this]

theorem grK_succ (ls : List Line) (long : List Bool) (k : Nat) : grK ls long (k + 1) = (grK ls long k || (!long.getD k false && need ls long k)) := by
  unfold grK
  rw [List.range_succ, List.any_append]
  simp

theorem grK_step (ls : List Line) (long : List Bool) (n : Nat) (h : long.length = n) : grK ls long n = false ↔ step ls long = long := by
  unfold grK
  rw [List.any_eq_false]
  constructor
  · intro hx
    apply List.ext_getElem (step_len ls long)
    intro i h1 h2
    have := hx i (List.mem_range.2 (by omega))
    have hx2 : long.getD i false = long[i] := by simp [List.getD, h2]
    rw [hx2] at this
    simp only [step, List.getElem_mapIdx]
    cases h3 : long[i] <;> simp_all
  · intro hx i hi
    have hi' := List.mem_range.1 hi
    have hx2 : long.getD i false = long[i] := by simp [List.getD, show i < long.length by omega]
    have hx3 : (step ls long)[i]'(by rw [step_len]; omega) = long[i] := by simp [hx]
    simp only [step, List.getElem_mapIdx] at hx3
    rw [hx2]
    cases h3 : long[i] <;> simp_all

theorem cnt_lt (a b : List Bool) (hl : a.length = b.length) (h : ∀ i (h1 : i < a.length) (h2 : i < b.length), a[i] = true → b[i] = true) (hne : b ≠ a) : b.count false < a.count false := by
  induction a generalizing b with
  | nil =>
    cases b with
    | nil => exact absurd rfl hne
    | cons => cases hl
  | cons x a ih =>
    cases b with
    | nil => cases hl
    | cons y b =>
      have hl' : a.length = b.length := by simpa using hl
      have h0 := h 0 (by simp) (by simp)
      have hs : ∀ i (h1 : i < a.length) (h2 : i < b.length), a[i] = true → b[i] = true := fun i h1 h2 hh => by
        have := h (i + 1) (by simpa using h1) (by simpa using h2)
        simpa using this (by simpa using hh)
      have hle : b.count false ≤ a.count false := by
        by_cases e : b = a
        · rw [e]; exact Nat.le_refl _
        · exact Nat.le_of_lt (ih b hl' hs e)
      cases x <;> cases y
      · have := ih b hl' hs (fun e => hne (by rw [e]))
        simp; omega
      · simp; omega
      · simp at h0
      · have := ih b hl' hs (fun e => hne (by rw [e]))
        simp; omega

theorem step_lt (ls : List Line) (long : List Bool) (h : step ls long ≠ long) : (step ls long).count false < long.count false :=
  cnt_lt long (step ls long) (step_len ls long).symm (fun i h1 h2 hh => by simp [step, hh]) h

/-- All rounds: what is long in the end, and how many there were. -/
def rounds (ls : List Line) (long : List Bool) (r : Nat) : List Bool × Nat :=
  if h : step ls long = long then (long, r + 1) else rounds ls (step ls long) (r + 1)
termination_by long.count false
decreasing_by exact step_lt ls long h

end Go.Proofs.YtlhgfhmdhmgmpaaGreatDoor
