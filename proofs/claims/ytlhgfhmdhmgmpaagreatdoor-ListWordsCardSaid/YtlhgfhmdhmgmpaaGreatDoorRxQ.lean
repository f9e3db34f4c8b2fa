/- relax's answer, plainly: what a list that is not refused is like. -/
import Derived.Test.YtlhgfhmdhmgmpaaGreatDoorRxP
namespace Go.Proofs.YtlhgfhmdhmgmpaaGreatDoor
open Go.RowKit

theorem fits_list (l : Line) (h : fitsB l = true) : l.list.length ≤ 400 := by
  unfold fitsB at h
  by_cases h0 : l.op = 0
  · simp [h0] at h
    simp_all
  · simp [h0, x8] at h
    simp_all

theorem ref1_ok (ls : List Line) (seen s : List Int) (i : Nat) (h : ref1 seen i ls = .inr s) :
    (∀ l ∈ ls, 0 ≤ l.op ∧ l.op ≤ 48 ∧ fitsB l = true) ∧ ∀ x, x ∈ s ↔ x ∈ seen ∨ isLab ls x := by
  induction ls generalizing seen i with
  | nil =>
    simp only [ref1, Sum.inr.injEq] at h
    subst h
    exact ⟨by simp, fun x => by simp [isLab]⟩
  | cons l r ih =>
    simp only [ref1] at h
    by_cases h1 : l.op < 0 ∨ 48 < l.op
    · rw [if_pos h1] at h; cases h
    rw [if_neg h1] at h
    by_cases h2 : fitsB l = false
    · rw [if_pos h2] at h; cases h
    rw [if_neg h2] at h
    have hl : 0 ≤ l.op ∧ l.op ≤ 48 ∧ fitsB l = true := ⟨by omega, by omega, by simpa using h2⟩
    by_cases h3 : l.op = 0
    · rw [if_pos h3] at h
      by_cases h4 : l.label ∈ seen
      · rw [if_pos h4] at h; cases h
      rw [if_neg h4] at h
      obtain ⟨a, b⟩ := ih _ _ h
      refine ⟨fun m hm => ?_, fun x => ?_⟩
      · rcases List.mem_cons.1 hm with rfl | hm
        · exact hl
        · exact a m hm
      · rw [b x]
        constructor
        · rintro (hx | ⟨m, hm, e1, e2⟩)
          · rcases List.mem_cons.1 hx with rfl | hx
            · exact .inr ⟨l, List.mem_cons_self .., h3, rfl⟩
            · exact .inl hx
          · exact .inr ⟨m, List.mem_cons_of_mem _ hm, e1, e2⟩
        · rintro (hx | ⟨m, hm, e1, e2⟩)
          · exact .inl (List.mem_cons_of_mem _ hx)
          · rcases List.mem_cons.1 hm with rfl | hm
            · exact .inl (by rw [← e2]; exact List.mem_cons_self ..)
            · exact .inr ⟨m, hm, e1, e2⟩
    · rw [if_neg h3] at h
      obtain ⟨a, b⟩ := ih _ _ h
      refine ⟨fun m hm => ?_, fun x => ?_⟩
      · rcases List.mem_cons.1 hm with rfl | hm
        · exact hl
        · exact a m hm
      · rw [b x]
        constructor
        · rintro (hx | ⟨m, hm, e1, e2⟩)
          · exact .inl hx
          · exact .inr ⟨m, List.mem_cons_of_mem _ hm, e1, e2⟩
        · rintro (hx | ⟨m, hm, e1, e2⟩)
          · exact .inl hx
          · rcases List.mem_cons.1 hm with rfl | hm
            · exact absurd e1 h3
            · exact .inr ⟨m, hm, e1, e2⟩

structure Asm where
  words : List Int
  kinds : List Int
  places : List Int
  rounds : Nat
  line : Nat
  err : Int

def fin (ls : List Line) : List Bool × Nat := rounds ls (List.replicate ls.length false) 0

def wordsOf (ls : List Line) (long : List Bool) (k : Nat) : List Int := (List.range k).flatMap fun i => lineW (fl ls long) (long.getD i false) (pl ls long i) (ls.getD i default)
def kindsOf (ls : List Line) (long : List Bool) (k : Nat) : List Int := (List.range k).flatMap fun i => lineK (long.getD i false) (ls.getD i default)

/-- Assemble's answer. -/
def asm (ls : List Line) : Asm :=
  if (refusedP ls).2 ≠ 0 then ⟨[], [], [], 0, (refusedP ls).1, (refusedP ls).2⟩ else
  if 65536 < pl ls (fin ls).1 ls.length then ⟨[], [], [], 0, 0, 174⟩ else
  ⟨wordsOf ls (fin ls).1 ls.length, kindsOf ls (fin ls).1 ls.length, (List.range ls.length).map (pl ls (fin ls).1), (fin ls).2, 0, 0⟩

theorem wordsOf_succ (ls : List Line) (long : List Bool) (k : Nat) : wordsOf ls long (k + 1) = wordsOf ls long k ++ lineW (fl ls long) (long.getD k false) (pl ls long k) (ls.getD k default) := by
  unfold wordsOf
  rw [List.range_succ, List.flatMap_append]
  simp
theorem kindsOf_succ (ls : List Line) (long : List Bool) (k : Nat) : kindsOf ls long (k + 1) = kindsOf ls long k ++ lineK (long.getD k false) (ls.getD k default) := by
  unfold kindsOf
  rw [List.range_succ, List.flatMap_append]
  simp

theorem lineW_len (f : Int → Option Int) (lg : Bool) (p : Int) (l : Line) (h : l.list.length ≤ 400) : (lineW f lg p l).length ≤ 402 := by
  unfold lineW
  repeat' split
  all_goals (simp; try omega)
theorem lineK_len (lg : Bool) (l : Line) (h : l.list.length ≤ 400) : (lineK lg l).length ≤ 402 := by
  unfold lineK
  repeat' split
  all_goals (simp; try omega)

theorem getD_list (ls : List Line) (h : Sized ls) (k : Nat) : (ls.getD k default).list.length ≤ 400 := by
  by_cases hk : k < ls.length
  · rw [List.getD_eq_getElem?_getD, List.getElem?_eq_getElem hk]
    exact h.lists _ (List.getElem_mem hk)
  · rw [List.getD_eq_getElem?_getD, List.getElem?_eq_none (by omega)]
    exact Nat.zero_le _

theorem wordsOf_len (ls : List Line) (long : List Bool) (h : Sized ls) (k : Nat) : (wordsOf ls long k).length ≤ 402 * k := by
  induction k with
  | zero => simp [wordsOf]
  | succ k ih =>
    rw [wordsOf_succ, List.length_append]
    have := lineW_len (fl ls long) (long.getD k false) (pl ls long k) _ (getD_list ls h k)
    omega
theorem kindsOf_len (ls : List Line) (long : List Bool) (h : Sized ls) (k : Nat) : (kindsOf ls long k).length ≤ 402 * k := by
  induction k with
  | zero => simp [kindsOf]
  | succ k ih =>
    rw [kindsOf_succ, List.length_append]
    have := lineK_len (long.getD k false) _ (getD_list ls h k)
    omega

end Go.Proofs.YtlhgfhmdhmgmpaaGreatDoor
