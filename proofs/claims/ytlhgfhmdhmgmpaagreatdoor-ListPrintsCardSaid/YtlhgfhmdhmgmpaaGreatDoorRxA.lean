/- The small functions of relax and of its reference, walked. -/
import Derived.Test.YtlhgfhmdhmgmpaaGreatDoorEncC
import Derived.Test.YtlhgfhmdhmgmpaaGreatDoorRl
import Derived.WalkLawsBesides
namespace Go.Proofs.YtlhgfhmdhmgmpaaGreatDoor
open Go.RowKit Go.Proofs.YtlhgfhmdhmgmpaaGreatDoorW.PrintWords

def isLabel (n : Int) : Bool := within 0 100000 n
def brOp (n : Int) : Bool := isBr n || n == 40
def goOp (n : Int) : Bool := brOp n || n == 41 || n == 43
/-- The other branch. -/
def otherOp (n : Int) : Int := if n = 32 ∨ n = 34 ∨ n = 36 ∨ n = 38 ∨ n = 30 then n + 1 else n - 1

theorem label_any (n : Int) (w : World) : Calls Tryz.prog 111 #[.int .i64 n] w fun e w' => e = .returned (.bool (isLabel n)) ∧ w = w' := by
  have h : n < 0 ∨ (0 ≤ n ∧ 100000 < n) ∨ (0 ≤ n ∧ n ≤ 100000) := by omega
  rcases h with h | ⟨h, h'⟩ | ⟨h, h'⟩
  · rw [show isLabel n = false from within_f (.inl h)]
    go_enter Tryz.func111, Tryz.ntmps111
    go_wp2
    go_ret
    exact ⟨rfl, rfl⟩
  · rw [show isLabel n = false from within_f (.inr h')]
    go_enter Tryz.func111, Tryz.ntmps111
    go_wp2
    go_ret
    exact ⟨by simp; omega, rfl⟩
  · rw [show isLabel n = true from within_t h h']
    go_enter Tryz.func111, Tryz.ntmps111
    go_wp2
    go_ret
    exact ⟨rfl, rfl⟩

theorem labelR_any (n : Int) (w : World) : Calls Tryz.prog 93 #[.int .i64 n] w fun e w' => e = .returned (.bool (isLabel n)) ∧ w = w' := by
  have h : n < 0 ∨ (0 ≤ n ∧ 100000 < n) ∨ (0 ≤ n ∧ n ≤ 100000) := by omega
  rcases h with h | ⟨h, h'⟩ | ⟨h, h'⟩
  · rw [show isLabel n = false from within_f (.inl h)]
    go_enter Tryz.func93, Tryz.ntmps93
    go_wp2
    go_ret
    exact ⟨rfl, rfl⟩
  · rw [show isLabel n = false from within_f (.inr h')]
    go_enter Tryz.func93, Tryz.ntmps93
    go_wp2
    go_ret
    exact ⟨by simp; omega, rfl⟩
  · rw [show isLabel n = true from within_t h h']
    go_enter Tryz.func93, Tryz.ntmps93
    go_wp2
    go_ret
    exact ⟨rfl, rfl⟩

theorem cond_any (n : Int) (w : World) : Calls Tryz.prog 83 #[.int .i64 n] w fun e w' => e = .returned (.bool (isBr n)) ∧ w = w' := by
  have h : n < 30 ∨ (30 ≤ n ∧ 39 < n) ∨ (30 ≤ n ∧ n ≤ 39) := by omega
  rcases h with h | ⟨h, h'⟩ | ⟨h, h'⟩
  · rw [show isBr n = false from within_f (.inl h)]
    go_enter Tryz.func83, Tryz.ntmps83
    go_wp2
    go_ret
    exact ⟨rfl, rfl⟩
  · rw [show isBr n = false from within_f (.inr h')]
    go_enter Tryz.func83, Tryz.ntmps83
    go_wp2
    go_ret
    exact ⟨by simp; omega, rfl⟩
  · rw [show isBr n = true from within_t h h']
    go_enter Tryz.func83, Tryz.ntmps83
    go_wp2
    go_ret
    exact ⟨rfl, rfl⟩

theorem branch_any (n : Int) (w : World) : Calls Tryz.prog 42 #[.int .i64 n] w fun e w' => e = .returned (.bool (brOp n)) ∧ w = w' := by
  have hx : isBr n = true ∨ (isBr n = false ∧ n = 40) ∨ (isBr n = false ∧ ¬ n = 40) := by cases isBr n <;> simp <;> omega
  rcases hx with h | ⟨h, h'⟩ | ⟨h, h'⟩
  all_goals
    have e : brOp n = (isBr n || n == 40) := rfl
    first | (rw [h, Bool.true_or] at e) | (rw [h, h'] at e; subst h') | (rw [h, beq_false_of_ne h'] at e)
    rw [e]
    clear e
    go_enter Tryz.func42, Tryz.ntmps42
    go_wp2_with (go_at_call 83; refine (cond_any _ _).mono ?_; rintro e w' ⟨rfl, rfl⟩)
    go_ret
    exact ⟨by simp [*], rfl⟩
theorem goes_any (n : Int) (w : World) : Calls Tryz.prog 81 #[.int .i64 n] w fun e w' => e = .returned (.bool (goOp n)) ∧ w = w' := by
  have hx : brOp n = true ∨ (brOp n = false ∧ n = 41) ∨ (brOp n = false ∧ ¬ n = 41) := by cases brOp n <;> simp <;> omega
  rcases hx with h | ⟨h, h'⟩ | ⟨h, h'⟩
  all_goals
    have e : goOp n = (brOp n || n == 41 || n == 43) := rfl
    first | (rw [h, Bool.true_or, Bool.true_or] at e) | (rw [h, h'] at e; subst h') | (rw [h, beq_false_of_ne h'] at e)
    rw [e]
    clear e
    go_enter Tryz.func81, Tryz.ntmps81
    go_wp2_with (go_at_call 42; refine (branch_any _ _).mono ?_; rintro e w' ⟨rfl, rfl⟩)
    all_goals (go_ret; exact ⟨by simp [*], rfl⟩)

theorem other_any (n : Int) (w : World) (h0 : 0 ≤ n) (h1 : n ≤ 1000) : Calls Tryz.prog 86 #[.int .i64 n] w fun e w' => e = .returned (.int .i64 (otherOp n)) ∧ w = w' := by
  go_enter Tryz.func86, Tryz.ntmps86
  go_wp2
  all_goals (go_ret; refine ⟨?_, rfl⟩; unfold otherOp; simp_all)

/-- A line as a value, its list's slice v. -/
abbrev lineVX (l : Line) (v : Value) : Value := .agg #[.int .i64 l.op, .int .i64 l.a, .int .i64 l.b, .int .i64 l.imm, .int .u32 l.n, .int .i64 l.label, v]
theorem instruction_any (l : Line) (v : Value) (w : World) : Calls Tryz.prog 84 #[lineVX l v] w fun e w' => e = .returned (.agg #[.int .i64 l.op, .int .i64 l.a, .int .i64 l.b, .int .i64 l.imm]) ∧ Below w.heap.size w w' := by
  go_enter Tryz.func84, Tryz.ntmps84
  go_wp2
  go_returns
  exact ⟨rfl, by go_grown⟩
theorem branchR_any (l : Line) (v : Value) (w : World) : Calls Tryz.prog 96 #[lineVX l v] w fun e w' => e = .returned (.bool (brOp l.op)) ∧ Below w.heap.size w w' := by
  have hx : isBr l.op = true ∨ (isBr l.op = false ∧ l.op = 40) ∨ (isBr l.op = false ∧ ¬ l.op = 40) := by cases isBr l.op <;> simp <;> omega
  obtain ⟨op, a, b, imm, n, lb, list⟩ := l
  simp only [] at hx
  rcases hx with h | ⟨h, h'⟩ | ⟨h, h'⟩
  all_goals
    have e : brOp op = (isBr op || op == 40) := rfl
    first | (rw [h, Bool.true_or] at e) | (rw [h, h'] at e; subst h') | (rw [h, beq_false_of_ne h'] at e)
    rw [e]
    clear e
    go_enter Tryz.func96, Tryz.ntmps96
    go_wp2_with (go_at_call 79; refine (br_any _ _).mono ?_; rintro e w' ⟨rfl, rfl⟩)
    go_ret
    exact ⟨by simp [*], by go_grown⟩
theorem goesR_any (l : Line) (v : Value) (w : World) : Calls Tryz.prog 56 #[lineVX l v] w fun e w' => e = .returned (.bool (goOp l.op)) ∧ Below w.heap.size w w' := by
  have hx : brOp l.op = true ∨ (brOp l.op = false ∧ l.op = 41) ∨ (brOp l.op = false ∧ ¬ l.op = 41) := by cases brOp l.op <;> simp <;> omega
  have hB := fun W => branchR_any l v W
  obtain ⟨op, a, b, imm, n, lb, list⟩ := l
  simp only [] at hx hB
  have HB := Lib.hid hB
  clear hB
  rcases hx with h | ⟨h, h'⟩ | ⟨h, h'⟩
  all_goals
    have e : goOp op = (brOp op || op == 41 || op == 43) := rfl
    first | (rw [h, Bool.true_or, Bool.true_or] at e) | (rw [h, h'] at e; subst h') | (rw [h, beq_false_of_ne h'] at e)
    rw [e]
    clear e
    go_enter Tryz.func56, Tryz.ntmps56
    go_wp2_with fail
    refine (HB.out _).mono ?_
    rintro e1 w1 ⟨rfl, hb1⟩
    have k0 : w1.cell? ⟨w.heap.size, 0, none⟩ = some (.int .i64 _) := kp hb1 (kn 0 rfl)
    have hb2 := bt hb1
    clear hb1
    go_wp2_with fail
    all_goals (go_ret; exact ⟨by simp [*], by go_grown⟩)
end Go.Proofs.YtlhgfhmdhmgmpaaGreatDoor
