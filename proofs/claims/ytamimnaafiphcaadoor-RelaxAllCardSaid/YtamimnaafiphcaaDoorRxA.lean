/- The small functions of relax and of its reference, walked. -/
import Derived.Test.YtamimnaafiphcaaDoorEncC
import Derived.Test.YtamimnaafiphcaaDoorRl
import Derived.WalkLawsBesides
namespace Go.Proofs.YtamimnaafiphcaaDoor
open Go.RowKit Go.Proofs.YtamimnaafiphcaaDoorW.PrintWords

def isLabel (n : Int) : Bool := within 0 100000 n
def brOp (n : Int) : Bool := isBr n || n == 40
def goOp (n : Int) : Bool := brOp n || n == 41 || n == 43
/-- The other branch. -/
def otherOp (n : Int) : Int := if n = 32 ∨ n = 34 ∨ n = 36 ∨ n = 38 ∨ n = 30 then n + 1 else n - 1

theorem label_any (n : Int) (w : World) : Calls Tryd.prog 80 #[.int .i64 n] w fun e w' => e = .returned (.bool (isLabel n)) ∧ w = w' := by
  have h : n < 0 ∨ (0 ≤ n ∧ 100000 < n) ∨ (0 ≤ n ∧ n ≤ 100000) := by omega
  rcases h with h | ⟨h, h'⟩ | ⟨h, h'⟩
  · rw [show isLabel n = false from within_f (.inl h)]
    go_enter Tryd.func80, Tryd.ntmps80
    go_wp2
    go_ret
    exact ⟨rfl, rfl⟩
  · rw [show isLabel n = false from within_f (.inr h')]
    go_enter Tryd.func80, Tryd.ntmps80
    go_wp2
    go_ret
    exact ⟨by simp; omega, rfl⟩
  · rw [show isLabel n = true from within_t h h']
    go_enter Tryd.func80, Tryd.ntmps80
    go_wp2
    go_ret
    exact ⟨rfl, rfl⟩

theorem labelR_any (n : Int) (w : World) : Calls Tryd.prog 83 #[.int .i64 n] w fun e w' => e = .returned (.bool (isLabel n)) ∧ w = w' := by
  have h : n < 0 ∨ (0 ≤ n ∧ 100000 < n) ∨ (0 ≤ n ∧ n ≤ 100000) := by omega
  rcases h with h | ⟨h, h'⟩ | ⟨h, h'⟩
  · rw [show isLabel n = false from within_f (.inl h)]
    go_enter Tryd.func83, Tryd.ntmps83
    go_wp2
    go_ret
    exact ⟨rfl, rfl⟩
  · rw [show isLabel n = false from within_f (.inr h')]
    go_enter Tryd.func83, Tryd.ntmps83
    go_wp2
    go_ret
    exact ⟨by simp; omega, rfl⟩
  · rw [show isLabel n = true from within_t h h']
    go_enter Tryd.func83, Tryd.ntmps83
    go_wp2
    go_ret
    exact ⟨rfl, rfl⟩

theorem nearR_any (n : Int) (w : World) : Calls Tryd.prog 32 #[.int .i64 n] w fun e w' => e = .returned (.bool (near n)) ∧ w = w' := by
  have h : n < -128 ∨ (-128 ≤ n ∧ 127 < n) ∨ (-128 ≤ n ∧ n ≤ 127) := by omega
  rcases h with h | ⟨h, h'⟩ | ⟨h, h'⟩
  · rw [show near n = false from within_f (.inl h)]
    go_enter Tryd.func32, Tryd.ntmps32
    go_wp2
    go_ret
    exact ⟨rfl, rfl⟩
  · rw [show near n = false from within_f (.inr h')]
    go_enter Tryd.func32, Tryd.ntmps32
    go_wp2
    go_ret
    exact ⟨by simp; omega, rfl⟩
  · rw [show near n = true from within_t h h']
    go_enter Tryd.func32, Tryd.ntmps32
    go_wp2
    go_ret
    exact ⟨rfl, rfl⟩

theorem cond_any (n : Int) (w : World) : Calls Tryd.prog 65 #[.int .i64 n] w fun e w' => e = .returned (.bool (isBr n)) ∧ w = w' := by
  have h : n < 30 ∨ (30 ≤ n ∧ 39 < n) ∨ (30 ≤ n ∧ n ≤ 39) := by omega
  rcases h with h | ⟨h, h'⟩ | ⟨h, h'⟩
  · rw [show isBr n = false from within_f (.inl h)]
    go_enter Tryd.func65, Tryd.ntmps65
    go_wp2
    go_ret
    exact ⟨rfl, rfl⟩
  · rw [show isBr n = false from within_f (.inr h')]
    go_enter Tryd.func65, Tryd.ntmps65
    go_wp2
    go_ret
    exact ⟨by simp; omega, rfl⟩
  · rw [show isBr n = true from within_t h h']
    go_enter Tryd.func65, Tryd.ntmps65
    go_wp2
    go_ret
    exact ⟨rfl, rfl⟩

theorem branch_any (n : Int) (w : World) : Calls Tryd.prog 45 #[.int .i64 n] w fun e w' => e = .returned (.bool (brOp n)) ∧ w = w' := by
  have hx : isBr n = true ∨ (isBr n = false ∧ n = 40) ∨ (isBr n = false ∧ ¬ n = 40) := by cases isBr n <;> simp <;> omega
  rcases hx with h | ⟨h, h'⟩ | ⟨h, h'⟩
  all_goals
    have e : brOp n = (isBr n || n == 40) := rfl
    first | (rw [h, Bool.true_or] at e) | (rw [h, h'] at e; subst h') | (rw [h, beq_false_of_ne h'] at e)
    rw [e]
    clear e
    go_enter Tryd.func45, Tryd.ntmps45
    go_wp2_with (go_at_call 65; refine (cond_any _ _).mono ?_; rintro e w' ⟨rfl, rfl⟩)
    go_ret
    exact ⟨by simp [*], rfl⟩
theorem goes_any (n : Int) (w : World) : Calls Tryd.prog 63 #[.int .i64 n] w fun e w' => e = .returned (.bool (goOp n)) ∧ w = w' := by
  have hx : brOp n = true ∨ (brOp n = false ∧ n = 41) ∨ (brOp n = false ∧ ¬ n = 41) := by cases brOp n <;> simp <;> omega
  rcases hx with h | ⟨h, h'⟩ | ⟨h, h'⟩
  all_goals
    have e : goOp n = (brOp n || n == 41 || n == 43) := rfl
    first | (rw [h, Bool.true_or, Bool.true_or] at e) | (rw [h, h'] at e; subst h') | (rw [h, beq_false_of_ne h'] at e)
    rw [e]
    clear e
    go_enter Tryd.func63, Tryd.ntmps63
    go_wp2_with (go_at_call 45; refine (branch_any _ _).mono ?_; rintro e w' ⟨rfl, rfl⟩)
    all_goals (go_ret; exact ⟨by simp [*], rfl⟩)

theorem other_any (n : Int) (w : World) (h0 : 0 ≤ n) (h1 : n ≤ 1000) : Calls Tryd.prog 68 #[.int .i64 n] w fun e w' => e = .returned (.int .i64 (otherOp n)) ∧ w = w' := by
  go_enter Tryd.func68, Tryd.ntmps68
  go_wp2
  all_goals (go_ret; refine ⟨?_, rfl⟩; unfold otherOp; simp_all)
theorem otherR_any (n : Int) (w : World) (h : isBr n = true) : Calls Tryd.prog 54 #[.int .i64 n] w fun e w' => e = .returned (.int .i64 (otherOp n)) ∧ w = w' := by
  have hx : n = 30 ∨ n = 31 ∨ n = 32 ∨ n = 33 ∨ n = 34 ∨ n = 35 ∨ n = 36 ∨ n = 37 ∨ n = 38 ∨ n = 39 := by
    simp only [isBr, within, Bool.and_eq_true, decide_eq_true_eq] at h
    omega
  rcases hx with rfl | rfl | rfl | rfl | rfl | rfl | rfl | rfl | rfl | rfl
  all_goals
    go_enter Tryd.func54, Tryd.ntmps54
    go_wp2
    go_ret
    exact ⟨rfl, rfl⟩

/-- A line as a value, its list's slice v. -/
abbrev lineV (l : Line) (v : Value) : Value := .agg #[.int .i64 l.op, .int .i64 l.a, .int .i64 l.b, .int .i64 l.imm, .int .u32 l.n, .int .i64 l.label, v]
theorem instruction_any (l : Line) (v : Value) (w : World) : Calls Tryd.prog 66 #[lineV l v] w fun e w' => e = .returned (.agg #[.int .i64 l.op, .int .i64 l.a, .int .i64 l.b, .int .i64 l.imm]) ∧ Below w.heap.size w w' := by
  go_enter Tryd.func66, Tryd.ntmps66
  go_wp2
  go_returns
  exact ⟨rfl, by go_grown⟩
theorem branchR_any (l : Line) (v : Value) (w : World) : Calls Tryd.prog 31 #[lineV l v] w fun e w' => e = .returned (.bool (brOp l.op)) ∧ Below w.heap.size w w' := by
  have hx : isBr l.op = true ∨ (isBr l.op = false ∧ l.op = 40) ∨ (isBr l.op = false ∧ ¬ l.op = 40) := by cases isBr l.op <;> simp <;> omega
  obtain ⟨op, a, b, imm, n, lb, list⟩ := l
  simp only [] at hx
  rcases hx with h | ⟨h, h'⟩ | ⟨h, h'⟩
  all_goals
    have e : brOp op = (isBr op || op == 40) := rfl
    first | (rw [h, Bool.true_or] at e) | (rw [h, h'] at e; subst h') | (rw [h, beq_false_of_ne h'] at e)
    rw [e]
    clear e
    go_enter Tryd.func31, Tryd.ntmps31
    go_wp2_with (go_at_call 51; refine (br_any _ _).mono ?_; rintro e w' ⟨rfl, rfl⟩)
    go_ret
    exact ⟨by simp [*], by go_grown⟩
theorem goesR_any (l : Line) (v : Value) (w : World) : Calls Tryd.prog 27 #[lineV l v] w fun e w' => e = .returned (.bool (goOp l.op)) ∧ Below w.heap.size w w' := by
  have hx : brOp l.op = true ∨ (brOp l.op = false ∧ l.op = 41) ∨ (brOp l.op = false ∧ ¬ l.op = 41) := by cases brOp l.op <;> simp <;> omega
  have hB := fun W => branchR_any l v W
  obtain ⟨op, a, b, imm, n, lb, list⟩ := l
  simp only [] at hx hB
  have HB := Lib.hid hB
  clear hB
  rcases hx with h | ⟨h, h'⟩ | ⟨h, h'⟩
  all_goals
    have e : goOp op = (brOp op || op == 41 || op == 43) := rfl
    first | (rw [h, Bool.true_or, Bool.true_or] at e) | (rw [h, h'] at e; subst h') | (rw [h, beq_false_of_ne h'] at e)
    rw [e]
    clear e
    go_enter Tryd.func27, Tryd.ntmps27
    go_wp2_with fail
    refine (HB.out _).mono ?_
    rintro e1 w1 ⟨rfl, hb1⟩
    have k0 : w1.cell? ⟨w.heap.size, 0, none⟩ = some (.int .i64 _) := kp hb1 (kn 0 rfl)
    have hb2 := bt hb1
    clear hb1
    go_wp2_with fail
    all_goals (go_ret; exact ⟨by simp [*], by go_grown⟩)
end Go.Proofs.YtamimnaafiphcaaDoor
