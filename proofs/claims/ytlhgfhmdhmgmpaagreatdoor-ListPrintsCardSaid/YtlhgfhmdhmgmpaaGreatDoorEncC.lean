import Derived.Test.YtlhgfhmdhmgmpaaGreatDoorEncB
import Derived.Handy
import Derived.Deep.DeepCutAuto
import Derived.WalkLawsBesides
namespace Go.Proofs.YtlhgfhmdhmgmpaaGreatDoor
open Go.RowKit

def reg (n : Int) : Bool := within 0 11 n
def isOp (n : Int) : Bool := within 1 48 n
def isBr (n : Int) : Bool := within 30 39 n
def follows (n : Int) : Int := if n = 2 ∨ n = 41 ∨ n = 43 then 1 else if n = 42 then -1 else 0

theorem within_t {lo hi n : Int} (h : lo ≤ n) (h' : n ≤ hi) : within lo hi n = true := by simp [within, h, h']
theorem within_f {lo hi n : Int} (h : n < lo ∨ hi < n) : within lo hi n = false := by unfold within; rw [Bool.and_eq_false_iff]; simp only [decide_eq_false_iff_not]; omega

theorem reg_any (n : Int) (w : World) : Calls Tryz.prog 115 #[.int .i64 n] w fun e w' => e = .returned (.bool (reg n)) ∧ w = w' := by
  have h : n < 0 ∨ (0 ≤ n ∧ 11 < n) ∨ (0 ≤ n ∧ n ≤ 11) := by omega
  rcases h with h | ⟨h, h'⟩ | ⟨h, h'⟩
  · rw [show reg n = false from within_f (.inl h)]
    go_enter Tryz.func115, Tryz.ntmps115
    go_wp2
    go_ret
    exact ⟨rfl, rfl⟩
  · rw [show reg n = false from within_f (.inr h')]
    go_enter Tryz.func115, Tryz.ntmps115
    go_wp2
    go_ret
    exact ⟨by simp; omega, rfl⟩
  · rw [show reg n = true from within_t h h']
    go_enter Tryz.func115, Tryz.ntmps115
    go_wp2
    go_ret
    exact ⟨rfl, rfl⟩

theorem op_any (n : Int) (w : World) : Calls Tryz.prog 110 #[.int .i64 n] w fun e w' => e = .returned (.bool (isOp n)) ∧ w = w' := by
  have h : n < 1 ∨ (1 ≤ n ∧ 48 < n) ∨ (1 ≤ n ∧ n ≤ 48) := by omega
  rcases h with h | ⟨h, h'⟩ | ⟨h, h'⟩
  · rw [show isOp n = false from within_f (.inl h)]
    go_enter Tryz.func110, Tryz.ntmps110
    go_wp2
    go_ret
    exact ⟨rfl, rfl⟩
  · rw [show isOp n = false from within_f (.inr h')]
    go_enter Tryz.func110, Tryz.ntmps110
    go_wp2
    go_ret
    exact ⟨by simp; omega, rfl⟩
  · rw [show isOp n = true from within_t h h']
    go_enter Tryz.func110, Tryz.ntmps110
    go_wp2
    go_ret
    exact ⟨rfl, rfl⟩

theorem br_any (n : Int) (w : World) : Calls Tryz.prog 79 #[.int .i64 n] w fun e w' => e = .returned (.bool (isBr n)) ∧ w = w' := by
  have h : n < 30 ∨ (30 ≤ n ∧ 39 < n) ∨ (30 ≤ n ∧ n ≤ 39) := by omega
  rcases h with h | ⟨h, h'⟩ | ⟨h, h'⟩
  · rw [show isBr n = false from within_f (.inl h)]
    go_enter Tryz.func79, Tryz.ntmps79
    go_wp2
    go_ret
    exact ⟨rfl, rfl⟩
  · rw [show isBr n = false from within_f (.inr h')]
    go_enter Tryz.func79, Tryz.ntmps79
    go_wp2
    go_ret
    exact ⟨by simp; omega, rfl⟩
  · rw [show isBr n = true from within_t h h']
    go_enter Tryz.func79, Tryz.ntmps79
    go_wp2
    go_ret
    exact ⟨rfl, rfl⟩

theorem follows_enc (n : Int) (w : World) : Calls Tryz.prog 112 #[.int .i64 n] w fun e w' => e = .returned (.int .i64 (follows n)) ∧ w = w' := by
  go_enter Tryz.func112, Tryz.ntmps112
  go_wp2
  all_goals (go_ret; refine ⟨?_, rfl⟩; unfold follows; simp_all)

def wide (n : Int) : Bool := within (-32768) 32767 n
def near (n : Int) : Bool := within (-128) 127 n

/-- The reference's May, as its text says. -/
def mayR (op a b c : Int) : Bool :=
  if op = 1 then reg a && (b == 0) && wide c else
  if op = 2 ∨ op = 42 ∨ op = 45 ∨ op = 46 ∨ op = 47 then reg a && (b == 0) && (c == 0) else
  if op = 3 ∨ op = 24 ∨ op = 25 ∨ op = 26 ∨ op = 29 then reg a && reg b && (c == 0) else
  if op = 4 ∨ op = 27 ∨ op = 28 then reg a && reg b && wide c else
  if 5 ≤ op ∧ op ≤ 23 then reg a && reg b && reg c else
  if isBr op then reg a && reg b && near c else
  if op = 40 then (a == 0) && (b == 0) && near c else
  if op = 41 ∨ op = 43 ∨ op = 44 then (a == 0) && (b == 0) && (c == 0) else
  if op = 48 then (a == 0) && (b == 0) && within 0 255 c else false

end Go.Proofs.YtlhgfhmdhmgmpaaGreatDoor
