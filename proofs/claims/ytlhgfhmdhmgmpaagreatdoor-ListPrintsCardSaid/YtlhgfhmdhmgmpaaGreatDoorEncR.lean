import Derived.Test.YtlhgfhmdhmgmpaaGreatDoorEncM
import Derived.Test.YtlhgfhmdhmgmpaaGreatDoorEncD
namespace Go.Proofs.YtlhgfhmdhmgmpaaGreatDoor
open Go.RowKit

/-- What the reference's Encode tells. -/
def encR (op a b c : Int) : Int × Int := if isOp op = false then (0, 160) else if mayR op a b c = false then (0, 161) else (word op a b c, 0)

theorem mayR_in {op a b c : Int} (h : mayR op a b c = true) : 1 ≤ op ∧ op ≤ 48 ∧ 0 ≤ a ∧ a ≤ 11 ∧ 0 ≤ b ∧ b ≤ 11 ∧ -32768 ≤ c ∧ c ≤ 32767 := by
  unfold mayR at h
  repeat' split at h
  all_goals first | exact absurd h Bool.false_ne_true | (simp only [reg, wide, near, isBr, within, Bool.and_eq_true, decide_eq_true_eq, beq_iff_eq] at *; omega)

/-- What the reference's Decode tells. -/
def decR (n : Int) : (Int × Int × Int × Int) × Int :=
  if isOp (n / 16777216) = false then ((0, 0, 0, 0), 160) else
  if mayR (n / 16777216) (n / 1048576 % 16) (n / 65536 % 16) (n % 65536) = true then ((n / 16777216, n / 1048576 % 16, n / 65536 % 16, n % 65536), 0) else
  if 32768 ≤ n % 65536 ∧ mayR (n / 16777216) (n / 1048576 % 16) (n / 65536 % 16) (n % 65536 - 65536) = true then ((n / 16777216, n / 1048576 % 16, n / 65536 % 16, n % 65536 - 65536), 0) else
  ((0, 0, 0, 0), 161)

set_option maxHeartbeats 2000000 in
theorem decR_any (n : Int) (w : World) (h0 : 0 ≤ n) (h1 : n < 4294967296) :
    Calls Tryz.prog 78 #[.int .u32 n] w fun e w' => e = .returned (.tuple #[.agg #[.int .i64 (decR n).1.1, .int .i64 (decR n).1.2.1, .int .i64 (decR n).1.2.2.1, .int .i64 (decR n).1.2.2.2], .int .i64 (decR n).2]) ∧ Below w.heap.size w w' := by
  have key : ∀ r : (Int × Int × Int × Int) × Int, decR n = r → Calls Tryz.prog 78 #[.int .u32 n] w (fun e w' => e = .returned (.tuple #[.agg #[.int .i64 r.1.1, .int .i64 r.1.2.1, .int .i64 r.1.2.2.1, .int .i64 r.1.2.2.2], .int .i64 r.2]) ∧ Below w.heap.size w w') →
      Calls Tryz.prog 78 #[.int .u32 n] w fun e w' => e = .returned (.tuple #[.agg #[.int .i64 (decR n).1.1, .int .i64 (decR n).1.2.1, .int .i64 (decR n).1.2.2.1, .int .i64 (decR n).1.2.2.2], .int .i64 (decR n).2]) ∧ Below w.heap.size w w' := fun r h => by rw [h]; exact id
  by_cases ho : isOp (n / 16777216) = false
  · refine key ((0, 0, 0, 0), 160) (by unfold decR; rw [if_pos ho]) ?_
    clear key
    go_enter Tryz.func78, Tryz.ntmps78
    go_wp2_with fail
    refine (op_any _ _).mono ?_
    rintro e w' ⟨rfl, rfl⟩
    go_wp2_with fail
    go_returns
    exact ⟨rfl, by go_grown⟩
  · have ho1 : isOp (n / 16777216) = true := by simpa using ho
    by_cases hm : mayR (n / 16777216) (n / 1048576 % 16) (n / 65536 % 16) (n % 65536) = true
    · refine key ((n / 16777216, n / 1048576 % 16, n / 65536 % 16, n % 65536), 0) (by unfold decR; rw [if_neg ho, if_pos hm]) ?_
      clear key ho
      go_enter Tryz.func78, Tryz.ntmps78
      go_wp2_with fail
      refine (op_any _ _).mono ?_
      rintro e w' ⟨rfl, rfl⟩
      go_wp2_with fail
      refine (may_anyX _ _ _ _ _).mono ?_
      rintro e w2 ⟨rfl, hb2⟩
      obtain ⟨hc2, hf2⟩ := bcell hb2
      have hs1 : w.heap.size < w2.heap.size := by have := hb2.size; simp at this; omega
      have hs2 : w.heap.size + 1 < w2.heap.size := by have := hb2.size; simp at this; omega
      have k0 : w2.cell? ⟨w.heap.size, 0, none⟩ = some (.int .i64 0) := by rw [hc2 _ _ (by simp; omega)]; simp
      have k1 : w2.cell? ⟨w.heap.size, 1, none⟩ = some (.int .i64 0) := by rw [hc2 _ _ (by simp; omega)]; simp
      have k2 : w2.cell? ⟨w.heap.size, 2, none⟩ = some (.int .i64 0) := by rw [hc2 _ _ (by simp; omega)]; simp
      have k3 : w2.cell? ⟨w.heap.size, 3, none⟩ = some (.int .i64 0) := by rw [hc2 _ _ (by simp; omega)]; simp
      have j0 : w2.cell? ⟨w.heap.size + 1, 0, none⟩ = some (.int .i64 (n / 16777216)) := by rw [hc2 _ _ (by simp)]; simp
      have j1 : w2.cell? ⟨w.heap.size + 1, 1, none⟩ = some (.int .i64 (n / 1048576 % 16)) := by rw [hc2 _ _ (by simp)]; simp
      have j2 : w2.cell? ⟨w.heap.size + 1, 2, none⟩ = some (.int .i64 (n / 65536 % 16)) := by rw [hc2 _ _ (by simp)]; simp
      have j3 : w2.cell? ⟨w.heap.size + 1, 3, none⟩ = some (.int .i64 (n % 65536)) := by rw [hc2 _ _ (by simp)]; simp
      have q0 : w2.frozen? ⟨w.heap.size, 0, none⟩ = false := by rw [hf2 _ _ (by simp; omega)]; simp
      have q1 : w2.frozen? ⟨w.heap.size, 1, none⟩ = false := by rw [hf2 _ _ (by simp; omega)]; simp
      have q2 : w2.frozen? ⟨w.heap.size, 2, none⟩ = false := by rw [hf2 _ _ (by simp; omega)]; simp
      have q3 : w2.frozen? ⟨w.heap.size, 3, none⟩ = false := by rw [hf2 _ _ (by simp; omega)]; simp
      have q4 : w2.frozen? ⟨w.heap.size + 1, 3, none⟩ = false := by rw [hf2 _ _ (by simp)]; simp
      have hb3 : Below w.heap.size w w2 := Below.trans (b := (w.alloc (.cells #[.int .i64 0, .int .i64 0, .int .i64 0, .int .i64 0] 99)).alloc (.cells #[.int .i64 (n / 16777216), .int .i64 (n / 1048576 % 16), .int .i64 (n / 65536 % 16), .int .i64 (n % 65536)] 99)) (by go_grown) (hb2.mono (by simp; omega))
      clear hc2 hf2
      go_wp2_with fail
      refine bodyPost_ret (v := .tuple #[.agg #[.int .i64 (n / 16777216), .int .i64 (n / 1048576 % 16), .int .i64 (n / 65536 % 16), .int .i64 (n % 65536)], .int .i64 0]) (by simp [results, Tryz.results78, go_sem, k0, k1, k2, k3]) rfl ⟨rfl, ?_⟩
      go_grown
    · have hmf : mayR (n / 16777216) (n / 1048576 % 16) (n / 65536 % 16) (n % 65536) = false := by simpa using hm
      by_cases hg : 32768 ≤ n % 65536
      · by_cases hn : mayR (n / 16777216) (n / 1048576 % 16) (n / 65536 % 16) (n % 65536 - 65536) = true
        · refine key ((n / 16777216, n / 1048576 % 16, n / 65536 % 16, n % 65536 - 65536), 0) (by unfold decR; rw [if_neg ho, if_neg hm, if_pos ⟨hg, hn⟩]) ?_
          clear key ho hm
          go_enter Tryz.func78, Tryz.ntmps78
          go_wp2_with fail
          refine (op_any _ _).mono ?_
          rintro e w' ⟨rfl, rfl⟩
          go_wp2_with fail
          refine (may_anyX _ _ _ _ _).mono ?_
          rintro e w2 ⟨rfl, hb2⟩
          obtain ⟨hc2, hf2⟩ := bcell hb2
          have hs1 : w.heap.size < w2.heap.size := by have := hb2.size; simp at this; omega
          have hs2 : w.heap.size + 1 < w2.heap.size := by have := hb2.size; simp at this; omega
          have k0 : w2.cell? ⟨w.heap.size, 0, none⟩ = some (.int .i64 0) := by rw [hc2 _ _ (by simp; omega)]; simp
          have k1 : w2.cell? ⟨w.heap.size, 1, none⟩ = some (.int .i64 0) := by rw [hc2 _ _ (by simp; omega)]; simp
          have k2 : w2.cell? ⟨w.heap.size, 2, none⟩ = some (.int .i64 0) := by rw [hc2 _ _ (by simp; omega)]; simp
          have k3 : w2.cell? ⟨w.heap.size, 3, none⟩ = some (.int .i64 0) := by rw [hc2 _ _ (by simp; omega)]; simp
          have j0 : w2.cell? ⟨w.heap.size + 1, 0, none⟩ = some (.int .i64 (n / 16777216)) := by rw [hc2 _ _ (by simp)]; simp
          have j1 : w2.cell? ⟨w.heap.size + 1, 1, none⟩ = some (.int .i64 (n / 1048576 % 16)) := by rw [hc2 _ _ (by simp)]; simp
          have j2 : w2.cell? ⟨w.heap.size + 1, 2, none⟩ = some (.int .i64 (n / 65536 % 16)) := by rw [hc2 _ _ (by simp)]; simp
          have j3 : w2.cell? ⟨w.heap.size + 1, 3, none⟩ = some (.int .i64 (n % 65536)) := by rw [hc2 _ _ (by simp)]; simp
          have q0 : w2.frozen? ⟨w.heap.size, 0, none⟩ = false := by rw [hf2 _ _ (by simp; omega)]; simp
          have q1 : w2.frozen? ⟨w.heap.size, 1, none⟩ = false := by rw [hf2 _ _ (by simp; omega)]; simp
          have q2 : w2.frozen? ⟨w.heap.size, 2, none⟩ = false := by rw [hf2 _ _ (by simp; omega)]; simp
          have q3 : w2.frozen? ⟨w.heap.size, 3, none⟩ = false := by rw [hf2 _ _ (by simp; omega)]; simp
          have q4 : w2.frozen? ⟨w.heap.size + 1, 3, none⟩ = false := by rw [hf2 _ _ (by simp)]; simp
          have hb3 : Below w.heap.size w w2 := Below.trans (b := (w.alloc (.cells #[.int .i64 0, .int .i64 0, .int .i64 0, .int .i64 0] 99)).alloc (.cells #[.int .i64 (n / 16777216), .int .i64 (n / 1048576 % 16), .int .i64 (n / 65536 % 16), .int .i64 (n % 65536)] 99)) (by go_grown) (hb2.mono (by simp; omega))
          go_wp2_with fail
          refine (may_anyX _ _ _ _ _).mono ?_
          rintro e w3 ⟨rfl, hb3'⟩
          obtain ⟨hc3, hf3⟩ := bcell hb3'
          have hs3 : w.heap.size < w3.heap.size := by have := hb3'.size; simp at this; omega
          have hs4 : w.heap.size + 1 < w3.heap.size := by have := hb3'.size; simp at this; omega
          have k0' : w3.cell? ⟨w.heap.size, 0, none⟩ = some (.int .i64 0) := by rw [hc3 _ _ (by rw [World.size_setCell]; omega)]; simp [go_sem, k0]
          have k1' : w3.cell? ⟨w.heap.size, 1, none⟩ = some (.int .i64 0) := by rw [hc3 _ _ (by rw [World.size_setCell]; omega)]; simp [go_sem, k1]
          have k2' : w3.cell? ⟨w.heap.size, 2, none⟩ = some (.int .i64 0) := by rw [hc3 _ _ (by rw [World.size_setCell]; omega)]; simp [go_sem, k2]
          have k3' : w3.cell? ⟨w.heap.size, 3, none⟩ = some (.int .i64 0) := by rw [hc3 _ _ (by rw [World.size_setCell]; omega)]; simp [go_sem, k3]
          have j0' : w3.cell? ⟨w.heap.size + 1, 0, none⟩ = some (.int .i64 (n / 16777216)) := by rw [hc3 _ _ (by rw [World.size_setCell]; omega)]; simp [go_sem, j0]
          have j1' : w3.cell? ⟨w.heap.size + 1, 1, none⟩ = some (.int .i64 (n / 1048576 % 16)) := by rw [hc3 _ _ (by rw [World.size_setCell]; omega)]; simp [go_sem, j1]
          have j2' : w3.cell? ⟨w.heap.size + 1, 2, none⟩ = some (.int .i64 (n / 65536 % 16)) := by rw [hc3 _ _ (by rw [World.size_setCell]; omega)]; simp [go_sem, j2]
          have j3' : w3.cell? ⟨w.heap.size + 1, 3, none⟩ = some (.int .i64 (n % 65536 - 65536)) := by rw [hc3 _ _ (by rw [World.size_setCell]; omega)]; simp [go_sem, j3]
          have q0' : w3.frozen? ⟨w.heap.size, 0, none⟩ = false := by rw [hf3 _ _ (by rw [World.size_setCell]; omega)]; simp [go_sem, q0]
          have q1' : w3.frozen? ⟨w.heap.size, 1, none⟩ = false := by rw [hf3 _ _ (by rw [World.size_setCell]; omega)]; simp [go_sem, q1]
          have q2' : w3.frozen? ⟨w.heap.size, 2, none⟩ = false := by rw [hf3 _ _ (by rw [World.size_setCell]; omega)]; simp [go_sem, q2]
          have q3' : w3.frozen? ⟨w.heap.size, 3, none⟩ = false := by rw [hf3 _ _ (by rw [World.size_setCell]; omega)]; simp [go_sem, q3]
          have hb4 : Below w.heap.size w w3 := Below.trans (b := w2.setCell ⟨w.heap.size + 1, 3, none⟩ (.int .i64 (n % 65536 - 65536))) (by go_grown) (hb3'.mono (by simp; omega))
          clear hc2 hf2 hc3 hf3 k0 k1 k2 k3 j0 j1 j2 j3
          go_wp2_with fail
          refine bodyPost_ret (v := .tuple #[.agg #[.int .i64 (n / 16777216), .int .i64 (n / 1048576 % 16), .int .i64 (n / 65536 % 16), .int .i64 (n % 65536 - 65536)], .int .i64 0]) (by simp [results, Tryz.results78, go_sem, k0', k1', k2', k3']) rfl ⟨rfl, ?_⟩
          go_grown
        · have hnf : mayR (n / 16777216) (n / 1048576 % 16) (n / 65536 % 16) (n % 65536 - 65536) = false := by simpa using hn
          refine key ((0, 0, 0, 0), 161) (by unfold decR; rw [if_neg ho, if_neg hm, if_neg (fun h => hn h.2)]) ?_
          clear key ho hm hn
          go_enter Tryz.func78, Tryz.ntmps78
          go_wp2_with fail
          refine (op_any _ _).mono ?_
          rintro e w' ⟨rfl, rfl⟩
          go_wp2_with fail
          refine (may_anyX _ _ _ _ _).mono ?_
          rintro e w2 ⟨rfl, hb2⟩
          obtain ⟨hc2, hf2⟩ := bcell hb2
          have hs1 : w.heap.size < w2.heap.size := by have := hb2.size; simp at this; omega
          have hs2 : w.heap.size + 1 < w2.heap.size := by have := hb2.size; simp at this; omega
          have k0 : w2.cell? ⟨w.heap.size, 0, none⟩ = some (.int .i64 0) := by rw [hc2 _ _ (by simp; omega)]; simp
          have k1 : w2.cell? ⟨w.heap.size, 1, none⟩ = some (.int .i64 0) := by rw [hc2 _ _ (by simp; omega)]; simp
          have k2 : w2.cell? ⟨w.heap.size, 2, none⟩ = some (.int .i64 0) := by rw [hc2 _ _ (by simp; omega)]; simp
          have k3 : w2.cell? ⟨w.heap.size, 3, none⟩ = some (.int .i64 0) := by rw [hc2 _ _ (by simp; omega)]; simp
          have j0 : w2.cell? ⟨w.heap.size + 1, 0, none⟩ = some (.int .i64 (n / 16777216)) := by rw [hc2 _ _ (by simp)]; simp
          have j1 : w2.cell? ⟨w.heap.size + 1, 1, none⟩ = some (.int .i64 (n / 1048576 % 16)) := by rw [hc2 _ _ (by simp)]; simp
          have j2 : w2.cell? ⟨w.heap.size + 1, 2, none⟩ = some (.int .i64 (n / 65536 % 16)) := by rw [hc2 _ _ (by simp)]; simp
          have j3 : w2.cell? ⟨w.heap.size + 1, 3, none⟩ = some (.int .i64 (n % 65536)) := by rw [hc2 _ _ (by simp)]; simp
          have q0 : w2.frozen? ⟨w.heap.size, 0, none⟩ = false := by rw [hf2 _ _ (by simp; omega)]; simp
          have q1 : w2.frozen? ⟨w.heap.size, 1, none⟩ = false := by rw [hf2 _ _ (by simp; omega)]; simp
          have q2 : w2.frozen? ⟨w.heap.size, 2, none⟩ = false := by rw [hf2 _ _ (by simp; omega)]; simp
          have q3 : w2.frozen? ⟨w.heap.size, 3, none⟩ = false := by rw [hf2 _ _ (by simp; omega)]; simp
          have q4 : w2.frozen? ⟨w.heap.size + 1, 3, none⟩ = false := by rw [hf2 _ _ (by simp)]; simp
          have hb3 : Below w.heap.size w w2 := Below.trans (b := (w.alloc (.cells #[.int .i64 0, .int .i64 0, .int .i64 0, .int .i64 0] 99)).alloc (.cells #[.int .i64 (n / 16777216), .int .i64 (n / 1048576 % 16), .int .i64 (n / 65536 % 16), .int .i64 (n % 65536)] 99)) (by go_grown) (hb2.mono (by simp; omega))
          go_wp2_with fail
          refine (may_anyX _ _ _ _ _).mono ?_
          rintro e w3 ⟨rfl, hb3'⟩
          obtain ⟨hc3, hf3⟩ := bcell hb3'
          have hs3 : w.heap.size < w3.heap.size := by have := hb3'.size; simp at this; omega
          have hs4 : w.heap.size + 1 < w3.heap.size := by have := hb3'.size; simp at this; omega
          have k0' : w3.cell? ⟨w.heap.size, 0, none⟩ = some (.int .i64 0) := by rw [hc3 _ _ (by rw [World.size_setCell]; omega)]; simp [go_sem, k0]
          have k1' : w3.cell? ⟨w.heap.size, 1, none⟩ = some (.int .i64 0) := by rw [hc3 _ _ (by rw [World.size_setCell]; omega)]; simp [go_sem, k1]
          have k2' : w3.cell? ⟨w.heap.size, 2, none⟩ = some (.int .i64 0) := by rw [hc3 _ _ (by rw [World.size_setCell]; omega)]; simp [go_sem, k2]
          have k3' : w3.cell? ⟨w.heap.size, 3, none⟩ = some (.int .i64 0) := by rw [hc3 _ _ (by rw [World.size_setCell]; omega)]; simp [go_sem, k3]
          have j0' : w3.cell? ⟨w.heap.size + 1, 0, none⟩ = some (.int .i64 (n / 16777216)) := by rw [hc3 _ _ (by rw [World.size_setCell]; omega)]; simp [go_sem, j0]
          have j1' : w3.cell? ⟨w.heap.size + 1, 1, none⟩ = some (.int .i64 (n / 1048576 % 16)) := by rw [hc3 _ _ (by rw [World.size_setCell]; omega)]; simp [go_sem, j1]
          have j2' : w3.cell? ⟨w.heap.size + 1, 2, none⟩ = some (.int .i64 (n / 65536 % 16)) := by rw [hc3 _ _ (by rw [World.size_setCell]; omega)]; simp [go_sem, j2]
          have j3' : w3.cell? ⟨w.heap.size + 1, 3, none⟩ = some (.int .i64 (n % 65536 - 65536)) := by rw [hc3 _ _ (by rw [World.size_setCell]; omega)]; simp [go_sem, j3]
          have q0' : w3.frozen? ⟨w.heap.size, 0, none⟩ = false := by rw [hf3 _ _ (by rw [World.size_setCell]; omega)]; simp [go_sem, q0]
          have q1' : w3.frozen? ⟨w.heap.size, 1, none⟩ = false := by rw [hf3 _ _ (by rw [World.size_setCell]; omega)]; simp [go_sem, q1]
          have q2' : w3.frozen? ⟨w.heap.size, 2, none⟩ = false := by rw [hf3 _ _ (by rw [World.size_setCell]; omega)]; simp [go_sem, q2]
          have q3' : w3.frozen? ⟨w.heap.size, 3, none⟩ = false := by rw [hf3 _ _ (by rw [World.size_setCell]; omega)]; simp [go_sem, q3]
          have hb4 : Below w.heap.size w w3 := Below.trans (b := w2.setCell ⟨w.heap.size + 1, 3, none⟩ (.int .i64 (n % 65536 - 65536))) (by go_grown) (hb3'.mono (by simp; omega))
          clear hc2 hf2 hc3 hf3 k0 k1 k2 k3 j0 j1 j2 j3
          go_wp2_with fail
          refine bodyPost_ret (v := .tuple #[.agg #[.int .i64 0, .int .i64 0, .int .i64 0, .int .i64 0], .int .i64 161]) (by simp [results, Tryz.results78, go_sem, k0', k1', k2', k3']) rfl ⟨rfl, ?_⟩
          go_grown
      · refine key ((0, 0, 0, 0), 161) (by unfold decR; rw [if_neg ho, if_neg hm, if_neg (fun h => hg h.1)]) ?_
        clear key ho hm
        go_enter Tryz.func78, Tryz.ntmps78
        go_wp2_with fail
        refine (op_any _ _).mono ?_
        rintro e w' ⟨rfl, rfl⟩
        go_wp2_with fail
        refine (may_anyX _ _ _ _ _).mono ?_
        rintro e w2 ⟨rfl, hb2⟩
        obtain ⟨hc2, hf2⟩ := bcell hb2
        have hs1 : w.heap.size < w2.heap.size := by have := hb2.size; simp at this; omega
        have hs2 : w.heap.size + 1 < w2.heap.size := by have := hb2.size; simp at this; omega
        have k0 : w2.cell? ⟨w.heap.size, 0, none⟩ = some (.int .i64 0) := by rw [hc2 _ _ (by simp; omega)]; simp
        have k1 : w2.cell? ⟨w.heap.size, 1, none⟩ = some (.int .i64 0) := by rw [hc2 _ _ (by simp; omega)]; simp
        have k2 : w2.cell? ⟨w.heap.size, 2, none⟩ = some (.int .i64 0) := by rw [hc2 _ _ (by simp; omega)]; simp
        have k3 : w2.cell? ⟨w.heap.size, 3, none⟩ = some (.int .i64 0) := by rw [hc2 _ _ (by simp; omega)]; simp
        have j0 : w2.cell? ⟨w.heap.size + 1, 0, none⟩ = some (.int .i64 (n / 16777216)) := by rw [hc2 _ _ (by simp)]; simp
        have j1 : w2.cell? ⟨w.heap.size + 1, 1, none⟩ = some (.int .i64 (n / 1048576 % 16)) := by rw [hc2 _ _ (by simp)]; simp
        have j2 : w2.cell? ⟨w.heap.size + 1, 2, none⟩ = some (.int .i64 (n / 65536 % 16)) := by rw [hc2 _ _ (by simp)]; simp
        have j3 : w2.cell? ⟨w.heap.size + 1, 3, none⟩ = some (.int .i64 (n % 65536)) := by rw [hc2 _ _ (by simp)]; simp
        have q0 : w2.frozen? ⟨w.heap.size, 0, none⟩ = false := by rw [hf2 _ _ (by simp; omega)]; simp
        have q1 : w2.frozen? ⟨w.heap.size, 1, none⟩ = false := by rw [hf2 _ _ (by simp; omega)]; simp
        have q2 : w2.frozen? ⟨w.heap.size, 2, none⟩ = false := by rw [hf2 _ _ (by simp; omega)]; simp
        have q3 : w2.frozen? ⟨w.heap.size, 3, none⟩ = false := by rw [hf2 _ _ (by simp; omega)]; simp
        have q4 : w2.frozen? ⟨w.heap.size + 1, 3, none⟩ = false := by rw [hf2 _ _ (by simp)]; simp
        have hb3 : Below w.heap.size w w2 := Below.trans (b := (w.alloc (.cells #[.int .i64 0, .int .i64 0, .int .i64 0, .int .i64 0] 99)).alloc (.cells #[.int .i64 (n / 16777216), .int .i64 (n / 1048576 % 16), .int .i64 (n / 65536 % 16), .int .i64 (n % 65536)] 99)) (by go_grown) (hb2.mono (by simp; omega))
        clear hc2 hf2
        go_wp2_with fail
        refine bodyPost_ret (v := .tuple #[.agg #[.int .i64 0, .int .i64 0, .int .i64 0, .int .i64 0], .int .i64 161]) (by simp [results, Tryz.results78, go_sem, k0, k1, k2, k3]) rfl ⟨rfl, ?_⟩
        go_grown

end Go.Proofs.YtlhgfhmdhmgmpaaGreatDoor
