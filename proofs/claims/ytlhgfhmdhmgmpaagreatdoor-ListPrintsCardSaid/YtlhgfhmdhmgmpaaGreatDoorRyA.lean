/- The assembler's reference: may a line be? -/
import Derived.Test.YtlhgfhmdhmgmpaaGreatDoorRxG
import Derived.Test.YtlhgfhmdhmgmpaaGreatDoorEncM
import Derived.Deep.RegionHeld
set_option linter.unusedVariables false
set_option linter.unusedSimpArgs false
namespace Go.Proofs.YtlhgfhmdhmgmpaaGreatDoor
open Go.RowKit Go.Proofs.YtlhgfhmdhmgmpaaGreatDoorW.PrintWords Go.Joins

def mayL (l : Line) : Bool :=
  if l.op = 0 then (l.a == 0) && (l.b == 0) && (l.imm == 0) && (l.n == 0) && (l.list.length == 0) && isLabel l.label else
  if goOp l.op = true then mayR l.op l.a l.b 0 && (l.imm == 0) && (l.n == 0) && (l.list.length == 0) && isLabel l.label else
  if l.op = 42 then l.list.all isLabel && (mayR l.op l.a l.b l.imm && (l.n == 0) && (l.label == 0) && decide (1 ≤ l.list.length) && decide (l.list.length ≤ 400)) else
  if l.op = 2 then mayR l.op l.a l.b l.imm && (l.label == 0) && (l.list.length == 0) else
  mayR l.op l.a l.b l.imm && (l.n == 0) && (l.label == 0) && (l.list.length == 0)

theorem cast_beq (n : Nat) : ((n : Int) == 0) = (n == 0) := by
  rw [Bool.eq_iff_iff]
  simp

set_option maxRecDepth 100000 in
set_option maxHeartbeats 4000000 in
theorem mayL_label (l : Line) (v : Value) (w : World) (hv : Ints w v l.list) (h0 : l.op = 0) :
    Calls Tryz.prog 53 #[lineVX l v] w fun e w' => e = .returned (.bool (mayL l)) ∧ Below w.heap.size w w' := by
  have HV := Lib.hid hv
  obtain ⟨A, c, rfl, hr⟩ := hv
  have hm : l.list.length ≤ 9223372036854775807 := hr.2.1
  clear hr
  have hI := fun W => goesR_any l (.slice A l.list.length c) W
  have hM := fun W => may_anyX l.op l.a l.b l.imm W
  have E := Lib.hid (show mayL l = ((l.a == 0) && (l.b == 0) && (l.imm == 0) && (l.n == 0) && (l.list.length == 0) && isLabel l.label) by unfold mayL; rw [if_pos h0])
  generalize hf : mayL l = bf at E ⊢
  clear hf
  obtain ⟨op, a, b, imm, n, lb, list⟩ := l
  simp only [] at hI hM HV E hm h0 ⊢
  generalize hmb : mayR op a b imm = mb at hM E
  clear hmb
  subst h0
  have HI := Lib.hid hI
  have HMM := Lib.hid hM
  clear hI hM
  dsimp only [lineVX]
  go_enter Tryz.func53, Tryz.ntmps53
  go_wp2_with fail
  refine (HI.out _).mono ?_
  rintro e1 w1 ⟨rfl, hb1⟩
  have k0 : w1.cell? ⟨w.heap.size, 0, none⟩ = some (.int .i64 _) := kp hb1 (ka _ (kn 0 rfl))
  have k1 : w1.cell? ⟨w.heap.size, 1, none⟩ = some (.int .i64 _) := kp hb1 (ka _ (kn 1 rfl))
  have k2 : w1.cell? ⟨w.heap.size, 2, none⟩ = some (.int .i64 _) := kp hb1 (ka _ (kn 2 rfl))
  have k3 : w1.cell? ⟨w.heap.size, 3, none⟩ = some (.int .i64 _) := kp hb1 (ka _ (kn 3 rfl))
  have k4 : w1.cell? ⟨w.heap.size, 4, none⟩ = some (.int .u32 _) := kp hb1 (ka _ (kn 4 rfl))
  have k5 : w1.cell? ⟨w.heap.size, 5, none⟩ = some (.int .i64 _) := kp hb1 (ka _ (kn 5 rfl))
  have k6 : w1.cell? ⟨w.heap.size, 6, none⟩ = some (.slice _ _ _) := kp hb1 (ka _ (kn 6 rfl))
  have blkC : w1.heap[w.heap.size + 1]? = some (.cells #[.int .i64 0, .int .i64 a, .int .i64 b, .int .i64 imm] 99 (0, 0)) := below_blk hb1 (by
    have := heap_alloc_new (w.alloc (.cells #[.int .i64 0, .int .i64 a, .int .i64 b, .int .i64 imm, .int .u32 n, .int .i64 lb, .slice A list.length c] 49)) (.cells #[.int .i64 0, .int .i64 a, .int .i64 b, .int .i64 imm] 99)
    rwa [World.size_alloc] at this)
  have j0 := cell_of_block blkC 0
  have j1 := cell_of_block blkC 1
  have j2 := cell_of_block blkC 2
  have j3 := cell_of_block blkC 3
  have f3 := unfrozen_of_block blkC 3
  have hb2 : Below w.heap.size w w1 := bj (((Below.refl _ w).alloc (Nat.le_refl _) _).alloc (by simp) _) hb1
  have hs : w.heap.size < w1.heap.size := lt_of_cell k0
  have hs1 : w.heap.size + 1 < w1.heap.size := (Array.getElem?_eq_some_iff.1 blkC).1
  have z1 : ¬ w.heap.size + 1 = w.heap.size := by omega
  have z2 : ¬ w.heap.size = w.heap.size + 1 := by omega
  clear hb1 blkC
  go_wp2_with (go_at_call 93; refine (labelR_any _ _).mono ?_; rintro e w' ⟨rfl, rfl⟩)
  all_goals (go_ret; refine ⟨?_, by have hs2 := hb2.size; first | exact hb2 | go_grown⟩)
  all_goals (rw [E.out]; first | (simp [*, cast_beq]; done) | (simp_all [cast_beq]; done))

set_option maxRecDepth 100000 in
set_option maxHeartbeats 4000000 in
theorem mayL_lit (l : Line) (v : Value) (w : World) (hv : Ints w v l.list) (h2 : l.op = 2) :
    Calls Tryz.prog 53 #[lineVX l v] w fun e w' => e = .returned (.bool (mayL l)) ∧ Below w.heap.size w w' := by
  have HV := Lib.hid hv
  obtain ⟨A, c, rfl, hr⟩ := hv
  have hm : l.list.length ≤ 9223372036854775807 := hr.2.1
  clear hr
  have hI := fun W => goesR_any l (.slice A l.list.length c) W
  have hM := fun W => may_anyX l.op l.a l.b l.imm W
  have E := Lib.hid (show mayL l = (mayR l.op l.a l.b l.imm && (l.label == 0) && (l.list.length == 0)) by unfold mayL; rw [if_neg (by omega), if_neg (by rw [h2]; decide), if_neg (by omega), if_pos h2])
  generalize hf : mayL l = bf at E ⊢
  clear hf
  obtain ⟨op, a, b, imm, n, lb, list⟩ := l
  simp only [] at hI hM HV E hm h2 ⊢
  generalize hmb : mayR op a b imm = mb at hM E
  clear hmb
  subst h2
  have hg : goOp 2 = false := by decide
  rw [hg] at hI
  have HI := Lib.hid hI
  have HMM := Lib.hid hM
  clear hI hM
  dsimp only [lineVX]
  go_enter Tryz.func53, Tryz.ntmps53
  go_wp2_with fail
  refine (HI.out _).mono ?_
  rintro e1 w1 ⟨rfl, hb1⟩
  have k0 : w1.cell? ⟨w.heap.size, 0, none⟩ = some (.int .i64 _) := kp hb1 (ka _ (kn 0 rfl))
  have k1 : w1.cell? ⟨w.heap.size, 1, none⟩ = some (.int .i64 _) := kp hb1 (ka _ (kn 1 rfl))
  have k2 : w1.cell? ⟨w.heap.size, 2, none⟩ = some (.int .i64 _) := kp hb1 (ka _ (kn 2 rfl))
  have k3 : w1.cell? ⟨w.heap.size, 3, none⟩ = some (.int .i64 _) := kp hb1 (ka _ (kn 3 rfl))
  have k4 : w1.cell? ⟨w.heap.size, 4, none⟩ = some (.int .u32 _) := kp hb1 (ka _ (kn 4 rfl))
  have k5 : w1.cell? ⟨w.heap.size, 5, none⟩ = some (.int .i64 _) := kp hb1 (ka _ (kn 5 rfl))
  have k6 : w1.cell? ⟨w.heap.size, 6, none⟩ = some (.slice _ _ _) := kp hb1 (ka _ (kn 6 rfl))
  have blkC : w1.heap[w.heap.size + 1]? = some (.cells #[.int .i64 2, .int .i64 a, .int .i64 b, .int .i64 imm] 99 (0, 0)) := below_blk hb1 (by
    have := heap_alloc_new (w.alloc (.cells #[.int .i64 2, .int .i64 a, .int .i64 b, .int .i64 imm, .int .u32 n, .int .i64 lb, .slice A list.length c] 49)) (.cells #[.int .i64 2, .int .i64 a, .int .i64 b, .int .i64 imm] 99)
    rwa [World.size_alloc] at this)
  have j0 := cell_of_block blkC 0
  have j1 := cell_of_block blkC 1
  have j2 := cell_of_block blkC 2
  have j3 := cell_of_block blkC 3
  have f3 := unfrozen_of_block blkC 3
  have hb2 : Below w.heap.size w w1 := bj (((Below.refl _ w).alloc (Nat.le_refl _) _).alloc (by simp) _) hb1
  have hs : w.heap.size < w1.heap.size := lt_of_cell k0
  have hs1 : w.heap.size + 1 < w1.heap.size := (Array.getElem?_eq_some_iff.1 blkC).1
  have z1 : ¬ w.heap.size + 1 = w.heap.size := by omega
  have z2 : ¬ w.heap.size = w.heap.size + 1 := by omega
  clear hb1 blkC
  go_wp2_with (go_at_call 94; refine (HMM.out _).mono ?_; rintro e2 w2 ⟨rfl, hb3⟩; replace k0 := kp hb3 k0; replace k4 := kp hb3 k4; replace k5 := kp hb3 k5; replace k6 := kp hb3 k6; have hb4 := bj hb2 hb3; clear hb2 hb3)
  all_goals (go_ret; refine ⟨?_, by have hs2 := hb4.size; first | exact hb4 | go_grown⟩)
  all_goals (rw [E.out]; first | (simp [*, cast_beq]; done) | (simp_all [cast_beq]; done))

set_option maxRecDepth 100000 in
set_option maxHeartbeats 4000000 in
theorem mayL_rest (l : Line) (v : Value) (w : World) (hv : Ints w v l.list) (h0 : ¬ l.op = 0) (hg : goOp l.op = false) (h42 : ¬ l.op = 42) (h2 : ¬ l.op = 2) :
    Calls Tryz.prog 53 #[lineVX l v] w fun e w' => e = .returned (.bool (mayL l)) ∧ Below w.heap.size w w' := by
  have HV := Lib.hid hv
  obtain ⟨A, c, rfl, hr⟩ := hv
  have hm : l.list.length ≤ 9223372036854775807 := hr.2.1
  clear hr
  have hI := fun W => goesR_any l (.slice A l.list.length c) W
  have hM := fun W => may_anyX l.op l.a l.b l.imm W
  have E := Lib.hid (show mayL l = (mayR l.op l.a l.b l.imm && (l.n == 0) && (l.label == 0) && (l.list.length == 0)) by unfold mayL; rw [if_neg h0, if_neg (by rw [hg]; decide), if_neg h42, if_neg h2])
  generalize hf : mayL l = bf at E ⊢
  clear hf
  obtain ⟨op, a, b, imm, n, lb, list⟩ := l
  simp only [] at hI hM HV E hm h0 hg h42 h2 ⊢
  generalize hmb : mayR op a b imm = mb at hM E
  clear hmb
  replace h0 : (op == 0) = false := by simpa using h0
  replace h42 : (op == 42) = false := by simpa using h42
  replace h2 : (op == 2) = false := by simpa using h2
  rw [hg] at hI
  have HI := Lib.hid hI
  have HMM := Lib.hid hM
  clear hI hM
  dsimp only [lineVX]
  go_enter Tryz.func53, Tryz.ntmps53
  go_wp2_with fail
  refine (HI.out _).mono ?_
  rintro e1 w1 ⟨rfl, hb1⟩
  have k0 : w1.cell? ⟨w.heap.size, 0, none⟩ = some (.int .i64 _) := kp hb1 (ka _ (kn 0 rfl))
  have k1 : w1.cell? ⟨w.heap.size, 1, none⟩ = some (.int .i64 _) := kp hb1 (ka _ (kn 1 rfl))
  have k2 : w1.cell? ⟨w.heap.size, 2, none⟩ = some (.int .i64 _) := kp hb1 (ka _ (kn 2 rfl))
  have k3 : w1.cell? ⟨w.heap.size, 3, none⟩ = some (.int .i64 _) := kp hb1 (ka _ (kn 3 rfl))
  have k4 : w1.cell? ⟨w.heap.size, 4, none⟩ = some (.int .u32 _) := kp hb1 (ka _ (kn 4 rfl))
  have k5 : w1.cell? ⟨w.heap.size, 5, none⟩ = some (.int .i64 _) := kp hb1 (ka _ (kn 5 rfl))
  have k6 : w1.cell? ⟨w.heap.size, 6, none⟩ = some (.slice _ _ _) := kp hb1 (ka _ (kn 6 rfl))
  have blkC : w1.heap[w.heap.size + 1]? = some (.cells #[.int .i64 op, .int .i64 a, .int .i64 b, .int .i64 imm] 99 (0, 0)) := below_blk hb1 (by
    have := heap_alloc_new (w.alloc (.cells #[.int .i64 op, .int .i64 a, .int .i64 b, .int .i64 imm, .int .u32 n, .int .i64 lb, .slice A list.length c] 49)) (.cells #[.int .i64 op, .int .i64 a, .int .i64 b, .int .i64 imm] 99)
    rwa [World.size_alloc] at this)
  have j0 := cell_of_block blkC 0
  have j1 := cell_of_block blkC 1
  have j2 := cell_of_block blkC 2
  have j3 := cell_of_block blkC 3
  have f3 := unfrozen_of_block blkC 3
  have hb2 : Below w.heap.size w w1 := bj (((Below.refl _ w).alloc (Nat.le_refl _) _).alloc (by simp) _) hb1
  have hs : w.heap.size < w1.heap.size := lt_of_cell k0
  have hs1 : w.heap.size + 1 < w1.heap.size := (Array.getElem?_eq_some_iff.1 blkC).1
  have z1 : ¬ w.heap.size + 1 = w.heap.size := by omega
  have z2 : ¬ w.heap.size = w.heap.size + 1 := by omega
  clear hb1 blkC
  go_wp2_with (go_at_call 94; refine (HMM.out _).mono ?_; rintro e2 w2 ⟨rfl, hb3⟩; replace k0 := kp hb3 k0; replace k4 := kp hb3 k4; replace k5 := kp hb3 k5; replace k6 := kp hb3 k6; have hb4 := bj hb2 hb3; clear hb2 hb3)
  all_goals (go_ret; refine ⟨?_, by have hs2 := hb4.size; first | exact hb4 | go_grown⟩)
  all_goals (rw [E.out]; first | (simp [*, cast_beq]; done) | (simp_all [cast_beq]; done))

set_option maxRecDepth 100000 in
set_option maxHeartbeats 4000000 in
theorem mayL_goes (l : Line) (v : Value) (w : World) (hv : Ints w v l.list) (h0 : ¬ l.op = 0) (hg : goOp l.op = true) :
    Calls Tryz.prog 53 #[lineVX l v] w fun e w' => e = .returned (.bool (mayL l)) ∧ Below w.heap.size w w' := by
  have HV := Lib.hid hv
  obtain ⟨A, c, rfl, hr⟩ := hv
  have hm : l.list.length ≤ 9223372036854775807 := hr.2.1
  clear hr
  have hI := fun W => goesR_any l (.slice A l.list.length c) W
  have hM := fun W => may_anyX l.op l.a l.b 0 W
  have E := Lib.hid (show mayL l = (mayR l.op l.a l.b 0 && (l.imm == 0) && (l.n == 0) && (l.list.length == 0) && isLabel l.label) by unfold mayL; rw [if_neg h0, if_pos hg])
  generalize hf : mayL l = bf at E ⊢
  clear hf
  obtain ⟨op, a, b, imm, n, lb, list⟩ := l
  simp only [] at hI hM HV E hm h0 hg ⊢
  generalize hmb : mayR op a b 0 = mb at hM E
  clear hmb
  replace h0 : (op == 0) = false := by simpa using h0
  rw [hg] at hI
  have HI := Lib.hid hI
  have HMM := Lib.hid hM
  clear hI hM
  dsimp only [lineVX]
  go_enter Tryz.func53, Tryz.ntmps53
  go_wp2_with fail
  refine (HI.out _).mono ?_
  rintro e1 w1 ⟨rfl, hb1⟩
  have k0 : w1.cell? ⟨w.heap.size, 0, none⟩ = some (.int .i64 _) := kp hb1 (ka _ (kn 0 rfl))
  have k1 : w1.cell? ⟨w.heap.size, 1, none⟩ = some (.int .i64 _) := kp hb1 (ka _ (kn 1 rfl))
  have k2 : w1.cell? ⟨w.heap.size, 2, none⟩ = some (.int .i64 _) := kp hb1 (ka _ (kn 2 rfl))
  have k3 : w1.cell? ⟨w.heap.size, 3, none⟩ = some (.int .i64 _) := kp hb1 (ka _ (kn 3 rfl))
  have k4 : w1.cell? ⟨w.heap.size, 4, none⟩ = some (.int .u32 _) := kp hb1 (ka _ (kn 4 rfl))
  have k5 : w1.cell? ⟨w.heap.size, 5, none⟩ = some (.int .i64 _) := kp hb1 (ka _ (kn 5 rfl))
  have k6 : w1.cell? ⟨w.heap.size, 6, none⟩ = some (.slice _ _ _) := kp hb1 (ka _ (kn 6 rfl))
  have blkC : w1.heap[w.heap.size + 1]? = some (.cells #[.int .i64 op, .int .i64 a, .int .i64 b, .int .i64 imm] 99 (0, 0)) := below_blk hb1 (by
    have := heap_alloc_new (w.alloc (.cells #[.int .i64 op, .int .i64 a, .int .i64 b, .int .i64 imm, .int .u32 n, .int .i64 lb, .slice A list.length c] 49)) (.cells #[.int .i64 op, .int .i64 a, .int .i64 b, .int .i64 imm] 99)
    rwa [World.size_alloc] at this)
  have j0 := cell_of_block blkC 0
  have j1 := cell_of_block blkC 1
  have j2 := cell_of_block blkC 2
  have j3 := cell_of_block blkC 3
  have f3 := unfrozen_of_block blkC 3
  have hb2 : Below w.heap.size w w1 := bj (((Below.refl _ w).alloc (Nat.le_refl _) _).alloc (by simp) _) hb1
  have hs : w.heap.size < w1.heap.size := lt_of_cell k0
  have hs1 : w.heap.size + 1 < w1.heap.size := (Array.getElem?_eq_some_iff.1 blkC).1
  have z1 : ¬ w.heap.size + 1 = w.heap.size := by omega
  have z2 : ¬ w.heap.size = w.heap.size + 1 := by omega
  clear hb1 blkC
  go_wp2_with (first | (go_at_call 94; refine (HMM.out _).mono ?_; rintro e2 w2 ⟨rfl, hb3⟩; have hb0 : Below w.heap.size w (w1.setCell ⟨w.heap.size + 1, 3, none⟩ (.int .i64 0)) := hb2.setCell (Nat.le_succ _) _; have q0 : (w1.setCell ⟨w.heap.size + 1, 3, none⟩ (.int .i64 0)).cell? ⟨w.heap.size, 0, none⟩ = some (.int .i64 op) := (World.cell?_setCell_far _ _ _ _ z1).trans k0; have q3 : (w1.setCell ⟨w.heap.size + 1, 3, none⟩ (.int .i64 0)).cell? ⟨w.heap.size, 3, none⟩ = some (.int .i64 imm) := (World.cell?_setCell_far _ _ _ _ z1).trans k3; have q4 : (w1.setCell ⟨w.heap.size + 1, 3, none⟩ (.int .i64 0)).cell? ⟨w.heap.size, 4, none⟩ = some (.int .u32 n) := (World.cell?_setCell_far _ _ _ _ z1).trans k4; have q5 : (w1.setCell ⟨w.heap.size + 1, 3, none⟩ (.int .i64 0)).cell? ⟨w.heap.size, 5, none⟩ = some (.int .i64 lb) := (World.cell?_setCell_far _ _ _ _ z1).trans k5; have q6 : (w1.setCell ⟨w.heap.size + 1, 3, none⟩ (.int .i64 0)).cell? ⟨w.heap.size, 6, none⟩ = some (.slice A list.length c) := (World.cell?_setCell_far _ _ _ _ z1).trans k6; replace k0 := kp hb3 q0; replace k3 := kp hb3 q3; replace k4 := kp hb3 q4; replace k5 := kp hb3 q5; replace k6 := kp hb3 q6; have hb4 := bj hb0 hb3; clear hb2 hb3 hb0 q0 q3 q4 q5 q6 j0 j1 j2 j3 f3) | (go_at_call 93; refine (labelR_any _ _).mono ?_; rintro e w' ⟨rfl, rfl⟩))
  all_goals (go_ret; refine ⟨?_, by have hs2 := hb4.size; first | exact hb4 | go_grown⟩)
  all_goals (rw [E.out]; first | (simp [*, cast_beq]; done) | (simp_all [cast_beq]; done))

set_option maxRecDepth 100000 in
set_option maxHeartbeats 4000000 in
theorem mayL_tab (l : Line) (v : Value) (w : World) (hv : Ints w v l.list) (h42 : l.op = 42) :
    Calls Tryz.prog 53 #[lineVX l v] w fun e w' => e = .returned (.bool (mayL l)) ∧ Below w.heap.size w w' := by
  have HV := Lib.hid hv
  obtain ⟨A, c, rfl, hr⟩ := hv
  have hm : l.list.length ≤ 9223372036854775807 := hr.2.1
  clear hr
  have hI := fun W => goesR_any l (.slice A l.list.length c) W
  have hM := fun W => may_anyX l.op l.a l.b l.imm W
  have E := Lib.hid (show mayL l = (l.list.all isLabel && (mayR l.op l.a l.b l.imm && (l.n == 0) && (l.label == 0) && decide (1 ≤ l.list.length) && decide (l.list.length ≤ 400))) by unfold mayL; rw [if_neg (by omega), if_neg (by rw [h42]; decide), if_pos h42])
  generalize hf : mayL l = bf at E ⊢
  clear hf
  obtain ⟨op, a, b, imm, n, lb, list⟩ := l
  simp only [] at hI hM HV E hm h42 ⊢
  generalize hmb : mayR op a b imm = mb at hM E
  clear hmb
  subst h42
  have hg : goOp 42 = false := by decide
  rw [hg] at hI
  have HI := Lib.hid hI
  have HMM := Lib.hid hM
  clear hI hM
  dsimp only [lineVX]
  go_enter Tryz.func53, Tryz.ntmps53
  go_wp2_with fail
  refine (HI.out _).mono ?_
  rintro e1 w1 ⟨rfl, hb1⟩
  have k0 : w1.cell? ⟨w.heap.size, 0, none⟩ = some (.int .i64 _) := kp hb1 (ka _ (kn 0 rfl))
  have k1 : w1.cell? ⟨w.heap.size, 1, none⟩ = some (.int .i64 _) := kp hb1 (ka _ (kn 1 rfl))
  have k2 : w1.cell? ⟨w.heap.size, 2, none⟩ = some (.int .i64 _) := kp hb1 (ka _ (kn 2 rfl))
  have k3 : w1.cell? ⟨w.heap.size, 3, none⟩ = some (.int .i64 _) := kp hb1 (ka _ (kn 3 rfl))
  have k4 : w1.cell? ⟨w.heap.size, 4, none⟩ = some (.int .u32 _) := kp hb1 (ka _ (kn 4 rfl))
  have k5 : w1.cell? ⟨w.heap.size, 5, none⟩ = some (.int .i64 _) := kp hb1 (ka _ (kn 5 rfl))
  have k6 : w1.cell? ⟨w.heap.size, 6, none⟩ = some (.slice _ _ _) := kp hb1 (ka _ (kn 6 rfl))
  have blkC : w1.heap[w.heap.size + 1]? = some (.cells #[.int .i64 42, .int .i64 a, .int .i64 b, .int .i64 imm] 99 (0, 0)) := below_blk hb1 (by
    have := heap_alloc_new (w.alloc (.cells #[.int .i64 42, .int .i64 a, .int .i64 b, .int .i64 imm, .int .u32 n, .int .i64 lb, .slice A list.length c] 49)) (.cells #[.int .i64 42, .int .i64 a, .int .i64 b, .int .i64 imm] 99)
    rwa [World.size_alloc] at this)
  have j0 := cell_of_block blkC 0
  have j1 := cell_of_block blkC 1
  have j2 := cell_of_block blkC 2
  have j3 := cell_of_block blkC 3
  have f3 := unfrozen_of_block blkC 3
  have hb2 : Below w.heap.size w w1 := bj (((Below.refl _ w).alloc (Nat.le_refl _) _).alloc (by simp) _) hb1
  have hs : w.heap.size < w1.heap.size := lt_of_cell k0
  have hs1 : w.heap.size + 1 < w1.heap.size := (Array.getElem?_eq_some_iff.1 blkC).1
  have z1 : ¬ w.heap.size + 1 = w.heap.size := by omega
  have z2 : ¬ w.heap.size = w.heap.size + 1 := by omega
  clear hb1 blkC
  have HA := Lib.hid (HV.out.below hb2)
  go_wp2_with fail
  go_loop [5] (fun s => ∃ k : Nat, k ≤ list.length ∧ s = .int .i64 k ∧ Hid ((list.take k).all isLabel = true)) (fun s => list.length - (intOf s).toNat)
  case atStart => exact ⟨0, Nat.zero_le _, rfl, rfl⟩
  case round =>
    obtain ⟨k, hk, rfl, hall⟩ := hrel
    by_cases hlt : k < list.length
    · obtain ⟨ad, x, hA, hx, kx⟩ := HA.out.at_ k hlt
      subst hA
      by_cases hlx : isLabel x = true
      · go_wp2_with (go_at_call 93; refine (labelR_any _ _).mono ?_; rintro e w' ⟨rfl, rfl⟩)
        go_round
        case rel => exact ⟨k + 1, by omega, by go_num, Lib.hid (by rw [List.take_add_one, hx, List.all_append, hall.out]; simp [hlx])⟩
        case measure => simp [intOf]; omega
      · have hlx' : isLabel x = false := by simpa using hlx
        have hF : list.all isLabel = false := by
          rw [List.all_eq_false]
          exact ⟨x, List.mem_of_getElem? hx, by simp [hlx']⟩
        have HF := Lib.hid hF
        clear hF hlx
        go_wp2_with (go_at_call 93; refine (labelR_any _ _).mono ?_; rintro e w' ⟨rfl, rfl⟩)
        go_ret
        exact ⟨by rw [E.out, HF.out]; rfl, by have hs2 := hb2.size; first | exact hb2 | go_grown⟩
    · have hk' : k = list.length := by omega
      have HF := Lib.hid (show list.all isLabel = true by have := hall.out; rw [hk', List.take_length] at this; exact this)
      have d1 : (1 : Int) ≤ (list.length : Int) ↔ 1 ≤ list.length := by omega
      have d2 : (list.length : Int) ≤ 400 ↔ list.length ≤ 400 := by omega
      clear hk' hall
      go_wp2_with (go_at_call 94; refine (HMM.out _).mono ?_; rintro e2 w2 ⟨rfl, hb3⟩; replace k0 := kp hb3 k0; replace k4 := kp hb3 k4; replace k5 := kp hb3 k5; replace k6 := kp hb3 k6; have hb4 := bj hb2 hb3; clear hb2 hb3)
      all_goals (go_ret; refine ⟨?_, by have hs2 := hb4.size; first | exact hb4 | go_grown⟩)
      all_goals (rw [E.out, HF.out]; first | (simp [*, cast_beq]; done) | (simp [*, cast_beq]; omega) | (simp_all [cast_beq]; done) | (simp_all [cast_beq]; omega))

theorem mayL_any (l : Line) (v : Value) (w : World) (hv : Ints w v l.list) :
    Calls Tryz.prog 53 #[lineVX l v] w fun e w' => e = .returned (.bool (mayL l)) ∧ Below w.heap.size w w' := by
  by_cases h0 : l.op = 0
  · exact mayL_label l v w hv h0
  by_cases hg : goOp l.op = true
  · exact mayL_goes l v w hv h0 hg
  replace hg : goOp l.op = false := by simpa using hg
  by_cases h42 : l.op = 42
  · exact mayL_tab l v w hv h42
  by_cases h2 : l.op = 2
  · exact mayL_lit l v w hv h2
  · exact mayL_rest l v w hv h0 hg h42 h2

end Go.Proofs.YtlhgfhmdhmgmpaaGreatDoor
