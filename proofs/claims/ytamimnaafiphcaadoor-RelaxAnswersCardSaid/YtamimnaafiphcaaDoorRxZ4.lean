/- Texts joined: RyA RyB RxO EmQ. -/
import Derived.Test.YtamimnaafiphcaaDoorRxZ2
import Derived.Test.YtamimnaafiphcaaDoorEncM
import Derived.Deep.RegionHeld
import Derived.Test.YtamimnaafiphcaaDoorEncP
import Derived.Test.YtamimnaafiphcaaDoorRxZ3
import Derived.WalkKit
import Derived.OpenShut
import Derived.Deep.Slices
import Derived.ChangeArms
import Derived.Test.YtamimnaafiphcaaDoorRxZ1
set_option linter.unusedVariables false
set_option linter.unusedSimpArgs false
namespace Go.Proofs.YtamimnaafiphcaaDoor
open Go.RowKit Go.Proofs.YtamimnaafiphcaaDoorW.PrintWords Go.Joins

def mayL (l : Line) : Bool :=
  if l.op = 0 then (l.a == 0) && (l.b == 0) && (l.imm == 0) && (l.n == 0) && (l.list.length == 0) && isLabel l.label else
  if goOp l.op = true then mayR l.op l.a l.b 0 && (l.imm == 0) && (l.n == 0) && (l.list.length == 0) && isLabel l.label else
  if l.op = 42 then l.list.all isLabel && (mayR l.op l.a l.b l.imm && (l.n == 0) && (l.label == 0) && decide (1 ≤ l.list.length) && decide (l.list.length ≤ 400)) else
  if l.op = 2 then mayR l.op l.a l.b l.imm && (l.label == 0) && (l.list.length == 0) else
  mayR l.op l.a l.b l.imm && (l.n == 0) && (l.label == 0) && (l.list.length == 0)

theorem cast_beq (n : Nat) : ((n : Int) == 0) = (n == 0) := by
  rw [Bool.eq_iff_iff]
  simp

set_option maxRecDepth 100000 in
set_option maxHeartbeats 4000000 in
theorem mayL_label (l : Line) (v : Value) (w : World) (hv : Ints w v l.list) (h0 : l.op = 0) :
    Calls Tryd.prog 69 #[lineV l v] w fun e w' => e = .returned (.bool (mayL l)) ∧ Below w.heap.size w w' := by
  have HV := Lib.hid hv
  obtain ⟨A, c, rfl, hr⟩ := hv
  have hm : l.list.length ≤ 9223372036854775807 := hr.2.1
  clear hr
  have hI := fun W => goesR_any l (.slice A l.list.length c) W
  have hM := fun W => may_any l.op l.a l.b l.imm W
  have E := Lib.hid (show mayL l = ((l.a == 0) && (l.b == 0) && (l.imm == 0) && (l.n == 0) && (l.list.length == 0) && isLabel l.label) by unfold mayL; rw [if_pos h0])
  generalize hf : mayL l = bf at E ⊢
  clear hf
  obtain ⟨op, a, b, imm, n, lb, list⟩ := l
  simp only [] at hI hM HV E hm h0 ⊢
  generalize hmb : mayR op a b imm = mb at hM E
  clear hmb
  subst h0
  have HI := Lib.hid hI
  have HMM := Lib.hid hM
  clear hI hM
  dsimp only [lineV]
  go_enter Tryd.func69, Tryd.ntmps69
  go_wp2_with fail
  refine (HI.out _).mono ?_
  rintro e1 w1 ⟨rfl, hb1⟩
  have k0 : w1.cell? ⟨w.heap.size, 0, none⟩ = some (.int .i64 _) := kp hb1 (ka _ (kn 0 rfl))
  have k1 : w1.cell? ⟨w.heap.size, 1, none⟩ = some (.int .i64 _) := kp hb1 (ka _ (kn 1 rfl))
  have k2 : w1.cell? ⟨w.heap.size, 2, none⟩ = some (.int .i64 _) := kp hb1 (ka _ (kn 2 rfl))
  have k3 : w1.cell? ⟨w.heap.size, 3, none⟩ = some (.int .i64 _) := kp hb1 (ka _ (kn 3 rfl))
  have k4 : w1.cell? ⟨w.heap.size, 4, none⟩ = some (.int .u32 _) := kp hb1 (ka _ (kn 4 rfl))
  have k5 : w1.cell? ⟨w.heap.size, 5, none⟩ = some (.int .i64 _) := kp hb1 (ka _ (kn 5 rfl))
  have k6 : w1.cell? ⟨w.heap.size, 6, none⟩ = some (.slice _ _ _) := kp hb1 (ka _ (kn 6 rfl))
  have blkC : w1.heap[w.heap.size + 1]? = some (.cells #[.int .i64 0, .int .i64 a, .int .i64 b, .int .i64 imm] 44 (0, 0)) := below_blk hb1 (by
    have := heap_alloc_new (w.alloc (.cells #[.int .i64 0, .int .i64 a, .int .i64 b, .int .i64 imm, .int .u32 n, .int .i64 lb, .slice A list.length c] 40)) (.cells #[.int .i64 0, .int .i64 a, .int .i64 b, .int .i64 imm] 44)
    rwa [World.size_alloc] at this)
  have j0 := cell_of_block blkC 0
  have j1 := cell_of_block blkC 1
  have j2 := cell_of_block blkC 2
  have j3 := cell_of_block blkC 3
  have f3 := unfrozen_of_block blkC 3
  have hb2 : Below w.heap.size w w1 := bj (((Below.refl _ w).alloc (Nat.le_refl _) _).alloc (by simp) _) hb1
  have hs : w.heap.size < w1.heap.size := lt_of_cell k0
  have hs1 : w.heap.size + 1 < w1.heap.size := (Array.getElem?_eq_some_iff.1 blkC).1
  have z1 : ¬ w.heap.size + 1 = w.heap.size := by omega
  have z2 : ¬ w.heap.size = w.heap.size + 1 := by omega
  clear hb1 blkC
  go_wp2_with (go_at_call 83; refine (labelR_any _ _).mono ?_; rintro e w' ⟨rfl, rfl⟩)
  all_goals (go_ret; refine ⟨?_, by have hs2 := hb2.size; first | exact hb2 | go_grown⟩)
  all_goals (rw [E.out]; first | (simp [*, cast_beq]; done) | (simp_all [cast_beq]; done))

set_option maxRecDepth 100000 in
set_option maxHeartbeats 4000000 in
theorem mayL_lit (l : Line) (v : Value) (w : World) (hv : Ints w v l.list) (h2 : l.op = 2) :
    Calls Tryd.prog 69 #[lineV l v] w fun e w' => e = .returned (.bool (mayL l)) ∧ Below w.heap.size w w' := by
  have HV := Lib.hid hv
  obtain ⟨A, c, rfl, hr⟩ := hv
  have hm : l.list.length ≤ 9223372036854775807 := hr.2.1
  clear hr
  have hI := fun W => goesR_any l (.slice A l.list.length c) W
  have hM := fun W => may_any l.op l.a l.b l.imm W
  have E := Lib.hid (show mayL l = (mayR l.op l.a l.b l.imm && (l.label == 0) && (l.list.length == 0)) by unfold mayL; rw [if_neg (by omega), if_neg (by rw [h2]; decide), if_neg (by omega), if_pos h2])
  generalize hf : mayL l = bf at E ⊢
  clear hf
  obtain ⟨op, a, b, imm, n, lb, list⟩ := l
  simp only [] at hI hM HV E hm h2 ⊢
  generalize hmb : mayR op a b imm = mb at hM E
  clear hmb
  subst h2
  have hg : goOp 2 = false := by decide
  rw [hg] at hI
  have HI := Lib.hid hI
  have HMM := Lib.hid hM
  clear hI hM
  dsimp only [lineV]
  go_enter Tryd.func69, Tryd.ntmps69
  go_wp2_with fail
  refine (HI.out _).mono ?_
  rintro e1 w1 ⟨rfl, hb1⟩
  have k0 : w1.cell? ⟨w.heap.size, 0, none⟩ = some (.int .i64 _) := kp hb1 (ka _ (kn 0 rfl))
  have k1 : w1.cell? ⟨w.heap.size, 1, none⟩ = some (.int .i64 _) := kp hb1 (ka _ (kn 1 rfl))
  have k2 : w1.cell? ⟨w.heap.size, 2, none⟩ = some (.int .i64 _) := kp hb1 (ka _ (kn 2 rfl))
  have k3 : w1.cell? ⟨w.heap.size, 3, none⟩ = some (.int .i64 _) := kp hb1 (ka _ (kn 3 rfl))
  have k4 : w1.cell? ⟨w.heap.size, 4, none⟩ = some (.int .u32 _) := kp hb1 (ka _ (kn 4 rfl))
  have k5 : w1.cell? ⟨w.heap.size, 5, none⟩ = some (.int .i64 _) := kp hb1 (ka _ (kn 5 rfl))
  have k6 : w1.cell? ⟨w.heap.size, 6, none⟩ = some (.slice _ _ _) := kp hb1 (ka _ (kn 6 rfl))
  have blkC : w1.heap[w.heap.size + 1]? = some (.cells #[.int .i64 2, .int .i64 a, .int .i64 b, .int .i64 imm] 44 (0, 0)) := below_blk hb1 (by
    have := heap_alloc_new (w.alloc (.cells #[.int .i64 2, .int .i64 a, .int .i64 b, .int .i64 imm, .int .u32 n, .int .i64 lb, .slice A list.length c] 40)) (.cells #[.int .i64 2, .int .i64 a, .int .i64 b, .int .i64 imm] 44)
    rwa [World.size_alloc] at this)
  have j0 := cell_of_block blkC 0
  have j1 := cell_of_block blkC 1
  have j2 := cell_of_block blkC 2
  have j3 := cell_of_block blkC 3
  have f3 := unfrozen_of_block blkC 3
  have hb2 : Below w.heap.size w w1 := bj (((Below.refl _ w).alloc (Nat.le_refl _) _).alloc (by simp) _) hb1
  have hs : w.heap.size < w1.heap.size := lt_of_cell k0
  have hs1 : w.heap.size + 1 < w1.heap.size := (Array.getElem?_eq_some_iff.1 blkC).1
  have z1 : ¬ w.heap.size + 1 = w.heap.size := by omega
  have z2 : ¬ w.heap.size = w.heap.size + 1 := by omega
  clear hb1 blkC
  go_wp2_with (go_at_call 28; refine (HMM.out _).mono ?_; rintro e2 w2 ⟨rfl, hb3⟩; replace k0 := kp hb3 k0; replace k4 := kp hb3 k4; replace k5 := kp hb3 k5; replace k6 := kp hb3 k6; have hb4 := bj hb2 hb3; clear hb2 hb3)
  all_goals (go_ret; refine ⟨?_, by have hs2 := hb4.size; first | exact hb4 | go_grown⟩)
  all_goals (rw [E.out]; first | (simp [*, cast_beq]; done) | (simp_all [cast_beq]; done))

set_option maxRecDepth 100000 in
set_option maxHeartbeats 4000000 in
theorem mayL_rest (l : Line) (v : Value) (w : World) (hv : Ints w v l.list) (h0 : ¬ l.op = 0) (hg : goOp l.op = false) (h42 : ¬ l.op = 42) (h2 : ¬ l.op = 2) :
    Calls Tryd.prog 69 #[lineV l v] w fun e w' => e = .returned (.bool (mayL l)) ∧ Below w.heap.size w w' := by
  have HV := Lib.hid hv
  obtain ⟨A, c, rfl, hr⟩ := hv
  have hm : l.list.length ≤ 9223372036854775807 := hr.2.1
  clear hr
  have hI := fun W => goesR_any l (.slice A l.list.length c) W
  have hM := fun W => may_any l.op l.a l.b l.imm W
  have E := Lib.hid (show mayL l = (mayR l.op l.a l.b l.imm && (l.n == 0) && (l.label == 0) && (l.list.length == 0)) by unfold mayL; rw [if_neg h0, if_neg (by rw [hg]; decide), if_neg h42, if_neg h2])
  generalize hf : mayL l = bf at E ⊢
  clear hf
  obtain ⟨op, a, b, imm, n, lb, list⟩ := l
  simp only [] at hI hM HV E hm h0 hg h42 h2 ⊢
  generalize hmb : mayR op a b imm = mb at hM E
  clear hmb
  replace h0 : (op == 0) = false := by simpa using h0
  replace h42 : (op == 42) = false := by simpa using h42
  replace h2 : (op == 2) = false := by simpa using h2
  rw [hg] at hI
  have HI := Lib.hid hI
  have HMM := Lib.hid hM
  clear hI hM
  dsimp only [lineV]
  go_enter Tryd.func69, Tryd.ntmps69
  go_wp2_with fail
  refine (HI.out _).mono ?_
  rintro e1 w1 ⟨rfl, hb1⟩
  have k0 : w1.cell? ⟨w.heap.size, 0, none⟩ = some (.int .i64 _) := kp hb1 (ka _ (kn 0 rfl))
  have k1 : w1.cell? ⟨w.heap.size, 1, none⟩ = some (.int .i64 _) := kp hb1 (ka _ (kn 1 rfl))
  have k2 : w1.cell? ⟨w.heap.size, 2, none⟩ = some (.int .i64 _) := kp hb1 (ka _ (kn 2 rfl))
  have k3 : w1.cell? ⟨w.heap.size, 3, none⟩ = some (.int .i64 _) := kp hb1 (ka _ (kn 3 rfl))
  have k4 : w1.cell? ⟨w.heap.size, 4, none⟩ = some (.int .u32 _) := kp hb1 (ka _ (kn 4 rfl))
  have k5 : w1.cell? ⟨w.heap.size, 5, none⟩ = some (.int .i64 _) := kp hb1 (ka _ (kn 5 rfl))
  have k6 : w1.cell? ⟨w.heap.size, 6, none⟩ = some (.slice _ _ _) := kp hb1 (ka _ (kn 6 rfl))
  have blkC : w1.heap[w.heap.size + 1]? = some (.cells #[.int .i64 op, .int .i64 a, .int .i64 b, .int .i64 imm] 44 (0, 0)) := below_blk hb1 (by
    have := heap_alloc_new (w.alloc (.cells #[.int .i64 op, .int .i64 a, .int .i64 b, .int .i64 imm, .int .u32 n, .int .i64 lb, .slice A list.length c] 40)) (.cells #[.int .i64 op, .int .i64 a, .int .i64 b, .int .i64 imm] 44)
    rwa [World.size_alloc] at this)
  have j0 := cell_of_block blkC 0
  have j1 := cell_of_block blkC 1
  have j2 := cell_of_block blkC 2
  have j3 := cell_of_block blkC 3
  have f3 := unfrozen_of_block blkC 3
  have hb2 : Below w.heap.size w w1 := bj (((Below.refl _ w).alloc (Nat.le_refl _) _).alloc (by simp) _) hb1
  have hs : w.heap.size < w1.heap.size := lt_of_cell k0
  have hs1 : w.heap.size + 1 < w1.heap.size := (Array.getElem?_eq_some_iff.1 blkC).1
  have z1 : ¬ w.heap.size + 1 = w.heap.size := by omega
  have z2 : ¬ w.heap.size = w.heap.size + 1 := by omega
  clear hb1 blkC
  go_wp2_with (go_at_call 28; refine (HMM.out _).mono ?_; rintro e2 w2 ⟨rfl, hb3⟩; replace k0 := kp hb3 k0; replace k4 := kp hb3 k4; replace k5 := kp hb3 k5; replace k6 := kp hb3 k6; have hb4 := bj hb2 hb3; clear hb2 hb3)
  all_goals (go_ret; refine ⟨?_, by have hs2 := hb4.size; first | exact hb4 | go_grown⟩)
  all_goals (rw [E.out]; first | (simp [*, cast_beq]; done) | (simp_all [cast_beq]; done))

set_option maxRecDepth 100000 in
set_option maxHeartbeats 4000000 in
theorem mayL_goes (l : Line) (v : Value) (w : World) (hv : Ints w v l.list) (h0 : ¬ l.op = 0) (hg : goOp l.op = true) :
    Calls Tryd.prog 69 #[lineV l v] w fun e w' => e = .returned (.bool (mayL l)) ∧ Below w.heap.size w w' := by
  have HV := Lib.hid hv
  obtain ⟨A, c, rfl, hr⟩ := hv
  have hm : l.list.length ≤ 9223372036854775807 := hr.2.1
  clear hr
  have hI := fun W => goesR_any l (.slice A l.list.length c) W
  have hM := fun W => may_any l.op l.a l.b 0 W
  have E := Lib.hid (show mayL l = (mayR l.op l.a l.b 0 && (l.imm == 0) && (l.n == 0) && (l.list.length == 0) && isLabel l.label) by unfold mayL; rw [if_neg h0, if_pos hg])
  generalize hf : mayL l = bf at E ⊢
  clear hf
  obtain ⟨op, a, b, imm, n, lb, list⟩ := l
  simp only [] at hI hM HV E hm h0 hg ⊢
  generalize hmb : mayR op a b 0 = mb at hM E
  clear hmb
  replace h0 : (op == 0) = false := by simpa using h0
  rw [hg] at hI
  have HI := Lib.hid hI
  have HMM := Lib.hid hM
  clear hI hM
  dsimp only [lineV]
  go_enter Tryd.func69, Tryd.ntmps69
  go_wp2_with fail
  refine (HI.out _).mono ?_
  rintro e1 w1 ⟨rfl, hb1⟩
  have k0 : w1.cell? ⟨w.heap.size, 0, none⟩ = some (.int .i64 _) := kp hb1 (ka _ (kn 0 rfl))
  have k1 : w1.cell? ⟨w.heap.size, 1, none⟩ = some (.int .i64 _) := kp hb1 (ka _ (kn 1 rfl))
  have k2 : w1.cell? ⟨w.heap.size, 2, none⟩ = some (.int .i64 _) := kp hb1 (ka _ (kn 2 rfl))
  have k3 : w1.cell? ⟨w.heap.size, 3, none⟩ = some (.int .i64 _) := kp hb1 (ka _ (kn 3 rfl))
  have k4 : w1.cell? ⟨w.heap.size, 4, none⟩ = some (.int .u32 _) := kp hb1 (ka _ (kn 4 rfl))
  have k5 : w1.cell? ⟨w.heap.size, 5, none⟩ = some (.int .i64 _) := kp hb1 (ka _ (kn 5 rfl))
  have k6 : w1.cell? ⟨w.heap.size, 6, none⟩ = some (.slice _ _ _) := kp hb1 (ka _ (kn 6 rfl))
  have blkC : w1.heap[w.heap.size + 1]? = some (.cells #[.int .i64 op, .int .i64 a, .int .i64 b, .int .i64 imm] 44 (0, 0)) := below_blk hb1 (by
    have := heap_alloc_new (w.alloc (.cells #[.int .i64 op, .int .i64 a, .int .i64 b, .int .i64 imm, .int .u32 n, .int .i64 lb, .slice A list.length c] 40)) (.cells #[.int .i64 op, .int .i64 a, .int .i64 b, .int .i64 imm] 44)
    rwa [World.size_alloc] at this)
  have j0 := cell_of_block blkC 0
  have j1 := cell_of_block blkC 1
  have j2 := cell_of_block blkC 2
  have j3 := cell_of_block blkC 3
  have f3 := unfrozen_of_block blkC 3
  have hb2 : Below w.heap.size w w1 := bj (((Below.refl _ w).alloc (Nat.le_refl _) _).alloc (by simp) _) hb1
  have hs : w.heap.size < w1.heap.size := lt_of_cell k0
  have hs1 : w.heap.size + 1 < w1.heap.size := (Array.getElem?_eq_some_iff.1 blkC).1
  have z1 : ¬ w.heap.size + 1 = w.heap.size := by omega
  have z2 : ¬ w.heap.size = w.heap.size + 1 := by omega
  clear hb1 blkC
  go_wp2_with (first | (go_at_call 28; refine (HMM.out _).mono ?_; rintro e2 w2 ⟨rfl, hb3⟩; have hb0 : Below w.heap.size w (w1.setCell ⟨w.heap.size + 1, 3, none⟩ (.int .i64 0)) := hb2.setCell (Nat.le_succ _) _; have q0 : (w1.setCell ⟨w.heap.size + 1, 3, none⟩ (.int .i64 0)).cell? ⟨w.heap.size, 0, none⟩ = some (.int .i64 op) := (World.cell?_setCell_far _ _ _ _ z1).trans k0; have q3 : (w1.setCell ⟨w.heap.size + 1, 3, none⟩ (.int .i64 0)).cell? ⟨w.heap.size, 3, none⟩ = some (.int .i64 imm) := (World.cell?_setCell_far _ _ _ _ z1).trans k3; have q4 : (w1.setCell ⟨w.heap.size + 1, 3, none⟩ (.int .i64 0)).cell? ⟨w.heap.size, 4, none⟩ = some (.int .u32 n) := (World.cell?_setCell_far _ _ _ _ z1).trans k4; have q5 : (w1.setCell ⟨w.heap.size + 1, 3, none⟩ (.int .i64 0)).cell? ⟨w.heap.size, 5, none⟩ = some (.int .i64 lb) := (World.cell?_setCell_far _ _ _ _ z1).trans k5; have q6 : (w1.setCell ⟨w.heap.size + 1, 3, none⟩ (.int .i64 0)).cell? ⟨w.heap.size, 6, none⟩ = some (.slice A list.length c) := (World.cell?_setCell_far _ _ _ _ z1).trans k6; replace k0 := kp hb3 q0; replace k3 := kp hb3 q3; replace k4 := kp hb3 q4; replace k5 := kp hb3 q5; replace k6 := kp hb3 q6; have hb4 := bj hb0 hb3; clear hb2 hb3 hb0 q0 q3 q4 q5 q6 j0 j1 j2 j3 f3) | (go_at_call 83; refine (labelR_any _ _).mono ?_; rintro e w' ⟨rfl, rfl⟩))
  all_goals (go_ret; refine ⟨?_, by have hs2 := hb4.size; first | exact hb4 | go_grown⟩)
  all_goals (rw [E.out]; first | (simp [*, cast_beq]; done) | (simp_all [cast_beq]; done))

set_option maxRecDepth 100000 in
set_option maxHeartbeats 4000000 in
theorem mayL_tab (l : Line) (v : Value) (w : World) (hv : Ints w v l.list) (h42 : l.op = 42) :
    Calls Tryd.prog 69 #[lineV l v] w fun e w' => e = .returned (.bool (mayL l)) ∧ Below w.heap.size w w' := by
  have HV := Lib.hid hv
  obtain ⟨A, c, rfl, hr⟩ := hv
  have hm : l.list.length ≤ 9223372036854775807 := hr.2.1
  clear hr
  have hI := fun W => goesR_any l (.slice A l.list.length c) W
  have hM := fun W => may_any l.op l.a l.b l.imm W
  have E := Lib.hid (show mayL l = (l.list.all isLabel && (mayR l.op l.a l.b l.imm && (l.n == 0) && (l.label == 0) && decide (1 ≤ l.list.length) && decide (l.list.length ≤ 400))) by unfold mayL; rw [if_neg (by omega), if_neg (by rw [h42]; decide), if_pos h42])
  generalize hf : mayL l = bf at E ⊢
  clear hf
  obtain ⟨op, a, b, imm, n, lb, list⟩ := l
  simp only [] at hI hM HV E hm h42 ⊢
  generalize hmb : mayR op a b imm = mb at hM E
  clear hmb
  subst h42
  have hg : goOp 42 = false := by decide
  rw [hg] at hI
  have HI := Lib.hid hI
  have HMM := Lib.hid hM
  clear hI hM
  dsimp only [lineV]
  go_enter Tryd.func69, Tryd.ntmps69
  go_wp2_with fail
  refine (HI.out _).mono ?_
  rintro e1 w1 ⟨rfl, hb1⟩
  have k0 : w1.cell? ⟨w.heap.size, 0, none⟩ = some (.int .i64 _) := kp hb1 (ka _ (kn 0 rfl))
  have k1 : w1.cell? ⟨w.heap.size, 1, none⟩ = some (.int .i64 _) := kp hb1 (ka _ (kn 1 rfl))
  have k2 : w1.cell? ⟨w.heap.size, 2, none⟩ = some (.int .i64 _) := kp hb1 (ka _ (kn 2 rfl))
  have k3 : w1.cell? ⟨w.heap.size, 3, none⟩ = some (.int .i64 _) := kp hb1 (ka _ (kn 3 rfl))
  have k4 : w1.cell? ⟨w.heap.size, 4, none⟩ = some (.int .u32 _) := kp hb1 (ka _ (kn 4 rfl))
  have k5 : w1.cell? ⟨w.heap.size, 5, none⟩ = some (.int .i64 _) := kp hb1 (ka _ (kn 5 rfl))
  have k6 : w1.cell? ⟨w.heap.size, 6, none⟩ = some (.slice _ _ _) := kp hb1 (ka _ (kn 6 rfl))
  have blkC : w1.heap[w.heap.size + 1]? = some (.cells #[.int .i64 42, .int .i64 a, .int .i64 b, .int .i64 imm] 44 (0, 0)) := below_blk hb1 (by
    have := heap_alloc_new (w.alloc (.cells #[.int .i64 42, .int .i64 a, .int .i64 b, .int .i64 imm, .int .u32 n, .int .i64 lb, .slice A list.length c] 40)) (.cells #[.int .i64 42, .int .i64 a, .int .i64 b, .int .i64 imm] 44)
    rwa [World.size_alloc] at this)
  have j0 := cell_of_block blkC 0
  have j1 := cell_of_block blkC 1
  have j2 := cell_of_block blkC 2
  have j3 := cell_of_block blkC 3
  have f3 := unfrozen_of_block blkC 3
  have hb2 : Below w.heap.size w w1 := bj (((Below.refl _ w).alloc (Nat.le_refl _) _).alloc (by simp) _) hb1
  have hs : w.heap.size < w1.heap.size := lt_of_cell k0
  have hs1 : w.heap.size + 1 < w1.heap.size := (Array.getElem?_eq_some_iff.1 blkC).1
  have z1 : ¬ w.heap.size + 1 = w.heap.size := by omega
  have z2 : ¬ w.heap.size = w.heap.size + 1 := by omega
  clear hb1 blkC
  have HA := Lib.hid (HV.out.below hb2)
  go_wp2_with fail
  go_loop [5] (fun s => ∃ k : Nat, k ≤ list.length ∧ s = .int .i64 k ∧ Hid ((list.take k).all isLabel = true)) (fun s => list.length - (intOf s).toNat)
  case atStart => exact ⟨0, Nat.zero_le _, rfl, rfl⟩
  case round =>
    obtain ⟨k, hk, rfl, hall⟩ := hrel
    by_cases hlt : k < list.length
    · obtain ⟨ad, x, hA, hx, kx⟩ := HA.out.at_ k hlt
      subst hA
      by_cases hlx : isLabel x = true
      · go_wp2_with (go_at_call 83; refine (labelR_any _ _).mono ?_; rintro e w' ⟨rfl, rfl⟩)
        go_round
        case rel => exact ⟨k + 1, by omega, by go_num, Lib.hid (by rw [List.take_add_one, hx, List.all_append, hall.out]; simp [hlx])⟩
        case measure => simp [intOf]; omega
      · have hlx' : isLabel x = false := by simpa using hlx
        have hF : list.all isLabel = false := by
          rw [List.all_eq_false]
          exact ⟨x, List.mem_of_getElem? hx, by simp [hlx']⟩
        have HF := Lib.hid hF
        clear hF hlx
        go_wp2_with (go_at_call 83; refine (labelR_any _ _).mono ?_; rintro e w' ⟨rfl, rfl⟩)
        go_ret
        exact ⟨by rw [E.out, HF.out]; rfl, by have hs2 := hb2.size; first | exact hb2 | go_grown⟩
    · have hk' : k = list.length := by omega
      have HF := Lib.hid (show list.all isLabel = true by have := hall.out; rw [hk', List.take_length] at this; exact this)
      have d1 : (1 : Int) ≤ (list.length : Int) ↔ 1 ≤ list.length := by omega
      have d2 : (list.length : Int) ≤ 400 ↔ list.length ≤ 400 := by omega
      clear hk' hall
      go_wp2_with (go_at_call 28; refine (HMM.out _).mono ?_; rintro e2 w2 ⟨rfl, hb3⟩; replace k0 := kp hb3 k0; replace k4 := kp hb3 k4; replace k5 := kp hb3 k5; replace k6 := kp hb3 k6; have hb4 := bj hb2 hb3; clear hb2 hb3)
      all_goals (go_ret; refine ⟨?_, by have hs2 := hb4.size; first | exact hb4 | go_grown⟩)
      all_goals (rw [E.out, HF.out]; first | (simp [*, cast_beq]; done) | (simp [*, cast_beq]; omega) | (simp_all [cast_beq]; done) | (simp_all [cast_beq]; omega))

theorem mayL_any (l : Line) (v : Value) (w : World) (hv : Ints w v l.list) :
    Calls Tryd.prog 69 #[lineV l v] w fun e w' => e = .returned (.bool (mayL l)) ∧ Below w.heap.size w w' := by
  by_cases h0 : l.op = 0
  · exact mayL_label l v w hv h0
  by_cases hg : goOp l.op = true
  · exact mayL_goes l v w hv h0 hg
  replace hg : goOp l.op = false := by simpa using hg
  by_cases h42 : l.op = 42
  · exact mayL_tab l v w hv h42
  by_cases h2 : l.op = 2
  · exact mayL_lit l v w hv h2
  · exact mayL_rest l v w hv h0 hg h42 h2

end Go.Proofs.YtamimnaafiphcaaDoor

set_option linter.unusedVariables false
set_option linter.unusedSimpArgs false
namespace Go.Proofs.YtamimnaafiphcaaDoor
open Go.RowKit

theorem enc_beq (op a b c : Int) : ((enc op a b c).2 == 0) = mayR op a b c := by
  cases h : mayR op a b c with
  | true => rw [enc_of h]; rfl
  | false =>
    cases h2 : (enc op a b c).2 == 0 with
    | false => rfl
    | true =>
      have := (enc_ok (op := op) (a := a) (b := b) (c := c) (by simpa using h2)).1
      rw [h] at this; cases this

theorem goOp_in {n : Int} (h : goOp n = true) : (30 ≤ n ∧ n ≤ 41) ∨ n = 43 := by
  unfold goOp brOp isBr within at h
  simp only [Bool.or_eq_true, Bool.and_eq_true, decide_eq_true_eq, beq_iff_eq] at h
  omega

theorem mayL_fits (l : Line) : mayL l = fitsB l := by
  obtain ⟨op, a, b, imm, n, lb, list⟩ := l
  unfold mayL fitsB x4 x6 x8
  simp only []
  rw [enc_beq]
  by_cases h0 : op = 0
  · rw [if_pos h0, if_pos h0]
  rw [if_neg h0, if_neg h0]
  by_cases hg : goOp op = true
  · have hr := goOp_in hg
    have h42 : (op == 42) = false := by simp; omega
    have h2 : (op != 2) = true := by simp; omega
    rw [if_pos hg, hg, h42, h2]
    by_cases hi : imm = 0
    · subst hi
      by_cases hn : n = 0
      · subst hn
        cases list with
        | nil => cases isLabel lb <;> simp
        | cons x r => simp
      · simp [hn]
    · simp [hi]
  · rw [if_neg hg]
    replace hg : goOp op = false := by simpa using hg
    rw [hg]
    by_cases h42 : op = 42
    · subst h42
      rw [if_pos rfl]
      have hl0 : isLabel 0 = true := by decide
      by_cases hn : n = 0
      · subst hn
        by_cases hb : lb = 0
        · subst hb
          by_cases h1 : 0 < list.length
          · by_cases h4 : 400 < list.length
            · simp [h1, h4, show ¬ list.length ≤ 400 by omega]
            · cases hal : list.all isLabel <;> simp [h1, h4, show list.length ≤ 400 by omega, hl0, hal, show 1 ≤ list.length by omega]
          · simp [h1, show ¬ 1 ≤ list.length by omega, hl0]
        · simp [hb]
      · simp [hn]
    · rw [if_neg h42]
      have h42' : (op == 42) = false := by simpa using h42
      have hl0 : isLabel 0 = true := by decide
      rw [h42']
      by_cases h2 : op = 2
      · subst h2
        rw [if_pos rfl]
        by_cases hb : lb = 0
        · subst hb
          cases list with
          | nil => simp [hl0]
          | cons x r => simp [hl0]
        · simp [hb]
      · rw [if_neg h2]
        have h2' : (op != 2) = true := by simpa using h2
        rw [h2']
        by_cases hn : n = 0
        · subst hn
          by_cases hb : lb = 0
          · subst hb
            cases list with
            | nil => simp [hl0]
            | cons x r => simp [hl0]
          · simp [hb]
        · simp [hn]

theorem fits_goes {l : Line} (h : fitsB l = true) (hg : goOp l.op = true) : isLabel l.label = true ∧ l.list = [] := by
  rw [← mayL_fits] at h
  have hr := goOp_in hg
  unfold mayL at h
  rw [if_neg (by omega), if_pos hg] at h
  simp only [Bool.and_eq_true, beq_iff_eq, List.length_eq_zero_iff] at h
  exact ⟨h.2, h.1.2⟩

theorem fits_at {l : Line} (h : fitsB l = true) (h0 : l.op = 0) : isLabel l.label = true ∧ l.list = [] := by
  rw [← mayL_fits] at h
  unfold mayL at h
  rw [if_pos h0] at h
  simp only [Bool.and_eq_true, beq_iff_eq, List.length_eq_zero_iff] at h
  exact ⟨h.2, h.1.2⟩

theorem fits_all {l : Line} (h : fitsB l = true) : l.list.all isLabel = true := by
  by_cases h0 : l.op = 0
  · rw [(fits_at h h0).2]; rfl
  by_cases hg : goOp l.op = true
  · rw [(fits_goes h hg).2]; rfl
  rw [← mayL_fits] at h
  unfold mayL at h
  rw [if_neg h0, if_neg hg] at h
  by_cases h42 : l.op = 42
  · rw [if_pos h42, Bool.and_eq_true] at h
    exact h.1
  · rw [if_neg h42] at h
    by_cases h2 : l.op = 2
    · rw [if_pos h2] at h
      simp only [Bool.and_eq_true, beq_iff_eq, List.length_eq_zero_iff] at h
      rw [h.2]; rfl
    · rw [if_neg h2] at h
      simp only [Bool.and_eq_true, beq_iff_eq, List.length_eq_zero_iff] at h
      rw [h.2]; rfl

end Go.Proofs.YtamimnaafiphcaaDoor

namespace Go.Proofs.YtamimnaafiphcaaDoor
open Go.RowKit Go.Proofs.YtamimnaafiphcaaDoorW.PrintWords Go.Maps Go.Joins Go.ChangeShapes Go.WideShapes

variable {H : Type} {enc : TypeId × Value → H} {W : World} {base : Nat} {spare : Nat → Bool} {held : Bool}

theorem open_list {fuel : Nat} {cs : List Value} {x : DataW H × List MemPlace} (h : DataW.trod enc Tryd.prog W base spare held fuel 25 cs = some x) :
    ∃ (xs : List Int) (A : Option Addr) (c : Nat), cs = [.slice A xs.length c] ∧ xs.length ≤ c ∧ kInt.C W A xs.length xs ∧ ∀ y ∈ xs, (Lit.int .i64 y).wf = true := by
  rcases Deep.open_slice1 Tryd.underlying25 (by kernel_rfl) h with ⟨rfl, _⟩ | ⟨a, len, cap, m, n, V, D, Pl, rfl, hb, hl, hm, hmm, rfl, hx⟩
  · exact ⟨[], none, 0, rfl, Nat.le_refl _, Kd.C_nil kInt W, by simp⟩
  · have hml : len ≤ m := by rw [hmm]; split <;> omega
    have hv : ∀ i, i < len → ∃ z, V i = .int .i64 z ∧ (Lit.int .i64 z).wf = true := fun i hi => by
      obtain ⟨z, e, _, hw⟩ := DataW.trod_int Tryd.underlying3 (hx i (by omega)).2
      exact ⟨z, by simpa using e, hw⟩
    obtain ⟨f, hf⟩ : ∃ f : Nat → Int, ∀ i, i < len → V i = .int .i64 (f i) ∧ (Lit.int .i64 (f i)).wf = true :=
      ⟨fun i => if hi : i < len then (hv i hi).choose else 0, fun i hi => by simp only [hi, dif_pos]; exact (hv i hi).choose_spec⟩
    refine ⟨(List.range len).map f, some a, cap, by simp, by simpa using hl, ?_, fun y hy => ?_⟩
    · refine ⟨rfl, by simp; unfold maxLen at hm; omega, fun _ => ⟨a, rfl, fun j p hj => ⟨[.int .i64 p], rfl, rfl, fun i u hu => ?_⟩⟩⟩
      have hj' : j < len := by have := (List.getElem?_eq_some_iff.1 hj).1; simpa using this
      have hp : p = f j := by simp [hj'] at hj; exact hj.symm
      have hi : i = 0 := by have := (List.getElem?_eq_some_iff.1 hu).1; simpa using this
      subst hi
      cases hu
      rw [show j * kInt.sz + 0 = j from by show j * 1 + 0 = j; omega, hp, ← (hf j hj').1]
      exact (hx j (by omega)).1
    · obtain ⟨i, hi, rfl⟩ := List.mem_map.1 hy
      exact (hf i (List.mem_range.1 hi)).2

theorem list7 {α : Type} {cs : List α} (h : cs.length = 7) : ∃ c0 c1 c2 c3 c4 c5 c6, cs = [c0, c1, c2, c3, c4, c5, c6] := by
  match cs, h with
  | [c0, c1, c2, c3, c4, c5, c6], _ => exact ⟨c0, c1, c2, c3, c4, c5, c6, rfl⟩

theorem open_line {fuel : Nat} {cs : List Value} {x : DataW H × List MemPlace} (h : DataW.trod enc Tryd.prog W base spare held fuel 40 cs = some x) :
    ∃ (l : Line) (A : Option Addr) (c : Nat), cs = [.int .i64 l.op, .int .i64 l.a, .int .i64 l.b, .int .i64 l.imm, .int .u32 l.n, .int .i64 l.label, .slice A l.list.length c] ∧ l.list.length ≤ c ∧ kInt.C W A l.list.length l.list ∧
      ((Lit.int .i64 l.label).wf = true ∧ ∀ y ∈ l.list, (Lit.int .i64 y).wf = true) ∧ ((Lit.int .i64 l.op).wf = true ∧ (Lit.int .i64 l.a).wf = true ∧ (Lit.int .i64 l.b).wf = true ∧ (Lit.int .i64 l.imm).wf = true ∧ (Lit.int .u32 l.n).wf = true) := by
  obtain ⟨xs, n, _, rfl, hl, hlen, hf⟩ := DataW.trod_struct Tryd.underlying40 h
  have h7 : cs.length = 7 := hl.trans (by kernel_rfl)
  obtain ⟨c0, c1, c2, c3, c4, c5, c6, rfl⟩ := list7 h7
  obtain ⟨y0, y1, y2, y3, y4, y5, y6, rfl⟩ := list7 (show xs.length = 7 from hlen)
  have hci : Tryd.prog.cellsOf 3 = 1 := by kernel_rfl
  have hcu : Tryd.prog.cellsOf 38 = 1 := by kernel_rfl
  have hcl : Tryd.prog.cellsOf 25 = 1 := by kernel_rfl
  have g0 : DataW.trod enc Tryd.prog W base spare held n 3 (([c0, c1, c2, c3, c4, c5, c6].drop 0).take (Tryd.prog.cellsOf 3)) = some y0 := hf 0 _ rfl
  rw [hci] at g0
  replace g0 : DataW.trod enc Tryd.prog W base spare held n 3 [c0] = some y0 := g0
  have g1 : DataW.trod enc Tryd.prog W base spare held n 3 (([c0, c1, c2, c3, c4, c5, c6].drop 1).take (Tryd.prog.cellsOf 3)) = some y1 := hf 1 _ rfl
  rw [hci] at g1
  replace g1 : DataW.trod enc Tryd.prog W base spare held n 3 [c1] = some y1 := g1
  have g2 : DataW.trod enc Tryd.prog W base spare held n 3 (([c0, c1, c2, c3, c4, c5, c6].drop 2).take (Tryd.prog.cellsOf 3)) = some y2 := hf 2 _ rfl
  rw [hci] at g2
  replace g2 : DataW.trod enc Tryd.prog W base spare held n 3 [c2] = some y2 := g2
  have g3 : DataW.trod enc Tryd.prog W base spare held n 3 (([c0, c1, c2, c3, c4, c5, c6].drop 3).take (Tryd.prog.cellsOf 3)) = some y3 := hf 3 _ rfl
  rw [hci] at g3
  replace g3 : DataW.trod enc Tryd.prog W base spare held n 3 [c3] = some y3 := g3
  have g4 : DataW.trod enc Tryd.prog W base spare held n 38 (([c0, c1, c2, c3, c4, c5, c6].drop 4).take (Tryd.prog.cellsOf 38)) = some y4 := hf 4 _ rfl
  rw [hcu] at g4
  replace g4 : DataW.trod enc Tryd.prog W base spare held n 38 [c4] = some y4 := g4
  have g5 : DataW.trod enc Tryd.prog W base spare held n 3 (([c0, c1, c2, c3, c4, c5, c6].drop 5).take (Tryd.prog.cellsOf 3)) = some y5 := hf 5 _ rfl
  rw [hci] at g5
  replace g5 : DataW.trod enc Tryd.prog W base spare held n 3 [c5] = some y5 := g5
  have g6 : DataW.trod enc Tryd.prog W base spare held n 25 (([c0, c1, c2, c3, c4, c5, c6].drop 6).take (Tryd.prog.cellsOf 25)) = some y6 := hf 6 _ rfl
  rw [hcl] at g6
  replace g6 : DataW.trod enc Tryd.prog W base spare held n 25 [c6] = some y6 := g6
  obtain ⟨z0, e0, _, w0⟩ := DataW.trod_int Tryd.underlying3 g0
  obtain ⟨z1, e1, _, w1⟩ := DataW.trod_int Tryd.underlying3 g1
  obtain ⟨z2, e2, _, w2⟩ := DataW.trod_int Tryd.underlying3 g2
  obtain ⟨z3, e3, _, w3⟩ := DataW.trod_int Tryd.underlying3 g3
  obtain ⟨z4, e4, _, w4⟩ := DataW.trod_int Tryd.underlying38 g4
  obtain ⟨z5, e5, _, w5⟩ := DataW.trod_int Tryd.underlying3 g5
  obtain ⟨ys, A, c, e6, hlc, hk, hw⟩ := open_list g6
  obtain rfl : c0 = .int .i64 z0 := by simpa using e0
  obtain rfl : c1 = .int .i64 z1 := by simpa using e1
  obtain rfl : c2 = .int .i64 z2 := by simpa using e2
  obtain rfl : c3 = .int .i64 z3 := by simpa using e3
  obtain rfl : c4 = .int .u32 z4 := by simpa using e4
  obtain rfl : c5 = .int .i64 z5 := by simpa using e5
  obtain rfl : c6 = .slice A ys.length c := by simpa using e6
  exact ⟨⟨z0, z1, z2, z3, z4, z5, ys⟩, A, c, rfl, hlc, hk, ⟨w5, hw⟩, w0, w1, w2, w3, w4⟩

theorem add2 (a : Addr) (i j : Nat) : (a.add i).add j = a.add (i + j) := by
  unfold Addr.add
  split <;> split <;> simp_all [Nat.add_assoc]

theorem open_lines {fuel : Nat} {cs : List Value} {x : DataW H × List MemPlace} (h : DataW.trod enc Tryd.prog W base spare held fuel 22 cs = some x) :
    ∃ (ls : List Line) (A : Option Addr) (c : Nat), cs = [.slice A ls.length c] ∧ Lines W (.slice A ls.length c) ls ∧ (∀ l ∈ ls, (Lit.int .i64 l.label).wf = true ∧ ∀ y ∈ l.list, (Lit.int .i64 y).wf = true) ∧ ls.length ≤ c := by
  rcases Deep.open_slice Tryd.underlying22 h with ⟨rfl, _⟩ | ⟨a, len, cap, m, n, D, Pl, rfl, hb, hl, hm, hmm, rfl, hx⟩
  · exact ⟨[], none, 0, rfl, Lines.mk' (by decide) (fun h => absurd h (Nat.lt_irrefl 0)), by simp, Nat.le_refl _⟩
  · have hml : len ≤ m := by rw [hmm]; split <;> omega
    have hcl : Tryd.prog.cellsOf 40 = 7 := by kernel_rfl
    have hv : ∀ i, i < len → ∃ l : Line, (∃ (A : Option Addr) (c : Nat), l.list.length ≤ c ∧ kInt.C W A l.list.length l.list ∧ ∀ j u, [Value.int .i64 l.op, .int .i64 l.a, .int .i64 l.b, .int .i64 l.imm, .int .u32 l.n, .int .i64 l.label, .slice A l.list.length c][j]? = some u → W.cell? (a.add (i * 7 + j)) = some u) ∧
        ((Lit.int .i64 l.label).wf = true ∧ ∀ y ∈ l.list, (Lit.int .i64 y).wf = true) := fun i hi => by
      obtain ⟨cs', h1, h2⟩ := hx i (by omega)
      obtain ⟨l, A, c, rfl, hlc, hk, hw, _⟩ := open_line h2
      obtain ⟨_, _, h3⟩ := World.cells?_some h1
      refine ⟨l, ⟨A, c, hlc, hk, fun j u hu => ?_⟩, hw⟩
      have hj := (List.getElem?_eq_some_iff.1 hu).1
      have := h3 j (by rw [hcl]; simpa using hj)
      rw [add2, hcl] at this
      rw [this]
      exact hu
    obtain ⟨f, hf⟩ : ∃ f : Nat → Line, ∀ i (hi : i < len), f i = (hv i hi).choose :=
      ⟨fun i => if hi : i < len then (hv i hi).choose else default, fun i hi => by simp only [hi, dif_pos]⟩
    have hlen : ((List.range len).map f).length = len := by simp
    refine ⟨(List.range len).map f, some a, cap, by rw [hlen], Lines.mk' (by rw [hlen]; unfold maxLen at hm; omega) fun _ => ⟨a, rfl, fun i l hli => ?_⟩, fun l hl' => ?_, by rw [hlen]; exact hl⟩
    · have hi : i < len := by have := (List.getElem?_eq_some_iff.1 hli).1; simpa using this
      have hp : l = f i := by simp [hi] at hli; exact hli.symm
      rw [hp, hf i hi]
      exact (hv i hi).choose_spec.1
    · obtain ⟨i, hi, rfl⟩ := List.mem_map.1 hl'
      have hi' := List.mem_range.1 hi
      rw [hf i hi']
      exact (hv i hi').choose_spec.2

end Go.Proofs.YtamimnaafiphcaaDoor

set_option linter.unusedVariables false
set_option linter.unusedSimpArgs false
namespace Go.Proofs.YtamimnaafiphcaaDoor
open Go.RowKit Go.Proofs.YtamimnaafiphcaaDoorW.PrintWords Go.ChangeShapes Go.WideShapes

variable {H : Type} {enc : TypeId × Value → H} {W : World} {base : Nat} {spare : Nat → Bool} {held : Bool}

theorem open_nums {k : IntKind} {t u : TypeId} (ht : Tryd.prog.underlying t = some (.slice u)) (hu : Tryd.prog.underlying u = some (.int k)) (hc : Tryd.prog.cellsOf u = 1) {fuel : Nat} {cs : List Value} {x : DataW H × List MemPlace} (h : DataW.trod enc Tryd.prog W base spare held fuel t cs = some x) :
    ∃ (xs : List Int) (A : Option Addr) (c : Nat), cs = [.slice A xs.length c] ∧ Kd.C (Kd.int k) W A xs.length xs ∧ (∀ y ∈ xs, (Lit.int k y).wf = true) ∧ xs.length ≤ c := by
  rcases Deep.open_slice1 ht hc h with ⟨rfl, _⟩ | ⟨a, len, cap, m, n, V, D, Pl, rfl, hb, hl, hm, hmm, rfl, hx⟩
  · exact ⟨[], none, 0, rfl, Kd.C_nil (Kd.int k) W, by simp, Nat.le_refl _⟩
  · have hml : len ≤ m := by rw [hmm]; split <;> omega
    have hv : ∀ i, i < len → ∃ z, V i = .int k z ∧ (Lit.int k z).wf = true := fun i hi => by
      obtain ⟨z, e, _, hw⟩ := DataW.trod_int hu (hx i (by omega)).2
      exact ⟨z, by simpa using e, hw⟩
    obtain ⟨f, hf⟩ : ∃ f : Nat → Int, ∀ i, i < len → V i = .int k (f i) ∧ (Lit.int k (f i)).wf = true :=
      ⟨fun i => if hi : i < len then (hv i hi).choose else 0, fun i hi => by simp only [hi, dif_pos]; exact (hv i hi).choose_spec⟩
    refine ⟨(List.range len).map f, some a, cap, by simp, ?_, fun y hy => ?_, by simpa using hl⟩
    · refine ⟨rfl, by simp; unfold maxLen at hm; omega, fun _ => ⟨a, rfl, fun j p hj => ⟨[.int k p], rfl, rfl, fun i u hu => ?_⟩⟩⟩
      have hj' : j < len := by have := (List.getElem?_eq_some_iff.1 hj).1; simpa using this
      have hp : p = f j := by simp [hj'] at hj; exact hj.symm
      have hi : i = 0 := by have := (List.getElem?_eq_some_iff.1 hu).1; simpa using this
      subst hi
      cases hu
      rw [show j * (Kd.int k).sz + 0 = j from by show j * 1 + 0 = j; omega, hp, ← (hf j hj').1]
      exact (hx j (by omega)).1
    · obtain ⟨i, hi, rfl⟩ := List.mem_map.1 hy
      exact (hf i (List.mem_range.1 hi)).2

theorem open_ints {fuel : Nat} {cs : List Value} {x : DataW H × List MemPlace} (h : DataW.trod enc Tryd.prog W base spare held fuel 25 cs = some x) :
    ∃ (xs : List Int) (A : Option Addr) (c : Nat), cs = [.slice A xs.length c] ∧ Kd.C (Kd.int .i64) W A xs.length xs ∧ (∀ y ∈ xs, (Lit.int .i64 y).wf = true) ∧ xs.length ≤ c :=
  open_nums Tryd.underlying25 Tryd.underlying3 (by kernel_rfl) h

end Go.Proofs.YtamimnaafiphcaaDoor
