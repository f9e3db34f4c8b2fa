/- relax's fits: are a line's fields as they must be? -/
import Derived.Test.YtlhgfhmdhmgmpaaGreatDoorInB
import Derived.Test.YtlhgfhmdhmgmpaaGreatDoorRxA
import Derived.Test.YtlhgfhmdhmgmpaaGreatDoorEncB
import Derived.Deep.DeepCutAuto
namespace Go.Proofs.YtlhgfhmdhmgmpaaGreatDoor
open Go.RowKit Go.Proofs.YtlhgfhmdhmgmpaaGreatDoorW.PrintWords

def x4 (l : Line) : Bool := (goOp l.op && l.imm != 0) || (l.n != 0 && l.op != 2)
def x6 (l : Line) : Bool := (!goOp l.op && l.label != 0) || !isLabel l.label
def x8 (l : Line) : Bool := (decide (0 < l.list.length) != (l.op == 42)) || decide (400 < l.list.length)

def fitsB (l : Line) : Bool :=
  if l.op = 0 then (l.a == 0) && (l.b == 0) && (l.imm == 0) && (l.n == 0) && (l.list.length == 0) && isLabel l.label else
  if x4 l then false else if x6 l then false else if x8 l then false else if l.list.all isLabel = false then false else (enc l.op l.a l.b l.imm).2 == 0

theorem Ints.len {w : World} {A : Option Addr} {n c : Nat} {xs : List Int} (h : Ints w (.slice A n c) xs) : xs.length = n ∧ n ≤ 9223372036854775807 := by
  obtain ⟨A', c', e, hr⟩ := h
  injection e with e1 e2 e3
  exact ⟨e2.symm, by rw [e2]; exact hr.2.1⟩

theorem fits_label (l : Line) (v : Value) (w : World) (hv : Ints w v l.list) (h0 : l.op = 0) :
    Calls Tryz.prog 80 #[lineVX l v] w fun e w' => e = .returned (.bool (fitsB l)) ∧ Below w.heap.size w w' := by
  obtain ⟨A, c, rfl, hr⟩ := hv
  clear hr
  have hI := fun W => instruction_any l (.slice A l.list.length c) W
  have e : fitsB l = ((l.a == 0) && (l.b == 0) && (l.imm == 0) && (l.n == 0) && (l.list.length == 0) && isLabel l.label) := by unfold fitsB; rw [if_pos h0]
  rw [e]
  clear e
  generalize l.list.length = m at hI ⊢
  obtain ⟨op, a, b, imm, n, lb, list⟩ := l
  simp only [] at h0 hI ⊢
  subst h0
  have HI := Lib.hid hI
  clear hI
  go_enter Tryz.func80, Tryz.ntmps80
  go_wp2_with fail
  refine (HI.out _).mono ?_
  rintro e1 w1 ⟨rfl, hb1⟩
  have k0 : w1.cell? ⟨w.heap.size, 0, none⟩ = some (.int .i64 _) := kp hb1 (kn 0 rfl)
  have k4 : w1.cell? ⟨w.heap.size, 4, none⟩ = some (.int .u32 _) := kp hb1 (kn 4 rfl)
  have k5 : w1.cell? ⟨w.heap.size, 5, none⟩ = some (.int .i64 _) := kp hb1 (kn 5 rfl)
  have k6 : w1.cell? ⟨w.heap.size, 6, none⟩ = some (.slice _ _ _) := kp hb1 (kn 6 rfl)
  have hb2 := bt hb1
  have hs := lt_of_cell k0
  simp only [] at hs
  clear hb1
  go_wp2_with (go_at_call 111; refine (label_any _ _).mono ?_; rintro e w' ⟨rfl, rfl⟩)
  all_goals (go_ret; refine ⟨?_, by have hs2 := hb2.size; go_grown⟩)
  all_goals first | (simp [*]; done) | (simp_all; done)

set_option maxRecDepth 100000 in
set_option maxHeartbeats 4000000 in
theorem fits_plain (l : Line) (v : Value) (w : World) (hL : Laid w) (hv : Ints w v l.list) (h0 : ¬ l.op = 0) :
    Calls Tryz.prog 80 #[lineVX l v] w fun e w' => e = .returned (.bool (fitsB l)) ∧ Below w.heap.size w w' := by
  have HV := Lib.hid hv
  have HL := Lib.hid hL
  obtain ⟨A, c, rfl, hr⟩ := hv
  have hm : l.list.length ≤ 9223372036854775807 := hr.2.1
  clear hr hL
  have hI := fun W => instruction_any l (.slice A l.list.length c) W
  have hE := fun W hW => encode_any l.op l.a l.b l.imm W hW
  have E := Lib.hid (show fitsB l = (if x4 l then false else if x6 l then false else if x8 l then false else if l.list.all isLabel = false then false else (enc l.op l.a l.b l.imm).2 == 0) by unfold fitsB; rw [if_neg h0])
  have X4 := Lib.hid (show x4 l = ((goOp l.op && l.imm != 0) || (l.n != 0 && l.op != 2)) from rfl)
  have X6 := Lib.hid (show x6 l = ((!goOp l.op && l.label != 0) || !isLabel l.label) from rfl)
  have X8 := Lib.hid (show x8 l = ((decide (0 < l.list.length) != (l.op == 42)) || decide (400 < l.list.length)) from rfl)
  generalize hx4 : x4 l = b4 at E X4
  generalize hx6 : x6 l = b6 at E X6
  generalize hx8 : x8 l = b8 at E X8
  generalize hf : fitsB l = bf at E ⊢
  clear hx4 hx6 hx8 hf
  obtain ⟨op, a, b, imm, n, lb, list⟩ := l
  simp only [] at h0 hI hE HV E X4 X6 X8 hm ⊢
  generalize hg : enc op a b imm = en at hE E
  obtain ⟨ew, ez⟩ := en
  clear hg
  simp only [] at hE E
  have HE := Lib.hid hE
  have HI := Lib.hid hI
  clear hI hE
  have h0' : (op == 0) = false := by simpa using h0
  clear h0
  dsimp only [lineVX]
  go_enter Tryz.func80, Tryz.ntmps80
  go_wp2_with fail
  refine (HI.out _).mono ?_
  rintro e1 w1 ⟨rfl, hb1⟩
  have k0 : w1.cell? ⟨w.heap.size, 0, none⟩ = some (.int .i64 _) := kp hb1 (kn 0 rfl)
  have k3 : w1.cell? ⟨w.heap.size, 3, none⟩ = some (.int .i64 _) := kp hb1 (kn 3 rfl)
  have k4 : w1.cell? ⟨w.heap.size, 4, none⟩ = some (.int .u32 _) := kp hb1 (kn 4 rfl)
  have k5 : w1.cell? ⟨w.heap.size, 5, none⟩ = some (.int .i64 _) := kp hb1 (kn 5 rfl)
  have k6 : w1.cell? ⟨w.heap.size, 6, none⟩ = some (.slice _ _ _) := kp hb1 (kn 6 rfl)
  have hb2 := bt hb1
  have hs := lt_of_cell k0
  simp only [] at hs
  clear hb1
  go_upto_region 4 with fail
  generalize hW : w1.alloc (.cells #[.int .i64 op, .int .i64 a, .int .i64 b, .int .i64 imm] 99) = W
  have hbW : Below w1.heap.size w1 W := by rw [← hW]; exact (Below.refl _ _).alloc (Nat.le_refl _) _
  have j0 : W.cell? ⟨w1.heap.size, 0, none⟩ = some (.int .i64 op) := by rw [← hW]; exact kn 0 rfl
  have j1 : W.cell? ⟨w1.heap.size, 1, none⟩ = some (.int .i64 a) := by rw [← hW]; exact kn 1 rfl
  have j2 : W.cell? ⟨w1.heap.size, 2, none⟩ = some (.int .i64 b) := by rw [← hW]; exact kn 2 rfl
  have j3 : W.cell? ⟨w1.heap.size, 3, none⟩ = some (.int .i64 imm) := by rw [← hW]; exact kn 3 rfl
  replace k0 := kp hbW k0
  replace k3 := kp hbW k3
  replace k4 := kp hbW k4
  replace k5 := kp hbW k5
  replace k6 := kp hbW k6
  have hbw := bj hb2 hbW
  clear hW hb2 hbW
  go_cut [0, 49] (fun s0 s49 w' => (∃ x, s0 = x) ∧ s49 = .bool b4 ∧ W = w')
  case first =>
    go_wp2_with (go_at_call 81; refine (goes_any _ _).mono ?_; rintro e w' ⟨rfl, rfl⟩)
    all_goals go_meet
    all_goals refine ⟨⟨_, rfl⟩, ?_, rfl⟩
    all_goals (rw [X4.out]; simp [*])
  case rest =>
    obtain ⟨⟨s0, rfl⟩, rfl, rfl⟩ := hcut
    cases b4 with
    | true =>
      go_wp2
      go_ret
      exact ⟨by rw [E.out]; rfl, by go_grown⟩
    | false =>
      go_upto_region 6 with fail
      go_cut [64] (fun s64 w' => s64 = .bool b6 ∧ W = w')
      case first =>
        go_wp2_with (first | (go_at_call 81; refine (goes_any _ _).mono ?_; rintro e w' ⟨rfl, rfl⟩) | (go_at_call 111; refine (label_any _ _).mono ?_; rintro e w' ⟨rfl, rfl⟩))
        all_goals go_meet
        all_goals refine ⟨?_, rfl⟩
        all_goals (rw [X6.out]; simp [*])
      case rest =>
        obtain ⟨rfl, rfl⟩ := hcut
        cases b6 with
        | true =>
          go_wp2
          go_ret
          exact ⟨by rw [E.out]; rfl, by go_grown⟩
        | false =>
          go_upto_region 8 with fail
          go_cut [78] (fun s78 w' => s78 = .bool b8 ∧ W = w')
          case first =>
            go_wp2
            all_goals go_meet
            all_goals refine ⟨?_, rfl⟩
            all_goals (rw [X8.out]; first | (simp [*]; done) | (simp [*]; omega))
          case rest =>
            obtain ⟨rfl, rfl⟩ := hcut
            cases b8 with
            | true =>
              go_wp2
              go_ret
              exact ⟨by rw [E.out]; rfl, by go_grown⟩
            | false =>
              have HA := Lib.hid (HV.out.below hbw)
              have hs2 : w.heap.size ≤ W.heap.size := hbw.size
              go_wp2_with fail
              go_loop [82] (fun s => ∃ k : Nat, k ≤ list.length ∧ s = .int .i64 k ∧ Hid ((list.take k).all isLabel = true)) (fun s => list.length - (intOf s).toNat)
              case atStart => exact ⟨0, Nat.zero_le _, rfl, rfl⟩
              case round =>
                obtain ⟨k, hk, rfl, hall⟩ := hrel
                by_cases hlt : k < list.length
                · obtain ⟨ad, x, hA, hx, kx⟩ := HA.out.at_ k hlt
                  subst hA
                  by_cases hlx : isLabel x = true
                  · go_wp2_with (go_at_call 111; refine (label_any _ _).mono ?_; rintro e w' ⟨rfl, rfl⟩)
                    go_round
                    case rel => exact ⟨k + 1, by omega, by go_num, Lib.hid (by rw [List.take_add_one, hx, List.all_append, hall.out]; simp [hlx])⟩
                    case measure => simp [intOf]; omega
                  · have hlx' : isLabel x = false := by simpa using hlx
                    have hF : list.all isLabel = false := by
                      rw [List.all_eq_false]
                      exact ⟨x, List.mem_of_getElem? hx, by simp [hlx']⟩
                    have HF := Lib.hid hF
                    clear hF hlx
                    go_wp2_with (go_at_call 111; refine (label_any _ _).mono ?_; rintro e w' ⟨rfl, rfl⟩)
                    go_ret
                    exact ⟨by rw [E.out, HF.out]; rfl, by go_grown⟩
                · have hk' : k = list.length := by omega
                  have HF := Lib.hid (show list.all isLabel = true by have := hall.out; rw [hk', List.take_length] at this; exact this)
                  clear hk' hall
                  go_wp2_with fail
                  refine (HE.out _ (HL.out.below hbw)).mono ?_
                  rintro e3 w3 ⟨rfl, hb3⟩
                  have hbw3 := bj hbw hb3
                  have hs3 := hbw3.size
                  go_wp2_with fail
                  go_ret
                  exact ⟨by rw [E.out, HF.out]; rfl, by go_grown⟩

theorem fits_any (l : Line) (v : Value) (w : World) (hL : Laid w) (hv : Ints w v l.list) :
    Calls Tryz.prog 80 #[lineVX l v] w fun e w' => e = .returned (.bool (fitsB l)) ∧ Below w.heap.size w w' := by
  by_cases h0 : l.op = 0
  · exact fits_label l v w hv h0
  · exact fits_plain l v w hL hv h0

end Go.Proofs.YtlhgfhmdhmgmpaaGreatDoor
