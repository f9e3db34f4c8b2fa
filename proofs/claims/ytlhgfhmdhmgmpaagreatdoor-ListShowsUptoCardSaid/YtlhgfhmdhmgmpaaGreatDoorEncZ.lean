/- Texts joined: EncM EncD EncR EncP. -/
import Derived.Test.YtlhgfhmdhmgmpaaGreatDoorRxZ1
set_option linter.unusedVariables false
set_option linter.unusedSimpArgs false
namespace Go.Proofs.YtlhgfhmdhmgmpaaGreatDoor
open Go.RowKit

set_option maxRecDepth 100000 in
set_option maxHeartbeats 4000000 in
theorem may_anyX (op a b c : Int) (w : World) :
    Calls Tryz.prog 94 #[.agg #[.int .i64 op, .int .i64 a, .int .i64 b, .int .i64 c]] w fun e w' => e = .returned (.bool (mayR op a b c)) ∧ Below w.heap.size w w' := by
  go_enter Tryz.func94, Tryz.ntmps94
  go_wp2_with fail
  refine (reg_any a _).mono ?_
  rintro e w' ⟨rfl, rfl⟩
  go_wp2_with fail
  refine (reg_any b _).mono ?_
  rintro e w' ⟨rfl, rfl⟩
  go_upto_region 3 with fail
  go_cut [5] (fun s5 w' => s5 = .bool (wide c) ∧ w' = w.alloc (.cells #[.int .i64 op, .int .i64 a, .int .i64 b, .int .i64 c] 99))
  case first =>
    go_wp2_with fail
    all_goals go_meet
    all_goals refine ⟨?_, rfl⟩
    all_goals (simp only [wide, within, Value.bool.injEq]; first | (simp only [*]; done) | (simp [*]; done) | (simp; omega))
  case rest =>
    obtain ⟨rfl, rfl⟩ := hcut
    go_upto_region 4 with fail
    go_cut [6] (fun s6 w' => s6 = .bool (near c) ∧ w' = w.alloc (.cells #[.int .i64 op, .int .i64 a, .int .i64 b, .int .i64 c] 99))
    case first =>
      go_wp2_with fail
      all_goals go_meet
      all_goals refine ⟨?_, rfl⟩
      all_goals (simp only [near, within, Value.bool.injEq]; first | (simp only [*]; done) | (simp [*]; done) | (simp; omega))
    case rest =>
      obtain ⟨rfl, rfl⟩ := hcut
      go_wp2_with (first | (go_at_call 115; refine (reg_any _ _).mono ?_; rintro e w' ⟨rfl, rfl⟩) | (go_at_call 79; refine (br_any _ _).mono ?_; rintro e w' ⟨rfl, rfl⟩))
      all_goals (go_ret; refine ⟨?_, by go_grown⟩; simp only [Ending.returned.injEq]; unfold mayR; simp_all)
      all_goals first | (intros; exfalso; omega) | (intros; exfalso; have hb := ‹isBr op = true›; simp only [isBr, within, Bool.and_eq_true, decide_eq_true_eq] at hb; omega) | (unfold within; simp; omega) | (unfold within; simp only [*]; done)

end Go.Proofs.YtlhgfhmdhmgmpaaGreatDoor

namespace Go.Proofs.YtlhgfhmdhmgmpaaGreatDoor
open Go.RowKit

def i16 (n : Int) : Int := (n + 32768) % 65536 - 32768

/-- What the program's Decode tells of a word. -/
def dec (n : Int) : (Int × Int × Int × Int) × Int :=
  let e := (enc (n / 16777216) (n / 1048576 % 16) (n / 65536 % 16) (i16 n)).2
  if e = 0 then ((n / 16777216, n / 1048576 % 16, n / 65536 % 16, i16 n), 0) else ((0, 0, 0, 0), e)

theorem and15 (x : Int) (h0 : 0 ≤ x) (h1 : x < 4294967296) : wrap64 (bits BinOp.and IntKind.u32 x 15) = x % 16 := by
  have h := bits_mask .u32 32 (by decide) (u32_own 32 (by decide)) 4 (by decide) x h0 (by simpa using h1)
  rw [show bits BinOp.and IntKind.u32 x 15 = x % 16 from h]
  unfold wrap64
  omega

theorem wrap_i16 (n : Int) : wrap64 (IntKind.i16.wrap n) = i16 n := by
  have e : IntKind.i16.wrap n = i16 n := by
    simp only [IntKind.wrap, IntKind.bits, IntKind.signed, i16]
    simp
    omega
  rw [e]
  unfold wrap64 i16
  omega

set_option maxHeartbeats 1000000 in
theorem decode_any (n : Int) (w : World) (hL : Laid w) (h0 : 0 ≤ n) (h1 : n < 4294967296) :
    Calls Tryz.prog 72 #[.int .u32 n] w fun e w' => e = .returned (.tuple #[.agg #[.int .i64 (dec n).1.1, .int .i64 (dec n).1.2.1, .int .i64 (dec n).1.2.2.1, .int .i64 (dec n).1.2.2.2], .int .i64 (dec n).2]) ∧ Below w.heap.size w w' := by
  have e1 := and15 (n / 1048576) (by omega) (by omega)
  have e2 := and15 (n / 65536) (by omega) (by omega)
  have e3 := wrap_i16 n
  have E1 := Lib.hid e1
  have E2 := Lib.hid e2
  have E3 := Lib.hid e3
  have HL := Lib.hid hL
  clear e1 e2 e3 hL
  have key : ∀ r : (Int × Int × Int × Int) × Int, dec n = r → Calls Tryz.prog 72 #[.int .u32 n] w (fun e w' => e = .returned (.tuple #[.agg #[.int .i64 r.1.1, .int .i64 r.1.2.1, .int .i64 r.1.2.2.1, .int .i64 r.1.2.2.2], .int .i64 r.2]) ∧ Below w.heap.size w w') →
      Calls Tryz.prog 72 #[.int .u32 n] w fun e w' => e = .returned (.tuple #[.agg #[.int .i64 (dec n).1.1, .int .i64 (dec n).1.2.1, .int .i64 (dec n).1.2.2.1, .int .i64 (dec n).1.2.2.2], .int .i64 (dec n).2]) ∧ Below w.heap.size w w' := fun r h => by rw [h]; exact id
  have HE := fun W (hW : Laid W) => encode_any (n / 16777216) (n / 1048576 % 16) (n / 65536 % 16) (i16 n) W hW
  by_cases hz : (enc (n / 16777216) (n / 1048576 % 16) (n / 65536 % 16) (i16 n)).2 = 0
  · refine key ((n / 16777216, n / 1048576 % 16, n / 65536 % 16, i16 n), 0) (by unfold dec; simp only [hz, if_true]) ?_
    clear key
    rw [hz] at HE
    have HE' := Lib.hid HE
    generalize (enc (n / 16777216) (n / 1048576 % 16) (n / 65536 % 16) (i16 n)).1 = x at HE'
    clear hz HE
    go_enter Tryz.func72, Tryz.ntmps72
    go_wp2_with fail
    rw [E1.out, E2.out, E3.out]
    refine (HE'.out _ (HL.out.below (by go_grown))).mono ?_
    rintro e w2 ⟨rfl, hb2⟩
    obtain ⟨hc2, hf2⟩ := bcell hb2
    have hs1 : w.heap.size < w2.heap.size := by have := hb2.size; simp at this; omega
    have hs2 : w.heap.size + 1 < w2.heap.size := by have := hb2.size; simp at this; omega
    have k0 : w2.cell? ⟨w.heap.size, 0, none⟩ = some (.int .i64 0) := by rw [hc2 _ _ (by simp; omega)]; simp
    have k1 : w2.cell? ⟨w.heap.size, 1, none⟩ = some (.int .i64 0) := by rw [hc2 _ _ (by simp; omega)]; simp
    have k2 : w2.cell? ⟨w.heap.size, 2, none⟩ = some (.int .i64 0) := by rw [hc2 _ _ (by simp; omega)]; simp
    have k3 : w2.cell? ⟨w.heap.size, 3, none⟩ = some (.int .i64 0) := by rw [hc2 _ _ (by simp; omega)]; simp
    go_wp2
    refine bodyPost_ret (v := .tuple #[.agg #[.int .i64 (n / 16777216), .int .i64 (n / 1048576 % 16), .int .i64 (n / 65536 % 16), .int .i64 (i16 n)], .int .i64 0]) (by simp [results, Tryz.results72, go_sem, k0, k1, k2, k3]) rfl ⟨rfl, ?_⟩
    have hb3 : Below w.heap.size w w2 := Below.trans (b := (w.alloc (.cells #[.int .i64 0, .int .i64 0, .int .i64 0, .int .i64 0] 99)).alloc (.cells #[.int .i64 (n / 16777216), .int .i64 (n / 1048576 % 16), .int .i64 (n / 65536 % 16), .int .i64 (i16 n)] 99)) (by go_grown) (hb2.mono (by simp; omega))
    go_grown
  · refine key ((0, 0, 0, 0), (enc (n / 16777216) (n / 1048576 % 16) (n / 65536 % 16) (i16 n)).2) (by unfold dec; simp only [hz, if_false]) ?_
    clear key
    have HE' := Lib.hid HE
    generalize (enc (n / 16777216) (n / 1048576 % 16) (n / 65536 % 16) (i16 n)) = x at HE' hz
    obtain ⟨x, z⟩ := x
    simp only [] at HE' hz ⊢
    have hz' : (z != 0) = true := by simpa using hz
    have hz2 : (z == 0) = false := by simpa using hz
    clear hz HE
    go_enter Tryz.func72, Tryz.ntmps72
    go_wp2_with fail
    rw [E1.out, E2.out, E3.out]
    refine (HE'.out _ (HL.out.below (by go_grown))).mono ?_
    rintro e w2 ⟨rfl, hb2⟩
    obtain ⟨hc2, hf2⟩ := bcell hb2
    have hs1 : w.heap.size < w2.heap.size := by have := hb2.size; simp at this; omega
    have hs2 : w.heap.size + 1 < w2.heap.size := by have := hb2.size; simp at this; omega
    have k0 : w2.cell? ⟨w.heap.size, 0, none⟩ = some (.int .i64 0) := by rw [hc2 _ _ (by simp; omega)]; simp
    have k1 : w2.cell? ⟨w.heap.size, 1, none⟩ = some (.int .i64 0) := by rw [hc2 _ _ (by simp; omega)]; simp
    have k2 : w2.cell? ⟨w.heap.size, 2, none⟩ = some (.int .i64 0) := by rw [hc2 _ _ (by simp; omega)]; simp
    have k3 : w2.cell? ⟨w.heap.size, 3, none⟩ = some (.int .i64 0) := by rw [hc2 _ _ (by simp; omega)]; simp
    go_wp2
    refine bodyPost_ret (v := .tuple #[.agg #[.int .i64 0, .int .i64 0, .int .i64 0, .int .i64 0], .int .i64 z]) (by simp [results, Tryz.results72, go_sem, k0, k1, k2, k3]) rfl ⟨rfl, ?_⟩
    have hb3 : Below w.heap.size w w2 := Below.trans (b := (w.alloc (.cells #[.int .i64 0, .int .i64 0, .int .i64 0, .int .i64 0] 99)).alloc (.cells #[.int .i64 (n / 16777216), .int .i64 (n / 1048576 % 16), .int .i64 (n / 65536 % 16), .int .i64 (i16 n)] 99)) (by go_grown) (hb2.mono (by simp; omega))
    go_grown

end Go.Proofs.YtlhgfhmdhmgmpaaGreatDoor

namespace Go.Proofs.YtlhgfhmdhmgmpaaGreatDoor
open Go.RowKit

/-- What the reference's Encode tells. -/
def encR (op a b c : Int) : Int × Int := if isOp op = false then (0, 160) else if mayR op a b c = false then (0, 161) else (word op a b c, 0)

theorem mayR_in {op a b c : Int} (h : mayR op a b c = true) : 1 ≤ op ∧ op ≤ 48 ∧ 0 ≤ a ∧ a ≤ 11 ∧ 0 ≤ b ∧ b ≤ 11 ∧ -32768 ≤ c ∧ c ≤ 32767 := by
  unfold mayR at h
  repeat' split at h
  all_goals first | exact absurd h Bool.false_ne_true | (simp only [reg, wide, near, isBr, within, Bool.and_eq_true, decide_eq_true_eq, beq_iff_eq] at *; omega)

/-- What the reference's Decode tells. -/
def decR (n : Int) : (Int × Int × Int × Int) × Int :=
  if isOp (n / 16777216) = false then ((0, 0, 0, 0), 160) else
  if mayR (n / 16777216) (n / 1048576 % 16) (n / 65536 % 16) (n % 65536) = true then ((n / 16777216, n / 1048576 % 16, n / 65536 % 16, n % 65536), 0) else
  if 32768 ≤ n % 65536 ∧ mayR (n / 16777216) (n / 1048576 % 16) (n / 65536 % 16) (n % 65536 - 65536) = true then ((n / 16777216, n / 1048576 % 16, n / 65536 % 16, n % 65536 - 65536), 0) else
  ((0, 0, 0, 0), 161)

set_option maxHeartbeats 2000000 in
theorem decR_any (n : Int) (w : World) (h0 : 0 ≤ n) (h1 : n < 4294967296) :
    Calls Tryz.prog 78 #[.int .u32 n] w fun e w' => e = .returned (.tuple #[.agg #[.int .i64 (decR n).1.1, .int .i64 (decR n).1.2.1, .int .i64 (decR n).1.2.2.1, .int .i64 (decR n).1.2.2.2], .int .i64 (decR n).2]) ∧ Below w.heap.size w w' := by
  have key : ∀ r : (Int × Int × Int × Int) × Int, decR n = r → Calls Tryz.prog 78 #[.int .u32 n] w (fun e w' => e = .returned (.tuple #[.agg #[.int .i64 r.1.1, .int .i64 r.1.2.1, .int .i64 r.1.2.2.1, .int .i64 r.1.2.2.2], .int .i64 r.2]) ∧ Below w.heap.size w w') →
      Calls Tryz.prog 78 #[.int .u32 n] w fun e w' => e = .returned (.tuple #[.agg #[.int .i64 (decR n).1.1, .int .i64 (decR n).1.2.1, .int .i64 (decR n).1.2.2.1, .int .i64 (decR n).1.2.2.2], .int .i64 (decR n).2]) ∧ Below w.heap.size w w' := fun r h => by rw [h]; exact id
  by_cases ho : isOp (n / 16777216) = false
  · refine key ((0, 0, 0, 0), 160) (by unfold decR; rw [if_pos ho]) ?_
    clear key
    go_enter Tryz.func78, Tryz.ntmps78
    go_wp2_with fail
    refine (op_any _ _).mono ?_
    rintro e w' ⟨rfl, rfl⟩
    go_wp2_with fail
    go_returns
    exact ⟨rfl, by go_grown⟩
  · have ho1 : isOp (n / 16777216) = true := by simpa using ho
    by_cases hm : mayR (n / 16777216) (n / 1048576 % 16) (n / 65536 % 16) (n % 65536) = true
    · refine key ((n / 16777216, n / 1048576 % 16, n / 65536 % 16, n % 65536), 0) (by unfold decR; rw [if_neg ho, if_pos hm]) ?_
      clear key ho
      go_enter Tryz.func78, Tryz.ntmps78
      go_wp2_with fail
      refine (op_any _ _).mono ?_
      rintro e w' ⟨rfl, rfl⟩
      go_wp2_with fail
      refine (may_anyX _ _ _ _ _).mono ?_
      rintro e w2 ⟨rfl, hb2⟩
      obtain ⟨hc2, hf2⟩ := bcell hb2
      have hs1 : w.heap.size < w2.heap.size := by have := hb2.size; simp at this; omega
      have hs2 : w.heap.size + 1 < w2.heap.size := by have := hb2.size; simp at this; omega
      have k0 : w2.cell? ⟨w.heap.size, 0, none⟩ = some (.int .i64 0) := by rw [hc2 _ _ (by simp; omega)]; simp
      have k1 : w2.cell? ⟨w.heap.size, 1, none⟩ = some (.int .i64 0) := by rw [hc2 _ _ (by simp; omega)]; simp
      have k2 : w2.cell? ⟨w.heap.size, 2, none⟩ = some (.int .i64 0) := by rw [hc2 _ _ (by simp; omega)]; simp
      have k3 : w2.cell? ⟨w.heap.size, 3, none⟩ = some (.int .i64 0) := by rw [hc2 _ _ (by simp; omega)]; simp
      have j0 : w2.cell? ⟨w.heap.size + 1, 0, none⟩ = some (.int .i64 (n / 16777216)) := by rw [hc2 _ _ (by simp)]; simp
      have j1 : w2.cell? ⟨w.heap.size + 1, 1, none⟩ = some (.int .i64 (n / 1048576 % 16)) := by rw [hc2 _ _ (by simp)]; simp
      have j2 : w2.cell? ⟨w.heap.size + 1, 2, none⟩ = some (.int .i64 (n / 65536 % 16)) := by rw [hc2 _ _ (by simp)]; simp
      have j3 : w2.cell? ⟨w.heap.size + 1, 3, none⟩ = some (.int .i64 (n % 65536)) := by rw [hc2 _ _ (by simp)]; simp
      have q0 : w2.frozen? ⟨w.heap.size, 0, none⟩ = false := by rw [hf2 _ _ (by simp; omega)]; simp
      have q1 : w2.frozen? ⟨w.heap.size, 1, none⟩ = false := by rw [hf2 _ _ (by simp; omega)]; simp
      have q2 : w2.frozen? ⟨w.heap.size, 2, none⟩ = false := by rw [hf2 _ _ (by simp; omega)]; simp
      have q3 : w2.frozen? ⟨w.heap.size, 3, none⟩ = false := by rw [hf2 _ _ (by simp; omega)]; simp
      have q4 : w2.frozen? ⟨w.heap.size + 1, 3, none⟩ = false := by rw [hf2 _ _ (by simp)]; simp
      have hb3 : Below w.heap.size w w2 := Below.trans (b := (w.alloc (.cells #[.int .i64 0, .int .i64 0, .int .i64 0, .int .i64 0] 99)).alloc (.cells #[.int .i64 (n / 16777216), .int .i64 (n / 1048576 % 16), .int .i64 (n / 65536 % 16), .int .i64 (n % 65536)] 99)) (by go_grown) (hb2.mono (by simp; omega))
      clear hc2 hf2
      go_wp2_with fail
      refine bodyPost_ret (v := .tuple #[.agg #[.int .i64 (n / 16777216), .int .i64 (n / 1048576 % 16), .int .i64 (n / 65536 % 16), .int .i64 (n % 65536)], .int .i64 0]) (by simp [results, Tryz.results78, go_sem, k0, k1, k2, k3]) rfl ⟨rfl, ?_⟩
      go_grown
    · have hmf : mayR (n / 16777216) (n / 1048576 % 16) (n / 65536 % 16) (n % 65536) = false := by simpa using hm
      by_cases hg : 32768 ≤ n % 65536
      · by_cases hn : mayR (n / 16777216) (n / 1048576 % 16) (n / 65536 % 16) (n % 65536 - 65536) = true
        · refine key ((n / 16777216, n / 1048576 % 16, n / 65536 % 16, n % 65536 - 65536), 0) (by unfold decR; rw [if_neg ho, if_neg hm, if_pos ⟨hg, hn⟩]) ?_
          clear key ho hm
          go_enter Tryz.func78, Tryz.ntmps78
          go_wp2_with fail
          refine (op_any _ _).mono ?_
          rintro e w' ⟨rfl, rfl⟩
          go_wp2_with fail
          refine (may_anyX _ _ _ _ _).mono ?_
          rintro e w2 ⟨rfl, hb2⟩
          obtain ⟨hc2, hf2⟩ := bcell hb2
          have hs1 : w.heap.size < w2.heap.size := by have := hb2.size; simp at this; omega
          have hs2 : w.heap.size + 1 < w2.heap.size := by have := hb2.size; simp at this; omega
          have k0 : w2.cell? ⟨w.heap.size, 0, none⟩ = some (.int .i64 0) := by rw [hc2 _ _ (by simp; omega)]; simp
          have k1 : w2.cell? ⟨w.heap.size, 1, none⟩ = some (.int .i64 0) := by rw [hc2 _ _ (by simp; omega)]; simp
          have k2 : w2.cell? ⟨w.heap.size, 2, none⟩ = some (.int .i64 0) := by rw [hc2 _ _ (by simp; omega)]; simp
          have k3 : w2.cell? ⟨w.heap.size, 3, none⟩ = some (.int .i64 0) := by rw [hc2 _ _ (by simp; omega)]; simp
          have j0 : w2.cell? ⟨w.heap.size + 1, 0, none⟩ = some (.int .i64 (n / 16777216)) := by rw [hc2 _ _ (by simp)]; simp
          have j1 : w2.cell? ⟨w.heap.size + 1, 1, none⟩ = some (.int .i64 (n / 1048576 % 16)) := by rw [hc2 _ _ (by simp)]; simp
          have j2 : w2.cell? ⟨w.heap.size + 1, 2, none⟩ = some (.int .i64 (n / 65536 % 16)) := by rw [hc2 _ _ (by simp)]; simp
          have j3 : w2.cell? ⟨w.heap.size + 1, 3, none⟩ = some (.int .i64 (n % 65536)) := by rw [hc2 _ _ (by simp)]; simp
          have q0 : w2.frozen? ⟨w.heap.size, 0, none⟩ = false := by rw [hf2 _ _ (by simp; omega)]; simp
          have q1 : w2.frozen? ⟨w.heap.size, 1, none⟩ = false := by rw [hf2 _ _ (by simp; omega)]; simp
          have q2 : w2.frozen? ⟨w.heap.size, 2, none⟩ = false := by rw [hf2 _ _ (by simp; omega)]; simp
          have q3 : w2.frozen? ⟨w.heap.size, 3, none⟩ = false := by rw [hf2 _ _ (by simp; omega)]; simp
          have q4 : w2.frozen? ⟨w.heap.size + 1, 3, none⟩ = false := by rw [hf2 _ _ (by simp)]; simp
          have hb3 : Below w.heap.size w w2 := Below.trans (b := (w.alloc (.cells #[.int .i64 0, .int .i64 0, .int .i64 0, .int .i64 0] 99)).alloc (.cells #[.int .i64 (n / 16777216), .int .i64 (n / 1048576 % 16), .int .i64 (n / 65536 % 16), .int .i64 (n % 65536)] 99)) (by go_grown) (hb2.mono (by simp; omega))
          go_wp2_with fail
          refine (may_anyX _ _ _ _ _).mono ?_
          rintro e w3 ⟨rfl, hb3'⟩
          obtain ⟨hc3, hf3⟩ := bcell hb3'
          have hs3 : w.heap.size < w3.heap.size := by have := hb3'.size; simp at this; omega
          have hs4 : w.heap.size + 1 < w3.heap.size := by have := hb3'.size; simp at this; omega
          have k0' : w3.cell? ⟨w.heap.size, 0, none⟩ = some (.int .i64 0) := by rw [hc3 _ _ (by rw [World.size_setCell]; omega)]; simp [go_sem, k0]
          have k1' : w3.cell? ⟨w.heap.size, 1, none⟩ = some (.int .i64 0) := by rw [hc3 _ _ (by rw [World.size_setCell]; omega)]; simp [go_sem, k1]
          have k2' : w3.cell? ⟨w.heap.size, 2, none⟩ = some (.int .i64 0) := by rw [hc3 _ _ (by rw [World.size_setCell]; omega)]; simp [go_sem, k2]
          have k3' : w3.cell? ⟨w.heap.size, 3, none⟩ = some (.int .i64 0) := by rw [hc3 _ _ (by rw [World.size_setCell]; omega)]; simp [go_sem, k3]
          have j0' : w3.cell? ⟨w.heap.size + 1, 0, none⟩ = some (.int .i64 (n / 16777216)) := by rw [hc3 _ _ (by rw [World.size_setCell]; omega)]; simp [go_sem, j0]
          have j1' : w3.cell? ⟨w.heap.size + 1, 1, none⟩ = some (.int .i64 (n / 1048576 % 16)) := by rw [hc3 _ _ (by rw [World.size_setCell]; omega)]; simp [go_sem, j1]
          have j2' : w3.cell? ⟨w.heap.size + 1, 2, none⟩ = some (.int .i64 (n / 65536 % 16)) := by rw [hc3 _ _ (by rw [World.size_setCell]; omega)]; simp [go_sem, j2]
          have j3' : w3.cell? ⟨w.heap.size + 1, 3, none⟩ = some (.int .i64 (n % 65536 - 65536)) := by rw [hc3 _ _ (by rw [World.size_setCell]; omega)]; simp [go_sem, j3]
          have q0' : w3.frozen? ⟨w.heap.size, 0, none⟩ = false := by rw [hf3 _ _ (by rw [World.size_setCell]; omega)]; simp [go_sem, q0]
          have q1' : w3.frozen? ⟨w.heap.size, 1, none⟩ = false := by rw [hf3 _ _ (by rw [World.size_setCell]; omega)]; simp [go_sem, q1]
          have q2' : w3.frozen? ⟨w.heap.size, 2, none⟩ = false := by rw [hf3 _ _ (by rw [World.size_setCell]; omega)]; simp [go_sem, q2]
          have q3' : w3.frozen? ⟨w.heap.size, 3, none⟩ = false := by rw [hf3 _ _ (by rw [World.size_setCell]; omega)]; simp [go_sem, q3]
          have hb4 : Below w.heap.size w w3 := Below.trans (b := w2.setCell ⟨w.heap.size + 1, 3, none⟩ (.int .i64 (n % 65536 - 65536))) (by go_grown) (hb3'.mono (by simp; omega))
          clear hc2 hf2 hc3 hf3 k0 k1 k2 k3 j0 j1 j2 j3
          go_wp2_with fail
          refine bodyPost_ret (v := .tuple #[.agg #[.int .i64 (n / 16777216), .int .i64 (n / 1048576 % 16), .int .i64 (n / 65536 % 16), .int .i64 (n % 65536 - 65536)], .int .i64 0]) (by simp [results, Tryz.results78, go_sem, k0', k1', k2', k3']) rfl ⟨rfl, ?_⟩
          go_grown
        · have hnf : mayR (n / 16777216) (n / 1048576 % 16) (n / 65536 % 16) (n % 65536 - 65536) = false := by simpa using hn
          refine key ((0, 0, 0, 0), 161) (by unfold decR; rw [if_neg ho, if_neg hm, if_neg (fun h => hn h.2)]) ?_
          clear key ho hm hn
          go_enter Tryz.func78, Tryz.ntmps78
          go_wp2_with fail
          refine (op_any _ _).mono ?_
          rintro e w' ⟨rfl, rfl⟩
          go_wp2_with fail
          refine (may_anyX _ _ _ _ _).mono ?_
          rintro e w2 ⟨rfl, hb2⟩
          obtain ⟨hc2, hf2⟩ := bcell hb2
          have hs1 : w.heap.size < w2.heap.size := by have := hb2.size; simp at this; omega
          have hs2 : w.heap.size + 1 < w2.heap.size := by have := hb2.size; simp at this; omega
          have k0 : w2.cell? ⟨w.heap.size, 0, none⟩ = some (.int .i64 0) := by rw [hc2 _ _ (by simp; omega)]; simp
          have k1 : w2.cell? ⟨w.heap.size, 1, none⟩ = some (.int .i64 0) := by rw [hc2 _ _ (by simp; omega)]; simp
          have k2 : w2.cell? ⟨w.heap.size, 2, none⟩ = some (.int .i64 0) := by rw [hc2 _ _ (by simp; omega)]; simp
          have k3 : w2.cell? ⟨w.heap.size, 3, none⟩ = some (.int .i64 0) := by rw [hc2 _ _ (by simp; omega)]; simp
          have j0 : w2.cell? ⟨w.heap.size + 1, 0, none⟩ = some (.int .i64 (n / 16777216)) := by rw [hc2 _ _ (by simp)]; simp
          have j1 : w2.cell? ⟨w.heap.size + 1, 1, none⟩ = some (.int .i64 (n / 1048576 % 16)) := by rw [hc2 _ _ (by simp)]; simp
          have j2 : w2.cell? ⟨w.heap.size + 1, 2, none⟩ = some (.int .i64 (n / 65536 % 16)) := by rw [hc2 _ _ (by simp)]; simp
          have j3 : w2.cell? ⟨w.heap.size + 1, 3, none⟩ = some (.int .i64 (n % 65536)) := by rw [hc2 _ _ (by simp)]; simp
          have q0 : w2.frozen? ⟨w.heap.size, 0, none⟩ = false := by rw [hf2 _ _ (by simp; omega)]; simp
          have q1 : w2.frozen? ⟨w.heap.size, 1, none⟩ = false := by rw [hf2 _ _ (by simp; omega)]; simp
          have q2 : w2.frozen? ⟨w.heap.size, 2, none⟩ = false := by rw [hf2 _ _ (by simp; omega)]; simp
          have q3 : w2.frozen? ⟨w.heap.size, 3, none⟩ = false := by rw [hf2 _ _ (by simp; omega)]; simp
          have q4 : w2.frozen? ⟨w.heap.size + 1, 3, none⟩ = false := by rw [hf2 _ _ (by simp)]; simp
          have hb3 : Below w.heap.size w w2 := Below.trans (b := (w.alloc (.cells #[.int .i64 0, .int .i64 0, .int .i64 0, .int .i64 0] 99)).alloc (.cells #[.int .i64 (n / 16777216), .int .i64 (n / 1048576 % 16), .int .i64 (n / 65536 % 16), .int .i64 (n % 65536)] 99)) (by go_grown) (hb2.mono (by simp; omega))
          go_wp2_with fail
          refine (may_anyX _ _ _ _ _).mono ?_
          rintro e w3 ⟨rfl, hb3'⟩
          obtain ⟨hc3, hf3⟩ := bcell hb3'
          have hs3 : w.heap.size < w3.heap.size := by have := hb3'.size; simp at this; omega
          have hs4 : w.heap.size + 1 < w3.heap.size := by have := hb3'.size; simp at this; omega
          have k0' : w3.cell? ⟨w.heap.size, 0, none⟩ = some (.int .i64 0) := by rw [hc3 _ _ (by rw [World.size_setCell]; omega)]; simp [go_sem, k0]
          have k1' : w3.cell? ⟨w.heap.size, 1, none⟩ = some (.int .i64 0) := by rw [hc3 _ _ (by rw [World.size_setCell]; omega)]; simp [go_sem, k1]
          have k2' : w3.cell? ⟨w.heap.size, 2, none⟩ = some (.int .i64 0) := by rw [hc3 _ _ (by rw [World.size_setCell]; omega)]; simp [go_sem, k2]
          have k3' : w3.cell? ⟨w.heap.size, 3, none⟩ = some (.int .i64 0) := by rw [hc3 _ _ (by rw [World.size_setCell]; omega)]; simp [go_sem, k3]
          have j0' : w3.cell? ⟨w.heap.size + 1, 0, none⟩ = some (.int .i64 (n / 16777216)) := by rw [hc3 _ _ (by rw [World.size_setCell]; omega)]; simp [go_sem, j0]
          have j1' : w3.cell? ⟨w.heap.size + 1, 1, none⟩ = some (.int .i64 (n / 1048576 % 16)) := by rw [hc3 _ _ (by rw [World.size_setCell]; omega)]; simp [go_sem, j1]
          have j2' : w3.cell? ⟨w.heap.size + 1, 2, none⟩ = some (.int .i64 (n / 65536 % 16)) := by rw [hc3 _ _ (by rw [World.size_setCell]; omega)]; simp [go_sem, j2]
          have j3' : w3.cell? ⟨w.heap.size + 1, 3, none⟩ = some (.int .i64 (n % 65536 - 65536)) := by rw [hc3 _ _ (by rw [World.size_setCell]; omega)]; simp [go_sem, j3]
          have q0' : w3.frozen? ⟨w.heap.size, 0, none⟩ = false := by rw [hf3 _ _ (by rw [World.size_setCell]; omega)]; simp [go_sem, q0]
          have q1' : w3.frozen? ⟨w.heap.size, 1, none⟩ = false := by rw [hf3 _ _ (by rw [World.size_setCell]; omega)]; simp [go_sem, q1]
          have q2' : w3.frozen? ⟨w.heap.size, 2, none⟩ = false := by rw [hf3 _ _ (by rw [World.size_setCell]; omega)]; simp [go_sem, q2]
          have q3' : w3.frozen? ⟨w.heap.size, 3, none⟩ = false := by rw [hf3 _ _ (by rw [World.size_setCell]; omega)]; simp [go_sem, q3]
          have hb4 : Below w.heap.size w w3 := Below.trans (b := w2.setCell ⟨w.heap.size + 1, 3, none⟩ (.int .i64 (n % 65536 - 65536))) (by go_grown) (hb3'.mono (by simp; omega))
          clear hc2 hf2 hc3 hf3 k0 k1 k2 k3 j0 j1 j2 j3
          go_wp2_with fail
          refine bodyPost_ret (v := .tuple #[.agg #[.int .i64 0, .int .i64 0, .int .i64 0, .int .i64 0], .int .i64 161]) (by simp [results, Tryz.results78, go_sem, k0', k1', k2', k3']) rfl ⟨rfl, ?_⟩
          go_grown
      · refine key ((0, 0, 0, 0), 161) (by unfold decR; rw [if_neg ho, if_neg hm, if_neg (fun h => hg h.1)]) ?_
        clear key ho hm
        go_enter Tryz.func78, Tryz.ntmps78
        go_wp2_with fail
        refine (op_any _ _).mono ?_
        rintro e w' ⟨rfl, rfl⟩
        go_wp2_with fail
        refine (may_anyX _ _ _ _ _).mono ?_
        rintro e w2 ⟨rfl, hb2⟩
        obtain ⟨hc2, hf2⟩ := bcell hb2
        have hs1 : w.heap.size < w2.heap.size := by have := hb2.size; simp at this; omega
        have hs2 : w.heap.size + 1 < w2.heap.size := by have := hb2.size; simp at this; omega
        have k0 : w2.cell? ⟨w.heap.size, 0, none⟩ = some (.int .i64 0) := by rw [hc2 _ _ (by simp; omega)]; simp
        have k1 : w2.cell? ⟨w.heap.size, 1, none⟩ = some (.int .i64 0) := by rw [hc2 _ _ (by simp; omega)]; simp
        have k2 : w2.cell? ⟨w.heap.size, 2, none⟩ = some (.int .i64 0) := by rw [hc2 _ _ (by simp; omega)]; simp
        have k3 : w2.cell? ⟨w.heap.size, 3, none⟩ = some (.int .i64 0) := by rw [hc2 _ _ (by simp; omega)]; simp
        have j0 : w2.cell? ⟨w.heap.size + 1, 0, none⟩ = some (.int .i64 (n / 16777216)) := by rw [hc2 _ _ (by simp)]; simp
        have j1 : w2.cell? ⟨w.heap.size + 1, 1, none⟩ = some (.int .i64 (n / 1048576 % 16)) := by rw [hc2 _ _ (by simp)]; simp
        have j2 : w2.cell? ⟨w.heap.size + 1, 2, none⟩ = some (.int .i64 (n / 65536 % 16)) := by rw [hc2 _ _ (by simp)]; simp
        have j3 : w2.cell? ⟨w.heap.size + 1, 3, none⟩ = some (.int .i64 (n % 65536)) := by rw [hc2 _ _ (by simp)]; simp
        have q0 : w2.frozen? ⟨w.heap.size, 0, none⟩ = false := by rw [hf2 _ _ (by simp; omega)]; simp
        have q1 : w2.frozen? ⟨w.heap.size, 1, none⟩ = false := by rw [hf2 _ _ (by simp; omega)]; simp
        have q2 : w2.frozen? ⟨w.heap.size, 2, none⟩ = false := by rw [hf2 _ _ (by simp; omega)]; simp
        have q3 : w2.frozen? ⟨w.heap.size, 3, none⟩ = false := by rw [hf2 _ _ (by simp; omega)]; simp
        have q4 : w2.frozen? ⟨w.heap.size + 1, 3, none⟩ = false := by rw [hf2 _ _ (by simp)]; simp
        have hb3 : Below w.heap.size w w2 := Below.trans (b := (w.alloc (.cells #[.int .i64 0, .int .i64 0, .int .i64 0, .int .i64 0] 99)).alloc (.cells #[.int .i64 (n / 16777216), .int .i64 (n / 1048576 % 16), .int .i64 (n / 65536 % 16), .int .i64 (n % 65536)] 99)) (by go_grown) (hb2.mono (by simp; omega))
        clear hc2 hf2
        go_wp2_with fail
        refine bodyPost_ret (v := .tuple #[.agg #[.int .i64 0, .int .i64 0, .int .i64 0, .int .i64 0], .int .i64 161]) (by simp [results, Tryz.results78, go_sem, k0, k1, k2, k3]) rfl ⟨rfl, ?_⟩
        go_grown

end Go.Proofs.YtlhgfhmdhmgmpaaGreatDoor

namespace Go.Proofs.YtlhgfhmdhmgmpaaGreatDoor
open Go.RowKit

theorem ok_may (op a b c : Int) (h1 : 1 ≤ op) (h2 : op ≤ 48) : okA (formOf op) a b c = mayR op a b c := by
  obtain ⟨k, rfl⟩ : ∃ k : Nat, op = k := ⟨op.toNat, by omega⟩
  have hk : k ∈ List.range 49 := by simp; omega
  have hk0 : k ≠ 0 := by omega
  clear h1 h2
  simp only [List.range, List.range.loop, List.mem_cons, List.not_mem_nil, or_false] at hk
  rcases hk with rfl | rfl | rfl | rfl | rfl | rfl | rfl | rfl | rfl | rfl | rfl | rfl | rfl | rfl | rfl | rfl | rfl | rfl | rfl | rfl | rfl | rfl | rfl | rfl | rfl | rfl | rfl | rfl | rfl | rfl | rfl | rfl | rfl | rfl | rfl | rfl | rfl | rfl | rfl | rfl | rfl | rfl | rfl | rfl | rfl | rfl | rfl | rfl | rfl
  · exact absurd rfl hk0
  all_goals
    simp [formOf, tbl, okA, bd, mayR, isBr, reg, wide, near, within]
  all_goals
    rw [Bool.eq_iff_iff]; simp only [Bool.and_eq_true, decide_eq_true_eq, beq_iff_eq]; omega

theorem enc_eq (op a b c : Int) : enc op a b c = encR op a b c := by
  unfold enc encR
  by_cases h : isOp op = false
  · have hf : formOf op = 9 := by
      by_cases h9 : formOf op = 9
      · exact h9
      · have := formOf_no op h9
        rw [show isOp op = true from within_t this.1 this.2] at h
        exact absurd h (by decide)
    rw [if_pos hf, if_pos h]
  · have h' : isOp op = true := by simpa using h
    simp only [isOp, within, Bool.and_eq_true, decide_eq_true_eq] at h'
    have hf : formOf op ≠ 9 := by
      obtain ⟨k, rfl⟩ : ∃ k : Nat, op = k := ⟨op.toNat, by omega⟩
      have : ∀ k, k < 49 → k ≠ 0 → formOf (k : Nat) ≠ 9 := by decide
      exact this k (by omega) (by omega)
    rw [if_neg hf, if_neg h, ok_may op a b c h'.1 h'.2]
    cases mayR op a b c <;> rfl

theorem dec_eq (n : Int) : dec n = decR n := by
  unfold dec decR
  simp only [enc_eq]
  have hm : ∀ c : Int, 32768 ≤ c → mayR (n / 16777216) (n / 1048576 % 16) (n / 65536 % 16) c = true → False := fun c hc h => by
    have := mayR_in h
    omega
  by_cases h : isOp (n / 16777216) = false
  · rw [if_pos h]
    simp [encR, h]
  · rw [if_neg h]
    by_cases hg : 32768 ≤ n % 65536
    · have e : i16 n = n % 65536 - 65536 := by unfold i16; omega
      rw [e, if_neg (fun hx => hm _ hg hx)]
      unfold encR
      rw [if_neg h]
      cases hc : mayR (n / 16777216) (n / 1048576 % 16) (n / 65536 % 16) (n % 65536 - 65536) <;> simp [hg]
    · have e : i16 n = n % 65536 := by unfold i16; omega
      rw [e]
      unfold encR
      rw [if_neg h]
      cases hc : mayR (n / 16777216) (n / 1048576 % 16) (n / 65536 % 16) (n % 65536) <;> simp [hg]

end Go.Proofs.YtlhgfhmdhmgmpaaGreatDoor
