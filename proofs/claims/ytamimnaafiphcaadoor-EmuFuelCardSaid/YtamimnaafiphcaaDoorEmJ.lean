/- The machine: does, op by op: what writes a register and nothing else; the ends. -/
import Derived.Test.YtamimnaafiphcaaDoorEmZ2
import Derived.Laws.Closers25b
set_option linter.unusedVariables false
set_option linter.unusedSimpArgs false
namespace Go.Proofs.YtamimnaafiphcaaDoor
open Go.RowKit Go.Proofs.YtamimnaafiphcaaDoorW.PrintWords Go.Maps Go.Joins

theorem and255 (x : Int) (h0 : 0 ≤ x) (h1 : x < 4294967296) : bits BinOp.and IntKind.u32 x 255 = x % 256 := bits_mask .u32 32 (by decide) (u32_own 32 (by decide)) 8 (by decide) x h0 (by simpa using h1)

section
variable {w0 w9 w : World} {g mb : Nat} {A : Option Addr} {n c : Nat} {ws : List Int} {m : Mach} {cv ov : Value}

set_option maxRecDepth 100000 in
set_option maxHeartbeats 4000000 in
theorem does_li (h : MI w0 w9 w g mb A n c ws m cv ov) (hp : -1099511527777 ≤ m.place ∧ m.place ≤ 1099511527775) (a b : Nat) (imm : Int) (ha : a < 12) (hb : b < 12) (hi : -32768 ≤ imm ∧ imm ≤ 32767) :
    Calls Tryd.prog 75 #[.pointer (some ⟨g, 0, none⟩), .agg #[.int .i64 1, .int .i64 a, .int .i64 b, .int .i64 imm]] w (Stp w0 w9 g mb A n c ws ({ m with place := m.place + 1, r := m.r.set a (imm % 4294967296) }, none)) := by
  obtain ⟨W, W1, hW, hW1, k16, f16, j0, j1, j2, j3, ka, kb, fa, H⟩ := does_start h hp 1 a b imm ha hb
  have ra := h.rng a
  have rb := h.rng b
  generalize m.r.getD b 0 = vb at kb rb ⊢
  clear h
  obtain ⟨ra0, ra1⟩ := ra
  obtain ⟨rb0, rb1⟩ := rb
  obtain ⟨hp0, hp1⟩ := hp
  obtain ⟨hi0, hi1⟩ := hi
  have a0 : (0 : Int) ≤ (a : Int) := Int.natCast_nonneg _
  have a1 : (a : Int) < 12 := by omega
  have b0 : (0 : Int) ≤ (b : Int) := Int.natCast_nonneg _
  have b1 : (b : Int) < 12 := by omega
  go_enter Tryd.func75, Tryd.ntmps75
  go_wp2_with fail
  go_quiet (fail)
  go_wp2_with fail
  go_end0
  exact Stp.fin ((H.out.drewN _).setR a ha _ ⟨by first | omega | exact bits_lo_u32 _ _ _, by first | omega | exact Int.lt_of_le_of_lt (bits_hi_u32 _ _ _) (by decide)⟩)

set_option maxRecDepth 100000 in
set_option maxHeartbeats 4000000 in
theorem does_mov (h : MI w0 w9 w g mb A n c ws m cv ov) (hp : -1099511527777 ≤ m.place ∧ m.place ≤ 1099511527775) (a b : Nat) (imm : Int) (ha : a < 12) (hb : b < 12) (hi : -32768 ≤ imm ∧ imm ≤ 32767) :
    Calls Tryd.prog 75 #[.pointer (some ⟨g, 0, none⟩), .agg #[.int .i64 3, .int .i64 a, .int .i64 b, .int .i64 imm]] w (Stp w0 w9 g mb A n c ws ({ m with place := m.place + 1, r := m.r.set a ((m.r.getD b 0)) }, none)) := by
  obtain ⟨W, W1, hW, hW1, k16, f16, j0, j1, j2, j3, ka, kb, fa, H⟩ := does_start h hp 3 a b imm ha hb
  have ra := h.rng a
  have rb := h.rng b
  generalize m.r.getD b 0 = vb at kb rb ⊢
  clear h
  obtain ⟨ra0, ra1⟩ := ra
  obtain ⟨rb0, rb1⟩ := rb
  obtain ⟨hp0, hp1⟩ := hp
  obtain ⟨hi0, hi1⟩ := hi
  have a0 : (0 : Int) ≤ (a : Int) := Int.natCast_nonneg _
  have a1 : (a : Int) < 12 := by omega
  have b0 : (0 : Int) ≤ (b : Int) := Int.natCast_nonneg _
  have b1 : (b : Int) < 12 := by omega
  go_enter Tryd.func75, Tryd.ntmps75
  go_wp2_with fail
  go_quiet (fail)
  go_wp2_with fail
  go_end0
  exact Stp.fin ((H.out.drewN _).setR a ha _ ⟨by first | omega | exact bits_lo_u32 _ _ _, by first | omega | exact Int.lt_of_le_of_lt (bits_hi_u32 _ _ _) (by decide)⟩)

set_option maxRecDepth 100000 in
set_option maxHeartbeats 4000000 in
theorem does_neg (h : MI w0 w9 w g mb A n c ws m cv ov) (hp : -1099511527777 ≤ m.place ∧ m.place ≤ 1099511527775) (a b : Nat) (imm : Int) (ha : a < 12) (hb : b < 12) (hi : -32768 ≤ imm ∧ imm ≤ 32767) :
    Calls Tryd.prog 75 #[.pointer (some ⟨g, 0, none⟩), .agg #[.int .i64 24, .int .i64 a, .int .i64 b, .int .i64 imm]] w (Stp w0 w9 g mb A n c ws ({ m with place := m.place + 1, r := m.r.set a (-(m.r.getD b 0) % 4294967296) }, none)) := by
  obtain ⟨W, W1, hW, hW1, k16, f16, j0, j1, j2, j3, ka, kb, fa, H⟩ := does_start h hp 24 a b imm ha hb
  have ra := h.rng a
  have rb := h.rng b
  generalize m.r.getD b 0 = vb at kb rb ⊢
  clear h
  obtain ⟨ra0, ra1⟩ := ra
  obtain ⟨rb0, rb1⟩ := rb
  obtain ⟨hp0, hp1⟩ := hp
  obtain ⟨hi0, hi1⟩ := hi
  have a0 : (0 : Int) ≤ (a : Int) := Int.natCast_nonneg _
  have a1 : (a : Int) < 12 := by omega
  have b0 : (0 : Int) ≤ (b : Int) := Int.natCast_nonneg _
  have b1 : (b : Int) < 12 := by omega
  go_enter Tryd.func75, Tryd.ntmps75
  go_wp2_with fail
  go_quiet (fail)
  go_wp2_with fail
  go_end0
  exact Stp.fin ((H.out.drewN _).setR a ha _ ⟨by first | omega | exact bits_lo_u32 _ _ _, by first | omega | exact Int.lt_of_le_of_lt (bits_hi_u32 _ _ _) (by decide)⟩)

set_option maxRecDepth 100000 in
set_option maxHeartbeats 4000000 in
theorem does_not (h : MI w0 w9 w g mb A n c ws m cv ov) (hp : -1099511527777 ≤ m.place ∧ m.place ≤ 1099511527775) (a b : Nat) (imm : Int) (ha : a < 12) (hb : b < 12) (hi : -32768 ≤ imm ∧ imm ≤ 32767) :
    Calls Tryd.prog 75 #[.pointer (some ⟨g, 0, none⟩), .agg #[.int .i64 25, .int .i64 a, .int .i64 b, .int .i64 imm]] w (Stp w0 w9 g mb A n c ws ({ m with place := m.place + 1, r := m.r.set a (bits BinOp.xor IntKind.u32 IntKind.u32.max (m.r.getD b 0)) }, none)) := by
  obtain ⟨W, W1, hW, hW1, k16, f16, j0, j1, j2, j3, ka, kb, fa, H⟩ := does_start h hp 25 a b imm ha hb
  have ra := h.rng a
  have rb := h.rng b
  generalize m.r.getD b 0 = vb at kb rb ⊢
  clear h
  obtain ⟨ra0, ra1⟩ := ra
  obtain ⟨rb0, rb1⟩ := rb
  obtain ⟨hp0, hp1⟩ := hp
  obtain ⟨hi0, hi1⟩ := hi
  have a0 : (0 : Int) ≤ (a : Int) := Int.natCast_nonneg _
  have a1 : (a : Int) < 12 := by omega
  have b0 : (0 : Int) ≤ (b : Int) := Int.natCast_nonneg _
  have b1 : (b : Int) < 12 := by omega
  go_enter Tryd.func75, Tryd.ntmps75
  go_wp2_with fail
  go_quiet (fail)
  go_wp2_with fail
  go_end0
  exact Stp.fin ((H.out.drewN _).setR a ha _ ⟨by first | omega | exact bits_lo_u32 _ _ _, by first | omega | exact Int.lt_of_le_of_lt (bits_hi_u32 _ _ _) (by decide)⟩)

set_option maxRecDepth 100000 in
set_option maxHeartbeats 4000000 in
theorem does_low (h : MI w0 w9 w g mb A n c ws m cv ov) (hp : -1099511527777 ≤ m.place ∧ m.place ≤ 1099511527775) (a b : Nat) (imm : Int) (ha : a < 12) (hb : b < 12) (hi : -32768 ≤ imm ∧ imm ≤ 32767) :
    Calls Tryd.prog 75 #[.pointer (some ⟨g, 0, none⟩), .agg #[.int .i64 26, .int .i64 a, .int .i64 b, .int .i64 imm]] w (Stp w0 w9 g mb A n c ws ({ m with place := m.place + 1, r := m.r.set a ((m.r.getD b 0) % 256) }, none)) := by
  obtain ⟨W, W1, hW, hW1, k16, f16, j0, j1, j2, j3, ka, kb, fa, H⟩ := does_start h hp 26 a b imm ha hb
  have ra := h.rng a
  have rb := h.rng b
  generalize m.r.getD b 0 = vb at kb rb ⊢
  clear h
  obtain ⟨ra0, ra1⟩ := ra
  obtain ⟨rb0, rb1⟩ := rb
  obtain ⟨hp0, hp1⟩ := hp
  obtain ⟨hi0, hi1⟩ := hi
  have a0 : (0 : Int) ≤ (a : Int) := Int.natCast_nonneg _
  have a1 : (a : Int) < 12 := by omega
  have b0 : (0 : Int) ≤ (b : Int) := Int.natCast_nonneg _
  have b1 : (b : Int) < 12 := by omega
  have e := and255 vb rb0 rb1
  go_enter Tryd.func75, Tryd.ntmps75
  go_wp2_with fail
  go_quiet (fail)
  go_wp2_with fail
  go_end0
  exact Stp.fin ((H.out.drewN _).setR a ha _ ⟨by first | omega | exact bits_lo_u32 _ _ _, by first | omega | exact Int.lt_of_le_of_lt (bits_hi_u32 _ _ _) (by decide)⟩)

set_option maxRecDepth 100000 in
set_option maxHeartbeats 4000000 in
theorem does_addi (h : MI w0 w9 w g mb A n c ws m cv ov) (hp : -1099511527777 ≤ m.place ∧ m.place ≤ 1099511527775) (a b : Nat) (imm : Int) (ha : a < 12) (hb : b < 12) (hi : -32768 ≤ imm ∧ imm ≤ 32767) :
    Calls Tryd.prog 75 #[.pointer (some ⟨g, 0, none⟩), .agg #[.int .i64 4, .int .i64 a, .int .i64 b, .int .i64 imm]] w (Stp w0 w9 g mb A n c ws ({ m with place := m.place + 1, r := m.r.set a (((m.r.getD b 0) + imm) % 4294967296) }, none)) := by
  obtain ⟨W, W1, hW, hW1, k16, f16, j0, j1, j2, j3, ka, kb, fa, H⟩ := does_start h hp 4 a b imm ha hb
  have ra := h.rng a
  have rb := h.rng b
  generalize m.r.getD b 0 = vb at kb rb ⊢
  clear h
  obtain ⟨ra0, ra1⟩ := ra
  obtain ⟨rb0, rb1⟩ := rb
  obtain ⟨hp0, hp1⟩ := hp
  obtain ⟨hi0, hi1⟩ := hi
  have a0 : (0 : Int) ≤ (a : Int) := Int.natCast_nonneg _
  have a1 : (a : Int) < 12 := by omega
  have b0 : (0 : Int) ≤ (b : Int) := Int.natCast_nonneg _
  have b1 : (b : Int) < 12 := by omega
  go_enter Tryd.func75, Tryd.ntmps75
  go_wp2_with fail
  go_quiet (fail)
  go_wp2_with fail
  go_end0
  exact Stp.fin ((H.out.drewN _).setR a ha _ ⟨by first | omega | exact bits_lo_u32 _ _ _, by first | omega | exact Int.lt_of_le_of_lt (bits_hi_u32 _ _ _) (by decide)⟩)

set_option maxRecDepth 100000 in
set_option maxHeartbeats 4000000 in
theorem does_chkt (h : MI w0 w9 w g mb A n c ws m cv ov) (hp : -1099511527777 ≤ m.place ∧ m.place ≤ 1099511527775) (a b : Nat) (imm : Int) (ha : a < 12) (hb : b < 12) (hi : -32768 ≤ imm ∧ imm ≤ 32767) (hle : m.r.getD b 0 ≤ m.r.getD a 0) :
    Calls Tryd.prog 75 #[.pointer (some ⟨g, 0, none⟩), .agg #[.int .i64 29, .int .i64 a, .int .i64 b, .int .i64 imm]] w (Stp w0 w9 g mb A n c ws ({ m with place := m.place + 1 }, some (2, 2))) := by
  obtain ⟨W, W1, hW, hW1, k16, f16, j0, j1, j2, j3, ka, kb, fa, H⟩ := does_start h hp 29 a b imm ha hb
  have ra := h.rng a
  have rb := h.rng b
  generalize m.r.getD a 0 = va at ka ra hle ⊢
  generalize m.r.getD b 0 = vb at kb rb hle ⊢
  clear h
  obtain ⟨ra0, ra1⟩ := ra
  obtain ⟨rb0, rb1⟩ := rb
  obtain ⟨hp0, hp1⟩ := hp
  obtain ⟨hi0, hi1⟩ := hi
  have a0 : (0 : Int) ≤ (a : Int) := Int.natCast_nonneg _
  have a1 : (a : Int) < 12 := by omega
  have b0 : (0 : Int) ≤ (b : Int) := Int.natCast_nonneg _
  have b1 : (b : Int) < 12 := by omega
  have d1 : decide (vb ≤ va) = true := decide_eq_true hle
  clear hle
  go_enter Tryd.func75, Tryd.ntmps75
  go_wp2_with fail
  go_quiet (fail)
  go_wp2_with (go_at_call 74; refine (trap_any _ _).mono ?_; rintro e w1 ⟨rfl, rfl⟩)
  exact ⟨rfl, Stp.trap (H.out.drewN _) 2 2⟩

set_option maxRecDepth 100000 in
set_option maxHeartbeats 4000000 in
theorem does_chk (h : MI w0 w9 w g mb A n c ws m cv ov) (hp : -1099511527777 ≤ m.place ∧ m.place ≤ 1099511527775) (a b : Nat) (imm : Int) (ha : a < 12) (hb : b < 12) (hi : -32768 ≤ imm ∧ imm ≤ 32767) (hle : ¬ m.r.getD b 0 ≤ m.r.getD a 0) :
    Calls Tryd.prog 75 #[.pointer (some ⟨g, 0, none⟩), .agg #[.int .i64 29, .int .i64 a, .int .i64 b, .int .i64 imm]] w (Stp w0 w9 g mb A n c ws ({ m with place := m.place + 1 }, none)) := by
  obtain ⟨W, W1, hW, hW1, k16, f16, j0, j1, j2, j3, ka, kb, fa, H⟩ := does_start h hp 29 a b imm ha hb
  have ra := h.rng a
  have rb := h.rng b
  generalize m.r.getD a 0 = va at ka ra hle ⊢
  generalize m.r.getD b 0 = vb at kb rb hle ⊢
  clear h
  obtain ⟨ra0, ra1⟩ := ra
  obtain ⟨rb0, rb1⟩ := rb
  obtain ⟨hp0, hp1⟩ := hp
  obtain ⟨hi0, hi1⟩ := hi
  have a0 : (0 : Int) ≤ (a : Int) := Int.natCast_nonneg _
  have a1 : (a : Int) < 12 := by omega
  have b0 : (0 : Int) ≤ (b : Int) := Int.natCast_nonneg _
  have b1 : (b : Int) < 12 := by omega
  have d1 : decide (vb ≤ va) = false := decide_eq_false hle
  clear hle
  go_enter Tryd.func75, Tryd.ntmps75
  go_wp2_with fail
  go_quiet (fail)
  go_wp2_with fail
  go_end0
  exact Stp.fin (H.out.drewN _)

set_option maxRecDepth 100000 in
set_option maxHeartbeats 4000000 in
theorem does_exit (h : MI w0 w9 w g mb A n c ws m cv ov) (hp : -1099511527777 ≤ m.place ∧ m.place ≤ 1099511527775) (a b : Nat) (imm : Int) (ha : a < 12) (hb : b < 12) (hi : -32768 ≤ imm ∧ imm ≤ 32767) :
    Calls Tryd.prog 75 #[.pointer (some ⟨g, 0, none⟩), .agg #[.int .i64 47, .int .i64 a, .int .i64 b, .int .i64 imm]] w (Stp w0 w9 g mb A n c ws ({ m with place := m.place + 1 }, some (1, m.r.getD a 0))) := by
  obtain ⟨W, W1, hW, hW1, k16, f16, j0, j1, j2, j3, ka, kb, fa, H⟩ := does_start h hp 47 a b imm ha hb
  have ra := h.rng a
  have rb := h.rng b
  generalize m.r.getD a 0 = va at ka ra ⊢
  clear h
  obtain ⟨ra0, ra1⟩ := ra
  obtain ⟨rb0, rb1⟩ := rb
  obtain ⟨hp0, hp1⟩ := hp
  obtain ⟨hi0, hi1⟩ := hi
  have a0 : (0 : Int) ≤ (a : Int) := Int.natCast_nonneg _
  have a1 : (a : Int) < 12 := by omega
  have b0 : (0 : Int) ≤ (b : Int) := Int.natCast_nonneg _
  have b1 : (b : Int) < 12 := by omega
  go_enter Tryd.func75, Tryd.ntmps75
  go_wp2_with fail
  go_quiet (fail)
  go_wp2_with fail
  exact ⟨rfl, Stp.trap (H.out.drewN _) 1 va⟩

set_option maxRecDepth 100000 in
set_option maxHeartbeats 4000000 in
theorem does_trap (h : MI w0 w9 w g mb A n c ws m cv ov) (hp : -1099511527777 ≤ m.place ∧ m.place ≤ 1099511527775) (a b : Nat) (imm : Int) (ha : a < 12) (hb : b < 12) (hi : -32768 ≤ imm ∧ imm ≤ 32767) :
    Calls Tryd.prog 75 #[.pointer (some ⟨g, 0, none⟩), .agg #[.int .i64 48, .int .i64 a, .int .i64 b, .int .i64 imm]] w (Stp w0 w9 g mb A n c ws ({ m with place := m.place + 1 }, some (2, imm % 4294967296))) := by
  obtain ⟨W, W1, hW, hW1, k16, f16, j0, j1, j2, j3, ka, kb, fa, H⟩ := does_start h hp 48 a b imm ha hb
  have ra := h.rng a
  have rb := h.rng b
  clear h
  obtain ⟨ra0, ra1⟩ := ra
  obtain ⟨rb0, rb1⟩ := rb
  obtain ⟨hp0, hp1⟩ := hp
  obtain ⟨hi0, hi1⟩ := hi
  have a0 : (0 : Int) ≤ (a : Int) := Int.natCast_nonneg _
  have a1 : (a : Int) < 12 := by omega
  have b0 : (0 : Int) ≤ (b : Int) := Int.natCast_nonneg _
  have b1 : (b : Int) < 12 := by omega
  go_enter Tryd.func75, Tryd.ntmps75
  go_wp2_with fail
  go_quiet (fail)
  go_wp2_with (go_at_call 74; refine (trap_any _ _).mono ?_; rintro e w1 ⟨rfl, rfl⟩)
  exact ⟨rfl, Stp.trap (H.out.drewN _) 2 _⟩

end

end Go.Proofs.YtamimnaafiphcaaDoor
