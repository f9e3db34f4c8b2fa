import Derived.Test.YtopkklkilbnheaaDoorEncP
import Derived.Laws.BitsAllLaws
namespace Go.Proofs.YtopkklkilbnheaaDoor
open Go.RowKit

theorem bit_out (h v lo s t i : Nat) (hv : v < 2 ^ t) (hlo : lo < 2 ^ s) (hi : i < s ∨ s + t ≤ i) :
    (h * 2 ^ (s + t) + v * 2 ^ s + lo).testBit i = (h * 2 ^ (s + t) + lo).testBit i := by
  have hp : 2 ^ (s + t) = 2 ^ s * 2 ^ t := Nat.pow_add 2 s t
  have hps : 0 < 2 ^ s := Nat.two_pow_pos s
  have hpt : 0 < 2 ^ t := Nat.two_pow_pos t
  have hvl : v * 2 ^ s + lo < 2 ^ (s + t) := by
    have : (v + 1) * 2 ^ s ≤ 2 ^ t * 2 ^ s := Nat.mul_le_mul_right _ hv
    rw [Nat.add_mul, Nat.one_mul] at this
    rw [hp, Nat.mul_comm (2 ^ s)]
    omega
  have hl2 : lo < 2 ^ (s + t) := by omega
  rcases hi with hi | hi
  · have e1 : ∀ q : Nat, (q * 2 ^ s + lo).testBit i = lo.testBit i := fun q => by
      rw [Nat.mul_comm, Nat.testBit_two_pow_mul_add q hlo, if_pos hi]
    have r1 : h * 2 ^ (s + t) + v * 2 ^ s + lo = (h * 2 ^ t + v) * 2 ^ s + lo := by
      rw [hp, Nat.add_mul, Nat.mul_assoc, Nat.mul_comm (2 ^ t)]
    have r2 : h * 2 ^ (s + t) + lo = (h * 2 ^ t) * 2 ^ s + lo := by
      rw [hp, Nat.mul_assoc, Nat.mul_comm (2 ^ t)]
    rw [r1, r2, e1, e1]
  · have e1 : ∀ b : Nat, b < 2 ^ (s + t) → (h * 2 ^ (s + t) + b).testBit i = h.testBit (i - (s + t)) := fun b hb => by
      rw [Nat.mul_comm, Nat.testBit_two_pow_mul_add h hb, if_neg (by omega)]
    rw [Nat.add_assoc, e1 _ hvl, e1 _ hl2]

/-- Two words that are alike but for a field differ in that field's bits alone. -/
theorem field_bits (h v v' lo s t : Nat) (hst : s + t ≤ 32) (hv : v < 2 ^ t) (hv' : v' < 2 ^ t) (hlo : lo < 2 ^ s) (hx : h * 2 ^ (s + t) + v * 2 ^ s + lo < 4294967296) (hy : h * 2 ^ (s + t) + v' * 2 ^ s + lo < 4294967296)
    (m : Nat) (hm : m < 4294967296) (hmask : ∀ i, i < 32 → (4294967295 - m).testBit i = true → i < s ∨ s + t ≤ i) :
    bits .andNot .u32 (bits .xor .u32 ((h * 2 ^ (s + t) + v * 2 ^ s + lo : Nat) : Int) ((h * 2 ^ (s + t) + v' * 2 ^ s + lo : Nat) : Int)) (m : Int) = 0 := by
  rw [u32_xor_nat _ _ hx hy, u32_andNot_nat _ _ (Nat.xor_lt_two_pow (n := 32) hx hy) hm]
  have : ((h * 2 ^ (s + t) + v * 2 ^ s + lo) ^^^ (h * 2 ^ (s + t) + v' * 2 ^ s + lo)) &&& (4294967295 - m) = 0 := by
    apply Nat.eq_of_testBit_eq
    intro i
    rw [Nat.testBit_and, Nat.testBit_xor, Nat.zero_testBit]
    cases hb : (4294967295 - m).testBit i with
    | false => simp
    | true =>
      have hi : i < s ∨ s + t ≤ i := by
        by_cases h32 : i < 32
        · exact hmask i h32 hb
        · exact .inr (by omega)
      rw [bit_out h v lo s t i hv hlo hi, bit_out h v' lo s t i hv' hlo hi]
      simp
  rw [this]
  rfl

theorem word_nat {op a b c : Int} (h : mayR op a b c = true) : ∃ o A B C : Nat, o < 256 ∧ A < 16 ∧ B < 16 ∧ C < 65536 ∧ op = o ∧ a = A ∧ b = B ∧ c % 65536 = C ∧ word op a b c = ((o * 16777216 + A * 1048576 + B * 65536 + C : Nat) : Int) := by
  obtain ⟨o0, o1, a0, a1, b0, b1, c0, c1⟩ := mayR_in h
  refine ⟨op.toNat, a.toNat, b.toNat, (c % 65536).toNat, by omega, by omega, by omega, by omega, by omega, by omega, by omega, by omega, ?_⟩
  unfold word
  omega

theorem fields_A {op a b c n x z y z' : Int} (hx : enc op a b c = (x, z)) (hy : enc op n b c = (y, z')) (hz : z = 0) (hz' : z' = 0) :
    (bits BinOp.andNot IntKind.u32 (bits BinOp.xor IntKind.u32 x y) 15728640 == 0) = true := by
  have hm := enc_ok (op := op) (a := a) (b := b) (c := c) (by rw [hx]; exact hz)
  have hm' := enc_ok (op := op) (a := n) (b := b) (c := c) (by rw [hy]; exact hz')
  rw [hx] at hm
  rw [hy] at hm'
  obtain ⟨o, A, B, C, ho, hA, hB, hC, e1, e2, e3, e4, e5⟩ := word_nat hm.1
  obtain ⟨o', A', B', C', ho', hA', hB', hC', f1, f2, f3, f4, f5⟩ := word_nat hm'.1
  have hh := field_bits o A A' (B * 65536 + C) 20 4 (by decide) (by omega) (by omega) (by omega) (by omega) (by omega) 15728640 (by decide) (by decide)
  rw [beq_iff_eq, ← hh]
  have g1 : x = ((o * 2 ^ (20 + 4) + A * 2 ^ 20 + (B * 65536 + C) : Nat) : Int) := by simp only [] at hm; rw [hm.2, e5]; omega
  have g2 : y = ((o * 2 ^ (20 + 4) + A' * 2 ^ 20 + (B * 65536 + C) : Nat) : Int) := by simp only [] at hm'; rw [hm'.2, f5]; omega
  rw [g1, g2]
  rfl

theorem fields_B {op a b c n x z y z' : Int} (hx : enc op a b c = (x, z)) (hy : enc op a n c = (y, z')) (hz : z = 0) (hz' : z' = 0) :
    (bits BinOp.andNot IntKind.u32 (bits BinOp.xor IntKind.u32 x y) 983040 == 0) = true := by
  have hm := enc_ok (op := op) (a := a) (b := b) (c := c) (by rw [hx]; exact hz)
  have hm' := enc_ok (op := op) (a := a) (b := n) (c := c) (by rw [hy]; exact hz')
  rw [hx] at hm
  rw [hy] at hm'
  obtain ⟨o, A, B, C, ho, hA, hB, hC, e1, e2, e3, e4, e5⟩ := word_nat hm.1
  obtain ⟨o', A', B', C', ho', hA', hB', hC', f1, f2, f3, f4, f5⟩ := word_nat hm'.1
  have hh := field_bits (o * 16 + A) B B' C 16 4 (by decide) (by omega) (by omega) (by omega) (by omega) (by omega) 983040 (by decide) (by decide)
  rw [beq_iff_eq, ← hh]
  have g1 : x = (((o * 16 + A) * 2 ^ (16 + 4) + B * 2 ^ 16 + C : Nat) : Int) := by simp only [] at hm; rw [hm.2, e5]; omega
  have g2 : y = (((o * 16 + A) * 2 ^ (16 + 4) + B' * 2 ^ 16 + C : Nat) : Int) := by simp only [] at hm'; rw [hm'.2, f5]; omega
  rw [g1, g2]
  rfl

theorem fields_C {op a b c n x z y z' : Int} (hx : enc op a b c = (x, z)) (hy : enc op a b n = (y, z')) (hz : z = 0) (hz' : z' = 0) :
    (bits BinOp.andNot IntKind.u32 (bits BinOp.xor IntKind.u32 x y) 65535 == 0) = true := by
  have hm := enc_ok (op := op) (a := a) (b := b) (c := c) (by rw [hx]; exact hz)
  have hm' := enc_ok (op := op) (a := a) (b := b) (c := n) (by rw [hy]; exact hz')
  rw [hx] at hm
  rw [hy] at hm'
  obtain ⟨o, A, B, C, ho, hA, hB, hC, e1, e2, e3, e4, e5⟩ := word_nat hm.1
  obtain ⟨o', A', B', C', ho', hA', hB', hC', f1, f2, f3, f4, f5⟩ := word_nat hm'.1
  have hh := field_bits (o * 256 + A * 16 + B) C C' 0 0 16 (by decide) (by omega) (by omega) (by omega) (by omega) (by omega) 65535 (by decide) (by decide)
  rw [beq_iff_eq, ← hh]
  have g1 : x = (((o * 256 + A * 16 + B) * 2 ^ (0 + 16) + C * 2 ^ 0 + 0 : Nat) : Int) := by simp only [] at hm; rw [hm.2, e5]; omega
  have g2 : y = (((o * 256 + A * 16 + B) * 2 ^ (0 + 16) + C' * 2 ^ 0 + 0 : Nat) : Int) := by simp only [] at hm'; rw [hm'.2, f5]; omega
  rw [g1, g2]
  rfl

theorem fields_D {op a b c n x z y z' : Int} (hx : enc op a b c = (x, z)) (hy : enc n a b c = (y, z')) (hz : z = 0) (hz' : z' = 0) :
    (bits BinOp.andNot IntKind.u32 (bits BinOp.xor IntKind.u32 x y) 4278190080 == 0) = true := by
  have hm := enc_ok (op := op) (a := a) (b := b) (c := c) (by rw [hx]; exact hz)
  have hm' := enc_ok (op := n) (a := a) (b := b) (c := c) (by rw [hy]; exact hz')
  rw [hx] at hm
  rw [hy] at hm'
  obtain ⟨o, A, B, C, ho, hA, hB, hC, e1, e2, e3, e4, e5⟩ := word_nat hm.1
  obtain ⟨o', A', B', C', ho', hA', hB', hC', f1, f2, f3, f4, f5⟩ := word_nat hm'.1
  have hh := field_bits 0 o o' (A * 1048576 + B * 65536 + C) 24 8 (by decide) (by omega) (by omega) (by omega) (by omega) (by omega) 4278190080 (by decide) (by decide)
  rw [beq_iff_eq, ← hh]
  have g1 : x = ((0 * 2 ^ (24 + 8) + o * 2 ^ 24 + (A * 1048576 + B * 65536 + C) : Nat) : Int) := by simp only [] at hm; rw [hm.2, e5]; omega
  have g2 : y = ((0 * 2 ^ (24 + 8) + o' * 2 ^ 24 + (A * 1048576 + B * 65536 + C) : Nat) : Int) := by simp only [] at hm'; rw [hm'.2, f5]; omega
  rw [g1, g2]
  rfl

end Go.Proofs.YtopkklkilbnheaaDoor
