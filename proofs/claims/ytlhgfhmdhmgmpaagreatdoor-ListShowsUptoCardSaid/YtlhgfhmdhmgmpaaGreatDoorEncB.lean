import Derived.Test.YtlhgfhmdhmgmpaaGreatDoorEnc
import Derived.Handy
namespace Go.Proofs.YtlhgfhmdhmgmpaaGreatDoor
open Go.RowKit

def okA (f a b c : Int) : Bool := within (bd f).1.1 (bd f).1.2 a && within (bd f).2.1.1 (bd f).2.1.2 b && within (bd f).2.2.1 (bd f).2.2.2 c

def word (op a b c : Int) : Int := op * 16777216 + a * 1048576 + b * 65536 + c % 65536

def enc (op a b c : Int) : Int × Int := if formOf op = 9 then (0, 160) else if okA (formOf op) a b c then (word op a b c, 0) else (0, 161)

theorem bcell {W w1 : World} (hb : Below W.heap.size W w1) : (∀ b o, b < W.heap.size → w1.cell? ⟨b, o, none⟩ = W.cell? ⟨b, o, none⟩) ∧ (∀ b o, b < W.heap.size → w1.frozen? ⟨b, o, none⟩ = W.frozen? ⟨b, o, none⟩) :=
  ⟨fun b o h => hb.cell (p := ⟨b, o, none⟩) h, fun b o h => hb.frozen (p := ⟨b, o, none⟩) h⟩

theorem formOf_range (op : Int) : 0 ≤ formOf op ∧ formOf op ≤ 9 := by
  unfold formOf
  split
  · rename_i h
    obtain ⟨k, rfl⟩ : ∃ k : Nat, op = k := ⟨op.toNat, by omega⟩
    have hk : k < 49 := by omega
    have : ∀ k, k < 49 → 0 ≤ tbl.getD k 9 ∧ tbl.getD k 9 ≤ 9 := by decide
    exact this k hk
  · omega

theorem u32_own (j : Nat) (hj : j ≤ 32) (n : Int) (h0 : 0 ≤ n) (h1 : n < 2 ^ j) : IntKind.u32.wrap n = n := by
  have : (2 : Int) ^ j ≤ 2 ^ 32 := by exact_mod_cast Nat.pow_le_pow_right (by decide) hj
  rw [IntKind.wrap_u32]; omega

theorem u16_wrap (c : Int) : IntKind.u16.wrap c = c % 65536 := by simp [IntKind.wrap, IntKind.bits, IntKind.signed]

theorem word_or (op a b c : Int) (ho : 0 ≤ op) (ho' : op ≤ 48) (ha : 0 ≤ a) (ha' : a ≤ 11) (hb : 0 ≤ b) (hb' : b ≤ 11) :
    bits BinOp.or IntKind.u32 (bits BinOp.or IntKind.u32 (bits BinOp.or IntKind.u32 (op % 4294967296 * 16777216 % 4294967296) (a % 4294967296 * 1048576 % 4294967296)) (b % 4294967296 * 65536 % 4294967296)) (IntKind.u16.wrap c % 4294967296) = word op a b c := by
  rw [u16_wrap, show op % 4294967296 * 16777216 % 4294967296 = op * 16777216 by omega, show a % 4294967296 * 1048576 % 4294967296 = a * 1048576 by omega,
    show b % 4294967296 * 65536 % 4294967296 = b * 65536 by omega, show c % 65536 % 4294967296 = c % 65536 by omega]
  rw [bits_join .u32 32 (by decide) (u32_own 32 (by decide)) 24 (op * 16777216) (a * 1048576) (by omega) (by omega) (by omega) (by omega) (by omega) (by omega),
    bits_join .u32 32 (by decide) (u32_own 32 (by decide)) 20 (op * 16777216 + a * 1048576) (b * 65536) (by omega) (by omega) (by omega) (by omega) (by omega) (by omega),
    bits_join .u32 32 (by decide) (u32_own 32 (by decide)) 16 _ (c % 65536) (by omega) (by omega) (by omega) (by omega) (by omega) (by omega)]
  rfl

theorem formOf_no (op : Int) (h : formOf op ≠ 9) : 1 ≤ op ∧ op ≤ 48 := by
  unfold formOf at h
  by_cases e : op = 0
  · subst e; exact absurd rfl h
  · split at h <;> omega

theorem bd_reg (f : Int) : 0 ≤ (bd f).1.1 ∧ (bd f).1.2 ≤ 11 ∧ 0 ≤ (bd f).2.1.1 ∧ (bd f).2.1.2 ≤ 11 := by
  unfold bd
  repeat' split
  all_goals decide

set_option maxHeartbeats 2000000 in
theorem encode_any (op a b c : Int) (w : World) (hL : Laid w) :
    Calls Tryz.prog 47 #[.agg #[.int .i64 op, .int .i64 a, .int .i64 b, .int .i64 c]] w fun e w' => e = .returned (.tuple #[.int .u32 (enc op a b c).1, .int .i64 (enc op a b c).2]) ∧ Below w.heap.size w w' := by
  have hz := hL.1
  have HL := Lib.hid hL
  clear hL
  by_cases h9 : formOf op = 9
  · have e : enc op a b c = (0, 160) := by unfold enc; rw [if_pos h9]
    rw [e]
    have f9 : (formOf op == 9) = true := by simpa using h9
    clear h9 e
    go_enter Tryz.func47, Tryz.ntmps47
    go_wp2_with fail
    have HL1 := Lib.hid (HL.out.below ((Below.refl w.heap.size w).alloc (Nat.le_refl _) (.cells #[.int .i64 op, .int .i64 a, .int .i64 b, .int .i64 c] 99)))
    refine (form_any op _ HL1.out).mono ?_
    rintro e w' ⟨rfl, rfl⟩
    go_wp2_with fail
    go_ret2
    exact ⟨rfl, by go_grown⟩
  · have hr := formOf_range op
    have hop := formOf_no op h9
    have hbd := bd_reg (formOf op)
    have hr0 := hr.1
    have hr8 : formOf op ≤ 8 := by omega
    have f9 : (formOf op == 9) = false := by simpa using h9
    have hw : (bd (formOf op)).1.1 ≤ a → a ≤ (bd (formOf op)).1.2 → (bd (formOf op)).2.1.1 ≤ b → b ≤ (bd (formOf op)).2.1.2 → bits BinOp.or IntKind.u32 (bits BinOp.or IntKind.u32 (bits BinOp.or IntKind.u32 (op % 4294967296 * 16777216 % 4294967296) (a % 4294967296 * 1048576 % 4294967296)) (b % 4294967296 * 65536 % 4294967296)) (IntKind.u16.wrap c % 4294967296) = word op a b c := fun x1 x2 x3 x4 =>
      word_or op a b c (by omega) (by omega) (by omega) (by omega) (by omega) (by omega)
    have HE := Lib.hid (show enc op a b c = if okA (formOf op) a b c then (word op a b c, 0) else (0, 161) by unfold enc; rw [if_neg h9])
    have hF := fun w' => fields_any (formOf op) w' hr0 hr8
    have HF := Lib.hid hF
    unfold okA at HE
    clear hr h9 hbd hop hF
    generalize (bd (formOf op)) = B at HE hw HF
    obtain ⟨⟨l1, u1⟩, ⟨l2, u2⟩, l3, u3⟩ := B
    simp only [] at HE hw HF
    have h7 : a < l1 ∨ (l1 ≤ a ∧ u1 < a) ∨ ((l1 ≤ a ∧ a ≤ u1) ∧ b < l2) ∨ ((l1 ≤ a ∧ a ≤ u1) ∧ l2 ≤ b ∧ u2 < b) ∨ ((l1 ≤ a ∧ a ≤ u1) ∧ (l2 ≤ b ∧ b ≤ u2) ∧ c < l3) ∨ ((l1 ≤ a ∧ a ≤ u1) ∧ (l2 ≤ b ∧ b ≤ u2) ∧ l3 ≤ c ∧ u3 < c) ∨ ((l1 ≤ a ∧ a ≤ u1) ∧ (l2 ≤ b ∧ b ≤ u2) ∧ l3 ≤ c ∧ c ≤ u3) := by omega
    have fin : ∀ (r : Int × Int), enc op a b c = r → Calls Tryz.prog 47 #[.agg #[.int .i64 op, .int .i64 a, .int .i64 b, .int .i64 c]] w (fun e w' => e = .returned (.tuple #[.int .u32 r.1, .int .i64 r.2]) ∧ Below w.heap.size w w') → Calls Tryz.prog 47 #[.agg #[.int .i64 op, .int .i64 a, .int .i64 b, .int .i64 c]] w fun e w' => e = .returned (.tuple #[.int .u32 (enc op a b c).1, .int .i64 (enc op a b c).2]) ∧ Below w.heap.size w w' := fun r h => by rw [h]; exact id
    rcases h7 with h | ⟨h, h'⟩ | ⟨⟨h, h'⟩, h2⟩ | ⟨⟨h, h'⟩, h2, h2'⟩ | ⟨⟨h, h'⟩, ⟨h2, h2'⟩, h3⟩ | ⟨⟨h, h'⟩, ⟨h2, h2'⟩, h3, h3'⟩ | ⟨⟨h, h'⟩, ⟨h2, h2'⟩, h3, h3'⟩
    rotate_right
    · refine fin (word op a b c, 0) (by rw [HE.out]; simp [within, h, h', h2, h2', h3, h3']) ?_
      have HW := Lib.hid (hw h h' h2 h2')
      clear hw fin HE
      go_enter Tryz.func47, Tryz.ntmps47
      go_wp2_with fail
      have HL1 := Lib.hid (HL.out.below ((Below.refl w.heap.size w).alloc (Nat.le_refl _) (.cells #[.int .i64 op, .int .i64 a, .int .i64 b, .int .i64 c] 99)))
      refine (form_any op _ HL1.out).mono ?_
      rintro e w' ⟨rfl, rfl⟩
      go_wp2_with fail
      refine (HF.out _).mono ?_
      rintro e w2 ⟨rfl, hb2⟩
      obtain ⟨hc2, hf2⟩ := bcell hb2
      have hs2 : w.heap.size < w2.heap.size := by have := hb2.size; simp at this; omega
      have hs3 : w.heap.size < w2.heap.size + 1 := by omega
      have hs4 : w.heap.size < w2.heap.size + 1 + 1 := by omega
      have hs5 : w.heap.size < w2.heap.size + 1 + 1 + 1 := by omega
      have hs6 : w.heap.size < w2.heap.size + 1 + 1 + 1 + 1 := by omega
      have hs7 : w.heap.size < w2.heap.size + 1 + 1 + 1 + 1 + 1 := by omega
      have hs8 : w.heap.size < w2.heap.size + 1 + 1 + 1 + 1 + 1 + 1 := by omega
      have k0 : w2.cell? ⟨w.heap.size, 0, none⟩ = some (.int .i64 op) := by rw [hc2 _ _ (by simp)]; simp
      have k1 : w2.cell? ⟨w.heap.size, 1, none⟩ = some (.int .i64 a) := by rw [hc2 _ _ (by simp)]; simp
      have k2 : w2.cell? ⟨w.heap.size, 2, none⟩ = some (.int .i64 b) := by rw [hc2 _ _ (by simp)]; simp
      have k3 : w2.cell? ⟨w.heap.size, 3, none⟩ = some (.int .i64 c) := by rw [hc2 _ _ (by simp)]; simp
      have hb3 : Below w.heap.size w w2 := ((Below.refl w.heap.size w).alloc (Nat.le_refl _) (.cells #[.int .i64 op, .int .i64 a, .int .i64 b, .int .i64 c] 99)).trans (hb2.mono (by simp))
      clear hc2 hf2 hb2 HF HL1 HL
      go_wp2
      go_ret2
      exact ⟨by rw [← HW.out]; rfl, by go_grown⟩
    all_goals
      refine fin (0, 161) (by rw [HE.out, if_neg (by simp only [within, Bool.and_eq_true, decide_eq_true_eq]; omega)]) ?_
      clear hw fin HE
      try have d3 : decide (c ≤ u3) = false := decide_eq_false (by omega)
      try have d3' : decide (c ≥ l3) = false := decide_eq_false (by omega)
      go_enter Tryz.func47, Tryz.ntmps47
      go_wp2_with fail
      have HL1 := Lib.hid (HL.out.below ((Below.refl w.heap.size w).alloc (Nat.le_refl _) (.cells #[.int .i64 op, .int .i64 a, .int .i64 b, .int .i64 c] 99)))
      refine (form_any op _ HL1.out).mono ?_
      rintro e w' ⟨rfl, rfl⟩
      go_wp2_with fail
      refine (HF.out _).mono ?_
      rintro e w2 ⟨rfl, hb2⟩
      obtain ⟨hc2, hf2⟩ := bcell hb2
      have hs2 : w.heap.size < w2.heap.size := by have := hb2.size; simp at this; omega
      have hs3 : w.heap.size < w2.heap.size + 1 := by omega
      have hs4 : w.heap.size < w2.heap.size + 1 + 1 := by omega
      have hs5 : w.heap.size < w2.heap.size + 1 + 1 + 1 := by omega
      have hs6 : w.heap.size < w2.heap.size + 1 + 1 + 1 + 1 := by omega
      have hs7 : w.heap.size < w2.heap.size + 1 + 1 + 1 + 1 + 1 := by omega
      have k1 : w2.cell? ⟨w.heap.size, 1, none⟩ = some (.int .i64 a) := by rw [hc2 _ _ (by simp)]; simp
      have k2 : w2.cell? ⟨w.heap.size, 2, none⟩ = some (.int .i64 b) := by rw [hc2 _ _ (by simp)]; simp
      have k3 : w2.cell? ⟨w.heap.size, 3, none⟩ = some (.int .i64 c) := by rw [hc2 _ _ (by simp)]; simp
      have hb3 : Below w.heap.size w w2 := ((Below.refl w.heap.size w).alloc (Nat.le_refl _) (.cells #[.int .i64 op, .int .i64 a, .int .i64 b, .int .i64 c] 99)).trans (hb2.mono (by simp))
      clear hc2 hf2 hb2 HF HL1 HL
      go_wp2
      go_ret2
      exact ⟨rfl, by go_grown⟩

end Go.Proofs.YtlhgfhmdhmgmpaaGreatDoor
