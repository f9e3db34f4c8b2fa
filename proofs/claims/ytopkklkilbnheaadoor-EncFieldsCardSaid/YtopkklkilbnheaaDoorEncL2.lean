import Derived.Test.YtopkklkilbnheaaDoorEncL
namespace Go.Proofs.YtopkklkilbnheaaDoor
open Go.RowKit

theorem encode_pair {op a b c x z : Int} (h : enc op a b c = (x, z)) (w : World) (hL : Laid w) :
    Calls Tryd.prog 9 #[.agg #[.int .i64 op, .int .i64 a, .int .i64 b, .int .i64 c]] w fun e w' => e = .returned (.tuple #[.int .u32 x, .int .i64 z]) ∧ Below w.heap.size w w' := by
  have := encode_any op a b c w hL
  rw [h] at this
  exact this

theorem decode_pair {n op a b c z : Int} (h : dec n = ((op, a, b, c), z)) (w : World) (hL : Laid w) (h0 : 0 ≤ n) (h1 : n < 4294967296) :
    Calls Tryd.prog 12 #[.int .u32 n] w fun e w' => e = .returned (.tuple #[.agg #[.int .i64 op, .int .i64 a, .int .i64 b, .int .i64 c], .int .i64 z]) ∧ Below w.heap.size w w' := by
  have := decode_any n w hL h0 h1
  rw [h] at this
  exact this

set_option maxHeartbeats 4000000 in
theorem back_walk (op a b c n : Int) (w : World) (hL : Laid w) (h0 : 0 ≤ n) (h1 : n < 4294967296) :
    Calls Tryd.prog 6 #[.agg #[.int .i64 op, .int .i64 a, .int .i64 b, .int .i64 c], .int .u32 n] w fun e w' => e = .returned (.bool true) ∧ Below w.heap.size w w' := by
  have HL := Lib.hid hL
  clear hL
  obtain ⟨x, z, hx⟩ : ∃ x z, enc op a b c = (x, z) := ⟨_, _, rfl⟩
  obtain ⟨p, q, r, s, y, hy⟩ : ∃ p q r s y, dec n = ((p, q, r, s), y) := ⟨_, _, _, _, _, rfl⟩
  have E1 := Lib.hid (fun W hW => encode_pair hx W hW)
  have D2 := Lib.hid (fun W hW => decode_pair hy W hW h0 h1)
  have D1 := Lib.hid (show z = 0 → ∀ W, Laid W → Calls Tryd.prog 12 #[.int .u32 x] W fun e w' => e = .returned (.tuple #[.agg #[.int .i64 op, .int .i64 a, .int .i64 b, .int .i64 c], .int .i64 0]) ∧ Below W.heap.size W w' from fun hz W hW => by
    have hm := enc_ok (op := op) (a := a) (b := b) (c := c) (by rw [hx]; exact hz)
    have hx' : x = word op a b c := by rw [← hm.2, hx]
    have hr := word_range hm.1
    exact decode_pair (n := x) (by rw [hx']; exact dec_word hm.1) W hW (by rw [hx']; exact hr.1) (by rw [hx']; exact hr.2.1))
  have E2 := Lib.hid (show y = 0 → ∀ W, Laid W → Calls Tryd.prog 9 #[.agg #[.int .i64 p, .int .i64 q, .int .i64 r, .int .i64 s]] W fun e w' => e = .returned (.tuple #[.int .u32 n, .int .i64 0]) ∧ Below W.heap.size W w' from fun hy0 W hW => by
    have hm := dec_ok (n := n) (by rw [hy]; exact hy0)
    rw [hy] at hm
    simp only [] at hm
    exact encode_pair (op := p) (a := q) (b := r) (c := s) (x := n) (z := 0) (by rw [enc_of hm.1, hm.2]) W hW)
  clear hx hy
  by_cases hz : z = 0
  all_goals by_cases hy0 : y = 0
  · have D1' := Lib.hid (D1.out hz)
    subst hz
    have E2' := Lib.hid (E2.out hy0)
    subst hy0
    clear D1 E2
    go_enter Tryd.func6, Tryd.ntmps6
    go_wp2_with fail
    have hb0 : Below w.heap.size w w := Below.refl _ _
    have k0_0 : (w.alloc (.cells #[.int .i64 op, .int .i64 a, .int .i64 b, .int .i64 c] 23)).cell? ⟨w.heap.size, 0, none⟩ = some (.int .i64 op) := kn 0 rfl
    have k0_1 : (w.alloc (.cells #[.int .i64 op, .int .i64 a, .int .i64 b, .int .i64 c] 23)).cell? ⟨w.heap.size, 1, none⟩ = some (.int .i64 a) := kn 1 rfl
    have k0_2 : (w.alloc (.cells #[.int .i64 op, .int .i64 a, .int .i64 b, .int .i64 c] 23)).cell? ⟨w.heap.size, 2, none⟩ = some (.int .i64 b) := kn 2 rfl
    have k0_3 : (w.alloc (.cells #[.int .i64 op, .int .i64 a, .int .i64 b, .int .i64 c] 23)).cell? ⟨w.heap.size, 3, none⟩ = some (.int .i64 c) := kn 3 rfl
    replace hb0 : Below w.heap.size w (w.alloc (.cells #[.int .i64 op, .int .i64 a, .int .i64 b, .int .i64 c] 23)) := hb0.alloc (by first | exact Nat.le_refl _ | exact hb0.size) _
    refine (E1.out _ (HL.out.below hb0)).mono ?_
    rintro e w1 ⟨rfl, hb1⟩
    replace k0_0 := kp hb1 k0_0
    replace k0_1 := kp hb1 k0_1
    replace k0_2 := kp hb1 k0_2
    replace k0_3 := kp hb1 k0_3
    replace hb0 := hb0.trans (hb1.mono hb0.size)
    clear hb1
    have hs_w1 := hb0.size
    have hl0_w1 := lt_of_cell k0_0
    try simp only [] at hl0_w1
    go_wp2_with fail
    refine (D1'.out _ (HL.out.below hb0)).mono ?_
    rintro e w2 ⟨rfl, hb1⟩
    replace k0_0 := kp hb1 k0_0
    replace k0_1 := kp hb1 k0_1
    replace k0_2 := kp hb1 k0_2
    replace k0_3 := kp hb1 k0_3
    replace hb0 := hb0.trans (hb1.mono hb0.size)
    clear hb1
    have hs_w2 := hb0.size
    have hl0_w2 := lt_of_cell k0_0
    try simp only [] at hl0_w2
    go_wp2_with fail
    replace k0_0 := ka (.cells #[.int .i64 op, .int .i64 a, .int .i64 b, .int .i64 c] 23) k0_0
    replace k0_1 := ka (.cells #[.int .i64 op, .int .i64 a, .int .i64 b, .int .i64 c] 23) k0_1
    replace k0_2 := ka (.cells #[.int .i64 op, .int .i64 a, .int .i64 b, .int .i64 c] 23) k0_2
    replace k0_3 := ka (.cells #[.int .i64 op, .int .i64 a, .int .i64 b, .int .i64 c] 23) k0_3
    have k1_0 : (w2.alloc (.cells #[.int .i64 op, .int .i64 a, .int .i64 b, .int .i64 c] 23)).cell? ⟨w2.heap.size, 0, none⟩ = some (.int .i64 op) := kn 0 rfl
    have k1_1 : (w2.alloc (.cells #[.int .i64 op, .int .i64 a, .int .i64 b, .int .i64 c] 23)).cell? ⟨w2.heap.size, 1, none⟩ = some (.int .i64 a) := kn 1 rfl
    have k1_2 : (w2.alloc (.cells #[.int .i64 op, .int .i64 a, .int .i64 b, .int .i64 c] 23)).cell? ⟨w2.heap.size, 2, none⟩ = some (.int .i64 b) := kn 2 rfl
    have k1_3 : (w2.alloc (.cells #[.int .i64 op, .int .i64 a, .int .i64 b, .int .i64 c] 23)).cell? ⟨w2.heap.size, 3, none⟩ = some (.int .i64 c) := kn 3 rfl
    replace hb0 : Below w.heap.size w (w2.alloc (.cells #[.int .i64 op, .int .i64 a, .int .i64 b, .int .i64 c] 23)) := hb0.alloc (by first | exact Nat.le_refl _ | exact hb0.size) _
    refine (D2.out _ (HL.out.below hb0)).mono ?_
    rintro e w3 ⟨rfl, hb1⟩
    replace k0_0 := kp hb1 k0_0
    replace k0_1 := kp hb1 k0_1
    replace k0_2 := kp hb1 k0_2
    replace k0_3 := kp hb1 k0_3
    replace k1_0 := kp hb1 k1_0
    replace k1_1 := kp hb1 k1_1
    replace k1_2 := kp hb1 k1_2
    replace k1_3 := kp hb1 k1_3
    replace hb0 := hb0.trans (hb1.mono hb0.size)
    clear hb1
    have hs_w3 := hb0.size
    have hl0_w3 := lt_of_cell k0_0
    have hl1_w3 := lt_of_cell k1_0
    try simp only [] at hl0_w3 hl1_w3
    go_wp2_with fail
    replace k0_0 := ka (.cells #[.int .i64 p, .int .i64 q, .int .i64 r, .int .i64 s] 23) k0_0
    replace k0_1 := ka (.cells #[.int .i64 p, .int .i64 q, .int .i64 r, .int .i64 s] 23) k0_1
    replace k0_2 := ka (.cells #[.int .i64 p, .int .i64 q, .int .i64 r, .int .i64 s] 23) k0_2
    replace k0_3 := ka (.cells #[.int .i64 p, .int .i64 q, .int .i64 r, .int .i64 s] 23) k0_3
    replace k1_0 := ka (.cells #[.int .i64 p, .int .i64 q, .int .i64 r, .int .i64 s] 23) k1_0
    replace k1_1 := ka (.cells #[.int .i64 p, .int .i64 q, .int .i64 r, .int .i64 s] 23) k1_1
    replace k1_2 := ka (.cells #[.int .i64 p, .int .i64 q, .int .i64 r, .int .i64 s] 23) k1_2
    replace k1_3 := ka (.cells #[.int .i64 p, .int .i64 q, .int .i64 r, .int .i64 s] 23) k1_3
    have k2_0 : (w3.alloc (.cells #[.int .i64 p, .int .i64 q, .int .i64 r, .int .i64 s] 23)).cell? ⟨w3.heap.size, 0, none⟩ = some (.int .i64 p) := kn 0 rfl
    have k2_1 : (w3.alloc (.cells #[.int .i64 p, .int .i64 q, .int .i64 r, .int .i64 s] 23)).cell? ⟨w3.heap.size, 1, none⟩ = some (.int .i64 q) := kn 1 rfl
    have k2_2 : (w3.alloc (.cells #[.int .i64 p, .int .i64 q, .int .i64 r, .int .i64 s] 23)).cell? ⟨w3.heap.size, 2, none⟩ = some (.int .i64 r) := kn 2 rfl
    have k2_3 : (w3.alloc (.cells #[.int .i64 p, .int .i64 q, .int .i64 r, .int .i64 s] 23)).cell? ⟨w3.heap.size, 3, none⟩ = some (.int .i64 s) := kn 3 rfl
    replace hb0 : Below w.heap.size w (w3.alloc (.cells #[.int .i64 p, .int .i64 q, .int .i64 r, .int .i64 s] 23)) := hb0.alloc (by first | exact Nat.le_refl _ | exact hb0.size) _
    refine (E2'.out _ (HL.out.below hb0)).mono ?_
    rintro e w4 ⟨rfl, hb1⟩
    replace k0_0 := kp hb1 k0_0
    replace k0_1 := kp hb1 k0_1
    replace k0_2 := kp hb1 k0_2
    replace k0_3 := kp hb1 k0_3
    replace k1_0 := kp hb1 k1_0
    replace k1_1 := kp hb1 k1_1
    replace k1_2 := kp hb1 k1_2
    replace k1_3 := kp hb1 k1_3
    replace k2_0 := kp hb1 k2_0
    replace k2_1 := kp hb1 k2_1
    replace k2_2 := kp hb1 k2_2
    replace k2_3 := kp hb1 k2_3
    replace hb0 := hb0.trans (hb1.mono hb0.size)
    clear hb1
    have hs_w4 := hb0.size
    have hl0_w4 := lt_of_cell k0_0
    have hl1_w4 := lt_of_cell k1_0
    have hl2_w4 := lt_of_cell k2_0
    try simp only [] at hl0_w4 hl1_w4 hl2_w4
    go_wp2_with fail
    refine (live_any _ (HL.out.below hb0)).mono ?_
    rintro e w5 ⟨rfl, hb1⟩
    replace k0_0 := kp hb1 k0_0
    replace k0_1 := kp hb1 k0_1
    replace k0_2 := kp hb1 k0_2
    replace k0_3 := kp hb1 k0_3
    replace k1_0 := kp hb1 k1_0
    replace k1_1 := kp hb1 k1_1
    replace k1_2 := kp hb1 k1_2
    replace k1_3 := kp hb1 k1_3
    replace k2_0 := kp hb1 k2_0
    replace k2_1 := kp hb1 k2_1
    replace k2_2 := kp hb1 k2_2
    replace k2_3 := kp hb1 k2_3
    replace hb0 := hb0.trans (hb1.mono hb0.size)
    clear hb1
    have hs_w5 := hb0.size
    have hl0_w5 := lt_of_cell k0_0
    have hl1_w5 := lt_of_cell k1_0
    have hl2_w5 := lt_of_cell k2_0
    try simp only [] at hl0_w5 hl1_w5 hl2_w5
    go_wp2_with fail
    go_returns
    exact ⟨rfl, by go_grown⟩
  · have D1' := Lib.hid (D1.out hz)
    subst hz
    have hy1 : (y == 0) = false := by simpa using hy0
    clear hy0
    clear D1 E2
    go_enter Tryd.func6, Tryd.ntmps6
    go_wp2_with fail
    have hb0 : Below w.heap.size w w := Below.refl _ _
    have k0_0 : (w.alloc (.cells #[.int .i64 op, .int .i64 a, .int .i64 b, .int .i64 c] 23)).cell? ⟨w.heap.size, 0, none⟩ = some (.int .i64 op) := kn 0 rfl
    have k0_1 : (w.alloc (.cells #[.int .i64 op, .int .i64 a, .int .i64 b, .int .i64 c] 23)).cell? ⟨w.heap.size, 1, none⟩ = some (.int .i64 a) := kn 1 rfl
    have k0_2 : (w.alloc (.cells #[.int .i64 op, .int .i64 a, .int .i64 b, .int .i64 c] 23)).cell? ⟨w.heap.size, 2, none⟩ = some (.int .i64 b) := kn 2 rfl
    have k0_3 : (w.alloc (.cells #[.int .i64 op, .int .i64 a, .int .i64 b, .int .i64 c] 23)).cell? ⟨w.heap.size, 3, none⟩ = some (.int .i64 c) := kn 3 rfl
    replace hb0 : Below w.heap.size w (w.alloc (.cells #[.int .i64 op, .int .i64 a, .int .i64 b, .int .i64 c] 23)) := hb0.alloc (by first | exact Nat.le_refl _ | exact hb0.size) _
    refine (E1.out _ (HL.out.below hb0)).mono ?_
    rintro e w1 ⟨rfl, hb1⟩
    replace k0_0 := kp hb1 k0_0
    replace k0_1 := kp hb1 k0_1
    replace k0_2 := kp hb1 k0_2
    replace k0_3 := kp hb1 k0_3
    replace hb0 := hb0.trans (hb1.mono hb0.size)
    clear hb1
    have hs_w1 := hb0.size
    have hl0_w1 := lt_of_cell k0_0
    try simp only [] at hl0_w1
    go_wp2_with fail
    refine (D1'.out _ (HL.out.below hb0)).mono ?_
    rintro e w2 ⟨rfl, hb1⟩
    replace k0_0 := kp hb1 k0_0
    replace k0_1 := kp hb1 k0_1
    replace k0_2 := kp hb1 k0_2
    replace k0_3 := kp hb1 k0_3
    replace hb0 := hb0.trans (hb1.mono hb0.size)
    clear hb1
    have hs_w2 := hb0.size
    have hl0_w2 := lt_of_cell k0_0
    try simp only [] at hl0_w2
    go_wp2_with fail
    replace k0_0 := ka (.cells #[.int .i64 op, .int .i64 a, .int .i64 b, .int .i64 c] 23) k0_0
    replace k0_1 := ka (.cells #[.int .i64 op, .int .i64 a, .int .i64 b, .int .i64 c] 23) k0_1
    replace k0_2 := ka (.cells #[.int .i64 op, .int .i64 a, .int .i64 b, .int .i64 c] 23) k0_2
    replace k0_3 := ka (.cells #[.int .i64 op, .int .i64 a, .int .i64 b, .int .i64 c] 23) k0_3
    have k1_0 : (w2.alloc (.cells #[.int .i64 op, .int .i64 a, .int .i64 b, .int .i64 c] 23)).cell? ⟨w2.heap.size, 0, none⟩ = some (.int .i64 op) := kn 0 rfl
    have k1_1 : (w2.alloc (.cells #[.int .i64 op, .int .i64 a, .int .i64 b, .int .i64 c] 23)).cell? ⟨w2.heap.size, 1, none⟩ = some (.int .i64 a) := kn 1 rfl
    have k1_2 : (w2.alloc (.cells #[.int .i64 op, .int .i64 a, .int .i64 b, .int .i64 c] 23)).cell? ⟨w2.heap.size, 2, none⟩ = some (.int .i64 b) := kn 2 rfl
    have k1_3 : (w2.alloc (.cells #[.int .i64 op, .int .i64 a, .int .i64 b, .int .i64 c] 23)).cell? ⟨w2.heap.size, 3, none⟩ = some (.int .i64 c) := kn 3 rfl
    replace hb0 : Below w.heap.size w (w2.alloc (.cells #[.int .i64 op, .int .i64 a, .int .i64 b, .int .i64 c] 23)) := hb0.alloc (by first | exact Nat.le_refl _ | exact hb0.size) _
    refine (D2.out _ (HL.out.below hb0)).mono ?_
    rintro e w3 ⟨rfl, hb1⟩
    replace k0_0 := kp hb1 k0_0
    replace k0_1 := kp hb1 k0_1
    replace k0_2 := kp hb1 k0_2
    replace k0_3 := kp hb1 k0_3
    replace k1_0 := kp hb1 k1_0
    replace k1_1 := kp hb1 k1_1
    replace k1_2 := kp hb1 k1_2
    replace k1_3 := kp hb1 k1_3
    replace hb0 := hb0.trans (hb1.mono hb0.size)
    clear hb1
    have hs_w3 := hb0.size
    have hl0_w3 := lt_of_cell k0_0
    have hl1_w3 := lt_of_cell k1_0
    try simp only [] at hl0_w3 hl1_w3
    go_wp2_with fail
    replace k0_0 := ka (.cells #[.int .i64 p, .int .i64 q, .int .i64 r, .int .i64 s] 23) k0_0
    replace k0_1 := ka (.cells #[.int .i64 p, .int .i64 q, .int .i64 r, .int .i64 s] 23) k0_1
    replace k0_2 := ka (.cells #[.int .i64 p, .int .i64 q, .int .i64 r, .int .i64 s] 23) k0_2
    replace k0_3 := ka (.cells #[.int .i64 p, .int .i64 q, .int .i64 r, .int .i64 s] 23) k0_3
    replace k1_0 := ka (.cells #[.int .i64 p, .int .i64 q, .int .i64 r, .int .i64 s] 23) k1_0
    replace k1_1 := ka (.cells #[.int .i64 p, .int .i64 q, .int .i64 r, .int .i64 s] 23) k1_1
    replace k1_2 := ka (.cells #[.int .i64 p, .int .i64 q, .int .i64 r, .int .i64 s] 23) k1_2
    replace k1_3 := ka (.cells #[.int .i64 p, .int .i64 q, .int .i64 r, .int .i64 s] 23) k1_3
    have k2_0 : (w3.alloc (.cells #[.int .i64 p, .int .i64 q, .int .i64 r, .int .i64 s] 23)).cell? ⟨w3.heap.size, 0, none⟩ = some (.int .i64 p) := kn 0 rfl
    have k2_1 : (w3.alloc (.cells #[.int .i64 p, .int .i64 q, .int .i64 r, .int .i64 s] 23)).cell? ⟨w3.heap.size, 1, none⟩ = some (.int .i64 q) := kn 1 rfl
    have k2_2 : (w3.alloc (.cells #[.int .i64 p, .int .i64 q, .int .i64 r, .int .i64 s] 23)).cell? ⟨w3.heap.size, 2, none⟩ = some (.int .i64 r) := kn 2 rfl
    have k2_3 : (w3.alloc (.cells #[.int .i64 p, .int .i64 q, .int .i64 r, .int .i64 s] 23)).cell? ⟨w3.heap.size, 3, none⟩ = some (.int .i64 s) := kn 3 rfl
    replace hb0 : Below w.heap.size w (w3.alloc (.cells #[.int .i64 p, .int .i64 q, .int .i64 r, .int .i64 s] 23)) := hb0.alloc (by first | exact Nat.le_refl _ | exact hb0.size) _
    refine (live_any _ (HL.out.below hb0)).mono ?_
    rintro e w5 ⟨rfl, hb1⟩
    replace k0_0 := kp hb1 k0_0
    replace k0_1 := kp hb1 k0_1
    replace k0_2 := kp hb1 k0_2
    replace k0_3 := kp hb1 k0_3
    replace k1_0 := kp hb1 k1_0
    replace k1_1 := kp hb1 k1_1
    replace k1_2 := kp hb1 k1_2
    replace k1_3 := kp hb1 k1_3
    replace k2_0 := kp hb1 k2_0
    replace k2_1 := kp hb1 k2_1
    replace k2_2 := kp hb1 k2_2
    replace k2_3 := kp hb1 k2_3
    replace hb0 := hb0.trans (hb1.mono hb0.size)
    clear hb1
    have hs_w5 := hb0.size
    have hl0_w5 := lt_of_cell k0_0
    have hl1_w5 := lt_of_cell k1_0
    have hl2_w5 := lt_of_cell k2_0
    try simp only [] at hl0_w5 hl1_w5 hl2_w5
    go_wp2_with fail
    go_returns
    exact ⟨rfl, by go_grown⟩
  · have hz1 : (z == 0) = false := by simpa using hz
    clear hz
    have E2' := Lib.hid (E2.out hy0)
    subst hy0
    clear D1 E2
    go_enter Tryd.func6, Tryd.ntmps6
    go_wp2_with fail
    have hb0 : Below w.heap.size w w := Below.refl _ _
    have k0_0 : (w.alloc (.cells #[.int .i64 op, .int .i64 a, .int .i64 b, .int .i64 c] 23)).cell? ⟨w.heap.size, 0, none⟩ = some (.int .i64 op) := kn 0 rfl
    have k0_1 : (w.alloc (.cells #[.int .i64 op, .int .i64 a, .int .i64 b, .int .i64 c] 23)).cell? ⟨w.heap.size, 1, none⟩ = some (.int .i64 a) := kn 1 rfl
    have k0_2 : (w.alloc (.cells #[.int .i64 op, .int .i64 a, .int .i64 b, .int .i64 c] 23)).cell? ⟨w.heap.size, 2, none⟩ = some (.int .i64 b) := kn 2 rfl
    have k0_3 : (w.alloc (.cells #[.int .i64 op, .int .i64 a, .int .i64 b, .int .i64 c] 23)).cell? ⟨w.heap.size, 3, none⟩ = some (.int .i64 c) := kn 3 rfl
    replace hb0 : Below w.heap.size w (w.alloc (.cells #[.int .i64 op, .int .i64 a, .int .i64 b, .int .i64 c] 23)) := hb0.alloc (by first | exact Nat.le_refl _ | exact hb0.size) _
    refine (E1.out _ (HL.out.below hb0)).mono ?_
    rintro e w1 ⟨rfl, hb1⟩
    replace k0_0 := kp hb1 k0_0
    replace k0_1 := kp hb1 k0_1
    replace k0_2 := kp hb1 k0_2
    replace k0_3 := kp hb1 k0_3
    replace hb0 := hb0.trans (hb1.mono hb0.size)
    clear hb1
    have hs_w1 := hb0.size
    have hl0_w1 := lt_of_cell k0_0
    try simp only [] at hl0_w1
    go_wp2_with fail
    refine (D2.out _ (HL.out.below hb0)).mono ?_
    rintro e w3 ⟨rfl, hb1⟩
    replace k0_0 := kp hb1 k0_0
    replace k0_1 := kp hb1 k0_1
    replace k0_2 := kp hb1 k0_2
    replace k0_3 := kp hb1 k0_3
    replace hb0 := hb0.trans (hb1.mono hb0.size)
    clear hb1
    have hs_w3 := hb0.size
    have hl0_w3 := lt_of_cell k0_0
    try simp only [] at hl0_w3
    go_wp2_with fail
    replace k0_0 := ka (.cells #[.int .i64 p, .int .i64 q, .int .i64 r, .int .i64 s] 23) k0_0
    replace k0_1 := ka (.cells #[.int .i64 p, .int .i64 q, .int .i64 r, .int .i64 s] 23) k0_1
    replace k0_2 := ka (.cells #[.int .i64 p, .int .i64 q, .int .i64 r, .int .i64 s] 23) k0_2
    replace k0_3 := ka (.cells #[.int .i64 p, .int .i64 q, .int .i64 r, .int .i64 s] 23) k0_3
    have k1_0 : (w3.alloc (.cells #[.int .i64 p, .int .i64 q, .int .i64 r, .int .i64 s] 23)).cell? ⟨w3.heap.size, 0, none⟩ = some (.int .i64 p) := kn 0 rfl
    have k1_1 : (w3.alloc (.cells #[.int .i64 p, .int .i64 q, .int .i64 r, .int .i64 s] 23)).cell? ⟨w3.heap.size, 1, none⟩ = some (.int .i64 q) := kn 1 rfl
    have k1_2 : (w3.alloc (.cells #[.int .i64 p, .int .i64 q, .int .i64 r, .int .i64 s] 23)).cell? ⟨w3.heap.size, 2, none⟩ = some (.int .i64 r) := kn 2 rfl
    have k1_3 : (w3.alloc (.cells #[.int .i64 p, .int .i64 q, .int .i64 r, .int .i64 s] 23)).cell? ⟨w3.heap.size, 3, none⟩ = some (.int .i64 s) := kn 3 rfl
    replace hb0 : Below w.heap.size w (w3.alloc (.cells #[.int .i64 p, .int .i64 q, .int .i64 r, .int .i64 s] 23)) := hb0.alloc (by first | exact Nat.le_refl _ | exact hb0.size) _
    refine (E2'.out _ (HL.out.below hb0)).mono ?_
    rintro e w4 ⟨rfl, hb1⟩
    replace k0_0 := kp hb1 k0_0
    replace k0_1 := kp hb1 k0_1
    replace k0_2 := kp hb1 k0_2
    replace k0_3 := kp hb1 k0_3
    replace k1_0 := kp hb1 k1_0
    replace k1_1 := kp hb1 k1_1
    replace k1_2 := kp hb1 k1_2
    replace k1_3 := kp hb1 k1_3
    replace hb0 := hb0.trans (hb1.mono hb0.size)
    clear hb1
    have hs_w4 := hb0.size
    have hl0_w4 := lt_of_cell k0_0
    have hl1_w4 := lt_of_cell k1_0
    try simp only [] at hl0_w4 hl1_w4
    go_wp2_with fail
    refine (live_any _ (HL.out.below hb0)).mono ?_
    rintro e w5 ⟨rfl, hb1⟩
    replace k0_0 := kp hb1 k0_0
    replace k0_1 := kp hb1 k0_1
    replace k0_2 := kp hb1 k0_2
    replace k0_3 := kp hb1 k0_3
    replace k1_0 := kp hb1 k1_0
    replace k1_1 := kp hb1 k1_1
    replace k1_2 := kp hb1 k1_2
    replace k1_3 := kp hb1 k1_3
    replace hb0 := hb0.trans (hb1.mono hb0.size)
    clear hb1
    have hs_w5 := hb0.size
    have hl0_w5 := lt_of_cell k0_0
    have hl1_w5 := lt_of_cell k1_0
    try simp only [] at hl0_w5 hl1_w5
    go_wp2_with fail
    go_returns
    exact ⟨rfl, by go_grown⟩
  · have hz1 : (z == 0) = false := by simpa using hz
    clear hz
    have hy1 : (y == 0) = false := by simpa using hy0
    clear hy0
    clear D1 E2
    go_enter Tryd.func6, Tryd.ntmps6
    go_wp2_with fail
    have hb0 : Below w.heap.size w w := Below.refl _ _
    have k0_0 : (w.alloc (.cells #[.int .i64 op, .int .i64 a, .int .i64 b, .int .i64 c] 23)).cell? ⟨w.heap.size, 0, none⟩ = some (.int .i64 op) := kn 0 rfl
    have k0_1 : (w.alloc (.cells #[.int .i64 op, .int .i64 a, .int .i64 b, .int .i64 c] 23)).cell? ⟨w.heap.size, 1, none⟩ = some (.int .i64 a) := kn 1 rfl
    have k0_2 : (w.alloc (.cells #[.int .i64 op, .int .i64 a, .int .i64 b, .int .i64 c] 23)).cell? ⟨w.heap.size, 2, none⟩ = some (.int .i64 b) := kn 2 rfl
    have k0_3 : (w.alloc (.cells #[.int .i64 op, .int .i64 a, .int .i64 b, .int .i64 c] 23)).cell? ⟨w.heap.size, 3, none⟩ = some (.int .i64 c) := kn 3 rfl
    replace hb0 : Below w.heap.size w (w.alloc (.cells #[.int .i64 op, .int .i64 a, .int .i64 b, .int .i64 c] 23)) := hb0.alloc (by first | exact Nat.le_refl _ | exact hb0.size) _
    refine (E1.out _ (HL.out.below hb0)).mono ?_
    rintro e w1 ⟨rfl, hb1⟩
    replace k0_0 := kp hb1 k0_0
    replace k0_1 := kp hb1 k0_1
    replace k0_2 := kp hb1 k0_2
    replace k0_3 := kp hb1 k0_3
    replace hb0 := hb0.trans (hb1.mono hb0.size)
    clear hb1
    have hs_w1 := hb0.size
    have hl0_w1 := lt_of_cell k0_0
    try simp only [] at hl0_w1
    go_wp2_with fail
    refine (D2.out _ (HL.out.below hb0)).mono ?_
    rintro e w3 ⟨rfl, hb1⟩
    replace k0_0 := kp hb1 k0_0
    replace k0_1 := kp hb1 k0_1
    replace k0_2 := kp hb1 k0_2
    replace k0_3 := kp hb1 k0_3
    replace hb0 := hb0.trans (hb1.mono hb0.size)
    clear hb1
    have hs_w3 := hb0.size
    have hl0_w3 := lt_of_cell k0_0
    try simp only [] at hl0_w3
    go_wp2_with fail
    replace k0_0 := ka (.cells #[.int .i64 p, .int .i64 q, .int .i64 r, .int .i64 s] 23) k0_0
    replace k0_1 := ka (.cells #[.int .i64 p, .int .i64 q, .int .i64 r, .int .i64 s] 23) k0_1
    replace k0_2 := ka (.cells #[.int .i64 p, .int .i64 q, .int .i64 r, .int .i64 s] 23) k0_2
    replace k0_3 := ka (.cells #[.int .i64 p, .int .i64 q, .int .i64 r, .int .i64 s] 23) k0_3
    have k1_0 : (w3.alloc (.cells #[.int .i64 p, .int .i64 q, .int .i64 r, .int .i64 s] 23)).cell? ⟨w3.heap.size, 0, none⟩ = some (.int .i64 p) := kn 0 rfl
    have k1_1 : (w3.alloc (.cells #[.int .i64 p, .int .i64 q, .int .i64 r, .int .i64 s] 23)).cell? ⟨w3.heap.size, 1, none⟩ = some (.int .i64 q) := kn 1 rfl
    have k1_2 : (w3.alloc (.cells #[.int .i64 p, .int .i64 q, .int .i64 r, .int .i64 s] 23)).cell? ⟨w3.heap.size, 2, none⟩ = some (.int .i64 r) := kn 2 rfl
    have k1_3 : (w3.alloc (.cells #[.int .i64 p, .int .i64 q, .int .i64 r, .int .i64 s] 23)).cell? ⟨w3.heap.size, 3, none⟩ = some (.int .i64 s) := kn 3 rfl
    replace hb0 : Below w.heap.size w (w3.alloc (.cells #[.int .i64 p, .int .i64 q, .int .i64 r, .int .i64 s] 23)) := hb0.alloc (by first | exact Nat.le_refl _ | exact hb0.size) _
    refine (live_any _ (HL.out.below hb0)).mono ?_
    rintro e w5 ⟨rfl, hb1⟩
    replace k0_0 := kp hb1 k0_0
    replace k0_1 := kp hb1 k0_1
    replace k0_2 := kp hb1 k0_2
    replace k0_3 := kp hb1 k0_3
    replace k1_0 := kp hb1 k1_0
    replace k1_1 := kp hb1 k1_1
    replace k1_2 := kp hb1 k1_2
    replace k1_3 := kp hb1 k1_3
    replace hb0 := hb0.trans (hb1.mono hb0.size)
    clear hb1
    have hs_w5 := hb0.size
    have hl0_w5 := lt_of_cell k0_0
    have hl1_w5 := lt_of_cell k1_0
    try simp only [] at hl0_w5 hl1_w5
    go_wp2_with fail
    go_returns
    exact ⟨rfl, by go_grown⟩

set_option maxHeartbeats 4000000 in
theorem apart_walk (op a b c op' a' b' c' : Int) (w : World) (hL : Laid w) :
    Calls Tryd.prog 7 #[.agg #[.int .i64 op, .int .i64 a, .int .i64 b, .int .i64 c], .agg #[.int .i64 op', .int .i64 a', .int .i64 b', .int .i64 c']] w fun e w' => e = .returned (.bool true) ∧ Below w.heap.size w w' := by
  have HL := Lib.hid hL
  clear hL
  obtain ⟨x, z, hx⟩ : ∃ x z, enc op a b c = (x, z) := ⟨_, _, rfl⟩
  obtain ⟨y, z', hy⟩ : ∃ x z, enc op' a' b' c' = (x, z) := ⟨_, _, rfl⟩
  have E1 := Lib.hid (fun W hW => encode_pair hx W hW)
  have E2 := Lib.hid (fun W hW => encode_pair hy W hW)
  have same : z = 0 → z' = 0 → x = y → op = op' ∧ a = a' ∧ b = b' ∧ c = c' := fun h h' e => by
    have hm := enc_ok (op := op) (a := a) (b := b) (c := c) (by rw [hx]; exact h)
    have hm' := enc_ok (op := op') (a := a') (b := b') (c := c') (by rw [hy]; exact h')
    have r := word_range hm.1
    have r' := word_range hm'.1
    rw [← hm.2, hx] at r
    rw [← hm'.2, hy] at r'
    simp only [] at r r'
    subst e
    obtain ⟨-, -, e1, e2, e3, e4⟩ := r
    obtain ⟨-, -, f1, f2, f3, f4⟩ := r'
    exact ⟨e1.symm.trans f1, e2.symm.trans f2, e3.symm.trans f3, e4.symm.trans f4⟩
  have other : op = op' ∧ a = a' ∧ b = b' ∧ c = c' → x = y := fun ⟨e1, e2, e3, e4⟩ => by
    subst e1; subst e2; subst e3; subst e4
    rw [hx] at hy
    exact (Prod.mk.inj hy).1
  clear hx hy
  by_cases hz : z = 0
  · by_cases hz' : z' = 0
    · by_cases hxy : x = y
      · obtain ⟨rfl, rfl, rfl, rfl⟩ := same hz hz' hxy
        subst hxy; subst hz; subst hz'
        clear same other
        go_enter Tryd.func7, Tryd.ntmps7
        go_wp2_with fail
        have hb0 : Below w.heap.size w w := Below.refl _ _
        have k0_0 : (w.alloc (.cells #[.int .i64 op, .int .i64 a, .int .i64 b, .int .i64 c] 23)).cell? ⟨w.heap.size, 0, none⟩ = some (.int .i64 op) := kn 0 rfl
        have k0_1 : (w.alloc (.cells #[.int .i64 op, .int .i64 a, .int .i64 b, .int .i64 c] 23)).cell? ⟨w.heap.size, 1, none⟩ = some (.int .i64 a) := kn 1 rfl
        have k0_2 : (w.alloc (.cells #[.int .i64 op, .int .i64 a, .int .i64 b, .int .i64 c] 23)).cell? ⟨w.heap.size, 2, none⟩ = some (.int .i64 b) := kn 2 rfl
        have k0_3 : (w.alloc (.cells #[.int .i64 op, .int .i64 a, .int .i64 b, .int .i64 c] 23)).cell? ⟨w.heap.size, 3, none⟩ = some (.int .i64 c) := kn 3 rfl
        replace hb0 : Below w.heap.size w (w.alloc (.cells #[.int .i64 op, .int .i64 a, .int .i64 b, .int .i64 c] 23)) := hb0.alloc (by first | exact Nat.le_refl _ | exact hb0.size) _
        replace k0_0 := ka (.cells #[.int .i64 op, .int .i64 a, .int .i64 b, .int .i64 c] 23) k0_0
        replace k0_1 := ka (.cells #[.int .i64 op, .int .i64 a, .int .i64 b, .int .i64 c] 23) k0_1
        replace k0_2 := ka (.cells #[.int .i64 op, .int .i64 a, .int .i64 b, .int .i64 c] 23) k0_2
        replace k0_3 := ka (.cells #[.int .i64 op, .int .i64 a, .int .i64 b, .int .i64 c] 23) k0_3
        have k1_0 : ((w.alloc (.cells #[.int .i64 op, .int .i64 a, .int .i64 b, .int .i64 c] 23)).alloc (.cells #[.int .i64 op, .int .i64 a, .int .i64 b, .int .i64 c] 23)).cell? ⟨w.heap.size + 1, 0, none⟩ = some (.int .i64 op) := by simp
        have k1_1 : ((w.alloc (.cells #[.int .i64 op, .int .i64 a, .int .i64 b, .int .i64 c] 23)).alloc (.cells #[.int .i64 op, .int .i64 a, .int .i64 b, .int .i64 c] 23)).cell? ⟨w.heap.size + 1, 1, none⟩ = some (.int .i64 a) := by simp
        have k1_2 : ((w.alloc (.cells #[.int .i64 op, .int .i64 a, .int .i64 b, .int .i64 c] 23)).alloc (.cells #[.int .i64 op, .int .i64 a, .int .i64 b, .int .i64 c] 23)).cell? ⟨w.heap.size + 1, 2, none⟩ = some (.int .i64 b) := by simp
        have k1_3 : ((w.alloc (.cells #[.int .i64 op, .int .i64 a, .int .i64 b, .int .i64 c] 23)).alloc (.cells #[.int .i64 op, .int .i64 a, .int .i64 b, .int .i64 c] 23)).cell? ⟨w.heap.size + 1, 3, none⟩ = some (.int .i64 c) := by simp
        replace hb0 : Below w.heap.size w ((w.alloc (.cells #[.int .i64 op, .int .i64 a, .int .i64 b, .int .i64 c] 23)).alloc (.cells #[.int .i64 op, .int .i64 a, .int .i64 b, .int .i64 c] 23)) := hb0.alloc (by first | exact Nat.le_refl _ | exact hb0.size) _
        refine (E1.out _ (HL.out.below hb0)).mono ?_
        rintro e w1 ⟨rfl, hb1⟩
        replace k0_0 := kp hb1 k0_0
        replace k0_1 := kp hb1 k0_1
        replace k0_2 := kp hb1 k0_2
        replace k0_3 := kp hb1 k0_3
        replace k1_0 := kp hb1 k1_0
        replace k1_1 := kp hb1 k1_1
        replace k1_2 := kp hb1 k1_2
        replace k1_3 := kp hb1 k1_3
        replace hb0 := hb0.trans (hb1.mono hb0.size)
        clear hb1
        have hs_w1 := hb0.size
        have hl0_w1 := lt_of_cell k0_0
        have hl1_w1 := lt_of_cell k1_0
        try simp only [] at hl0_w1 hl1_w1
        go_wp2_with fail
        refine (E2.out _ (HL.out.below hb0)).mono ?_
        rintro e w2 ⟨rfl, hb1⟩
        replace k0_0 := kp hb1 k0_0
        replace k0_1 := kp hb1 k0_1
        replace k0_2 := kp hb1 k0_2
        replace k0_3 := kp hb1 k0_3
        replace k1_0 := kp hb1 k1_0
        replace k1_1 := kp hb1 k1_1
        replace k1_2 := kp hb1 k1_2
        replace k1_3 := kp hb1 k1_3
        replace hb0 := hb0.trans (hb1.mono hb0.size)
        clear hb1
        have hs_w2 := hb0.size
        have hl0_w2 := lt_of_cell k0_0
        have hl1_w2 := lt_of_cell k1_0
        try simp only [] at hl0_w2 hl1_w2
        go_wp2_with fail
        refine (live_any _ (HL.out.below hb0)).mono ?_
        rintro e w3 ⟨rfl, hb1⟩
        replace k0_0 := kp hb1 k0_0
        replace k0_1 := kp hb1 k0_1
        replace k0_2 := kp hb1 k0_2
        replace k0_3 := kp hb1 k0_3
        replace k1_0 := kp hb1 k1_0
        replace k1_1 := kp hb1 k1_1
        replace k1_2 := kp hb1 k1_2
        replace k1_3 := kp hb1 k1_3
        replace hb0 := hb0.trans (hb1.mono hb0.size)
        clear hb1
        have hs_w3 := hb0.size
        have hl0_w3 := lt_of_cell k0_0
        have hl1_w3 := lt_of_cell k1_0
        try simp only [] at hl0_w3 hl1_w3
        go_wp2_with fail
        go_returns
        exact ⟨rfl, by go_grown⟩
      · have HN := Lib.hid (show ¬(op = op' ∧ a = a' ∧ b = b' ∧ c = c') from fun h => hxy (other h))
        have hxy' : (x == y) = false := by simpa using hxy
        subst hz; subst hz'
        clear same other hxy
        go_enter Tryd.func7, Tryd.ntmps7
        go_wp2_with fail
        have hb0 : Below w.heap.size w w := Below.refl _ _
        have k0_0 : (w.alloc (.cells #[.int .i64 op, .int .i64 a, .int .i64 b, .int .i64 c] 23)).cell? ⟨w.heap.size, 0, none⟩ = some (.int .i64 op) := kn 0 rfl
        have k0_1 : (w.alloc (.cells #[.int .i64 op, .int .i64 a, .int .i64 b, .int .i64 c] 23)).cell? ⟨w.heap.size, 1, none⟩ = some (.int .i64 a) := kn 1 rfl
        have k0_2 : (w.alloc (.cells #[.int .i64 op, .int .i64 a, .int .i64 b, .int .i64 c] 23)).cell? ⟨w.heap.size, 2, none⟩ = some (.int .i64 b) := kn 2 rfl
        have k0_3 : (w.alloc (.cells #[.int .i64 op, .int .i64 a, .int .i64 b, .int .i64 c] 23)).cell? ⟨w.heap.size, 3, none⟩ = some (.int .i64 c) := kn 3 rfl
        replace hb0 : Below w.heap.size w (w.alloc (.cells #[.int .i64 op, .int .i64 a, .int .i64 b, .int .i64 c] 23)) := hb0.alloc (by first | exact Nat.le_refl _ | exact hb0.size) _
        replace k0_0 := ka (.cells #[.int .i64 op', .int .i64 a', .int .i64 b', .int .i64 c'] 23) k0_0
        replace k0_1 := ka (.cells #[.int .i64 op', .int .i64 a', .int .i64 b', .int .i64 c'] 23) k0_1
        replace k0_2 := ka (.cells #[.int .i64 op', .int .i64 a', .int .i64 b', .int .i64 c'] 23) k0_2
        replace k0_3 := ka (.cells #[.int .i64 op', .int .i64 a', .int .i64 b', .int .i64 c'] 23) k0_3
        have k1_0 : ((w.alloc (.cells #[.int .i64 op, .int .i64 a, .int .i64 b, .int .i64 c] 23)).alloc (.cells #[.int .i64 op', .int .i64 a', .int .i64 b', .int .i64 c'] 23)).cell? ⟨w.heap.size + 1, 0, none⟩ = some (.int .i64 op') := by simp
        have k1_1 : ((w.alloc (.cells #[.int .i64 op, .int .i64 a, .int .i64 b, .int .i64 c] 23)).alloc (.cells #[.int .i64 op', .int .i64 a', .int .i64 b', .int .i64 c'] 23)).cell? ⟨w.heap.size + 1, 1, none⟩ = some (.int .i64 a') := by simp
        have k1_2 : ((w.alloc (.cells #[.int .i64 op, .int .i64 a, .int .i64 b, .int .i64 c] 23)).alloc (.cells #[.int .i64 op', .int .i64 a', .int .i64 b', .int .i64 c'] 23)).cell? ⟨w.heap.size + 1, 2, none⟩ = some (.int .i64 b') := by simp
        have k1_3 : ((w.alloc (.cells #[.int .i64 op, .int .i64 a, .int .i64 b, .int .i64 c] 23)).alloc (.cells #[.int .i64 op', .int .i64 a', .int .i64 b', .int .i64 c'] 23)).cell? ⟨w.heap.size + 1, 3, none⟩ = some (.int .i64 c') := by simp
        replace hb0 : Below w.heap.size w ((w.alloc (.cells #[.int .i64 op, .int .i64 a, .int .i64 b, .int .i64 c] 23)).alloc (.cells #[.int .i64 op', .int .i64 a', .int .i64 b', .int .i64 c'] 23)) := hb0.alloc (by first | exact Nat.le_refl _ | exact hb0.size) _
        refine (E1.out _ (HL.out.below hb0)).mono ?_
        rintro e w1 ⟨rfl, hb1⟩
        replace k0_0 := kp hb1 k0_0
        replace k0_1 := kp hb1 k0_1
        replace k0_2 := kp hb1 k0_2
        replace k0_3 := kp hb1 k0_3
        replace k1_0 := kp hb1 k1_0
        replace k1_1 := kp hb1 k1_1
        replace k1_2 := kp hb1 k1_2
        replace k1_3 := kp hb1 k1_3
        replace hb0 := hb0.trans (hb1.mono hb0.size)
        clear hb1
        have hs_w1 := hb0.size
        have hl0_w1 := lt_of_cell k0_0
        have hl1_w1 := lt_of_cell k1_0
        try simp only [] at hl0_w1 hl1_w1
        go_wp2_with fail
        refine (E2.out _ (HL.out.below hb0)).mono ?_
        rintro e w2 ⟨rfl, hb1⟩
        replace k0_0 := kp hb1 k0_0
        replace k0_1 := kp hb1 k0_1
        replace k0_2 := kp hb1 k0_2
        replace k0_3 := kp hb1 k0_3
        replace k1_0 := kp hb1 k1_0
        replace k1_1 := kp hb1 k1_1
        replace k1_2 := kp hb1 k1_2
        replace k1_3 := kp hb1 k1_3
        replace hb0 := hb0.trans (hb1.mono hb0.size)
        clear hb1
        have hs_w2 := hb0.size
        have hl0_w2 := lt_of_cell k0_0
        have hl1_w2 := lt_of_cell k1_0
        try simp only [] at hl0_w2 hl1_w2
        go_wp2_with fail
        refine (live_any _ (HL.out.below hb0)).mono ?_
        rintro e w3 ⟨rfl, hb1⟩
        replace k0_0 := kp hb1 k0_0
        replace k0_1 := kp hb1 k0_1
        replace k0_2 := kp hb1 k0_2
        replace k0_3 := kp hb1 k0_3
        replace k1_0 := kp hb1 k1_0
        replace k1_1 := kp hb1 k1_1
        replace k1_2 := kp hb1 k1_2
        replace k1_3 := kp hb1 k1_3
        replace hb0 := hb0.trans (hb1.mono hb0.size)
        clear hb1
        have hs_w3 := hb0.size
        have hl0_w3 := lt_of_cell k0_0
        have hl1_w3 := lt_of_cell k1_0
        try simp only [] at hl0_w3 hl1_w3
        go_wp2_with fail
        all_goals go_returns
        all_goals first | exact ⟨rfl, by go_grown⟩ | (refine absurd ⟨?_, ?_, ?_, ?_⟩ HN.out <;> first | assumption | omega)
    · have hz1 : (z' != 0) = true := by simpa using hz'
      subst hz
      clear same other hz'
      go_enter Tryd.func7, Tryd.ntmps7
      go_wp2_with fail
      have hb0 : Below w.heap.size w w := Below.refl _ _
      have k0_0 : (w.alloc (.cells #[.int .i64 op, .int .i64 a, .int .i64 b, .int .i64 c] 23)).cell? ⟨w.heap.size, 0, none⟩ = some (.int .i64 op) := kn 0 rfl
      have k0_1 : (w.alloc (.cells #[.int .i64 op, .int .i64 a, .int .i64 b, .int .i64 c] 23)).cell? ⟨w.heap.size, 1, none⟩ = some (.int .i64 a) := kn 1 rfl
      have k0_2 : (w.alloc (.cells #[.int .i64 op, .int .i64 a, .int .i64 b, .int .i64 c] 23)).cell? ⟨w.heap.size, 2, none⟩ = some (.int .i64 b) := kn 2 rfl
      have k0_3 : (w.alloc (.cells #[.int .i64 op, .int .i64 a, .int .i64 b, .int .i64 c] 23)).cell? ⟨w.heap.size, 3, none⟩ = some (.int .i64 c) := kn 3 rfl
      replace hb0 : Below w.heap.size w (w.alloc (.cells #[.int .i64 op, .int .i64 a, .int .i64 b, .int .i64 c] 23)) := hb0.alloc (by first | exact Nat.le_refl _ | exact hb0.size) _
      replace k0_0 := ka (.cells #[.int .i64 op', .int .i64 a', .int .i64 b', .int .i64 c'] 23) k0_0
      replace k0_1 := ka (.cells #[.int .i64 op', .int .i64 a', .int .i64 b', .int .i64 c'] 23) k0_1
      replace k0_2 := ka (.cells #[.int .i64 op', .int .i64 a', .int .i64 b', .int .i64 c'] 23) k0_2
      replace k0_3 := ka (.cells #[.int .i64 op', .int .i64 a', .int .i64 b', .int .i64 c'] 23) k0_3
      have k1_0 : ((w.alloc (.cells #[.int .i64 op, .int .i64 a, .int .i64 b, .int .i64 c] 23)).alloc (.cells #[.int .i64 op', .int .i64 a', .int .i64 b', .int .i64 c'] 23)).cell? ⟨w.heap.size + 1, 0, none⟩ = some (.int .i64 op') := by simp
      have k1_1 : ((w.alloc (.cells #[.int .i64 op, .int .i64 a, .int .i64 b, .int .i64 c] 23)).alloc (.cells #[.int .i64 op', .int .i64 a', .int .i64 b', .int .i64 c'] 23)).cell? ⟨w.heap.size + 1, 1, none⟩ = some (.int .i64 a') := by simp
      have k1_2 : ((w.alloc (.cells #[.int .i64 op, .int .i64 a, .int .i64 b, .int .i64 c] 23)).alloc (.cells #[.int .i64 op', .int .i64 a', .int .i64 b', .int .i64 c'] 23)).cell? ⟨w.heap.size + 1, 2, none⟩ = some (.int .i64 b') := by simp
      have k1_3 : ((w.alloc (.cells #[.int .i64 op, .int .i64 a, .int .i64 b, .int .i64 c] 23)).alloc (.cells #[.int .i64 op', .int .i64 a', .int .i64 b', .int .i64 c'] 23)).cell? ⟨w.heap.size + 1, 3, none⟩ = some (.int .i64 c') := by simp
      replace hb0 : Below w.heap.size w ((w.alloc (.cells #[.int .i64 op, .int .i64 a, .int .i64 b, .int .i64 c] 23)).alloc (.cells #[.int .i64 op', .int .i64 a', .int .i64 b', .int .i64 c'] 23)) := hb0.alloc (by first | exact Nat.le_refl _ | exact hb0.size) _
      refine (E1.out _ (HL.out.below hb0)).mono ?_
      rintro e w1 ⟨rfl, hb1⟩
      replace k0_0 := kp hb1 k0_0
      replace k0_1 := kp hb1 k0_1
      replace k0_2 := kp hb1 k0_2
      replace k0_3 := kp hb1 k0_3
      replace k1_0 := kp hb1 k1_0
      replace k1_1 := kp hb1 k1_1
      replace k1_2 := kp hb1 k1_2
      replace k1_3 := kp hb1 k1_3
      replace hb0 := hb0.trans (hb1.mono hb0.size)
      clear hb1
      have hs_w1 := hb0.size
      have hl0_w1 := lt_of_cell k0_0
      have hl1_w1 := lt_of_cell k1_0
      try simp only [] at hl0_w1 hl1_w1
      go_wp2_with fail
      refine (E2.out _ (HL.out.below hb0)).mono ?_
      rintro e w2 ⟨rfl, hb1⟩
      replace k0_0 := kp hb1 k0_0
      replace k0_1 := kp hb1 k0_1
      replace k0_2 := kp hb1 k0_2
      replace k0_3 := kp hb1 k0_3
      replace k1_0 := kp hb1 k1_0
      replace k1_1 := kp hb1 k1_1
      replace k1_2 := kp hb1 k1_2
      replace k1_3 := kp hb1 k1_3
      replace hb0 := hb0.trans (hb1.mono hb0.size)
      clear hb1
      have hs_w2 := hb0.size
      have hl0_w2 := lt_of_cell k0_0
      have hl1_w2 := lt_of_cell k1_0
      try simp only [] at hl0_w2 hl1_w2
      go_wp2_with fail
      refine (live_any _ (HL.out.below hb0)).mono ?_
      rintro e w3 ⟨rfl, hb1⟩
      replace k0_0 := kp hb1 k0_0
      replace k0_1 := kp hb1 k0_1
      replace k0_2 := kp hb1 k0_2
      replace k0_3 := kp hb1 k0_3
      replace k1_0 := kp hb1 k1_0
      replace k1_1 := kp hb1 k1_1
      replace k1_2 := kp hb1 k1_2
      replace k1_3 := kp hb1 k1_3
      replace hb0 := hb0.trans (hb1.mono hb0.size)
      clear hb1
      have hs_w3 := hb0.size
      have hl0_w3 := lt_of_cell k0_0
      have hl1_w3 := lt_of_cell k1_0
      try simp only [] at hl0_w3 hl1_w3
      go_wp2_with fail
      go_returns
      exact ⟨rfl, by go_grown⟩
  · have hz1 : (z != 0) = true := by simpa using hz
    clear same other hz
    go_enter Tryd.func7, Tryd.ntmps7
    go_wp2_with fail
    have hb0 : Below w.heap.size w w := Below.refl _ _
    have k0_0 : (w.alloc (.cells #[.int .i64 op, .int .i64 a, .int .i64 b, .int .i64 c] 23)).cell? ⟨w.heap.size, 0, none⟩ = some (.int .i64 op) := kn 0 rfl
    have k0_1 : (w.alloc (.cells #[.int .i64 op, .int .i64 a, .int .i64 b, .int .i64 c] 23)).cell? ⟨w.heap.size, 1, none⟩ = some (.int .i64 a) := kn 1 rfl
    have k0_2 : (w.alloc (.cells #[.int .i64 op, .int .i64 a, .int .i64 b, .int .i64 c] 23)).cell? ⟨w.heap.size, 2, none⟩ = some (.int .i64 b) := kn 2 rfl
    have k0_3 : (w.alloc (.cells #[.int .i64 op, .int .i64 a, .int .i64 b, .int .i64 c] 23)).cell? ⟨w.heap.size, 3, none⟩ = some (.int .i64 c) := kn 3 rfl
    replace hb0 : Below w.heap.size w (w.alloc (.cells #[.int .i64 op, .int .i64 a, .int .i64 b, .int .i64 c] 23)) := hb0.alloc (by first | exact Nat.le_refl _ | exact hb0.size) _
    replace k0_0 := ka (.cells #[.int .i64 op', .int .i64 a', .int .i64 b', .int .i64 c'] 23) k0_0
    replace k0_1 := ka (.cells #[.int .i64 op', .int .i64 a', .int .i64 b', .int .i64 c'] 23) k0_1
    replace k0_2 := ka (.cells #[.int .i64 op', .int .i64 a', .int .i64 b', .int .i64 c'] 23) k0_2
    replace k0_3 := ka (.cells #[.int .i64 op', .int .i64 a', .int .i64 b', .int .i64 c'] 23) k0_3
    have k1_0 : ((w.alloc (.cells #[.int .i64 op, .int .i64 a, .int .i64 b, .int .i64 c] 23)).alloc (.cells #[.int .i64 op', .int .i64 a', .int .i64 b', .int .i64 c'] 23)).cell? ⟨w.heap.size + 1, 0, none⟩ = some (.int .i64 op') := by simp
    have k1_1 : ((w.alloc (.cells #[.int .i64 op, .int .i64 a, .int .i64 b, .int .i64 c] 23)).alloc (.cells #[.int .i64 op', .int .i64 a', .int .i64 b', .int .i64 c'] 23)).cell? ⟨w.heap.size + 1, 1, none⟩ = some (.int .i64 a') := by simp
    have k1_2 : ((w.alloc (.cells #[.int .i64 op, .int .i64 a, .int .i64 b, .int .i64 c] 23)).alloc (.cells #[.int .i64 op', .int .i64 a', .int .i64 b', .int .i64 c'] 23)).cell? ⟨w.heap.size + 1, 2, none⟩ = some (.int .i64 b') := by simp
    have k1_3 : ((w.alloc (.cells #[.int .i64 op, .int .i64 a, .int .i64 b, .int .i64 c] 23)).alloc (.cells #[.int .i64 op', .int .i64 a', .int .i64 b', .int .i64 c'] 23)).cell? ⟨w.heap.size + 1, 3, none⟩ = some (.int .i64 c') := by simp
    replace hb0 : Below w.heap.size w ((w.alloc (.cells #[.int .i64 op, .int .i64 a, .int .i64 b, .int .i64 c] 23)).alloc (.cells #[.int .i64 op', .int .i64 a', .int .i64 b', .int .i64 c'] 23)) := hb0.alloc (by first | exact Nat.le_refl _ | exact hb0.size) _
    refine (E1.out _ (HL.out.below hb0)).mono ?_
    rintro e w1 ⟨rfl, hb1⟩
    replace k0_0 := kp hb1 k0_0
    replace k0_1 := kp hb1 k0_1
    replace k0_2 := kp hb1 k0_2
    replace k0_3 := kp hb1 k0_3
    replace k1_0 := kp hb1 k1_0
    replace k1_1 := kp hb1 k1_1
    replace k1_2 := kp hb1 k1_2
    replace k1_3 := kp hb1 k1_3
    replace hb0 := hb0.trans (hb1.mono hb0.size)
    clear hb1
    have hs_w1 := hb0.size
    have hl0_w1 := lt_of_cell k0_0
    have hl1_w1 := lt_of_cell k1_0
    try simp only [] at hl0_w1 hl1_w1
    go_wp2_with fail
    refine (E2.out _ (HL.out.below hb0)).mono ?_
    rintro e w2 ⟨rfl, hb1⟩
    replace k0_0 := kp hb1 k0_0
    replace k0_1 := kp hb1 k0_1
    replace k0_2 := kp hb1 k0_2
    replace k0_3 := kp hb1 k0_3
    replace k1_0 := kp hb1 k1_0
    replace k1_1 := kp hb1 k1_1
    replace k1_2 := kp hb1 k1_2
    replace k1_3 := kp hb1 k1_3
    replace hb0 := hb0.trans (hb1.mono hb0.size)
    clear hb1
    have hs_w2 := hb0.size
    have hl0_w2 := lt_of_cell k0_0
    have hl1_w2 := lt_of_cell k1_0
    try simp only [] at hl0_w2 hl1_w2
    go_wp2_with fail
    refine (live_any _ (HL.out.below hb0)).mono ?_
    rintro e w3 ⟨rfl, hb1⟩
    replace k0_0 := kp hb1 k0_0
    replace k0_1 := kp hb1 k0_1
    replace k0_2 := kp hb1 k0_2
    replace k0_3 := kp hb1 k0_3
    replace k1_0 := kp hb1 k1_0
    replace k1_1 := kp hb1 k1_1
    replace k1_2 := kp hb1 k1_2
    replace k1_3 := kp hb1 k1_3
    replace hb0 := hb0.trans (hb1.mono hb0.size)
    clear hb1
    have hs_w3 := hb0.size
    have hl0_w3 := lt_of_cell k0_0
    have hl1_w3 := lt_of_cell k1_0
    try simp only [] at hl0_w3 hl1_w3
    go_wp2_with fail
    go_returns
    exact ⟨rfl, by go_grown⟩

end Go.Proofs.YtopkklkilbnheaaDoor
