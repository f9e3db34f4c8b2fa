import Derived.Test.YtopkklkilbnheaaDoorEncL2
import Derived.Test.YtopkklkilbnheaaDoorEncF
namespace Go.Proofs.YtopkklkilbnheaaDoor
open Go.RowKit

set_option maxHeartbeats 4000000 in
theorem fields_walk0 (op a b c n : Int) (w : World) (hL : Laid w) :
    Calls Tryd.prog 8 #[.agg #[.int .i64 op, .int .i64 a, .int .i64 b, .int .i64 c], .int .i64 0, .int .i64 n] w fun e w' => e = .returned (.bool true) ∧ Below w.heap.size w w' := by
  have HL := Lib.hid hL
  clear hL
  obtain ⟨x, z, hx⟩ : ∃ x z, enc op a b c = (x, z) := ⟨_, _, rfl⟩
  obtain ⟨y, z', hy⟩ : ∃ x z, enc op n b c = (x, z) := ⟨_, _, rfl⟩
  have E1 := Lib.hid (fun W hW => encode_pair hx W hW)
  have E2 := Lib.hid (fun W hW => encode_pair hy W hW)
  have hm := Lib.hid (fields_A hx hy)
  clear hx hy
  by_cases hz : z = 0
  · by_cases hz' : z' = 0
    · have hm' := hm.out hz hz'
      subst hz; subst hz'
      clear hm
      go_enter Tryd.func8, Tryd.ntmps8
      go_wp2_with fail
      have hb0 : Below w.heap.size w w := Below.refl _ _
      have k0_0 : (w.alloc (.cells #[.int .i64 op, .int .i64 a, .int .i64 b, .int .i64 c] 23)).cell? ⟨w.heap.size, 0, none⟩ = some (.int .i64 op) := kn 0 rfl
      have k0_1 : (w.alloc (.cells #[.int .i64 op, .int .i64 a, .int .i64 b, .int .i64 c] 23)).cell? ⟨w.heap.size, 1, none⟩ = some (.int .i64 a) := kn 1 rfl
      have k0_2 : (w.alloc (.cells #[.int .i64 op, .int .i64 a, .int .i64 b, .int .i64 c] 23)).cell? ⟨w.heap.size, 2, none⟩ = some (.int .i64 b) := kn 2 rfl
      have k0_3 : (w.alloc (.cells #[.int .i64 op, .int .i64 a, .int .i64 b, .int .i64 c] 23)).cell? ⟨w.heap.size, 3, none⟩ = some (.int .i64 c) := kn 3 rfl
      replace hb0 : Below w.heap.size w (w.alloc (.cells #[.int .i64 op, .int .i64 a, .int .i64 b, .int .i64 c] 23)) := hb0.alloc (by first | exact Nat.le_refl _ | exact hb0.size) _
      replace k0_0 := ka (.cells #[.int .i64 op, .int .i64 n, .int .i64 b, .int .i64 c] 23) k0_0
      replace k0_1 := ka (.cells #[.int .i64 op, .int .i64 n, .int .i64 b, .int .i64 c] 23) k0_1
      replace k0_2 := ka (.cells #[.int .i64 op, .int .i64 n, .int .i64 b, .int .i64 c] 23) k0_2
      replace k0_3 := ka (.cells #[.int .i64 op, .int .i64 n, .int .i64 b, .int .i64 c] 23) k0_3
      have k1_0 : ((w.alloc (.cells #[.int .i64 op, .int .i64 a, .int .i64 b, .int .i64 c] 23)).alloc (.cells #[.int .i64 op, .int .i64 n, .int .i64 b, .int .i64 c] 23)).cell? ⟨w.heap.size + 1, 0, none⟩ = some (.int .i64 op) := by simp
      have k1_1 : ((w.alloc (.cells #[.int .i64 op, .int .i64 a, .int .i64 b, .int .i64 c] 23)).alloc (.cells #[.int .i64 op, .int .i64 n, .int .i64 b, .int .i64 c] 23)).cell? ⟨w.heap.size + 1, 1, none⟩ = some (.int .i64 n) := by simp
      have k1_2 : ((w.alloc (.cells #[.int .i64 op, .int .i64 a, .int .i64 b, .int .i64 c] 23)).alloc (.cells #[.int .i64 op, .int .i64 n, .int .i64 b, .int .i64 c] 23)).cell? ⟨w.heap.size + 1, 2, none⟩ = some (.int .i64 b) := by simp
      have k1_3 : ((w.alloc (.cells #[.int .i64 op, .int .i64 a, .int .i64 b, .int .i64 c] 23)).alloc (.cells #[.int .i64 op, .int .i64 n, .int .i64 b, .int .i64 c] 23)).cell? ⟨w.heap.size + 1, 3, none⟩ = some (.int .i64 c) := by simp
      replace hb0 : Below w.heap.size w ((w.alloc (.cells #[.int .i64 op, .int .i64 a, .int .i64 b, .int .i64 c] 23)).alloc (.cells #[.int .i64 op, .int .i64 n, .int .i64 b, .int .i64 c] 23)) := hb0.alloc (by first | exact Nat.le_refl _ | exact hb0.size) _
      refine (E1.out _ (HL.out.below hb0)).mono ?_
      rintro e w1 ⟨rfl, hb1⟩
      replace k0_0 := kp hb1 k0_0
      replace k0_1 := kp hb1 k0_1
      replace k0_2 := kp hb1 k0_2
      replace k0_3 := kp hb1 k0_3
      replace k1_0 := kp hb1 k1_0
      replace k1_1 := kp hb1 k1_1
      replace k1_2 := kp hb1 k1_2
      replace k1_3 := kp hb1 k1_3
      replace hb0 := hb0.trans (hb1.mono hb0.size)
      clear hb1
      have hs_w1 := hb0.size
      have hl0_w1 := lt_of_cell k0_0
      have hl1_w1 := lt_of_cell k1_0
      try simp only [] at hl0_w1 hl1_w1
      go_wp2_with fail
      refine (E2.out _ (HL.out.below hb0)).mono ?_
      rintro e w2 ⟨rfl, hb1⟩
      replace k0_0 := kp hb1 k0_0
      replace k0_1 := kp hb1 k0_1
      replace k0_2 := kp hb1 k0_2
      replace k0_3 := kp hb1 k0_3
      replace k1_0 := kp hb1 k1_0
      replace k1_1 := kp hb1 k1_1
      replace k1_2 := kp hb1 k1_2
      replace k1_3 := kp hb1 k1_3
      replace hb0 := hb0.trans (hb1.mono hb0.size)
      clear hb1
      have hs_w2 := hb0.size
      have hl0_w2 := lt_of_cell k0_0
      have hl1_w2 := lt_of_cell k1_0
      try simp only [] at hl0_w2 hl1_w2
      go_wp2_with fail
      refine (live_any _ (HL.out.below hb0)).mono ?_
      rintro e w3 ⟨rfl, hb1⟩
      replace k0_0 := kp hb1 k0_0
      replace k0_1 := kp hb1 k0_1
      replace k0_2 := kp hb1 k0_2
      replace k0_3 := kp hb1 k0_3
      replace k1_0 := kp hb1 k1_0
      replace k1_1 := kp hb1 k1_1
      replace k1_2 := kp hb1 k1_2
      replace k1_3 := kp hb1 k1_3
      replace hb0 := hb0.trans (hb1.mono hb0.size)
      clear hb1
      have hs_w3 := hb0.size
      have hl0_w3 := lt_of_cell k0_0
      have hl1_w3 := lt_of_cell k1_0
      try simp only [] at hl0_w3 hl1_w3
      go_wp2_with fail
      go_returns
      exact ⟨rfl, by go_grown⟩
    · have hz1 : (z' != 0) = true := by simpa using hz'
      subst hz
      clear hz' hm
      go_enter Tryd.func8, Tryd.ntmps8
      go_wp2_with fail
      have hb0 : Below w.heap.size w w := Below.refl _ _
      have k0_0 : (w.alloc (.cells #[.int .i64 op, .int .i64 a, .int .i64 b, .int .i64 c] 23)).cell? ⟨w.heap.size, 0, none⟩ = some (.int .i64 op) := kn 0 rfl
      have k0_1 : (w.alloc (.cells #[.int .i64 op, .int .i64 a, .int .i64 b, .int .i64 c] 23)).cell? ⟨w.heap.size, 1, none⟩ = some (.int .i64 a) := kn 1 rfl
      have k0_2 : (w.alloc (.cells #[.int .i64 op, .int .i64 a, .int .i64 b, .int .i64 c] 23)).cell? ⟨w.heap.size, 2, none⟩ = some (.int .i64 b) := kn 2 rfl
      have k0_3 : (w.alloc (.cells #[.int .i64 op, .int .i64 a, .int .i64 b, .int .i64 c] 23)).cell? ⟨w.heap.size, 3, none⟩ = some (.int .i64 c) := kn 3 rfl
      replace hb0 : Below w.heap.size w (w.alloc (.cells #[.int .i64 op, .int .i64 a, .int .i64 b, .int .i64 c] 23)) := hb0.alloc (by first | exact Nat.le_refl _ | exact hb0.size) _
      replace k0_0 := ka (.cells #[.int .i64 op, .int .i64 n, .int .i64 b, .int .i64 c] 23) k0_0
      replace k0_1 := ka (.cells #[.int .i64 op, .int .i64 n, .int .i64 b, .int .i64 c] 23) k0_1
      replace k0_2 := ka (.cells #[.int .i64 op, .int .i64 n, .int .i64 b, .int .i64 c] 23) k0_2
      replace k0_3 := ka (.cells #[.int .i64 op, .int .i64 n, .int .i64 b, .int .i64 c] 23) k0_3
      have k1_0 : ((w.alloc (.cells #[.int .i64 op, .int .i64 a, .int .i64 b, .int .i64 c] 23)).alloc (.cells #[.int .i64 op, .int .i64 n, .int .i64 b, .int .i64 c] 23)).cell? ⟨w.heap.size + 1, 0, none⟩ = some (.int .i64 op) := by simp
      have k1_1 : ((w.alloc (.cells #[.int .i64 op, .int .i64 a, .int .i64 b, .int .i64 c] 23)).alloc (.cells #[.int .i64 op, .int .i64 n, .int .i64 b, .int .i64 c] 23)).cell? ⟨w.heap.size + 1, 1, none⟩ = some (.int .i64 n) := by simp
      have k1_2 : ((w.alloc (.cells #[.int .i64 op, .int .i64 a, .int .i64 b, .int .i64 c] 23)).alloc (.cells #[.int .i64 op, .int .i64 n, .int .i64 b, .int .i64 c] 23)).cell? ⟨w.heap.size + 1, 2, none⟩ = some (.int .i64 b) := by simp
      have k1_3 : ((w.alloc (.cells #[.int .i64 op, .int .i64 a, .int .i64 b, .int .i64 c] 23)).alloc (.cells #[.int .i64 op, .int .i64 n, .int .i64 b, .int .i64 c] 23)).cell? ⟨w.heap.size + 1, 3, none⟩ = some (.int .i64 c) := by simp
      replace hb0 : Below w.heap.size w ((w.alloc (.cells #[.int .i64 op, .int .i64 a, .int .i64 b, .int .i64 c] 23)).alloc (.cells #[.int .i64 op, .int .i64 n, .int .i64 b, .int .i64 c] 23)) := hb0.alloc (by first | exact Nat.le_refl _ | exact hb0.size) _
      refine (E1.out _ (HL.out.below hb0)).mono ?_
      rintro e w1 ⟨rfl, hb1⟩
      replace k0_0 := kp hb1 k0_0
      replace k0_1 := kp hb1 k0_1
      replace k0_2 := kp hb1 k0_2
      replace k0_3 := kp hb1 k0_3
      replace k1_0 := kp hb1 k1_0
      replace k1_1 := kp hb1 k1_1
      replace k1_2 := kp hb1 k1_2
      replace k1_3 := kp hb1 k1_3
      replace hb0 := hb0.trans (hb1.mono hb0.size)
      clear hb1
      have hs_w1 := hb0.size
      have hl0_w1 := lt_of_cell k0_0
      have hl1_w1 := lt_of_cell k1_0
      try simp only [] at hl0_w1 hl1_w1
      go_wp2_with fail
      refine (E2.out _ (HL.out.below hb0)).mono ?_
      rintro e w2 ⟨rfl, hb1⟩
      replace k0_0 := kp hb1 k0_0
      replace k0_1 := kp hb1 k0_1
      replace k0_2 := kp hb1 k0_2
      replace k0_3 := kp hb1 k0_3
      replace k1_0 := kp hb1 k1_0
      replace k1_1 := kp hb1 k1_1
      replace k1_2 := kp hb1 k1_2
      replace k1_3 := kp hb1 k1_3
      replace hb0 := hb0.trans (hb1.mono hb0.size)
      clear hb1
      have hs_w2 := hb0.size
      have hl0_w2 := lt_of_cell k0_0
      have hl1_w2 := lt_of_cell k1_0
      try simp only [] at hl0_w2 hl1_w2
      go_wp2_with fail
      refine (live_any _ (HL.out.below hb0)).mono ?_
      rintro e w3 ⟨rfl, hb1⟩
      replace k0_0 := kp hb1 k0_0
      replace k0_1 := kp hb1 k0_1
      replace k0_2 := kp hb1 k0_2
      replace k0_3 := kp hb1 k0_3
      replace k1_0 := kp hb1 k1_0
      replace k1_1 := kp hb1 k1_1
      replace k1_2 := kp hb1 k1_2
      replace k1_3 := kp hb1 k1_3
      replace hb0 := hb0.trans (hb1.mono hb0.size)
      clear hb1
      have hs_w3 := hb0.size
      have hl0_w3 := lt_of_cell k0_0
      have hl1_w3 := lt_of_cell k1_0
      try simp only [] at hl0_w3 hl1_w3
      go_wp2_with fail
      go_returns
      exact ⟨rfl, by go_grown⟩
  · have hz1 : (z != 0) = true := by simpa using hz
    clear hz hm
    go_enter Tryd.func8, Tryd.ntmps8
    go_wp2_with fail
    have hb0 : Below w.heap.size w w := Below.refl _ _
    have k0_0 : (w.alloc (.cells #[.int .i64 op, .int .i64 a, .int .i64 b, .int .i64 c] 23)).cell? ⟨w.heap.size, 0, none⟩ = some (.int .i64 op) := kn 0 rfl
    have k0_1 : (w.alloc (.cells #[.int .i64 op, .int .i64 a, .int .i64 b, .int .i64 c] 23)).cell? ⟨w.heap.size, 1, none⟩ = some (.int .i64 a) := kn 1 rfl
    have k0_2 : (w.alloc (.cells #[.int .i64 op, .int .i64 a, .int .i64 b, .int .i64 c] 23)).cell? ⟨w.heap.size, 2, none⟩ = some (.int .i64 b) := kn 2 rfl
    have k0_3 : (w.alloc (.cells #[.int .i64 op, .int .i64 a, .int .i64 b, .int .i64 c] 23)).cell? ⟨w.heap.size, 3, none⟩ = some (.int .i64 c) := kn 3 rfl
    replace hb0 : Below w.heap.size w (w.alloc (.cells #[.int .i64 op, .int .i64 a, .int .i64 b, .int .i64 c] 23)) := hb0.alloc (by first | exact Nat.le_refl _ | exact hb0.size) _
    replace k0_0 := ka (.cells #[.int .i64 op, .int .i64 n, .int .i64 b, .int .i64 c] 23) k0_0
    replace k0_1 := ka (.cells #[.int .i64 op, .int .i64 n, .int .i64 b, .int .i64 c] 23) k0_1
    replace k0_2 := ka (.cells #[.int .i64 op, .int .i64 n, .int .i64 b, .int .i64 c] 23) k0_2
    replace k0_3 := ka (.cells #[.int .i64 op, .int .i64 n, .int .i64 b, .int .i64 c] 23) k0_3
    have k1_0 : ((w.alloc (.cells #[.int .i64 op, .int .i64 a, .int .i64 b, .int .i64 c] 23)).alloc (.cells #[.int .i64 op, .int .i64 n, .int .i64 b, .int .i64 c] 23)).cell? ⟨w.heap.size + 1, 0, none⟩ = some (.int .i64 op) := by simp
    have k1_1 : ((w.alloc (.cells #[.int .i64 op, .int .i64 a, .int .i64 b, .int .i64 c] 23)).alloc (.cells #[.int .i64 op, .int .i64 n, .int .i64 b, .int .i64 c] 23)).cell? ⟨w.heap.size + 1, 1, none⟩ = some (.int .i64 n) := by simp
    have k1_2 : ((w.alloc (.cells #[.int .i64 op, .int .i64 a, .int .i64 b, .int .i64 c] 23)).alloc (.cells #[.int .i64 op, .int .i64 n, .int .i64 b, .int .i64 c] 23)).cell? ⟨w.heap.size + 1, 2, none⟩ = some (.int .i64 b) := by simp
    have k1_3 : ((w.alloc (.cells #[.int .i64 op, .int .i64 a, .int .i64 b, .int .i64 c] 23)).alloc (.cells #[.int .i64 op, .int .i64 n, .int .i64 b, .int .i64 c] 23)).cell? ⟨w.heap.size + 1, 3, none⟩ = some (.int .i64 c) := by simp
    replace hb0 : Below w.heap.size w ((w.alloc (.cells #[.int .i64 op, .int .i64 a, .int .i64 b, .int .i64 c] 23)).alloc (.cells #[.int .i64 op, .int .i64 n, .int .i64 b, .int .i64 c] 23)) := hb0.alloc (by first | exact Nat.le_refl _ | exact hb0.size) _
    refine (E1.out _ (HL.out.below hb0)).mono ?_
    rintro e w1 ⟨rfl, hb1⟩
    replace k0_0 := kp hb1 k0_0
    replace k0_1 := kp hb1 k0_1
    replace k0_2 := kp hb1 k0_2
    replace k0_3 := kp hb1 k0_3
    replace k1_0 := kp hb1 k1_0
    replace k1_1 := kp hb1 k1_1
    replace k1_2 := kp hb1 k1_2
    replace k1_3 := kp hb1 k1_3
    replace hb0 := hb0.trans (hb1.mono hb0.size)
    clear hb1
    have hs_w1 := hb0.size
    have hl0_w1 := lt_of_cell k0_0
    have hl1_w1 := lt_of_cell k1_0
    try simp only [] at hl0_w1 hl1_w1
    go_wp2_with fail
    refine (E2.out _ (HL.out.below hb0)).mono ?_
    rintro e w2 ⟨rfl, hb1⟩
    replace k0_0 := kp hb1 k0_0
    replace k0_1 := kp hb1 k0_1
    replace k0_2 := kp hb1 k0_2
    replace k0_3 := kp hb1 k0_3
    replace k1_0 := kp hb1 k1_0
    replace k1_1 := kp hb1 k1_1
    replace k1_2 := kp hb1 k1_2
    replace k1_3 := kp hb1 k1_3
    replace hb0 := hb0.trans (hb1.mono hb0.size)
    clear hb1
    have hs_w2 := hb0.size
    have hl0_w2 := lt_of_cell k0_0
    have hl1_w2 := lt_of_cell k1_0
    try simp only [] at hl0_w2 hl1_w2
    go_wp2_with fail
    refine (live_any _ (HL.out.below hb0)).mono ?_
    rintro e w3 ⟨rfl, hb1⟩
    replace k0_0 := kp hb1 k0_0
    replace k0_1 := kp hb1 k0_1
    replace k0_2 := kp hb1 k0_2
    replace k0_3 := kp hb1 k0_3
    replace k1_0 := kp hb1 k1_0
    replace k1_1 := kp hb1 k1_1
    replace k1_2 := kp hb1 k1_2
    replace k1_3 := kp hb1 k1_3
    replace hb0 := hb0.trans (hb1.mono hb0.size)
    clear hb1
    have hs_w3 := hb0.size
    have hl0_w3 := lt_of_cell k0_0
    have hl1_w3 := lt_of_cell k1_0
    try simp only [] at hl0_w3 hl1_w3
    go_wp2_with fail
    go_returns
    exact ⟨rfl, by go_grown⟩

set_option maxHeartbeats 4000000 in
theorem fields_walk1 (op a b c n : Int) (w : World) (hL : Laid w) :
    Calls Tryd.prog 8 #[.agg #[.int .i64 op, .int .i64 a, .int .i64 b, .int .i64 c], .int .i64 1, .int .i64 n] w fun e w' => e = .returned (.bool true) ∧ Below w.heap.size w w' := by
  have HL := Lib.hid hL
  clear hL
  obtain ⟨x, z, hx⟩ : ∃ x z, enc op a b c = (x, z) := ⟨_, _, rfl⟩
  obtain ⟨y, z', hy⟩ : ∃ x z, enc op a n c = (x, z) := ⟨_, _, rfl⟩
  have E1 := Lib.hid (fun W hW => encode_pair hx W hW)
  have E2 := Lib.hid (fun W hW => encode_pair hy W hW)
  have hm := Lib.hid (fields_B hx hy)
  clear hx hy
  by_cases hz : z = 0
  · by_cases hz' : z' = 0
    · have hm' := hm.out hz hz'
      subst hz; subst hz'
      clear hm
      go_enter Tryd.func8, Tryd.ntmps8
      go_wp2_with fail
      have hb0 : Below w.heap.size w w := Below.refl _ _
      have k0_0 : (w.alloc (.cells #[.int .i64 op, .int .i64 a, .int .i64 b, .int .i64 c] 23)).cell? ⟨w.heap.size, 0, none⟩ = some (.int .i64 op) := kn 0 rfl
      have k0_1 : (w.alloc (.cells #[.int .i64 op, .int .i64 a, .int .i64 b, .int .i64 c] 23)).cell? ⟨w.heap.size, 1, none⟩ = some (.int .i64 a) := kn 1 rfl
      have k0_2 : (w.alloc (.cells #[.int .i64 op, .int .i64 a, .int .i64 b, .int .i64 c] 23)).cell? ⟨w.heap.size, 2, none⟩ = some (.int .i64 b) := kn 2 rfl
      have k0_3 : (w.alloc (.cells #[.int .i64 op, .int .i64 a, .int .i64 b, .int .i64 c] 23)).cell? ⟨w.heap.size, 3, none⟩ = some (.int .i64 c) := kn 3 rfl
      replace hb0 : Below w.heap.size w (w.alloc (.cells #[.int .i64 op, .int .i64 a, .int .i64 b, .int .i64 c] 23)) := hb0.alloc (by first | exact Nat.le_refl _ | exact hb0.size) _
      replace k0_0 := ka (.cells #[.int .i64 op, .int .i64 a, .int .i64 n, .int .i64 c] 23) k0_0
      replace k0_1 := ka (.cells #[.int .i64 op, .int .i64 a, .int .i64 n, .int .i64 c] 23) k0_1
      replace k0_2 := ka (.cells #[.int .i64 op, .int .i64 a, .int .i64 n, .int .i64 c] 23) k0_2
      replace k0_3 := ka (.cells #[.int .i64 op, .int .i64 a, .int .i64 n, .int .i64 c] 23) k0_3
      have k1_0 : ((w.alloc (.cells #[.int .i64 op, .int .i64 a, .int .i64 b, .int .i64 c] 23)).alloc (.cells #[.int .i64 op, .int .i64 a, .int .i64 n, .int .i64 c] 23)).cell? ⟨w.heap.size + 1, 0, none⟩ = some (.int .i64 op) := by simp
      have k1_1 : ((w.alloc (.cells #[.int .i64 op, .int .i64 a, .int .i64 b, .int .i64 c] 23)).alloc (.cells #[.int .i64 op, .int .i64 a, .int .i64 n, .int .i64 c] 23)).cell? ⟨w.heap.size + 1, 1, none⟩ = some (.int .i64 a) := by simp
      have k1_2 : ((w.alloc (.cells #[.int .i64 op, .int .i64 a, .int .i64 b, .int .i64 c] 23)).alloc (.cells #[.int .i64 op, .int .i64 a, .int .i64 n, .int .i64 c] 23)).cell? ⟨w.heap.size + 1, 2, none⟩ = some (.int .i64 n) := by simp
      have k1_3 : ((w.alloc (.cells #[.int .i64 op, .int .i64 a, .int .i64 b, .int .i64 c] 23)).alloc (.cells #[.int .i64 op, .int .i64 a, .int .i64 n, .int .i64 c] 23)).cell? ⟨w.heap.size + 1, 3, none⟩ = some (.int .i64 c) := by simp
      replace hb0 : Below w.heap.size w ((w.alloc (.cells #[.int .i64 op, .int .i64 a, .int .i64 b, .int .i64 c] 23)).alloc (.cells #[.int .i64 op, .int .i64 a, .int .i64 n, .int .i64 c] 23)) := hb0.alloc (by first | exact Nat.le_refl _ | exact hb0.size) _
      refine (E1.out _ (HL.out.below hb0)).mono ?_
      rintro e w1 ⟨rfl, hb1⟩
      replace k0_0 := kp hb1 k0_0
      replace k0_1 := kp hb1 k0_1
      replace k0_2 := kp hb1 k0_2
      replace k0_3 := kp hb1 k0_3
      replace k1_0 := kp hb1 k1_0
      replace k1_1 := kp hb1 k1_1
      replace k1_2 := kp hb1 k1_2
      replace k1_3 := kp hb1 k1_3
      replace hb0 := hb0.trans (hb1.mono hb0.size)
      clear hb1
      have hs_w1 := hb0.size
      have hl0_w1 := lt_of_cell k0_0
      have hl1_w1 := lt_of_cell k1_0
      try simp only [] at hl0_w1 hl1_w1
      go_wp2_with fail
      refine (E2.out _ (HL.out.below hb0)).mono ?_
      rintro e w2 ⟨rfl, hb1⟩
      replace k0_0 := kp hb1 k0_0
      replace k0_1 := kp hb1 k0_1
      replace k0_2 := kp hb1 k0_2
      replace k0_3 := kp hb1 k0_3
      replace k1_0 := kp hb1 k1_0
      replace k1_1 := kp hb1 k1_1
      replace k1_2 := kp hb1 k1_2
      replace k1_3 := kp hb1 k1_3
      replace hb0 := hb0.trans (hb1.mono hb0.size)
      clear hb1
      have hs_w2 := hb0.size
      have hl0_w2 := lt_of_cell k0_0
      have hl1_w2 := lt_of_cell k1_0
      try simp only [] at hl0_w2 hl1_w2
      go_wp2_with fail
      refine (live_any _ (HL.out.below hb0)).mono ?_
      rintro e w3 ⟨rfl, hb1⟩
      replace k0_0 := kp hb1 k0_0
      replace k0_1 := kp hb1 k0_1
      replace k0_2 := kp hb1 k0_2
      replace k0_3 := kp hb1 k0_3
      replace k1_0 := kp hb1 k1_0
      replace k1_1 := kp hb1 k1_1
      replace k1_2 := kp hb1 k1_2
      replace k1_3 := kp hb1 k1_3
      replace hb0 := hb0.trans (hb1.mono hb0.size)
      clear hb1
      have hs_w3 := hb0.size
      have hl0_w3 := lt_of_cell k0_0
      have hl1_w3 := lt_of_cell k1_0
      try simp only [] at hl0_w3 hl1_w3
      go_wp2_with fail
      go_returns
      exact ⟨rfl, by go_grown⟩
    · have hz1 : (z' != 0) = true := by simpa using hz'
      subst hz
      clear hz' hm
      go_enter Tryd.func8, Tryd.ntmps8
      go_wp2_with fail
      have hb0 : Below w.heap.size w w := Below.refl _ _
      have k0_0 : (w.alloc (.cells #[.int .i64 op, .int .i64 a, .int .i64 b, .int .i64 c] 23)).cell? ⟨w.heap.size, 0, none⟩ = some (.int .i64 op) := kn 0 rfl
      have k0_1 : (w.alloc (.cells #[.int .i64 op, .int .i64 a, .int .i64 b, .int .i64 c] 23)).cell? ⟨w.heap.size, 1, none⟩ = some (.int .i64 a) := kn 1 rfl
      have k0_2 : (w.alloc (.cells #[.int .i64 op, .int .i64 a, .int .i64 b, .int .i64 c] 23)).cell? ⟨w.heap.size, 2, none⟩ = some (.int .i64 b) := kn 2 rfl
      have k0_3 : (w.alloc (.cells #[.int .i64 op, .int .i64 a, .int .i64 b, .int .i64 c] 23)).cell? ⟨w.heap.size, 3, none⟩ = some (.int .i64 c) := kn 3 rfl
      replace hb0 : Below w.heap.size w (w.alloc (.cells #[.int .i64 op, .int .i64 a, .int .i64 b, .int .i64 c] 23)) := hb0.alloc (by first | exact Nat.le_refl _ | exact hb0.size) _
      replace k0_0 := ka (.cells #[.int .i64 op, .int .i64 a, .int .i64 n, .int .i64 c] 23) k0_0
      replace k0_1 := ka (.cells #[.int .i64 op, .int .i64 a, .int .i64 n, .int .i64 c] 23) k0_1
      replace k0_2 := ka (.cells #[.int .i64 op, .int .i64 a, .int .i64 n, .int .i64 c] 23) k0_2
      replace k0_3 := ka (.cells #[.int .i64 op, .int .i64 a, .int .i64 n, .int .i64 c] 23) k0_3
      have k1_0 : ((w.alloc (.cells #[.int .i64 op, .int .i64 a, .int .i64 b, .int .i64 c] 23)).alloc (.cells #[.int .i64 op, .int .i64 a, .int .i64 n, .int .i64 c] 23)).cell? ⟨w.heap.size + 1, 0, none⟩ = some (.int .i64 op) := by simp
      have k1_1 : ((w.alloc (.cells #[.int .i64 op, .int .i64 a, .int .i64 b, .int .i64 c] 23)).alloc (.cells #[.int .i64 op, .int .i64 a, .int .i64 n, .int .i64 c] 23)).cell? ⟨w.heap.size + 1, 1, none⟩ = some (.int .i64 a) := by simp
      have k1_2 : ((w.alloc (.cells #[.int .i64 op, .int .i64 a, .int .i64 b, .int .i64 c] 23)).alloc (.cells #[.int .i64 op, .int .i64 a, .int .i64 n, .int .i64 c] 23)).cell? ⟨w.heap.size + 1, 2, none⟩ = some (.int .i64 n) := by simp
      have k1_3 : ((w.alloc (.cells #[.int .i64 op, .int .i64 a, .int .i64 b, .int .i64 c] 23)).alloc (.cells #[.int .i64 op, .int .i64 a, .int .i64 n, .int .i64 c] 23)).cell? ⟨w.heap.size + 1, 3, none⟩ = some (.int .i64 c) := by simp
      replace hb0 : Below w.heap.size w ((w.alloc (.cells #[.int .i64 op, .int .i64 a, .int .i64 b, .int .i64 c] 23)).alloc (.cells #[.int .i64 op, .int .i64 a, .int .i64 n, .int .i64 c] 23)) := hb0.alloc (by first | exact Nat.le_refl _ | exact hb0.size) _
      refine (E1.out _ (HL.out.below hb0)).mono ?_
      rintro e w1 ⟨rfl, hb1⟩
      replace k0_0 := kp hb1 k0_0
      replace k0_1 := kp hb1 k0_1
      replace k0_2 := kp hb1 k0_2
      replace k0_3 := kp hb1 k0_3
      replace k1_0 := kp hb1 k1_0
      replace k1_1 := kp hb1 k1_1
      replace k1_2 := kp hb1 k1_2
      replace k1_3 := kp hb1 k1_3
      replace hb0 := hb0.trans (hb1.mono hb0.size)
      clear hb1
      have hs_w1 := hb0.size
      have hl0_w1 := lt_of_cell k0_0
      have hl1_w1 := lt_of_cell k1_0
      try simp only [] at hl0_w1 hl1_w1
      go_wp2_with fail
      refine (E2.out _ (HL.out.below hb0)).mono ?_
      rintro e w2 ⟨rfl, hb1⟩
      replace k0_0 := kp hb1 k0_0
      replace k0_1 := kp hb1 k0_1
      replace k0_2 := kp hb1 k0_2
      replace k0_3 := kp hb1 k0_3
      replace k1_0 := kp hb1 k1_0
      replace k1_1 := kp hb1 k1_1
      replace k1_2 := kp hb1 k1_2
      replace k1_3 := kp hb1 k1_3
      replace hb0 := hb0.trans (hb1.mono hb0.size)
      clear hb1
      have hs_w2 := hb0.size
      have hl0_w2 := lt_of_cell k0_0
      have hl1_w2 := lt_of_cell k1_0
      try simp only [] at hl0_w2 hl1_w2
      go_wp2_with fail
      refine (live_any _ (HL.out.below hb0)).mono ?_
      rintro e w3 ⟨rfl, hb1⟩
      replace k0_0 := kp hb1 k0_0
      replace k0_1 := kp hb1 k0_1
      replace k0_2 := kp hb1 k0_2
      replace k0_3 := kp hb1 k0_3
      replace k1_0 := kp hb1 k1_0
      replace k1_1 := kp hb1 k1_1
      replace k1_2 := kp hb1 k1_2
      replace k1_3 := kp hb1 k1_3
      replace hb0 := hb0.trans (hb1.mono hb0.size)
      clear hb1
      have hs_w3 := hb0.size
      have hl0_w3 := lt_of_cell k0_0
      have hl1_w3 := lt_of_cell k1_0
      try simp only [] at hl0_w3 hl1_w3
      go_wp2_with fail
      go_returns
      exact ⟨rfl, by go_grown⟩
  · have hz1 : (z != 0) = true := by simpa using hz
    clear hz hm
    go_enter Tryd.func8, Tryd.ntmps8
    go_wp2_with fail
    have hb0 : Below w.heap.size w w := Below.refl _ _
    have k0_0 : (w.alloc (.cells #[.int .i64 op, .int .i64 a, .int .i64 b, .int .i64 c] 23)).cell? ⟨w.heap.size, 0, none⟩ = some (.int .i64 op) := kn 0 rfl
    have k0_1 : (w.alloc (.cells #[.int .i64 op, .int .i64 a, .int .i64 b, .int .i64 c] 23)).cell? ⟨w.heap.size, 1, none⟩ = some (.int .i64 a) := kn 1 rfl
    have k0_2 : (w.alloc (.cells #[.int .i64 op, .int .i64 a, .int .i64 b, .int .i64 c] 23)).cell? ⟨w.heap.size, 2, none⟩ = some (.int .i64 b) := kn 2 rfl
    have k0_3 : (w.alloc (.cells #[.int .i64 op, .int .i64 a, .int .i64 b, .int .i64 c] 23)).cell? ⟨w.heap.size, 3, none⟩ = some (.int .i64 c) := kn 3 rfl
    replace hb0 : Below w.heap.size w (w.alloc (.cells #[.int .i64 op, .int .i64 a, .int .i64 b, .int .i64 c] 23)) := hb0.alloc (by first | exact Nat.le_refl _ | exact hb0.size) _
    replace k0_0 := ka (.cells #[.int .i64 op, .int .i64 a, .int .i64 n, .int .i64 c] 23) k0_0
    replace k0_1 := ka (.cells #[.int .i64 op, .int .i64 a, .int .i64 n, .int .i64 c] 23) k0_1
    replace k0_2 := ka (.cells #[.int .i64 op, .int .i64 a, .int .i64 n, .int .i64 c] 23) k0_2
    replace k0_3 := ka (.cells #[.int .i64 op, .int .i64 a, .int .i64 n, .int .i64 c] 23) k0_3
    have k1_0 : ((w.alloc (.cells #[.int .i64 op, .int .i64 a, .int .i64 b, .int .i64 c] 23)).alloc (.cells #[.int .i64 op, .int .i64 a, .int .i64 n, .int .i64 c] 23)).cell? ⟨w.heap.size + 1, 0, none⟩ = some (.int .i64 op) := by simp
    have k1_1 : ((w.alloc (.cells #[.int .i64 op, .int .i64 a, .int .i64 b, .int .i64 c] 23)).alloc (.cells #[.int .i64 op, .int .i64 a, .int .i64 n, .int .i64 c] 23)).cell? ⟨w.heap.size + 1, 1, none⟩ = some (.int .i64 a) := by simp
    have k1_2 : ((w.alloc (.cells #[.int .i64 op, .int .i64 a, .int .i64 b, .int .i64 c] 23)).alloc (.cells #[.int .i64 op, .int .i64 a, .int .i64 n, .int .i64 c] 23)).cell? ⟨w.heap.size + 1, 2, none⟩ = some (.int .i64 n) := by simp
    have k1_3 : ((w.alloc (.cells #[.int .i64 op, .int .i64 a, .int .i64 b, .int .i64 c] 23)).alloc (.cells #[.int .i64 op, .int .i64 a, .int .i64 n, .int .i64 c] 23)).cell? ⟨w.heap.size + 1, 3, none⟩ = some (.int .i64 c) := by simp
    replace hb0 : Below w.heap.size w ((w.alloc (.cells #[.int .i64 op, .int .i64 a, .int .i64 b, .int .i64 c] 23)).alloc (.cells #[.int .i64 op, .int .i64 a, .int .i64 n, .int .i64 c] 23)) := hb0.alloc (by first | exact Nat.le_refl _ | exact hb0.size) _
    refine (E1.out _ (HL.out.below hb0)).mono ?_
    rintro e w1 ⟨rfl, hb1⟩
    replace k0_0 := kp hb1 k0_0
    replace k0_1 := kp hb1 k0_1
    replace k0_2 := kp hb1 k0_2
    replace k0_3 := kp hb1 k0_3
    replace k1_0 := kp hb1 k1_0
    replace k1_1 := kp hb1 k1_1
    replace k1_2 := kp hb1 k1_2
    replace k1_3 := kp hb1 k1_3
    replace hb0 := hb0.trans (hb1.mono hb0.size)
    clear hb1
    have hs_w1 := hb0.size
    have hl0_w1 := lt_of_cell k0_0
    have hl1_w1 := lt_of_cell k1_0
    try simp only [] at hl0_w1 hl1_w1
    go_wp2_with fail
    refine (E2.out _ (HL.out.below hb0)).mono ?_
    rintro e w2 ⟨rfl, hb1⟩
    replace k0_0 := kp hb1 k0_0
    replace k0_1 := kp hb1 k0_1
    replace k0_2 := kp hb1 k0_2
    replace k0_3 := kp hb1 k0_3
    replace k1_0 := kp hb1 k1_0
    replace k1_1 := kp hb1 k1_1
    replace k1_2 := kp hb1 k1_2
    replace k1_3 := kp hb1 k1_3
    replace hb0 := hb0.trans (hb1.mono hb0.size)
    clear hb1
    have hs_w2 := hb0.size
    have hl0_w2 := lt_of_cell k0_0
    have hl1_w2 := lt_of_cell k1_0
    try simp only [] at hl0_w2 hl1_w2
    go_wp2_with fail
    refine (live_any _ (HL.out.below hb0)).mono ?_
    rintro e w3 ⟨rfl, hb1⟩
    replace k0_0 := kp hb1 k0_0
    replace k0_1 := kp hb1 k0_1
    replace k0_2 := kp hb1 k0_2
    replace k0_3 := kp hb1 k0_3
    replace k1_0 := kp hb1 k1_0
    replace k1_1 := kp hb1 k1_1
    replace k1_2 := kp hb1 k1_2
    replace k1_3 := kp hb1 k1_3
    replace hb0 := hb0.trans (hb1.mono hb0.size)
    clear hb1
    have hs_w3 := hb0.size
    have hl0_w3 := lt_of_cell k0_0
    have hl1_w3 := lt_of_cell k1_0
    try simp only [] at hl0_w3 hl1_w3
    go_wp2_with fail
    go_returns
    exact ⟨rfl, by go_grown⟩

set_option maxHeartbeats 4000000 in
theorem fields_walk2 (op a b c n : Int) (w : World) (hL : Laid w) :
    Calls Tryd.prog 8 #[.agg #[.int .i64 op, .int .i64 a, .int .i64 b, .int .i64 c], .int .i64 2, .int .i64 n] w fun e w' => e = .returned (.bool true) ∧ Below w.heap.size w w' := by
  have HL := Lib.hid hL
  clear hL
  obtain ⟨x, z, hx⟩ : ∃ x z, enc op a b c = (x, z) := ⟨_, _, rfl⟩
  obtain ⟨y, z', hy⟩ : ∃ x z, enc op a b n = (x, z) := ⟨_, _, rfl⟩
  have E1 := Lib.hid (fun W hW => encode_pair hx W hW)
  have E2 := Lib.hid (fun W hW => encode_pair hy W hW)
  have hm := Lib.hid (fields_C hx hy)
  clear hx hy
  by_cases hz : z = 0
  · by_cases hz' : z' = 0
    · have hm' := hm.out hz hz'
      subst hz; subst hz'
      clear hm
      go_enter Tryd.func8, Tryd.ntmps8
      go_wp2_with fail
      have hb0 : Below w.heap.size w w := Below.refl _ _
      have k0_0 : (w.alloc (.cells #[.int .i64 op, .int .i64 a, .int .i64 b, .int .i64 c] 23)).cell? ⟨w.heap.size, 0, none⟩ = some (.int .i64 op) := kn 0 rfl
      have k0_1 : (w.alloc (.cells #[.int .i64 op, .int .i64 a, .int .i64 b, .int .i64 c] 23)).cell? ⟨w.heap.size, 1, none⟩ = some (.int .i64 a) := kn 1 rfl
      have k0_2 : (w.alloc (.cells #[.int .i64 op, .int .i64 a, .int .i64 b, .int .i64 c] 23)).cell? ⟨w.heap.size, 2, none⟩ = some (.int .i64 b) := kn 2 rfl
      have k0_3 : (w.alloc (.cells #[.int .i64 op, .int .i64 a, .int .i64 b, .int .i64 c] 23)).cell? ⟨w.heap.size, 3, none⟩ = some (.int .i64 c) := kn 3 rfl
      replace hb0 : Below w.heap.size w (w.alloc (.cells #[.int .i64 op, .int .i64 a, .int .i64 b, .int .i64 c] 23)) := hb0.alloc (by first | exact Nat.le_refl _ | exact hb0.size) _
      replace k0_0 := ka (.cells #[.int .i64 op, .int .i64 a, .int .i64 b, .int .i64 n] 23) k0_0
      replace k0_1 := ka (.cells #[.int .i64 op, .int .i64 a, .int .i64 b, .int .i64 n] 23) k0_1
      replace k0_2 := ka (.cells #[.int .i64 op, .int .i64 a, .int .i64 b, .int .i64 n] 23) k0_2
      replace k0_3 := ka (.cells #[.int .i64 op, .int .i64 a, .int .i64 b, .int .i64 n] 23) k0_3
      have k1_0 : ((w.alloc (.cells #[.int .i64 op, .int .i64 a, .int .i64 b, .int .i64 c] 23)).alloc (.cells #[.int .i64 op, .int .i64 a, .int .i64 b, .int .i64 n] 23)).cell? ⟨w.heap.size + 1, 0, none⟩ = some (.int .i64 op) := by simp
      have k1_1 : ((w.alloc (.cells #[.int .i64 op, .int .i64 a, .int .i64 b, .int .i64 c] 23)).alloc (.cells #[.int .i64 op, .int .i64 a, .int .i64 b, .int .i64 n] 23)).cell? ⟨w.heap.size + 1, 1, none⟩ = some (.int .i64 a) := by simp
      have k1_2 : ((w.alloc (.cells #[.int .i64 op, .int .i64 a, .int .i64 b, .int .i64 c] 23)).alloc (.cells #[.int .i64 op, .int .i64 a, .int .i64 b, .int .i64 n] 23)).cell? ⟨w.heap.size + 1, 2, none⟩ = some (.int .i64 b) := by simp
      have k1_3 : ((w.alloc (.cells #[.int .i64 op, .int .i64 a, .int .i64 b, .int .i64 c] 23)).alloc (.cells #[.int .i64 op, .int .i64 a, .int .i64 b, .int .i64 n] 23)).cell? ⟨w.heap.size + 1, 3, none⟩ = some (.int .i64 n) := by simp
      replace hb0 : Below w.heap.size w ((w.alloc (.cells #[.int .i64 op, .int .i64 a, .int .i64 b, .int .i64 c] 23)).alloc (.cells #[.int .i64 op, .int .i64 a, .int .i64 b, .int .i64 n] 23)) := hb0.alloc (by first | exact Nat.le_refl _ | exact hb0.size) _
      refine (E1.out _ (HL.out.below hb0)).mono ?_
      rintro e w1 ⟨rfl, hb1⟩
      replace k0_0 := kp hb1 k0_0
      replace k0_1 := kp hb1 k0_1
      replace k0_2 := kp hb1 k0_2
      replace k0_3 := kp hb1 k0_3
      replace k1_0 := kp hb1 k1_0
      replace k1_1 := kp hb1 k1_1
      replace k1_2 := kp hb1 k1_2
      replace k1_3 := kp hb1 k1_3
      replace hb0 := hb0.trans (hb1.mono hb0.size)
      clear hb1
      have hs_w1 := hb0.size
      have hl0_w1 := lt_of_cell k0_0
      have hl1_w1 := lt_of_cell k1_0
      try simp only [] at hl0_w1 hl1_w1
      go_wp2_with fail
      refine (E2.out _ (HL.out.below hb0)).mono ?_
      rintro e w2 ⟨rfl, hb1⟩
      replace k0_0 := kp hb1 k0_0
      replace k0_1 := kp hb1 k0_1
      replace k0_2 := kp hb1 k0_2
      replace k0_3 := kp hb1 k0_3
      replace k1_0 := kp hb1 k1_0
      replace k1_1 := kp hb1 k1_1
      replace k1_2 := kp hb1 k1_2
      replace k1_3 := kp hb1 k1_3
      replace hb0 := hb0.trans (hb1.mono hb0.size)
      clear hb1
      have hs_w2 := hb0.size
      have hl0_w2 := lt_of_cell k0_0
      have hl1_w2 := lt_of_cell k1_0
      try simp only [] at hl0_w2 hl1_w2
      go_wp2_with fail
      refine (live_any _ (HL.out.below hb0)).mono ?_
      rintro e w3 ⟨rfl, hb1⟩
      replace k0_0 := kp hb1 k0_0
      replace k0_1 := kp hb1 k0_1
      replace k0_2 := kp hb1 k0_2
      replace k0_3 := kp hb1 k0_3
      replace k1_0 := kp hb1 k1_0
      replace k1_1 := kp hb1 k1_1
      replace k1_2 := kp hb1 k1_2
      replace k1_3 := kp hb1 k1_3
      replace hb0 := hb0.trans (hb1.mono hb0.size)
      clear hb1
      have hs_w3 := hb0.size
      have hl0_w3 := lt_of_cell k0_0
      have hl1_w3 := lt_of_cell k1_0
      try simp only [] at hl0_w3 hl1_w3
      go_wp2_with fail
      go_returns
      exact ⟨rfl, by go_grown⟩
    · have hz1 : (z' != 0) = true := by simpa using hz'
      subst hz
      clear hz' hm
      go_enter Tryd.func8, Tryd.ntmps8
      go_wp2_with fail
      have hb0 : Below w.heap.size w w := Below.refl _ _
      have k0_0 : (w.alloc (.cells #[.int .i64 op, .int .i64 a, .int .i64 b, .int .i64 c] 23)).cell? ⟨w.heap.size, 0, none⟩ = some (.int .i64 op) := kn 0 rfl
      have k0_1 : (w.alloc (.cells #[.int .i64 op, .int .i64 a, .int .i64 b, .int .i64 c] 23)).cell? ⟨w.heap.size, 1, none⟩ = some (.int .i64 a) := kn 1 rfl
      have k0_2 : (w.alloc (.cells #[.int .i64 op, .int .i64 a, .int .i64 b, .int .i64 c] 23)).cell? ⟨w.heap.size, 2, none⟩ = some (.int .i64 b) := kn 2 rfl
      have k0_3 : (w.alloc (.cells #[.int .i64 op, .int .i64 a, .int .i64 b, .int .i64 c] 23)).cell? ⟨w.heap.size, 3, none⟩ = some (.int .i64 c) := kn 3 rfl
      replace hb0 : Below w.heap.size w (w.alloc (.cells #[.int .i64 op, .int .i64 a, .int .i64 b, .int .i64 c] 23)) := hb0.alloc (by first | exact Nat.le_refl _ | exact hb0.size) _
      replace k0_0 := ka (.cells #[.int .i64 op, .int .i64 a, .int .i64 b, .int .i64 n] 23) k0_0
      replace k0_1 := ka (.cells #[.int .i64 op, .int .i64 a, .int .i64 b, .int .i64 n] 23) k0_1
      replace k0_2 := ka (.cells #[.int .i64 op, .int .i64 a, .int .i64 b, .int .i64 n] 23) k0_2
      replace k0_3 := ka (.cells #[.int .i64 op, .int .i64 a, .int .i64 b, .int .i64 n] 23) k0_3
      have k1_0 : ((w.alloc (.cells #[.int .i64 op, .int .i64 a, .int .i64 b, .int .i64 c] 23)).alloc (.cells #[.int .i64 op, .int .i64 a, .int .i64 b, .int .i64 n] 23)).cell? ⟨w.heap.size + 1, 0, none⟩ = some (.int .i64 op) := by simp
      have k1_1 : ((w.alloc (.cells #[.int .i64 op, .int .i64 a, .int .i64 b, .int .i64 c] 23)).alloc (.cells #[.int .i64 op, .int .i64 a, .int .i64 b, .int .i64 n] 23)).cell? ⟨w.heap.size + 1, 1, none⟩ = some (.int .i64 a) := by simp
      have k1_2 : ((w.alloc (.cells #[.int .i64 op, .int .i64 a, .int .i64 b, .int .i64 c] 23)).alloc (.cells #[.int .i64 op, .int .i64 a, .int .i64 b, .int .i64 n] 23)).cell? ⟨w.heap.size + 1, 2, none⟩ = some (.int .i64 b) := by simp
      have k1_3 : ((w.alloc (.cells #[.int .i64 op, .int .i64 a, .int .i64 b, .int .i64 c] 23)).alloc (.cells #[.int .i64 op, .int .i64 a, .int .i64 b, .int .i64 n] 23)).cell? ⟨w.heap.size + 1, 3, none⟩ = some (.int .i64 n) := by simp
      replace hb0 : Below w.heap.size w ((w.alloc (.cells #[.int .i64 op, .int .i64 a, .int .i64 b, .int .i64 c] 23)).alloc (.cells #[.int .i64 op, .int .i64 a, .int .i64 b, .int .i64 n] 23)) := hb0.alloc (by first | exact Nat.le_refl _ | exact hb0.size) _
      refine (E1.out _ (HL.out.below hb0)).mono ?_
      rintro e w1 ⟨rfl, hb1⟩
      replace k0_0 := kp hb1 k0_0
      replace k0_1 := kp hb1 k0_1
      replace k0_2 := kp hb1 k0_2
      replace k0_3 := kp hb1 k0_3
      replace k1_0 := kp hb1 k1_0
      replace k1_1 := kp hb1 k1_1
      replace k1_2 := kp hb1 k1_2
      replace k1_3 := kp hb1 k1_3
      replace hb0 := hb0.trans (hb1.mono hb0.size)
      clear hb1
      have hs_w1 := hb0.size
      have hl0_w1 := lt_of_cell k0_0
      have hl1_w1 := lt_of_cell k1_0
      try simp only [] at hl0_w1 hl1_w1
      go_wp2_with fail
      refine (E2.out _ (HL.out.below hb0)).mono ?_
      rintro e w2 ⟨rfl, hb1⟩
      replace k0_0 := kp hb1 k0_0
      replace k0_1 := kp hb1 k0_1
      replace k0_2 := kp hb1 k0_2
      replace k0_3 := kp hb1 k0_3
      replace k1_0 := kp hb1 k1_0
      replace k1_1 := kp hb1 k1_1
      replace k1_2 := kp hb1 k1_2
      replace k1_3 := kp hb1 k1_3
      replace hb0 := hb0.trans (hb1.mono hb0.size)
      clear hb1
      have hs_w2 := hb0.size
      have hl0_w2 := lt_of_cell k0_0
      have hl1_w2 := lt_of_cell k1_0
      try simp only [] at hl0_w2 hl1_w2
      go_wp2_with fail
      refine (live_any _ (HL.out.below hb0)).mono ?_
      rintro e w3 ⟨rfl, hb1⟩
      replace k0_0 := kp hb1 k0_0
      replace k0_1 := kp hb1 k0_1
      replace k0_2 := kp hb1 k0_2
      replace k0_3 := kp hb1 k0_3
      replace k1_0 := kp hb1 k1_0
      replace k1_1 := kp hb1 k1_1
      replace k1_2 := kp hb1 k1_2
      replace k1_3 := kp hb1 k1_3
      replace hb0 := hb0.trans (hb1.mono hb0.size)
      clear hb1
      have hs_w3 := hb0.size
      have hl0_w3 := lt_of_cell k0_0
      have hl1_w3 := lt_of_cell k1_0
      try simp only [] at hl0_w3 hl1_w3
      go_wp2_with fail
      go_returns
      exact ⟨rfl, by go_grown⟩
  · have hz1 : (z != 0) = true := by simpa using hz
    clear hz hm
    go_enter Tryd.func8, Tryd.ntmps8
    go_wp2_with fail
    have hb0 : Below w.heap.size w w := Below.refl _ _
    have k0_0 : (w.alloc (.cells #[.int .i64 op, .int .i64 a, .int .i64 b, .int .i64 c] 23)).cell? ⟨w.heap.size, 0, none⟩ = some (.int .i64 op) := kn 0 rfl
    have k0_1 : (w.alloc (.cells #[.int .i64 op, .int .i64 a, .int .i64 b, .int .i64 c] 23)).cell? ⟨w.heap.size, 1, none⟩ = some (.int .i64 a) := kn 1 rfl
    have k0_2 : (w.alloc (.cells #[.int .i64 op, .int .i64 a, .int .i64 b, .int .i64 c] 23)).cell? ⟨w.heap.size, 2, none⟩ = some (.int .i64 b) := kn 2 rfl
    have k0_3 : (w.alloc (.cells #[.int .i64 op, .int .i64 a, .int .i64 b, .int .i64 c] 23)).cell? ⟨w.heap.size, 3, none⟩ = some (.int .i64 c) := kn 3 rfl
    replace hb0 : Below w.heap.size w (w.alloc (.cells #[.int .i64 op, .int .i64 a, .int .i64 b, .int .i64 c] 23)) := hb0.alloc (by first | exact Nat.le_refl _ | exact hb0.size) _
    replace k0_0 := ka (.cells #[.int .i64 op, .int .i64 a, .int .i64 b, .int .i64 n] 23) k0_0
    replace k0_1 := ka (.cells #[.int .i64 op, .int .i64 a, .int .i64 b, .int .i64 n] 23) k0_1
    replace k0_2 := ka (.cells #[.int .i64 op, .int .i64 a, .int .i64 b, .int .i64 n] 23) k0_2
    replace k0_3 := ka (.cells #[.int .i64 op, .int .i64 a, .int .i64 b, .int .i64 n] 23) k0_3
    have k1_0 : ((w.alloc (.cells #[.int .i64 op, .int .i64 a, .int .i64 b, .int .i64 c] 23)).alloc (.cells #[.int .i64 op, .int .i64 a, .int .i64 b, .int .i64 n] 23)).cell? ⟨w.heap.size + 1, 0, none⟩ = some (.int .i64 op) := by simp
    have k1_1 : ((w.alloc (.cells #[.int .i64 op, .int .i64 a, .int .i64 b, .int .i64 c] 23)).alloc (.cells #[.int .i64 op, .int .i64 a, .int .i64 b, .int .i64 n] 23)).cell? ⟨w.heap.size + 1, 1, none⟩ = some (.int .i64 a) := by simp
    have k1_2 : ((w.alloc (.cells #[.int .i64 op, .int .i64 a, .int .i64 b, .int .i64 c] 23)).alloc (.cells #[.int .i64 op, .int .i64 a, .int .i64 b, .int .i64 n] 23)).cell? ⟨w.heap.size + 1, 2, none⟩ = some (.int .i64 b) := by simp
    have k1_3 : ((w.alloc (.cells #[.int .i64 op, .int .i64 a, .int .i64 b, .int .i64 c] 23)).alloc (.cells #[.int .i64 op, .int .i64 a, .int .i64 b, .int .i64 n] 23)).cell? ⟨w.heap.size + 1, 3, none⟩ = some (.int .i64 n) := by simp
    replace hb0 : Below w.heap.size w ((w.alloc (.cells #[.int .i64 op, .int .i64 a, .int .i64 b, .int .i64 c] 23)).alloc (.cells #[.int .i64 op, .int .i64 a, .int .i64 b, .int .i64 n] 23)) := hb0.alloc (by first | exact Nat.le_refl _ | exact hb0.size) _
    refine (E1.out _ (HL.out.below hb0)).mono ?_
    rintro e w1 ⟨rfl, hb1⟩
    replace k0_0 := kp hb1 k0_0
    replace k0_1 := kp hb1 k0_1
    replace k0_2 := kp hb1 k0_2
    replace k0_3 := kp hb1 k0_3
    replace k1_0 := kp hb1 k1_0
    replace k1_1 := kp hb1 k1_1
    replace k1_2 := kp hb1 k1_2
    replace k1_3 := kp hb1 k1_3
    replace hb0 := hb0.trans (hb1.mono hb0.size)
    clear hb1
    have hs_w1 := hb0.size
    have hl0_w1 := lt_of_cell k0_0
    have hl1_w1 := lt_of_cell k1_0
    try simp only [] at hl0_w1 hl1_w1
    go_wp2_with fail
    refine (E2.out _ (HL.out.below hb0)).mono ?_
    rintro e w2 ⟨rfl, hb1⟩
    replace k0_0 := kp hb1 k0_0
    replace k0_1 := kp hb1 k0_1
    replace k0_2 := kp hb1 k0_2
    replace k0_3 := kp hb1 k0_3
    replace k1_0 := kp hb1 k1_0
    replace k1_1 := kp hb1 k1_1
    replace k1_2 := kp hb1 k1_2
    replace k1_3 := kp hb1 k1_3
    replace hb0 := hb0.trans (hb1.mono hb0.size)
    clear hb1
    have hs_w2 := hb0.size
    have hl0_w2 := lt_of_cell k0_0
    have hl1_w2 := lt_of_cell k1_0
    try simp only [] at hl0_w2 hl1_w2
    go_wp2_with fail
    refine (live_any _ (HL.out.below hb0)).mono ?_
    rintro e w3 ⟨rfl, hb1⟩
    replace k0_0 := kp hb1 k0_0
    replace k0_1 := kp hb1 k0_1
    replace k0_2 := kp hb1 k0_2
    replace k0_3 := kp hb1 k0_3
    replace k1_0 := kp hb1 k1_0
    replace k1_1 := kp hb1 k1_1
    replace k1_2 := kp hb1 k1_2
    replace k1_3 := kp hb1 k1_3
    replace hb0 := hb0.trans (hb1.mono hb0.size)
    clear hb1
    have hs_w3 := hb0.size
    have hl0_w3 := lt_of_cell k0_0
    have hl1_w3 := lt_of_cell k1_0
    try simp only [] at hl0_w3 hl1_w3
    go_wp2_with fail
    go_returns
    exact ⟨rfl, by go_grown⟩

set_option maxHeartbeats 4000000 in
theorem fields_walk3 (op a b c n f : Int) (w : World) (hL : Laid w) (hf0 : (f == 0) = false) (hf1 : (f == 1) = false) (hf2 : (f == 2) = false) :
    Calls Tryd.prog 8 #[.agg #[.int .i64 op, .int .i64 a, .int .i64 b, .int .i64 c], .int .i64 f, .int .i64 n] w fun e w' => e = .returned (.bool true) ∧ Below w.heap.size w w' := by
  have HL := Lib.hid hL
  clear hL
  obtain ⟨x, z, hx⟩ : ∃ x z, enc op a b c = (x, z) := ⟨_, _, rfl⟩
  obtain ⟨y, z', hy⟩ : ∃ x z, enc n a b c = (x, z) := ⟨_, _, rfl⟩
  have E1 := Lib.hid (fun W hW => encode_pair hx W hW)
  have E2 := Lib.hid (fun W hW => encode_pair hy W hW)
  have hm := Lib.hid (fields_D hx hy)
  clear hx hy
  by_cases hz : z = 0
  · by_cases hz' : z' = 0
    · have hm' := hm.out hz hz'
      subst hz; subst hz'
      clear hm
      go_enter Tryd.func8, Tryd.ntmps8
      go_wp2_with fail
      have hb0 : Below w.heap.size w w := Below.refl _ _
      have k0_0 : (w.alloc (.cells #[.int .i64 op, .int .i64 a, .int .i64 b, .int .i64 c] 23)).cell? ⟨w.heap.size, 0, none⟩ = some (.int .i64 op) := kn 0 rfl
      have k0_1 : (w.alloc (.cells #[.int .i64 op, .int .i64 a, .int .i64 b, .int .i64 c] 23)).cell? ⟨w.heap.size, 1, none⟩ = some (.int .i64 a) := kn 1 rfl
      have k0_2 : (w.alloc (.cells #[.int .i64 op, .int .i64 a, .int .i64 b, .int .i64 c] 23)).cell? ⟨w.heap.size, 2, none⟩ = some (.int .i64 b) := kn 2 rfl
      have k0_3 : (w.alloc (.cells #[.int .i64 op, .int .i64 a, .int .i64 b, .int .i64 c] 23)).cell? ⟨w.heap.size, 3, none⟩ = some (.int .i64 c) := kn 3 rfl
      replace hb0 : Below w.heap.size w (w.alloc (.cells #[.int .i64 op, .int .i64 a, .int .i64 b, .int .i64 c] 23)) := hb0.alloc (by first | exact Nat.le_refl _ | exact hb0.size) _
      replace k0_0 := ka (.cells #[.int .i64 n, .int .i64 a, .int .i64 b, .int .i64 c] 23) k0_0
      replace k0_1 := ka (.cells #[.int .i64 n, .int .i64 a, .int .i64 b, .int .i64 c] 23) k0_1
      replace k0_2 := ka (.cells #[.int .i64 n, .int .i64 a, .int .i64 b, .int .i64 c] 23) k0_2
      replace k0_3 := ka (.cells #[.int .i64 n, .int .i64 a, .int .i64 b, .int .i64 c] 23) k0_3
      have k1_0 : ((w.alloc (.cells #[.int .i64 op, .int .i64 a, .int .i64 b, .int .i64 c] 23)).alloc (.cells #[.int .i64 n, .int .i64 a, .int .i64 b, .int .i64 c] 23)).cell? ⟨w.heap.size + 1, 0, none⟩ = some (.int .i64 n) := by simp
      have k1_1 : ((w.alloc (.cells #[.int .i64 op, .int .i64 a, .int .i64 b, .int .i64 c] 23)).alloc (.cells #[.int .i64 n, .int .i64 a, .int .i64 b, .int .i64 c] 23)).cell? ⟨w.heap.size + 1, 1, none⟩ = some (.int .i64 a) := by simp
      have k1_2 : ((w.alloc (.cells #[.int .i64 op, .int .i64 a, .int .i64 b, .int .i64 c] 23)).alloc (.cells #[.int .i64 n, .int .i64 a, .int .i64 b, .int .i64 c] 23)).cell? ⟨w.heap.size + 1, 2, none⟩ = some (.int .i64 b) := by simp
      have k1_3 : ((w.alloc (.cells #[.int .i64 op, .int .i64 a, .int .i64 b, .int .i64 c] 23)).alloc (.cells #[.int .i64 n, .int .i64 a, .int .i64 b, .int .i64 c] 23)).cell? ⟨w.heap.size + 1, 3, none⟩ = some (.int .i64 c) := by simp
      replace hb0 : Below w.heap.size w ((w.alloc (.cells #[.int .i64 op, .int .i64 a, .int .i64 b, .int .i64 c] 23)).alloc (.cells #[.int .i64 n, .int .i64 a, .int .i64 b, .int .i64 c] 23)) := hb0.alloc (by first | exact Nat.le_refl _ | exact hb0.size) _
      refine (E1.out _ (HL.out.below hb0)).mono ?_
      rintro e w1 ⟨rfl, hb1⟩
      replace k0_0 := kp hb1 k0_0
      replace k0_1 := kp hb1 k0_1
      replace k0_2 := kp hb1 k0_2
      replace k0_3 := kp hb1 k0_3
      replace k1_0 := kp hb1 k1_0
      replace k1_1 := kp hb1 k1_1
      replace k1_2 := kp hb1 k1_2
      replace k1_3 := kp hb1 k1_3
      replace hb0 := hb0.trans (hb1.mono hb0.size)
      clear hb1
      have hs_w1 := hb0.size
      have hl0_w1 := lt_of_cell k0_0
      have hl1_w1 := lt_of_cell k1_0
      try simp only [] at hl0_w1 hl1_w1
      go_wp2_with fail
      refine (E2.out _ (HL.out.below hb0)).mono ?_
      rintro e w2 ⟨rfl, hb1⟩
      replace k0_0 := kp hb1 k0_0
      replace k0_1 := kp hb1 k0_1
      replace k0_2 := kp hb1 k0_2
      replace k0_3 := kp hb1 k0_3
      replace k1_0 := kp hb1 k1_0
      replace k1_1 := kp hb1 k1_1
      replace k1_2 := kp hb1 k1_2
      replace k1_3 := kp hb1 k1_3
      replace hb0 := hb0.trans (hb1.mono hb0.size)
      clear hb1
      have hs_w2 := hb0.size
      have hl0_w2 := lt_of_cell k0_0
      have hl1_w2 := lt_of_cell k1_0
      try simp only [] at hl0_w2 hl1_w2
      go_wp2_with fail
      refine (live_any _ (HL.out.below hb0)).mono ?_
      rintro e w3 ⟨rfl, hb1⟩
      replace k0_0 := kp hb1 k0_0
      replace k0_1 := kp hb1 k0_1
      replace k0_2 := kp hb1 k0_2
      replace k0_3 := kp hb1 k0_3
      replace k1_0 := kp hb1 k1_0
      replace k1_1 := kp hb1 k1_1
      replace k1_2 := kp hb1 k1_2
      replace k1_3 := kp hb1 k1_3
      replace hb0 := hb0.trans (hb1.mono hb0.size)
      clear hb1
      have hs_w3 := hb0.size
      have hl0_w3 := lt_of_cell k0_0
      have hl1_w3 := lt_of_cell k1_0
      try simp only [] at hl0_w3 hl1_w3
      go_wp2_with fail
      go_returns
      exact ⟨rfl, by go_grown⟩
    · have hz1 : (z' != 0) = true := by simpa using hz'
      subst hz
      clear hz' hm
      go_enter Tryd.func8, Tryd.ntmps8
      go_wp2_with fail
      have hb0 : Below w.heap.size w w := Below.refl _ _
      have k0_0 : (w.alloc (.cells #[.int .i64 op, .int .i64 a, .int .i64 b, .int .i64 c] 23)).cell? ⟨w.heap.size, 0, none⟩ = some (.int .i64 op) := kn 0 rfl
      have k0_1 : (w.alloc (.cells #[.int .i64 op, .int .i64 a, .int .i64 b, .int .i64 c] 23)).cell? ⟨w.heap.size, 1, none⟩ = some (.int .i64 a) := kn 1 rfl
      have k0_2 : (w.alloc (.cells #[.int .i64 op, .int .i64 a, .int .i64 b, .int .i64 c] 23)).cell? ⟨w.heap.size, 2, none⟩ = some (.int .i64 b) := kn 2 rfl
      have k0_3 : (w.alloc (.cells #[.int .i64 op, .int .i64 a, .int .i64 b, .int .i64 c] 23)).cell? ⟨w.heap.size, 3, none⟩ = some (.int .i64 c) := kn 3 rfl
      replace hb0 : Below w.heap.size w (w.alloc (.cells #[.int .i64 op, .int .i64 a, .int .i64 b, .int .i64 c] 23)) := hb0.alloc (by first | exact Nat.le_refl _ | exact hb0.size) _
      replace k0_0 := ka (.cells #[.int .i64 n, .int .i64 a, .int .i64 b, .int .i64 c] 23) k0_0
      replace k0_1 := ka (.cells #[.int .i64 n, .int .i64 a, .int .i64 b, .int .i64 c] 23) k0_1
      replace k0_2 := ka (.cells #[.int .i64 n, .int .i64 a, .int .i64 b, .int .i64 c] 23) k0_2
      replace k0_3 := ka (.cells #[.int .i64 n, .int .i64 a, .int .i64 b, .int .i64 c] 23) k0_3
      have k1_0 : ((w.alloc (.cells #[.int .i64 op, .int .i64 a, .int .i64 b, .int .i64 c] 23)).alloc (.cells #[.int .i64 n, .int .i64 a, .int .i64 b, .int .i64 c] 23)).cell? ⟨w.heap.size + 1, 0, none⟩ = some (.int .i64 n) := by simp
      have k1_1 : ((w.alloc (.cells #[.int .i64 op, .int .i64 a, .int .i64 b, .int .i64 c] 23)).alloc (.cells #[.int .i64 n, .int .i64 a, .int .i64 b, .int .i64 c] 23)).cell? ⟨w.heap.size + 1, 1, none⟩ = some (.int .i64 a) := by simp
      have k1_2 : ((w.alloc (.cells #[.int .i64 op, .int .i64 a, .int .i64 b, .int .i64 c] 23)).alloc (.cells #[.int .i64 n, .int .i64 a, .int .i64 b, .int .i64 c] 23)).cell? ⟨w.heap.size + 1, 2, none⟩ = some (.int .i64 b) := by simp
      have k1_3 : ((w.alloc (.cells #[.int .i64 op, .int .i64 a, .int .i64 b, .int .i64 c] 23)).alloc (.cells #[.int .i64 n, .int .i64 a, .int .i64 b, .int .i64 c] 23)).cell? ⟨w.heap.size + 1, 3, none⟩ = some (.int .i64 c) := by simp
      replace hb0 : Below w.heap.size w ((w.alloc (.cells #[.int .i64 op, .int .i64 a, .int .i64 b, .int .i64 c] 23)).alloc (.cells #[.int .i64 n, .int .i64 a, .int .i64 b, .int .i64 c] 23)) := hb0.alloc (by first | exact Nat.le_refl _ | exact hb0.size) _
      refine (E1.out _ (HL.out.below hb0)).mono ?_
      rintro e w1 ⟨rfl, hb1⟩
      replace k0_0 := kp hb1 k0_0
      replace k0_1 := kp hb1 k0_1
      replace k0_2 := kp hb1 k0_2
      replace k0_3 := kp hb1 k0_3
      replace k1_0 := kp hb1 k1_0
      replace k1_1 := kp hb1 k1_1
      replace k1_2 := kp hb1 k1_2
      replace k1_3 := kp hb1 k1_3
      replace hb0 := hb0.trans (hb1.mono hb0.size)
      clear hb1
      have hs_w1 := hb0.size
      have hl0_w1 := lt_of_cell k0_0
      have hl1_w1 := lt_of_cell k1_0
      try simp only [] at hl0_w1 hl1_w1
      go_wp2_with fail
      refine (E2.out _ (HL.out.below hb0)).mono ?_
      rintro e w2 ⟨rfl, hb1⟩
      replace k0_0 := kp hb1 k0_0
      replace k0_1 := kp hb1 k0_1
      replace k0_2 := kp hb1 k0_2
      replace k0_3 := kp hb1 k0_3
      replace k1_0 := kp hb1 k1_0
      replace k1_1 := kp hb1 k1_1
      replace k1_2 := kp hb1 k1_2
      replace k1_3 := kp hb1 k1_3
      replace hb0 := hb0.trans (hb1.mono hb0.size)
      clear hb1
      have hs_w2 := hb0.size
      have hl0_w2 := lt_of_cell k0_0
      have hl1_w2 := lt_of_cell k1_0
      try simp only [] at hl0_w2 hl1_w2
      go_wp2_with fail
      refine (live_any _ (HL.out.below hb0)).mono ?_
      rintro e w3 ⟨rfl, hb1⟩
      replace k0_0 := kp hb1 k0_0
      replace k0_1 := kp hb1 k0_1
      replace k0_2 := kp hb1 k0_2
      replace k0_3 := kp hb1 k0_3
      replace k1_0 := kp hb1 k1_0
      replace k1_1 := kp hb1 k1_1
      replace k1_2 := kp hb1 k1_2
      replace k1_3 := kp hb1 k1_3
      replace hb0 := hb0.trans (hb1.mono hb0.size)
      clear hb1
      have hs_w3 := hb0.size
      have hl0_w3 := lt_of_cell k0_0
      have hl1_w3 := lt_of_cell k1_0
      try simp only [] at hl0_w3 hl1_w3
      go_wp2_with fail
      go_returns
      exact ⟨rfl, by go_grown⟩
  · have hz1 : (z != 0) = true := by simpa using hz
    clear hz hm
    go_enter Tryd.func8, Tryd.ntmps8
    go_wp2_with fail
    have hb0 : Below w.heap.size w w := Below.refl _ _
    have k0_0 : (w.alloc (.cells #[.int .i64 op, .int .i64 a, .int .i64 b, .int .i64 c] 23)).cell? ⟨w.heap.size, 0, none⟩ = some (.int .i64 op) := kn 0 rfl
    have k0_1 : (w.alloc (.cells #[.int .i64 op, .int .i64 a, .int .i64 b, .int .i64 c] 23)).cell? ⟨w.heap.size, 1, none⟩ = some (.int .i64 a) := kn 1 rfl
    have k0_2 : (w.alloc (.cells #[.int .i64 op, .int .i64 a, .int .i64 b, .int .i64 c] 23)).cell? ⟨w.heap.size, 2, none⟩ = some (.int .i64 b) := kn 2 rfl
    have k0_3 : (w.alloc (.cells #[.int .i64 op, .int .i64 a, .int .i64 b, .int .i64 c] 23)).cell? ⟨w.heap.size, 3, none⟩ = some (.int .i64 c) := kn 3 rfl
    replace hb0 : Below w.heap.size w (w.alloc (.cells #[.int .i64 op, .int .i64 a, .int .i64 b, .int .i64 c] 23)) := hb0.alloc (by first | exact Nat.le_refl _ | exact hb0.size) _
    replace k0_0 := ka (.cells #[.int .i64 n, .int .i64 a, .int .i64 b, .int .i64 c] 23) k0_0
    replace k0_1 := ka (.cells #[.int .i64 n, .int .i64 a, .int .i64 b, .int .i64 c] 23) k0_1
    replace k0_2 := ka (.cells #[.int .i64 n, .int .i64 a, .int .i64 b, .int .i64 c] 23) k0_2
    replace k0_3 := ka (.cells #[.int .i64 n, .int .i64 a, .int .i64 b, .int .i64 c] 23) k0_3
    have k1_0 : ((w.alloc (.cells #[.int .i64 op, .int .i64 a, .int .i64 b, .int .i64 c] 23)).alloc (.cells #[.int .i64 n, .int .i64 a, .int .i64 b, .int .i64 c] 23)).cell? ⟨w.heap.size + 1, 0, none⟩ = some (.int .i64 n) := by simp
    have k1_1 : ((w.alloc (.cells #[.int .i64 op, .int .i64 a, .int .i64 b, .int .i64 c] 23)).alloc (.cells #[.int .i64 n, .int .i64 a, .int .i64 b, .int .i64 c] 23)).cell? ⟨w.heap.size + 1, 1, none⟩ = some (.int .i64 a) := by simp
    have k1_2 : ((w.alloc (.cells #[.int .i64 op, .int .i64 a, .int .i64 b, .int .i64 c] 23)).alloc (.cells #[.int .i64 n, .int .i64 a, .int .i64 b, .int .i64 c] 23)).cell? ⟨w.heap.size + 1, 2, none⟩ = some (.int .i64 b) := by simp
    have k1_3 : ((w.alloc (.cells #[.int .i64 op, .int .i64 a, .int .i64 b, .int .i64 c] 23)).alloc (.cells #[.int .i64 n, .int .i64 a, .int .i64 b, .int .i64 c] 23)).cell? ⟨w.heap.size + 1, 3, none⟩ = some (.int .i64 c) := by simp
    replace hb0 : Below w.heap.size w ((w.alloc (.cells #[.int .i64 op, .int .i64 a, .int .i64 b, .int .i64 c] 23)).alloc (.cells #[.int .i64 n, .int .i64 a, .int .i64 b, .int .i64 c] 23)) := hb0.alloc (by first | exact Nat.le_refl _ | exact hb0.size) _
    refine (E1.out _ (HL.out.below hb0)).mono ?_
    rintro e w1 ⟨rfl, hb1⟩
    replace k0_0 := kp hb1 k0_0
    replace k0_1 := kp hb1 k0_1
    replace k0_2 := kp hb1 k0_2
    replace k0_3 := kp hb1 k0_3
    replace k1_0 := kp hb1 k1_0
    replace k1_1 := kp hb1 k1_1
    replace k1_2 := kp hb1 k1_2
    replace k1_3 := kp hb1 k1_3
    replace hb0 := hb0.trans (hb1.mono hb0.size)
    clear hb1
    have hs_w1 := hb0.size
    have hl0_w1 := lt_of_cell k0_0
    have hl1_w1 := lt_of_cell k1_0
    try simp only [] at hl0_w1 hl1_w1
    go_wp2_with fail
    refine (E2.out _ (HL.out.below hb0)).mono ?_
    rintro e w2 ⟨rfl, hb1⟩
    replace k0_0 := kp hb1 k0_0
    replace k0_1 := kp hb1 k0_1
    replace k0_2 := kp hb1 k0_2
    replace k0_3 := kp hb1 k0_3
    replace k1_0 := kp hb1 k1_0
    replace k1_1 := kp hb1 k1_1
    replace k1_2 := kp hb1 k1_2
    replace k1_3 := kp hb1 k1_3
    replace hb0 := hb0.trans (hb1.mono hb0.size)
    clear hb1
    have hs_w2 := hb0.size
    have hl0_w2 := lt_of_cell k0_0
    have hl1_w2 := lt_of_cell k1_0
    try simp only [] at hl0_w2 hl1_w2
    go_wp2_with fail
    refine (live_any _ (HL.out.below hb0)).mono ?_
    rintro e w3 ⟨rfl, hb1⟩
    replace k0_0 := kp hb1 k0_0
    replace k0_1 := kp hb1 k0_1
    replace k0_2 := kp hb1 k0_2
    replace k0_3 := kp hb1 k0_3
    replace k1_0 := kp hb1 k1_0
    replace k1_1 := kp hb1 k1_1
    replace k1_2 := kp hb1 k1_2
    replace k1_3 := kp hb1 k1_3
    replace hb0 := hb0.trans (hb1.mono hb0.size)
    clear hb1
    have hs_w3 := hb0.size
    have hl0_w3 := lt_of_cell k0_0
    have hl1_w3 := lt_of_cell k1_0
    try simp only [] at hl0_w3 hl1_w3
    go_wp2_with fail
    go_returns
    exact ⟨rfl, by go_grown⟩

theorem fieldsLaw_walk (op a b c f n : Int) (w : World) (hL : Laid w) :
    Calls Tryd.prog 8 #[.agg #[.int .i64 op, .int .i64 a, .int .i64 b, .int .i64 c], .int .i64 f, .int .i64 n] w fun e w' => e = .returned (.bool true) ∧ Below w.heap.size w w' := by
  by_cases h0 : f = 0
  · subst h0; exact fields_walk0 op a b c n w hL
  · by_cases h1 : f = 1
    · subst h1; exact fields_walk1 op a b c n w hL
    · by_cases h2 : f = 2
      · subst h2; exact fields_walk2 op a b c n w hL
      · exact fields_walk3 op a b c n f w hL (by simpa using h0) (by simpa using h1) (by simpa using h2)

end Go.Proofs.YtopkklkilbnheaaDoor
