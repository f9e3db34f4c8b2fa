import Derived.Test.YtopkklkilbnheaaDoorEncP
import Derived.Test.YtopkklkilbnheaaDoorKu
namespace Go.Proofs.YtopkklkilbnheaaDoor
open Go.RowKit

theorem live1 : enc 1 3 0 (-2) = (19988478, 0) := by decide
theorem live2 : dec 503447424 = ((30, 0, 1, -128), 0) := by decide

set_option maxHeartbeats 1000000 in
theorem live_any (w : World) (hL : Laid w) : Calls Tryd.prog 11 #[] w fun e w' => e = .returned (.bool true) ∧ Below w.heap.size w w' := by
  have HL := Lib.hid hL
  clear hL
  go_enter Tryd.func11, Tryd.ntmps11
  go_wp2_with fail
  have h1 := encode_any 1 3 0 (-2) w HL.out
  rw [live1] at h1
  refine h1.mono ?_
  clear h1
  rintro e w1 ⟨rfl, hb1⟩
  have HL1 := Lib.hid (HL.out.below hb1)
  go_wp2_with fail
  have h2 := decode_any 503447424 w1 HL1.out (by omega) (by omega)
  rw [live2] at h2
  refine h2.mono ?_
  clear h2
  rintro e w2 ⟨rfl, hb2⟩
  have hb3 : Below w.heap.size w w2 := hb1.trans (hb2.mono hb1.size)
  have hs3 := hb3.size
  go_wp2_with (go_at_call 14; refine (follows_enc _ _).mono ?_; rintro e w' ⟨rfl, rfl⟩)
  go_returns
  exact ⟨rfl, by go_grown⟩

/-- The program's Encode, told by the reference's function. -/
theorem encode_ref (op a b c : Int) (w : World) (hL : Laid w) :
    Calls Tryd.prog 9 #[.agg #[.int .i64 op, .int .i64 a, .int .i64 b, .int .i64 c]] w fun e w' => e = .returned (.tuple #[.int .u32 (encR op a b c).1, .int .i64 (encR op a b c).2]) ∧ Below w.heap.size w w' := by
  rw [← enc_eq]
  exact encode_any op a b c w hL

theorem decode_ref (n : Int) (w : World) (hL : Laid w) (h0 : 0 ≤ n) (h1 : n < 4294967296) :
    Calls Tryd.prog 12 #[.int .u32 n] w fun e w' => e = .returned (.tuple #[.agg #[.int .i64 (decR n).1.1, .int .i64 (decR n).1.2.1, .int .i64 (decR n).1.2.2.1, .int .i64 (decR n).1.2.2.2], .int .i64 (decR n).2]) ∧ Below w.heap.size w w' := by
  rw [← dec_eq]
  exact decode_any n w hL h0 h1

theorem writes_walk (op a b c : Int) (w : World) (hL : Laid w) :
    Calls Tryd.prog 3 #[.agg #[.int .i64 op, .int .i64 a, .int .i64 b, .int .i64 c]] w fun e w' => e = .returned (.bool true) ∧ Below w.heap.size w w' := by
  have HL := Lib.hid hL
  clear hL
  go_enter Tryd.func3, Tryd.ntmps3
  go_wp2_with fail
  have hb0 : Below w.heap.size w (w.alloc (.cells #[.int .i64 op, .int .i64 a, .int .i64 b, .int .i64 c] 23)) := by go_grown
  have HL0 := Lib.hid (HL.out.below hb0)
  refine (encode_ref op a b c _ HL0.out).mono ?_
  rintro e w1 ⟨rfl, hb1⟩
  obtain ⟨hc1, hf1⟩ := bcell hb1
  have k0 : w1.cell? ⟨w.heap.size, 0, none⟩ = some (.int .i64 op) := by rw [hc1 _ _ (by simp)]; simp
  have k1 : w1.cell? ⟨w.heap.size, 1, none⟩ = some (.int .i64 a) := by rw [hc1 _ _ (by simp)]; simp
  have k2 : w1.cell? ⟨w.heap.size, 2, none⟩ = some (.int .i64 b) := by rw [hc1 _ _ (by simp)]; simp
  have k3 : w1.cell? ⟨w.heap.size, 3, none⟩ = some (.int .i64 c) := by rw [hc1 _ _ (by simp)]; simp
  have hb1' := hb0.trans (hb1.mono hb0.size)
  have HL1 := Lib.hid (HL.out.below hb1')
  clear hc1 hf1 hb1
  go_wp2_with fail
  refine (encR_any op a b c _).mono ?_
  rintro e w2 ⟨rfl, hb2⟩
  have hb2' := hb1'.trans (hb2.mono hb1'.size)
  have HL2 := Lib.hid (HL.out.below hb2')
  clear hb2
  go_wp2_with fail
  refine (live_any _ HL2.out).mono ?_
  rintro e w3 ⟨rfl, hb3⟩
  have hb3' := hb2'.trans (hb3.mono hb2'.size)
  have hs3 := hb3'.size
  go_wp2_with fail
  go_returns
  exact ⟨rfl, by go_grown⟩

theorem reads_walk (n : Int) (w : World) (hL : Laid w) (h0 : 0 ≤ n) (h1 : n < 4294967296) :
    Calls Tryd.prog 4 #[.int .u32 n] w fun e w' => e = .returned (.bool true) ∧ Below w.heap.size w w' := by
  have HL := Lib.hid hL
  clear hL
  have H1 := fun W hW => decode_ref n W hW h0 h1
  have H2 := fun W => decR_any n W h0 h1
  generalize decR n = d at H1 H2
  obtain ⟨⟨op, a, b, c⟩, z⟩ := d
  simp only [] at H1 H2
  have H1' := Lib.hid H1
  have H2' := Lib.hid H2
  clear H1 H2
  go_enter Tryd.func4, Tryd.ntmps4
  go_wp2_with fail
  refine (H1'.out _ HL.out).mono ?_
  rintro e w1 ⟨rfl, hb1⟩
  have HL1 := Lib.hid (HL.out.below hb1)
  have hs1 : w.heap.size ≤ w1.heap.size := hb1.size
  go_wp2_with fail
  refine (H2'.out _).mono ?_
  rintro e w2 ⟨rfl, hb2⟩
  obtain ⟨hc2, hf2⟩ := bcell hb2
  have hs2 : w1.heap.size < w2.heap.size := by have := hb2.size; simp at this; omega
  have k0 : w2.cell? ⟨w1.heap.size, 0, none⟩ = some (.int .i64 op) := by rw [hc2 _ _ (by simp)]; simp
  have k1 : w2.cell? ⟨w1.heap.size, 1, none⟩ = some (.int .i64 a) := by rw [hc2 _ _ (by simp)]; simp
  have k2 : w2.cell? ⟨w1.heap.size, 2, none⟩ = some (.int .i64 b) := by rw [hc2 _ _ (by simp)]; simp
  have k3 : w2.cell? ⟨w1.heap.size, 3, none⟩ = some (.int .i64 c) := by rw [hc2 _ _ (by simp)]; simp
  have hb2' : Below w.heap.size w w2 := Below.trans (b := w1.alloc (.cells #[.int .i64 op, .int .i64 a, .int .i64 b, .int .i64 c] 23)) (by go_grown) (hb2.mono (by simp; omega))
  clear hc2 hf2 hb2
  have hs3 := hb2'.size
  have hs4 : w1.heap.size < w2.heap.size + 1 := by omega
  go_wp2_with fail
  have HL3 := Lib.hid (HL.out.below (show Below w.heap.size w (w2.alloc (.cells #[.int .i64 op, .int .i64 a, .int .i64 b, .int .i64 c] 23)) by go_grown))
  refine (live_any _ HL3.out).mono ?_
  rintro e w3 ⟨rfl, hb3⟩
  have p0 := kp hb3 (ka _ k0)
  have p1 := kp hb3 (ka _ k1)
  have p2 := kp hb3 (ka _ k2)
  have p3 := kp hb3 (ka _ k3)
  have q0 : w3.cell? ⟨w2.heap.size, 0, none⟩ = some (.int .i64 op) := kp hb3 (kn 0 rfl)
  have q1 : w3.cell? ⟨w2.heap.size, 1, none⟩ = some (.int .i64 a) := kp hb3 (kn 1 rfl)
  have q2 : w3.cell? ⟨w2.heap.size, 2, none⟩ = some (.int .i64 b) := kp hb3 (kn 2 rfl)
  have q3 : w3.cell? ⟨w2.heap.size, 3, none⟩ = some (.int .i64 c) := kp hb3 (kn 3 rfl)
  have hb3' : Below w.heap.size w w3 := Below.trans (b := w2.alloc (.cells #[.int .i64 op, .int .i64 a, .int .i64 b, .int .i64 c] 23)) (by go_grown) (hb3.mono (by simp; omega))
  have hs5 := hb3'.size
  clear hb3 k0 k1 k2 k3
  go_wp2_with fail
  go_returns
  exact ⟨rfl, by go_grown⟩

theorem follows_walk (n : Int) (w : World) (hL : Laid w) :
    Calls Tryd.prog 5 #[.int .i64 n] w fun e w' => e = .returned (.bool true) ∧ Below w.heap.size w w' := by
  have HL := Lib.hid hL
  clear hL
  go_enter Tryd.func5, Tryd.ntmps5
  go_wp2_with fail
  refine (live_any _ HL.out).mono ?_
  rintro e w3 ⟨rfl, hb3⟩
  have hs3 := hb3.size
  go_wp2_with (first | (go_at_call 14; refine (follows_enc _ _).mono ?_; rintro e w' ⟨rfl, rfl⟩) | (go_at_call 15; refine (follows_ref _ _).mono ?_; rintro e w' ⟨rfl, rfl⟩))
  go_returns
  exact ⟨rfl, by go_grown⟩

end Go.Proofs.YtopkklkilbnheaaDoor
