import Derived.Test.YtlhgfhmdhmgmpaaGreatDoorEncC
namespace Go.Proofs.YtlhgfhmdhmgmpaaGreatDoor
open Go.RowKit

def i16 (n : Int) : Int := (n + 32768) % 65536 - 32768

/-- What the program's Decode tells of a word. -/
def dec (n : Int) : (Int × Int × Int × Int) × Int :=
  let e := (enc (n / 16777216) (n / 1048576 % 16) (n / 65536 % 16) (i16 n)).2
  if e = 0 then ((n / 16777216, n / 1048576 % 16, n / 65536 % 16, i16 n), 0) else ((0, 0, 0, 0), e)

theorem and15 (x : Int) (h0 : 0 ≤ x) (h1 : x < 4294967296) : wrap64 (bits BinOp.and IntKind.u32 x 15) = x % 16 := by
  have h := bits_mask .u32 32 (by decide) (u32_own 32 (by decide)) 4 (by decide) x h0 (by simpa using h1)
  rw [show bits BinOp.and IntKind.u32 x 15 = x % 16 from h]
  unfold wrap64
  omega

theorem wrap_i16 (n : Int) : wrap64 (IntKind.i16.wrap n) = i16 n := by
  have e : IntKind.i16.wrap n = i16 n := by
    simp only [IntKind.wrap, IntKind.bits, IntKind.signed, i16]
    simp
    omega
  rw [e]
  unfold wrap64 i16
  omega

set_option maxHeartbeats 1000000 in
theorem decode_any (n : Int) (w : World) (hL : Laid w) (h0 : 0 ≤ n) (h1 : n < 4294967296) :
    Calls Tryz.prog 72 #[.int .u32 n] w fun e w' => e = .returned (.tuple #[.agg #[.int .i64 (dec n).1.1, .int .i64 (dec n).1.2.1, .int .i64 (dec n).1.2.2.1, .int .i64 (dec n).1.2.2.2], .int .i64 (dec n).2]) ∧ Below w.heap.size w w' := by
  have e1 := and15 (n / 1048576) (by omega) (by omega)
  have e2 := and15 (n / 65536) (by omega) (by omega)
  have e3 := wrap_i16 n
  have E1 := Lib.hid e1
  have E2 := Lib.hid e2
  have E3 := Lib.hid e3
  have HL := Lib.hid hL
  clear e1 e2 e3 hL
  have key : ∀ r : (Int × Int × Int × Int) × Int, dec n = r → Calls Tryz.prog 72 #[.int .u32 n] w (fun e w' => e = .returned (.tuple #[.agg #[.int .i64 r.1.1, .int .i64 r.1.2.1, .int .i64 r.1.2.2.1, .int .i64 r.1.2.2.2], .int .i64 r.2]) ∧ Below w.heap.size w w') →
      Calls Tryz.prog 72 #[.int .u32 n] w fun e w' => e = .returned (.tuple #[.agg #[.int .i64 (dec n).1.1, .int .i64 (dec n).1.2.1, .int .i64 (dec n).1.2.2.1, .int .i64 (dec n).1.2.2.2], .int .i64 (dec n).2]) ∧ Below w.heap.size w w' := fun r h => by rw [h]; exact id
  have HE := fun W (hW : Laid W) => encode_any (n / 16777216) (n / 1048576 % 16) (n / 65536 % 16) (i16 n) W hW
  by_cases hz : (enc (n / 16777216) (n / 1048576 % 16) (n / 65536 % 16) (i16 n)).2 = 0
  · refine key ((n / 16777216, n / 1048576 % 16, n / 65536 % 16, i16 n), 0) (by unfold dec; simp only [hz, if_true]) ?_
    clear key
    rw [hz] at HE
    have HE' := Lib.hid HE
    generalize (enc (n / 16777216) (n / 1048576 % 16) (n / 65536 % 16) (i16 n)).1 = x at HE'
    clear hz HE
    go_enter Tryz.func72, Tryz.ntmps72
    go_wp2_with fail
    rw [E1.out, E2.out, E3.out]
    refine (HE'.out _ (HL.out.below (by go_grown))).mono ?_
    rintro e w2 ⟨rfl, hb2⟩
    obtain ⟨hc2, hf2⟩ := bcell hb2
    have hs1 : w.heap.size < w2.heap.size := by have := hb2.size; simp at this; omega
    have hs2 : w.heap.size + 1 < w2.heap.size := by have := hb2.size; simp at this; omega
    have k0 : w2.cell? ⟨w.heap.size, 0, none⟩ = some (.int .i64 0) := by rw [hc2 _ _ (by simp; omega)]; simp
    have k1 : w2.cell? ⟨w.heap.size, 1, none⟩ = some (.int .i64 0) := by rw [hc2 _ _ (by simp; omega)]; simp
    have k2 : w2.cell? ⟨w.heap.size, 2, none⟩ = some (.int .i64 0) := by rw [hc2 _ _ (by simp; omega)]; simp
    have k3 : w2.cell? ⟨w.heap.size, 3, none⟩ = some (.int .i64 0) := by rw [hc2 _ _ (by simp; omega)]; simp
    go_wp2
    refine bodyPost_ret (v := .tuple #[.agg #[.int .i64 (n / 16777216), .int .i64 (n / 1048576 % 16), .int .i64 (n / 65536 % 16), .int .i64 (i16 n)], .int .i64 0]) (by simp [results, Tryz.results72, go_sem, k0, k1, k2, k3]) rfl ⟨rfl, ?_⟩
    have hb3 : Below w.heap.size w w2 := Below.trans (b := (w.alloc (.cells #[.int .i64 0, .int .i64 0, .int .i64 0, .int .i64 0] 99)).alloc (.cells #[.int .i64 (n / 16777216), .int .i64 (n / 1048576 % 16), .int .i64 (n / 65536 % 16), .int .i64 (i16 n)] 99)) (by go_grown) (hb2.mono (by simp; omega))
    go_grown
  · refine key ((0, 0, 0, 0), (enc (n / 16777216) (n / 1048576 % 16) (n / 65536 % 16) (i16 n)).2) (by unfold dec; simp only [hz, if_false]) ?_
    clear key
    have HE' := Lib.hid HE
    generalize (enc (n / 16777216) (n / 1048576 % 16) (n / 65536 % 16) (i16 n)) = x at HE' hz
    obtain ⟨x, z⟩ := x
    simp only [] at HE' hz ⊢
    have hz' : (z != 0) = true := by simpa using hz
    have hz2 : (z == 0) = false := by simpa using hz
    clear hz HE
    go_enter Tryz.func72, Tryz.ntmps72
    go_wp2_with fail
    rw [E1.out, E2.out, E3.out]
    refine (HE'.out _ (HL.out.below (by go_grown))).mono ?_
    rintro e w2 ⟨rfl, hb2⟩
    obtain ⟨hc2, hf2⟩ := bcell hb2
    have hs1 : w.heap.size < w2.heap.size := by have := hb2.size; simp at this; omega
    have hs2 : w.heap.size + 1 < w2.heap.size := by have := hb2.size; simp at this; omega
    have k0 : w2.cell? ⟨w.heap.size, 0, none⟩ = some (.int .i64 0) := by rw [hc2 _ _ (by simp; omega)]; simp
    have k1 : w2.cell? ⟨w.heap.size, 1, none⟩ = some (.int .i64 0) := by rw [hc2 _ _ (by simp; omega)]; simp
    have k2 : w2.cell? ⟨w.heap.size, 2, none⟩ = some (.int .i64 0) := by rw [hc2 _ _ (by simp; omega)]; simp
    have k3 : w2.cell? ⟨w.heap.size, 3, none⟩ = some (.int .i64 0) := by rw [hc2 _ _ (by simp; omega)]; simp
    go_wp2
    refine bodyPost_ret (v := .tuple #[.agg #[.int .i64 0, .int .i64 0, .int .i64 0, .int .i64 0], .int .i64 z]) (by simp [results, Tryz.results72, go_sem, k0, k1, k2, k3]) rfl ⟨rfl, ?_⟩
    have hb3 : Below w.heap.size w w2 := Below.trans (b := (w.alloc (.cells #[.int .i64 0, .int .i64 0, .int .i64 0, .int .i64 0] 99)).alloc (.cells #[.int .i64 (n / 16777216), .int .i64 (n / 1048576 % 16), .int .i64 (n / 65536 % 16), .int .i64 (i16 n)] 99)) (by go_grown) (hb2.mono (by simp; omega))
    go_grown

end Go.Proofs.YtlhgfhmdhmgmpaaGreatDoor
