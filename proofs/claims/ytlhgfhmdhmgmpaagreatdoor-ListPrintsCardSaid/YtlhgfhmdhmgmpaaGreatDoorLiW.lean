/- list.words: walked. -/
import Derived.Test.YtlhgfhmdhmgmpaaGreatDoorLiC
import Derived.Lib.OthersKept
import Derived.Lib.TrimU
import Derived.Lib.FieldsU
set_option linter.unusedVariables false
set_option linter.unusedSimpArgs false
namespace Go.Proofs.YtlhgfhmdhmgmpaaGreatDoor
open Go.RowKit Go.Proofs.YtlhgfhmdhmgmpaaGreatDoorW.PrintWords Go.Joins Go.Maps

def gb (s : ByteArray) (i : Nat) : Nat := (s.get! i).toNat

theorem decodeN_far (n b0 b1 b2 b3 : Nat) (h : 128 ≤ b0) : 128 ≤ (Lib.decodeN n b0 b1 b2 b3).1 ∧ ((2 ≤ (Lib.decodeN n b0 b1 b2 b3).2 → 128 ≤ b1) ∧ (3 ≤ (Lib.decodeN n b0 b1 b2 b3).2 → 128 ≤ b2) ∧ (4 ≤ (Lib.decodeN n b0 b1 b2 b3).2 → 128 ≤ b3)) ∧ (Lib.decodeN n b0 b1 b2 b3).2 ≤ 4 := by
  unfold Lib.decodeN
  rw [if_neg (by omega)]
  split
  · split <;> (simp only; omega)
  · split
    · split <;> (simp only; omega)
    · split
      · split <;> (simp only; omega)
      · simp only; omega

/-- A rune at a place: a byte below 128 alone; or bytes from 128 on. -/
theorem dec_cases (s : ByteArray) (pos : Nat) : (gb s pos < 128 ∧ Utf8.decode s pos = (gb s pos, 1)) ∨ (128 ≤ (Utf8.decode s pos).1 ∧ ∀ i, pos ≤ i → i < pos + (Utf8.decode s pos).2 → 128 ≤ gb s i) := by
  by_cases h : gb s pos < 128
  · left
    refine ⟨h, ?_⟩
    rw [Lib.decode_at]
    unfold Lib.decodeN gb
    unfold gb at h
    rw [if_pos h]
  · right
    have := decodeN_far (s.size - pos) (gb s pos) (gb s (pos + 1)) (gb s (pos + 2)) (gb s (pos + 3)) (by omega)
    rw [Lib.decode_at]
    unfold gb at this h ⊢
    refine ⟨this.1, fun i h1 h2 => ?_⟩
    obtain ⟨d, rfl⟩ : ∃ d, i = pos + d := ⟨i - pos, by omega⟩
    have h4 := this.2.2
    have h3 := this.2.1
    match d with
    | 0 => simpa using Nat.le_of_not_lt h
    | 1 => exact h3.1 (by omega)
    | 2 => exact h3.2.1 (by omega)
    | 3 => exact h3.2.2 (by omega)
    | (d + 4) => omega

/-- The first place of a ';', or behind the end. -/
def semiFrom (s : ByteArray) : Nat → Nat → Nat
  | 0, i => i
  | f + 1, i => if gb s i = 59 then i else semiFrom s f (i + 1)
def semi (s : ByteArray) : Nat := semiFrom s s.size 0
def cutR (s : ByteArray) : ByteArray := s.extract 0 (semi s)
def sepR (r : Nat) : Bool := decide (r = 32) || decide (r = 9)
def wordsR (s : ByteArray) : List ByteArray := Lib.goFieldsP sepR (cutR s)

theorem semiFrom_skip (s : ByteArray) : ∀ (d f i : Nat), (∀ j, i ≤ j → j < i + d → gb s j ≠ 59) → semiFrom s (f + d) i = semiFrom s f (i + d)
  | 0, f, i, _ => rfl
  | d + 1, f, i, h => by
    rw [show f + (d + 1) = (f + d) + 1 by omega, semiFrom, if_neg (h i (by omega) (by omega)), semiFrom_skip s d f (i + 1) (fun j h1 h2 => h j (by omega) (by omega)), show i + 1 + d = i + (d + 1) by omega]

theorem semi_at {s : ByteArray} {pos : Nat} (hp : pos < s.size) (h : ∀ j, j < pos → gb s j ≠ 59) (hx : gb s pos = 59) : semi s = pos := by
  unfold semi
  have := semiFrom_skip s pos (s.size - pos) 0 (fun j _ h2 => h j (by omega))
  rw [show s.size - pos + pos = s.size by omega, Nat.zero_add] at this
  rw [this]
  obtain ⟨f, hf⟩ : ∃ f, s.size - pos = f + 1 := ⟨s.size - pos - 1, by omega⟩
  rw [hf, semiFrom, if_pos hx]

theorem semi_none {s : ByteArray} (h : ∀ j, j < s.size → gb s j ≠ 59) : semi s = s.size := by
  unfold semi
  have := semiFrom_skip s s.size 0 0 (fun j _ h2 => h j (by omega))
  rw [Nat.zero_add] at this
  rw [this]; simp [semiFrom]

theorem sep_any (x : Nat) (w : World) : Calls Tryz.prog 59 #[.int .i32 x] w fun e w' => e = .returned (.bool (sepR x)) ∧ w = w' := by
  unfold sepR
  by_cases h0 : x = 32
  · have d0 : ((x : Int) == 32) = true := by rw [h0]; rfl
    rw [decide_eq_true h0]
    clear h0
    go_enter Tryz.func59, Tryz.ntmps59
    go_wp2
    go_ret
    exact ⟨rfl, rfl⟩
  · have d0 : ((x : Int) == 32) = false := beq_eq_false_iff_ne.mpr (by omega)
    rw [decide_eq_false h0]
    clear h0
    by_cases h1 : x = 9
    · have d1 : ((x : Int) == 9) = true := by rw [h1]; rfl
      rw [decide_eq_true h1]
      clear h1
      go_enter Tryz.func59, Tryz.ntmps59
      go_wp2
      go_ret
      exact ⟨rfl, rfl⟩
    · have d1 : ((x : Int) == 9) = false := beq_eq_false_iff_ne.mpr (by omega)
      rw [decide_eq_false h1]
      clear h1
      go_enter Tryz.func59, Tryz.ntmps59
      go_wp2
      go_ret
      exact ⟨rfl, rfl⟩

theorem fields_sep (s : ByteArray) (w : World) (hs : s.size ≤ 4294967296) :
    Calls Tryz.prog 58 #[.string s, .func (.func 59) #[] #[]] w fun e w' => ∃ A, e = .returned (.slice (some ⟨A, 0, none⟩) (Lib.goFieldsP sepR s).length (Lib.goFieldsP sepR s).length) ∧ w.heap.size ≤ A ∧
      OwnS w' w.heap.size (.slice (some ⟨A, 0, none⟩) (Lib.goFieldsP sepR s).length (Lib.goFieldsP sepR s).length) (Lib.goFieldsP sepR s) ∧ Below w.heap.size w w' :=
  Tryz.strings_FieldsFunc_runes 59 #[] (enters_of Tryz.func59 (by kernel_rfl) rfl) sepR s w hs (fun W x hx hb => by
    show Calls _ _ (#[encR x] ++ #[]) W _
    rw [Array.append_empty]
    exact (sep_any x W).mono fun e w' ⟨h1, h2⟩ => ⟨h1, 0, by rw [← h2]; rfl⟩)

theorem own_base {w : World} {B B' e size n : Nat} {v : Value} {xs : List Value} (h : w.ownsRow B e size v n xs) (hb : B' ≤ B) : w.ownsRow B' e size v n xs := by
  refine ⟨h.1, ?_⟩
  rcases h.2 with h0 | ⟨g, cap, cur, hv, hg0, rest⟩
  · exact .inl h0
  · exact .inr ⟨g, cap, cur, hv, Nat.le_trans hb hg0, rest⟩

theorem extract_all (s : ByteArray) : s.extract 0 s.size = s := by
  apply ByteArray.ext
  simp

set_option maxHeartbeats 4000000 in
set_option maxRecDepth 100000 in
theorem words_any (s : ByteArray) (w : World) (hs : s.size ≤ 4294967296) :
    Calls Tryz.prog 28 #[.string s] w fun e w' => ∃ A, e = .returned (.slice (some ⟨A, 0, none⟩) (wordsR s).length (wordsR s).length) ∧ w.heap.size ≤ A ∧
      OwnS w' w.heap.size (.slice (some ⟨A, 0, none⟩) (wordsR s).length (wordsR s).length) (wordsR s) ∧ Below w.heap.size w w' := by
  have HF := Lib.hid (fun W => fields_sep (cutR s) W (by
    have : (cutR s).size ≤ s.size := by
      unfold cutR
      simp only [ByteArray.size_extract]
      omega
    omega))
  go_enter Tryz.func28, Tryz.ntmps28
  go_wp2_with fail
  have hb0 : Below w.heap.size w (w.alloc (.stringIter s 0)) := (Below.refl _ _).alloc (Nat.le_refl _) _
  go_loopw [0] (fun v wr => ∃ pos : Nat, v = .string s ∧ Hid (wr.heap[w.heap.size]? = some (.stringIter s pos)) ∧ Hid (∀ j, j < pos → gb s j ≠ 59) ∧ Hid (Below w.heap.size w wr) ∧ pos ≤ s.size) (fun _ wr => s.size - wr.iterPos w.heap.size)
  case atStart => exact ⟨0, rfl, Lib.hid (World.iter_heap w s 0), Lib.hid (fun j hj => absurd hj (Nat.not_lt_zero _)), Lib.hid hb0, Nat.zero_le _⟩
  case round =>
    obtain ⟨pos, rfl, hit, hno, hB, hle⟩ := hrel
    have hpos0 : wr.iterPos w.heap.size = pos := by simp [World.iterPos, hit.out]
    have HP0 := Lib.hid hpos0
    clear hb0 hpos0
    by_cases hp : pos < s.size
    · have hnx : ∀ ty, (Instr.next (.pointer (some ⟨w.heap.size, 0, none⟩)) true ty).run Tryz.prog wr = _ := fun ty => Lib.run_next_any_at wr w.heap.size s pos ty hit.out hp
      have hdc := dec_cases s pos
      have hwn : pos + (Utf8.decode s pos).2 ≤ s.size := by
        have := Lib.decodeN_le_n' (s.size - pos) (s.get! pos).toNat (s.get! (pos + 1)).toNat (s.get! (pos + 2)).toNat (s.get! (pos + 3)).toNat (by omega)
        rw [← Lib.decode_at] at this
        omega
      have hwd := Lib.width_pos s pos
      obtain ⟨R, hR⟩ : ∃ R, (Utf8.decode s pos).1 = R := ⟨_, rfl⟩
      obtain ⟨K, hK⟩ : ∃ K, (Utf8.decode s pos).2 = K := ⟨_, rfl⟩
      have hd2 : Utf8.decode s pos = (R, K) := by rw [← hR, ← hK]
      rw [hd2] at hdc hwn hwd
      simp only at hdc hwn hwd
      rw [hR, hK] at hnx
      have hit2 := Lib.iterAt_heap wr w.heap.size s pos (pos + K) hit.out
      have hbw2 := Lib.below_iterAt hB.out (k := w.heap.size) (Nat.le_refl _) s (pos + K)
      obtain ⟨W1, hW1⟩ : ∃ W1, W1 = wr.iterAt w.heap.size s (pos + K) := ⟨_, rfl⟩
      rw [← hW1] at hnx hit2 hbw2
      have HIT := Lib.hid hit2
      have HBW := Lib.hid hbw2
      have HDC := Lib.hid hdc
      clear hW1 hit2 hbw2 hdc hd2 hR hK hit hB
      have hp0 : (0 : Int) ≤ (pos : Int) := Int.natCast_nonneg _
      by_cases h59 : R = 59
      · have hsm : semi s = pos := semi_at hp hno.out (by
          rcases HDC.out with ⟨_, h⟩ | ⟨h, _⟩
          · cases h; exact h59
          · omega)
        have d0 : ((R : Int) == 59) = true := by rw [h59]; rfl
        have hsl : (pos : Int) ≤ (s.size : Int) := by omega
        have HE := Lib.hid (show s.extract 0 pos = cutR s by unfold cutR; rw [hsm])
        clear h59 hsm
        have HFF := Lib.hid (HF.out W1)
        rw [← HE.out] at HFF
        have HWR := Lib.hid (show wordsR s = Lib.goFieldsP sepR (s.extract 0 pos) by unfold wordsR; rw [HE.out])
        go_wp2_with fail
        refine HFF.out.mono ?_
        rw [← HWR.out]
        rintro e w5 ⟨A, rfl, hA, hO, hb5⟩
        have HW := Lib.hid (HBW.out.size)
        have HA := Lib.hid hA
        have HO := Lib.hid (own_base hO HW.out)
        have HB5 := Lib.hid (bj HBW.out hb5)
        clear hA hO hb5
        go_wp2_with fail
        go_ret
        exact ⟨A, rfl, Nat.le_trans HW.out HA.out, HO.out, HB5.out⟩
      · have d0 : ((R : Int) == 59) = false := beq_eq_false_iff_ne.mpr (by omega)
        have HN := Lib.hid (show ∀ j, j < pos + K → gb s j ≠ 59 from fun j hj => by
          rcases Nat.lt_or_ge j pos with h | h
          · exact hno.out j h
          · rcases HDC.out with ⟨h1, h2⟩ | ⟨_, h2⟩
            · cases h2
              rw [show j = pos by omega]; exact h59
            · have := h2 j h hj; omega)
        clear h59
        go_wp2_with fail
        go_roundw
        case rel => exact ⟨pos + K, rfl, HIT, HN, HBW, hwn⟩
        case measure =>
          have e1 : W1.iterPos w.heap.size = pos + K := by simp [World.iterPos, HIT.out]
          rw [e1, HP0.out]; omega
    · have hnx : ∀ ty, (Instr.next (.pointer (some ⟨w.heap.size, 0, none⟩)) true ty).run Tryz.prog wr = _ := fun ty => Lib.run_next_end_at wr w.heap.size s pos ty hit.out hp
      have hsm : semi s = s.size := semi_none (fun j hj => hno.out j (by omega))
      have HE := Lib.hid (show cutR s = s by unfold cutR; rw [hsm]; exact extract_all s)
      clear hsm
      have HFF := Lib.hid (HF.out wr)
      rw [HE.out] at HFF
      have HWR := Lib.hid (show wordsR s = Lib.goFieldsP sepR s by unfold wordsR; rw [HE.out])
      go_wp2_with fail
      refine HFF.out.mono ?_
      rw [← HWR.out]
      rintro e w5 ⟨A, rfl, hA, hO, hb5⟩
      have HW := Lib.hid (hB.out.size)
      have HA := Lib.hid hA
      have HO := Lib.hid (own_base hO HW.out)
      have HB5 := Lib.hid (bj hB.out hb5)
      clear hA hO hb5
      go_wp2_with fail
      go_ret
      exact ⟨A, rfl, Nat.le_trans HW.out HA.out, HO.out, HB5.out⟩


end Go.Proofs.YtlhgfhmdhmgmpaaGreatDoor
