/- Texts joined: Sh2 LsA LsB LsC LsG LsH. -/
import Derived.Shelf.Strings.Builder1
import Derived.Shelf.Strings.Builder2
import Derived.Shelf.Strings.OnBuilder
import Derived.Shelf.Small.Wraps
import Derived.Shelf.Strings.BuilderF
import Derived.Shelf.Strconv.Atoi
import Derived.Shelf.Strconv.Itoa0
import Derived.Shelf.Strconv.Itoa1
import Derived.Shelf.LaysM
import Derived.Shelf.Strconv.Itoa2
import Derived.Shelf.Strconv.Itoa3
import Derived.Shelf.Strconv.AtoiErrFast
import Derived.Shelf.Strconv.ParseIntEmpty
import Derived.Shelf.Strconv.AtoiFail
import Derived.Shelf.Strconv.Clone
import Derived.Shelf.Strconv.SyntaxError
import Derived.Shelf.LaysC
import Derived.Shelf.Strconv.ToError
import Derived.Shelf.Strconv.Lower
import Derived.Shelf.Strconv.ParseUint10
import Derived.Shelf.Strconv.ParseUint10Empty
import Derived.Shelf.Strconv.ParseUint10Any
import Derived.Shelf.Strconv.ParseInt10
import Derived.Shelf.Strconv.AtoiLong
import Derived.Shelf.Strconv.AtoiInnerAll
import Derived.Shelf.Strconv.RangeError
import Derived.Shelf.Strconv.ToErrorRange
import Derived.Shelf.Strconv.AtoiAll
import Derived.Shelf.Strconv.ErrVarAll
import Derived.Shelf.Strings.Search1
import Derived.Shelf.Strings.Search2
import Derived.Shelf.Strings.Cut
import Derived.Shelf.Strings.Shaped
import Derived.Shelf.Strings.Prefix
import Derived.Shelf.Strings.Fields
import Derived.Shelf.Strings.SplitShaped
import Derived.Shelf.Unicode.Latin
import Derived.Shelf.Bits.Mul64
import Derived.Shelf.Strings.Repeat
import Derived.Shelf.Unicode.Is16White
import Derived.Shelf.Unicode.IsSpaceAny
import Derived.Shelf.Strings.FieldsFuncAny
import Derived.Shelf.Unicode.Is16Any
import Derived.Shelf.Unicode.Is32Any
import Derived.Shelf.Unicode.ExclAny
import Derived.Shelf.Slices.Turned
import Derived.Test.YtlhgfhmdhmgmpaaGreatDoorProg
import Derived.Test.YtlhgfhmdhmgmpaaGreatDoorLiAZ
import Derived.Test.YtlhgfhmdhmgmpaaGreatDoorEncZ
import Derived.Lib.ConvBytes
import Derived.Deep.RegionLaw
import Derived.Deep.RegionHeld3
namespace Go.Proofs
open Go.Shelf
def Tryz.lays99_ren : Go.Shelf.Ren := ⟨fun | 99 => 75 | 206 => 108 | n => n, fun | 9 => 9 | 4 => 4 | 3 => 3 | n => n, fun | n => n⟩
theorem Tryz.lays99 : Go.Proofs.Lays.n99 Tryz.prog Tryz.lays99_ren := {
  mixed := by kernel_rfl
  f99 := Tryz.func75.trans (congrArg some (by kernel_rfl))
  f206 := Tryz.func108.trans (congrArg some (by kernel_rfl))
  t3 := Tryz.underlying3
  a3 := Tryz.isAgg3
  z3 := Tryz.sizeOf3
  v3 := Tryz.zeroValue3
  t4 := Tryz.underlying4
  a4 := Tryz.isAgg4
  z4 := Tryz.sizeOf4
  v4 := Tryz.zeroValue4
  t9 := Tryz.underlying9
  a9 := Tryz.isAgg9
  z9 := Tryz.sizeOf9
  v9 := Tryz.zeroValue9 }
open Go.RowKit Go.Lib in
/-- strings.HasPrefix: "HasPrefix reports whether the string s begins with prefix.": IT RETURNS 'Lib.hasPrefix s prefix'; the world is as it was. (LAID: no walk: one application.) -/
theorem Tryz.strings_HasPrefix (s p : ByteArray) (w : World) :
    Calls Tryz.prog 75 #[.string s, .string p] w fun e w' => e = .returned (.bool (Lib.hasPrefix s.data.toList p.data.toList)) ∧ w' = w := Any.strings_HasPrefix Tryz.lays99 s p w
def Tryz.lays212_ren : Go.Shelf.Ren := ⟨fun | 212 => 74 | 263 => 106 | 264 => 107 | n => n, fun | 46 => 122 | 51 => 47 | 146 => 153 | 53 => 70 | 148 => 155 | n => n, fun | n => n⟩
theorem Tryz.lays212 : Go.Proofs.Lays.n212 Tryz.prog Tryz.lays212_ren := {
  mixed := by kernel_rfl
  f212 := Tryz.func74.trans (congrArg some (by kernel_rfl))
  f263 := Tryz.func106.trans (congrArg some (by kernel_rfl))
  f264 := Tryz.func107.trans (congrArg some (by kernel_rfl))
  t46 := Tryz.underlying122
  a46 := Tryz.isAgg122
  z46 := Tryz.sizeOf122
  v46 := Tryz.zeroValue122
  t51 := Tryz.underlying47
  a51 := Tryz.isAgg47
  z51 := Tryz.sizeOf47
  v51 := Tryz.zeroValue47
  t53 := Tryz.underlying70
  a53 := Tryz.isAgg70
  z53 := Tryz.sizeOf70
  v53 := Tryz.zeroValue70
  t146 := Tryz.underlying153
  a146 := Tryz.isAgg153
  z146 := Tryz.sizeOf153
  v146 := Tryz.zeroValue153
  t148 := Tryz.underlying155
  a148 := Tryz.isAgg155
  z148 := Tryz.sizeOf155
  v148 := Tryz.zeroValue155 }
open Go.RowKit Go.Lib in
/-- math/bits.Mul: "Mul returns the full-width product of x and y": on a machine of 64 bits: Mul64's. (LAID: no walk: one application.) -/
theorem Tryz.bits_Mul (x y : Nat) (hx : x < 18446744073709551616) (hy : y < 18446744073709551616) (w : World) :
    Calls Tryz.prog 74 #[.int .u64 x, .int .u64 y] w fun e w' => e = .returned (.tuple #[.int .u64 ((x * y / 18446744073709551616 : Nat) : Int), .int .u64 ((x * y % 18446744073709551616 : Nat) : Int)]) ∧ w' = w := Any.bits_Mul Tryz.lays212 x y hx hy w
end Go.Proofs

set_option linter.unusedVariables false
set_option linter.unusedSimpArgs false
namespace Go.Proofs.YtlhgfhmdhmgmpaaGreatDoor
open Go.RowKit Go.Proofs.YtlhgfhmdhmgmpaaGreatDoorW.PrintWords Go.Joins Go.Maps

/-- What of the library's table is read: its row for 16. -/
def DB (w : World) : Prop := w.cell? ⟨6, 15, none⟩ = some (.int .u8 4)

theorem DB.below {w w' : World} (h : DB w) (hb : Below w.heap.size w w') : DB w' := kp hb h

theorem tz64_16 (w : World) (hd : DB w) : Calls Tryz.prog 136 #[.int .u64 16] w fun e w' => e = .returned (.int .i64 4) ∧ w = w' := by
  have hd' : w.cell? ⟨6, 15, none⟩ = some (.int .u8 4) := hd
  clear hd
  have hix : IntKind.u64.wrap (bits BinOp.and IntKind.u64 16 (IntKind.u64.wrap (-16)) * 285870213051353865) / 288230376151711744 = 15 := by decide +kernel
  go_enter Tryz.func136, Tryz.ntmps136
  go_wp2
  go_ret
  exact ⟨rfl, rfl⟩

theorem tz_16 (w : World) (hd : DB w) : Calls Tryz.prog 127 #[.int .u64 16] w fun e w' => e = .returned (.int .i64 4) ∧ w = w' := by
  have HT := Lib.hid (tz64_16 w hd)
  clear hd
  go_enter Tryz.func127, Tryz.ntmps127
  go_wp2_with (go_at_call 136; refine HT.out.mono ?_; rintro e w' ⟨rfl, rfl⟩)
  go_ret
  exact ⟨rfl, rfl⟩

theorem pow2_16 (w : World) : Calls Tryz.prog 126 #[.int .i64 16] w fun e w' => e = .returned (.bool true) ∧ w = w' := by
  go_enter Tryz.func126, Tryz.ntmps126
  go_wp2
  go_ret
  exact ⟨rfl, rfl⟩

/-! ### digits of base 16 -/
def hexC (d : Nat) : UInt8 := if d < 10 then UInt8.ofNat (48 + d) else UInt8.ofNat (87 + d)

def hexL (n : Nat) : List UInt8 := if h : n < 16 then [hexC n] else hexL (n / 16) ++ [hexC (n % 16)]
termination_by n
decreasing_by omega

theorem hexL_small {n : Nat} (h : n < 16) : hexL n = [hexC n] := by rw [hexL, dif_pos h]
theorem hexL_step {n : Nat} (h : 16 ≤ n) : hexL n = hexL (n / 16) ++ [hexC (n % 16)] := by rw [hexL, dif_neg (by omega)]

theorem hexL_len : ∀ (k n : Nat), n < 16 ^ (k + 1) → (hexL n).length ≤ k + 1
  | 0, n, h => by rw [hexL_small (by simpa using h)]; simp
  | k + 1, n, h => by
    by_cases hn : n < 16
    · rw [hexL_small hn]; simp
    · rw [hexL_step (by omega), List.length_append]
      have := hexL_len k (n / 16) (by rw [Nat.pow_succ] at h; omega)
      simp only [List.length_cons, List.length_nil]
      omega

theorem hexL_pos (n : Nat) : 1 ≤ (hexL n).length := by
  by_cases hn : n < 16
  · rw [hexL_small hn]; simp
  · rw [hexL_step (by omega), List.length_append]; simp

/-- The last k digits. -/
def digs : Nat → Nat → List UInt8
  | 0, _ => []
  | k + 1, n => digs k (n / 16) ++ [hexC (n % 16)]

theorem digs_zero : ∀ k, digs k 0 = List.replicate k 48
  | 0 => rfl
  | k + 1 => by
    rw [digs, digs_zero k, List.replicate_succ']
    rfl

theorem digs_hexL : ∀ (k n : Nat), n < 16 ^ (k + 1) → List.replicate (k + 1 - (hexL n).length) 48 ++ hexL n = digs (k + 1) n
  | 0, n, h => by
    rw [hexL_small (by simpa using h)]
    have : n % 16 = n := Nat.mod_eq_of_lt (by simpa using h)
    simp [digs, this]
  | k + 1, n, h => by
    by_cases hn : n < 16
    · rw [hexL_small hn, digs, show n / 16 = 0 by omega, digs_zero, Nat.mod_eq_of_lt hn]
      simp
    · have h2 : n / 16 < 16 ^ (k + 1) := by rw [Nat.pow_succ] at h; omega
      rw [hexL_step (by omega), digs, ← digs_hexL k (n / 16) h2, ← List.append_assoc, List.length_append]
      congr 3
      simp only [List.length_cons, List.length_nil]
      omega

theorem and15u (x : Int) (h0 : 0 ≤ x) (h1 : x < 4294967296) : bits BinOp.and IntKind.u64 x 15 = x % 16 :=
  bits_mask .u64 64 (by decide) (fun y hy hz => IntWalk.u64_in y ⟨hy, Int.le_of_lt_add_one (by simpa using hz)⟩) 4 (by decide) x h0 (Int.lt_of_lt_of_le h1 (by decide))

abbrev digitsS : ByteArray := ⟨#[48, 49, 50, 51, 52, 53, 54, 55, 56, 57, 97, 98, 99, 100, 101, 102, 103, 104, 105, 106, 107, 108, 109, 110, 111, 112, 113, 114, 115, 116, 117, 118, 119, 120, 121, 122]⟩

theorem digit_at (d : Nat) (hd : d < 16) (h : d < digitsS.size) : digitsS[d] = hexC d := by
  have : ∀ d, d < 16 → ∀ h : d < digitsS.size, digitsS[d] = hexC d := by decide +kernel
  exact this d hd h

set_option maxRecDepth 100000 in
set_option maxHeartbeats 4000000 in
theorem fmtBits16 (u : Nat) (hu : u < 4294967296) (w : World) (hd : DB w) :
    Calls Tryz.prog 105 #[.slice none 0 0, .int .u64 u, .int .i64 16, .bool false, .bool false] w fun e w' => e = .returned (.tuple #[.slice none 0 0, .string ⟨(hexL u).toArray⟩]) ∧ Below w.heap.size w w' := by
  have HD := Lib.hid hd
  clear hd
  go_enter Tryz.func105, Tryz.ntmps105
  go_wp2_with (first
    | (go_at_call 126; refine (pow2_16 _).mono ?_; rintro e w' ⟨rfl, rfl⟩)
    | (go_at_call 127; refine (tz_16 _ (HD.out.below ((Below.refl _ _).alloc (Nat.le_refl _) _))).mono ?_; rintro e w' ⟨rfl, rfl⟩))
  obtain ⟨W0, hW0⟩ : ∃ W0, W0 = w.alloc (.cells Tryz.zeroCells164 164) := ⟨_, rfl⟩
  rw [← hW0]
  have hB0 : Below w.heap.size w W0 := by rw [hW0]; exact (Below.refl _ _).alloc (Nat.le_refl _) _
  have hg0 : W0.heap[w.heap.size]? = some (.cells Tryz.zeroCells164 164 (0, 0)) := by rw [hW0]; exact heap_alloc_new w _
  have HB0 := Lib.hid hB0
  have HG0 := Lib.hid hg0
  have HU := Lib.hid (hexL_len 7 u (by simpa using hu))
  clear hW0 hB0 hg0
  go_loopw [1, 13] (fun s1 s13 wr => ∃ (v i : Nat) (L : List UInt8) (arr : Array Value), s1 = .int .u64 v ∧ s13 = .int .i64 i ∧ v ≤ u ∧ i + L.length = 65 ∧ Hid (hexL u = hexL v ++ L) ∧ Hid (wr.heap[w.heap.size]? = some (.cells arr 164 (0, 0)) ∧ arr.size = 65 ∧ arr.toList.drop i = L.map (fun b => Value.int .u8 (b.toNat : Int))) ∧ Hid (Below w.heap.size w wr)) (fun s _ _ => (intOf s).toNat)
  case atStart => exact ⟨u, 65, [], _, rfl, rfl, Nat.le_refl _, rfl, Lib.hid (by simp), Lib.hid ⟨HG0.out, rfl, rfl⟩, HB0⟩
  case round =>
    obtain ⟨v, i, L, arr, rfl, rfl, hv, hi, hh, hblk, hB⟩ := hrel
    have hle : L.length + 1 ≤ 8 := by have := HU.out; rw [hh.out, List.length_append] at this; have := hexL_pos v; omega
    obtain ⟨k, rfl⟩ : ∃ k, i = k + 1 := ⟨i - 1, by omega⟩
    have hkw : IntKind.i64.wrap ((k : Int) + 1 - 1) = (k : Int) := by rw [show (k : Int) + 1 - 1 = k by omega]; exact IntWalk.i64_in _ (by omega)
    have hk0 : (0 : Int) ≤ (k : Int) := Int.natCast_nonneg _
    have hk1 : (k : Int) < 65 := by omega
    have hv0 : (0 : Int) ≤ (v : Int) := Int.natCast_nonneg _
    have hc : wr.cell? ⟨w.heap.size, k, none⟩ = some (arr[k]'(by rw [hblk.out.2.1]; omega)) := by rw [cell_of_block hblk.out.1]; exact Array.getElem?_eq_getElem _
    have hf : wr.frozen? ⟨w.heap.size, k, none⟩ = false := unfrozen_of_block hblk.out.1 k
    have HST := Lib.hid (show ∀ d, d < 16 → ∀ h : d < digitsS.size, (wr.setCell ⟨w.heap.size, k, none⟩ (.int .u8 (digitsS[d].toNat : Int))).heap[w.heap.size]? = some (.cells (arr.setIfInBounds k (.int .u8 (digitsS[d].toNat : Int))) 164 (0, 0)) ∧ (arr.setIfInBounds k (.int .u8 (digitsS[d].toNat : Int))).size = 65 ∧ (arr.setIfInBounds k (.int .u8 (digitsS[d].toNat : Int))).toList.drop k = (hexC d :: L).map (fun b => Value.int .u8 (b.toNat : Int)) from fun d hd h => by
      refine ⟨block_setCell hblk.out.1 _, by rw [Array.size_setIfInBounds]; exact hblk.out.2.1, ?_⟩
      have hkl : k < arr.toList.length := by rw [Array.length_toList, hblk.out.2.1]; omega
      rw [Array.toList_setIfInBounds, List.drop_eq_getElem_cons (by rw [List.length_set]; exact hkl), List.getElem_set_self, List.drop_set_of_lt (by omega), hblk.out.2.2, digit_at d hd h]
      rfl)
    by_cases hlt : 16 ≤ v
    · have hd : decide ((16 : Int) ≤ (v : Int)) = true := decide_eq_true (by omega)
      have hand := and15u v (by omega) (by omega)
      go_wp2_with fail
      go_roundw
      case rel => exact ⟨v / 16, k, hexC (v % 16) :: L, _, by go_num, rfl, by omega, by rw [List.length_cons]; omega, Lib.hid (by rw [hh.out, hexL_step hlt, List.append_assoc]; rfl), Lib.hid (HST.out (v % 16) (by omega) _), Lib.hid (hB.out.setCell (Nat.le_refl _) _)⟩
      case measure => simp [intOf]; omega
    · have hd : decide ((16 : Int) ≤ (v : Int)) = false := decide_eq_false (by omega)
      have hk2 : (k : Int) ≤ 65 := by omega
      have hfin := HST.out v (by omega) (by show v < 36; omega)
      have hln : (hexC v :: L).length = 65 - k := by rw [List.length_cons]; omega
      have hcv := run_convert_bytes_back (P := Tryz.prog) (wr.setCell ⟨w.heap.size, k, none⟩ (.int .u8 (digitsS[v]'(by show v < 36; omega)).toNat)) 52 9 5 ⟨w.heap.size, k, none⟩ (65 - k) (hexC v :: L) Tryz.underlying52 Tryz.underlying5 Tryz.underlying9 (fun j hj => by
        rw [Lib.add_plain, cell_of_block hfin.1]
        have e := congrArg (fun l => l[j]?) hfin.2.2
        simp only [List.getElem?_drop, List.getElem?_map, List.getElem?_eq_getElem hj, Option.map_some] at e
        rw [← Array.getElem?_toList]
        exact e)
      rw [hln] at hcv
      have HCV := Lib.hid hcv
      have HE := Lib.hid (show hexL u = hexC v :: L by rw [hh.out, hexL_small (by omega)]; rfl)
      go_wp2_with fail
      go_ret2
      exact ⟨by rw [HE.out]; rfl, hB.out.setCell (Nat.le_refl _) _⟩

theorem fmtX (u : Nat) (hu : u < 4294967296) (w : World) (hd : DB w) :
    Calls Tryz.prog 35 #[.int .u64 u, .int .i64 16] w fun e w' => e = .returned (.string ⟨(hexL u).toArray⟩) ∧ Below w.heap.size w w' := by
  have HD := Lib.hid hd
  clear hd
  have HI := Lib.hid (show Calls Tryz.prog 73 #[.int .u64 u, .int .i64 16] w fun e w' => e = .returned (.string ⟨(hexL u).toArray⟩) ∧ Below w.heap.size w w' by
    go_enter Tryz.func73, Tryz.ntmps73
    go_wp2_with (go_at_call 105; refine (fmtBits16 u hu _ HD.out).mono ?_; rintro e w' ⟨rfl, hb⟩)
    go_ret
    exact ⟨rfl, hb⟩)
  go_enter Tryz.func35, Tryz.ntmps35
  go_wp2_with (go_at_call 73; refine HI.out.mono ?_; rintro e w' ⟨rfl, hb⟩)
  go_ret
  exact ⟨rfl, hb⟩

/-! ### strings.Repeat of "0" -/
def zeroS (n : Nat) : ByteArray := ⟨(List.replicate n 48).toArray⟩

set_option maxRecDepth 100000 in
theorem repeat_lit (m : Int) (hm : m = 2 ∨ m = 3 ∨ m = 4 ∨ m = 5 ∨ m = 6 ∨ m = 7) (w : World) :
    Calls Tryz.prog 36 #[.string ⟨#[48]⟩, .int .i64 m] w fun e w' => e = .returned (.string (zeroS m.toNat)) ∧ w = w' := by
  have HM := Lib.hid (show Calls Tryz.prog 74 #[.int .u64 1, .int .u64 m] w fun e w' => e = .returned (.tuple #[.int .u64 0, .int .u64 m]) ∧ w = w' by
    have h := Tryz.bits_Mul 1 m.toNat (by decide) (by omega) w
    rw [show ((m.toNat : Nat) : Int) = m by omega, show ((1 * m.toNat / 18446744073709551616 : Nat) : Int) = 0 by omega, show ((1 * m.toNat % 18446744073709551616 : Nat) : Int) = m by omega] at h
    exact h.mono fun e w' ⟨a, b⟩ => ⟨a, b.symm⟩)
  have HP := Lib.hid (fun (s : ByteArray) (w : World) => Tryz.strings_HasPrefix s ⟨#[48]⟩ w)
  rcases hm with rfl | rfl | rfl | rfl | rfl | rfl
  all_goals
    go_enter Tryz.func36, Tryz.ntmps36
    go_wp2_with (first
      | (go_at_call 74; refine HM.out.mono ?_; rintro e w' ⟨rfl, rfl⟩)
      | (go_at_call 75; refine (HP.out _ _).mono ?_; rintro e w' ⟨rfl, rfl⟩))
    go_ret
    exact ⟨by kernel_rfl, rfl⟩

set_option maxRecDepth 100000 in
theorem repeat0 (n : Nat) (hn : n ≤ 7) (w : World) :
    Calls Tryz.prog 36 #[.string ⟨#[48]⟩, .int .i64 n] w fun e w' => e = .returned (.string (zeroS n)) ∧ w = w' := by
  rcases n with _ | _ | n
  · go_enter Tryz.func36, Tryz.ntmps36
    go_wp2_with fail
    go_ret
    exact ⟨rfl, rfl⟩
  · go_enter Tryz.func36, Tryz.ntmps36
    go_wp2_with fail
    go_ret
    exact ⟨rfl, rfl⟩
  · exact repeat_lit ((n + 2 : Nat) : Int) (by omega) w

end Go.Proofs.YtlhgfhmdhmgmpaaGreatDoor

set_option linter.unusedVariables false
set_option linter.unusedSimpArgs false
namespace Go.Proofs.YtlhgfhmdhmgmpaaGreatDoor
open Go.RowKit Go.Proofs.YtlhgfhmdhmgmpaaGreatDoorW.PrintWords Go.Joins Go.Maps

def isRN : Part → Bool
  | .reg _ => true
  | .num => true
  | _ => false

def insL (v : Int) : Line := ⟨(dec v).1.1, (dec v).1.2.1, (dec v).1.2.2.1, (dec v).1.2.2.2, 0, 0, []⟩
def insW (v : Int) : List (List UInt8) := (opNames.getD ((dec v).1.1.toNat - 1) [] :: ((partsP (dec v).1.1).filter isRN).map (partT (insL v))) ++ (if brJ (dec v).1.1 = true then [Lib.itoa (dec v).1.2.2.2] else [])
/-- What instruction answers. -/
def insP (v : Int) : List UInt8 := if (dec v).2 = 0 then Lib.join (insW v) [32] else [63]

theorem bd_okL : ∀ k, k < 49 → tbl.getD k 9 = 9 ∨ (1 ≤ k ∧ 0 ≤ (bd (tbl.getD k 9)).1.1 ∧ (bd (tbl.getD k 9)).1.2 ≤ 11 ∧ 0 ≤ (bd (tbl.getD k 9)).2.1.1 ∧ (bd (tbl.getD k 9)).2.1.2 ≤ 11 ∧ (5 ≤ k → k ≤ 23 → 0 ≤ (bd (tbl.getD k 9)).2.2.1 ∧ (bd (tbl.getD k 9)).2.2.2 ≤ 11)) := by decide

theorem within_iffL {lo hi n : Int} (h : within lo hi n = true) : lo ≤ n ∧ n ≤ hi := by
  unfold within at h
  simpa using h

theorem dec_okL {v : Int} (hv : 0 ≤ v ∧ v < 4294967296) (h : (dec v).2 = 0) : (1 ≤ (dec v).1.1 ∧ (dec v).1.1 ≤ 48) ∧ (0 ≤ (dec v).1.2.1 ∧ (dec v).1.2.1 < 12) ∧ (0 ≤ (dec v).1.2.2.1 ∧ (dec v).1.2.2.1 < 12) ∧ (-32768 ≤ (dec v).1.2.2.2 ∧ (dec v).1.2.2.2 ≤ 32767) ∧
    (5 ≤ (dec v).1.1 ∧ (dec v).1.1 ≤ 23 → 0 ≤ (dec v).1.2.2.2 ∧ (dec v).1.2.2.2 < 12) := by
  obtain ⟨h0, h1⟩ := hv
  unfold dec at h ⊢
  simp only [] at h ⊢
  by_cases he : (enc (v / 16777216) (v / 1048576 % 16) (v / 65536 % 16) (i16 v)).2 = 0
  · rw [if_pos he]
    have h16 : -32768 ≤ i16 v ∧ i16 v ≤ 32767 := by unfold i16; omega
    generalize i16 v = c at he h16 ⊢
    generalize v / 1048576 % 16 = a at he ⊢
    generalize v / 65536 % 16 = b at he ⊢
    have ho : 0 ≤ v / 16777216 := by omega
    generalize v / 16777216 = op at he ho ⊢
    unfold enc at he
    by_cases h9 : formOf op = 9
    · rw [if_pos h9] at he; cases he
    rw [if_neg h9] at he
    by_cases hk : okA (formOf op) a b c = true
    · unfold okA at hk
      rw [Bool.and_eq_true, Bool.and_eq_true] at hk
      obtain ⟨⟨ka, kb⟩, kc⟩ := hk
      have ka := within_iffL ka
      have kb := within_iffL kb
      have kc := within_iffL kc
      unfold formOf at h9 ka kb kc
      by_cases h49 : 0 ≤ op ∧ op < 49
      · rw [if_pos h49] at h9 ka kb kc
        obtain ⟨k, rfl⟩ : ∃ k : Nat, op = k := ⟨op.toNat, by omega⟩
        rw [Int.toNat_natCast] at h9 ka kb kc
        rcases bd_okL k (by omega) with hh | ⟨b1, b2, b3, b4, b5, b6⟩
        · exact absurd hh h9
        · refine ⟨⟨by show (1 : Int) ≤ k; omega, by show (k : Int) ≤ 48; omega⟩, ⟨by show 0 ≤ a; omega, by show a < 12; omega⟩, ⟨by show 0 ≤ b; omega, by show b < 12; omega⟩, h16, fun hh => ?_⟩
          have hh' : 5 ≤ (k : Int) ∧ (k : Int) ≤ 23 := hh
          have := b6 (by omega) (by omega)
          exact ⟨by show 0 ≤ c; omega, by show c < 12; omega⟩
      · rw [if_neg h49] at h9; exact absurd rfl h9
    · rw [if_neg hk] at he; cases he
  · rw [if_neg he] at h
    exact absurd h he

theorem insL_wf {v : Int} (hv : 0 ≤ v ∧ v < 4294967296) (h : (dec v).2 = 0) : WfL (insL v) := by
  obtain ⟨⟨a1, a2⟩, ⟨b1, b2⟩, ⟨c1, c2⟩, ⟨d1, d2⟩, _⟩ := dec_okL hv h
  constructor <;> unfold insL <;> simp only [] <;> first | omega | (intro x hx; cases hx)

theorem filter_snoc {ps : List Part} {k : Nat} {p : Part} (h : ps[k]? = some p) : (ps.take (k + 1)).filter isRN = (ps.take k).filter isRN ++ (if isRN p = true then [p] else []) := by
  rw [take_snoc h, List.filter_append]
  cases hb : isRN p <;> simp [hb]

theorem join_own {W : World} {B : Nat} {v : Value} {xs : List ByteArray} (h : OwnS W B v xs) (hne : xs ≠ []) (hl : xs.length ≤ 10) (hx : ∀ x ∈ xs, x.data.toList.length ≤ 10000) :
    ∃ g c, v = .slice (some ⟨g, 0, none⟩) xs.length c ∧ Calls Tryz.prog 52 #[.slice (some ⟨g, 0, none⟩) xs.length c, .string ⟨#[32]⟩] W fun e w' => e = .returned (.string ⟨(Lib.join (xs.map (·.data.toList)) [32]).toArray⟩) ∧ Below W.heap.size W w' := by
  obtain ⟨g, c, hv, hg1, hg2, hg3, hg4⟩ := h.open_ hne
  have hjl := join_len 10000 (xs.map (·.data.toList)) (fun y hy => by
    obtain ⟨x, hx', rfl⟩ := List.mem_map.1 hy
    exact hx x hx')
  rw [List.length_map] at hjl
  exact ⟨g, c, hv, Tryz.strings_Join g 0 c xs ⟨#[32]⟩ W hg4 hg2 (by omega) hg3 (by have : (⟨#[32]⟩ : ByteArray).data.toList = [32] := rfl; rw [this]; have : (10000 + 1) * xs.length ≤ 10001 * 10 := Nat.mul_le_mul_left _ hl; omega)⟩

attribute [local go_sem] as_reg_reg as_reg_num as_num_reg as_num_num as_word_reg as_word_num as_place_reg as_place_num as_places_reg as_places_num

set_option maxHeartbeats 4000000 in
set_option maxRecDepth 100000 in
theorem ins_any (v : Int) (w : World) (hL : LLaid w) (h0 : 0 ≤ v) (h1 : v < 4294967296) :
    Calls Tryz.prog 34 #[.int .u32 v] w fun e w' => e = .returned (.string ⟨(insP v).toArray⟩) ∧ Below w.heap.size w w' := by
  have HL := Lib.hid hL
  have CD := Lib.hid (decode_any v w hL.forms h0 h1)
  by_cases hz : (dec v).2 = 0
  · have hok := dec_okL ⟨h0, h1⟩ hz
    have hwf := insL_wf ⟨h0, h1⟩ hz
    have hP : insP v = Lib.join (insW v) [32] := by unfold insP; rw [if_pos hz]
    obtain ⟨k, hk⟩ : ∃ k : Nat, (dec v).1.1 = (k : Int) + 1 := ⟨(dec v).1.1.toNat - 1, by omega⟩
    have hk48 : k < 48 := by omega
    have hW : ∀ a b imm, (dec v).1.2.1 = a → (dec v).1.2.2.1 = b → (dec v).1.2.2.2 = imm → insL v = ⟨(k : Int) + 1, a, b, imm, 0, 0, []⟩ ∧ insW v = (opNames.getD k [] :: ((partsP ((k : Int) + 1)).filter isRN).map (partT ⟨(k : Int) + 1, a, b, imm, 0, 0, []⟩)) ++ (if brJ ((k : Int) + 1) = true then [Lib.itoa imm] else []) := by
      intro a b imm ha hb hi
      have e : insL v = ⟨(k : Int) + 1, a, b, imm, 0, 0, []⟩ := by unfold insL; rw [hk, ha, hb, hi]
      refine ⟨e, ?_⟩
      unfold insW
      rw [e, hk, hi, show ((k : Int) + 1).toNat - 1 = k by omega]
    obtain ⟨a, ha⟩ : ∃ a, (dec v).1.2.1 = a := ⟨_, rfl⟩
    obtain ⟨b, hb⟩ : ∃ b, (dec v).1.2.2.1 = b := ⟨_, rfl⟩
    obtain ⟨imm, hi⟩ : ∃ imm, (dec v).1.2.2.2 = imm := ⟨_, rfl⟩
    obtain ⟨eL, eW⟩ := hW a b imm ha hb hi
    rw [eL] at hwf
    rw [hk, ha, hb, hi, hz] at CD
    have himm : -32768 ≤ imm ∧ imm ≤ 32767 := by have := hok.2.2.2.1; rw [hi] at this; exact this
    have HWF := Lib.hid hwf
    have HP := Lib.hid (hP.trans (congrArg (fun l => Lib.join l [32]) eW))
    clear hok hW hP hL hz hk ha hb hi eL eW hwf
    have hkw : IntKind.i64.wrap ((k : Int) + 1 - 1) = (k : Int) := by rw [show (k : Int) + 1 - 1 = k by omega]; exact IntWalk.i64_in _ (by omega)
    have hkw2 : IntKind.i64.wrap (k : Int) = (k : Int) := IntWalk.i64_in _ (by omega)
    have hk0 : (0 : Int) ≤ (k : Int) := Int.natCast_nonneg _
    have hk1 : (k : Int) < 48 := by omega
    have hnm := names_cell k hk48
    go_enter Tryz.func34, Tryz.ntmps34
    go_upto_region 5 with (go_at_call 72; refine CD.out.mono ?_; rintro e w3 ⟨rfl, hb3⟩; have HB3 := Lib.hid hb3; clear hb3)
    obtain ⟨l, hl⟩ : ∃ l : Line, l = ⟨(k : Int) + 1, a, b, imm, 0, 0, []⟩ := ⟨_, rfl⟩
    obtain ⟨W1, hW1⟩ : ∃ W1, W1 = (w3.alloc (.cells #[.int .i64 ((k : Int) + 1), .int .i64 a, .int .i64 b, .int .i64 imm] 99)).alloc (lineO l (.slice none 0 0)) := ⟨_, rfl⟩
    have hWW : (w3.alloc (.cells #[.int .i64 ((k : Int) + 1), .int .i64 a, .int .i64 b, .int .i64 imm] 99)).alloc (.cells #[.int .i64 ((k : Int) + 1), .int .i64 a, .int .i64 b, .int .i64 imm, .int .u32 0, .int .i64 0, .slice none 0 0] 49) = W1 := by rw [hW1, hl]; rfl
    rw [hWW]
    have hB1 : Below w3.heap.size w3 W1 := by rw [hW1]; exact ((Below.refl _ _).alloc (Nat.le_refl _) _).alloc (by simp) _
    have hM1 : LineM W1 (w3.heap.size + 1) l none 0 := by
      rw [hW1]
      have h := lineM_new (w3.alloc (.cells #[.int .i64 ((k : Int) + 1), .int .i64 a, .int .i64 b, .int .i64 imm] 99)) l none 0 (by rw [hl]; exact ⟨rfl, Nat.zero_le _, fun h => absurd h (by simp)⟩)
      rw [hl] at h ⊢
      rw [World.size_alloc] at h
      exact h
    have q0 : W1.cell? ⟨w3.heap.size, 0, none⟩ = some (.int .i64 ((k : Int) + 1)) := by rw [hW1]; exact ka _ (kn 0 rfl)
    have q3 : W1.cell? ⟨w3.heap.size, 3, none⟩ = some (.int .i64 imm) := by rw [hW1]; exact ka _ (kn 3 rfl)
    have hc0 : W1.cell? ⟨w3.heap.size + 1, 0, none⟩ = some (.int .i64 ((k : Int) + 1)) := by rw [cell_of_block hM1.blk, hl]; rfl
    have HM := Lib.hid hM1
    have HB1 := Lib.hid (bj HB3.out hB1)
    have HL1 := Lib.hid (HL.out.below HB1.out)
    have HQ0 := Lib.hid q0
    have HQ3 := Lib.hid q3
    have HWF := Lib.hid (show WfL l by rw [hl]; exact HWF.out)
    rw [← hl] at HP
    have hlt1 : w3.heap.size + 1 < W1.heap.size := by rw [hW1]; simp
    have hlt0 : w3.heap.size < W1.heap.size := by omega
    have HLo := Lib.hid (show l.op = (k : Int) + 1 by rw [hl])
    have HLi := Lib.hid (show l.imm = imm by rw [hl])
    clear hW1 hWW hB1 hM1 q3 hl
    go_cut [6] from 26 to 32 (fun s wx => Hid (OwnS wx W1.heap.size s [nameS k]) ∧ Hid (Below W1.heap.size W1 wx))
    case first =>
      go_region_with ((go_at_call 51; refine (fields_names _ (by kernel_rfl) _ ?_).mono ?_; exact HL1.out.below ((Below.refl _ _).drew); rintro e w' ⟨rfl, rfl⟩))
      all_goals go_wp2_with fail
      all_goals go_meet
      all_goals exact ⟨Lib.hid (OwnS.one (W1.alloc namesO) (nameS k) (by simp) (by simp)), Lib.hid (Below.drew (((Below.refl _ _).alloc (Nat.le_refl _) _).alloc (by simp) _))⟩
    case rest =>
    obtain ⟨hO2, hB2⟩ := hcut
    have hc2 := kp hB2.out hc0
    have hwb := hB2.out.size
    have HM2 := Lib.hid (HM.out.below hB2.out)
    have HC2 := Lib.hid hc2
    clear hc0 q0 hkw hkw2 hnm hc2
    go_wp2_with fail
    refine (parts_any (w3.heap.size + 1) ((k : Int) + 1) wc HC2.out).mono ?_
    rintro e w5 ⟨A8, c8, rfl, hcells, hb5⟩
    obtain ⟨ps, hps⟩ : ∃ ps, ps = partsP ((k : Int) + 1) := ⟨_, rfl⟩
    have hp3 : ps.length ≤ 3 := by rw [hps]; exact partsP_len _
    rw [← hps] at hcells HP
    have HPC := Lib.hid (show PCells w5 (w3.heap.size + 1) wc.heap.size A8 ps from hcells)
    have HM3 := Lib.hid (fun wz (hz : Below W1.heap.size W1 wz) => HM.out.below hz)
    have HO3 := Lib.hid (hO2.out.below hb5)
    have HB3' := Lib.hid (bj hB2.out hb5)
    have HN3 := Lib.hid (show ∀ g, wc.heap.size ≤ g → u6.ownBlock ≠ some g from fun g hg e => by have := own_lt hO2.out g e; omega)
    have HOK := Lib.hid (show ∀ p ∈ ps, isRN p = true → PartOk l p from fun p hp hr => by
      cases p with
      | reg o => rw [hps] at hp; exact partsP_reg _ _ hp
      | num => trivial
      | word => cases hr
      | place => cases hr
      | places => cases hr)
    clear hcells hb5 hO2 hB2
    rw [← hps]
    clear hps
    go_wp2_with fail
    go_loopw [6, 35] (fun v s wr => ∃ j : Nat, j ≤ ps.length ∧ s = .int .i64 j ∧ Hid (OwnS wr W1.heap.size v (nameS k :: ((ps.take j).filter isRN).map fun p => ⟨(partT l p).toArray⟩)) ∧ Hid (∀ (i : Nat) (p : Part), ps[i]? = some p → ∀ g, A8 = some ⟨g, 0, none⟩ → v.ownBlock ≠ some g) ∧ Hid (PCells wr (w3.heap.size + 1) wc.heap.size A8 ps) ∧ Hid (LineM wr (w3.heap.size + 1) l none 0) ∧ Hid (Below W1.heap.size W1 wr)) (fun _ s _ => ps.length - (intOf s).toNat)
    case atStart =>
      exact ⟨0, Nat.zero_le _, rfl, HO3, Lib.hid (fun i p hi g hA => HN3.out g (by obtain ⟨g', h1, h2, _⟩ := HPC.out i p hi; rw [hA] at h1; cases h1; exact h2)), HPC, Lib.hid (HM3.out _ HB3'.out), HB3'⟩
    case round =>
      obtain ⟨j, hj, rfl, hO, hN, hP, hM, hB⟩ := hrel
      by_cases hlt : j < ps.length
      · obtain ⟨g, hA, hg, hcx⟩ := hP.out j _ (List.getElem?_eq_getElem hlt)
        have HPK := Lib.hid (List.getElem?_eq_getElem hlt : ps[j]? = some ps[j])
        generalize ps[j] = p at hcx HPK
        subst hA
        have hx0 : (0 : Int) ≤ (j : Int) := Int.natCast_nonneg _
        have hx1 : (j : Int) < (ps.length : Int) := by omega
        cases p with
        | reg o =>
          have hrn : isRN (.reg o) = true := rfl
          have HW := Lib.hid (written_part (.reg o) (w3.heap.size + 1) l none 0 wr (HL1.out.below hB.out) hM.out HWF.out (HOK.out _ (List.mem_of_getElem? HPK.out) rfl))
          unfold pv at HW hcx
          simp only [Part.ty, Part.off] at HW hcx
          go_wp2_with fail
          refine HW.out.mono ?_
          rintro e w4 ⟨rfl, hb4⟩
          have hb5 := hb4.alloc (Nat.le_trans (Nat.le_refl _) hb4.size) (.cells #[.string ⟨(partT l (.reg o)).toArray⟩] 9)
          have HB5 := Lib.hid (bj hB.out hb5)
          have HO5 := Lib.hid (hO.out.below hb5)
          have HP5 := Lib.hid (hP.out.below hb5)
          have HG5 := Lib.hid (show g < wr.heap.size from lt_of_cell hcx)
          have HS5 := Lib.hid hb5.size
          have HL5 := Lib.hid (show (nameS k :: ((ps.take j).filter isRN).map fun p => (⟨(partT l p).toArray⟩ : ByteArray)).length + 1 ≤ 1000000000 by rw [List.length_cons, List.length_map]; have := List.length_filter_le isRN (ps.take j); rw [List.length_take] at this; omega)
          have HTS := Lib.hid (show (nameS k :: ((ps.take j).filter isRN).map fun p => (⟨(partT l p).toArray⟩ : ByteArray)) ++ [⟨(partT l (.reg o)).toArray⟩] = nameS k :: ((ps.take (j + 1)).filter isRN).map fun p => (⟨(partT l p).toArray⟩ : ByteArray) by rw [filter_snoc HPK.out, if_pos hrn, List.map_append]; rfl)
          clear hb4 hb5 HW hcx
          go_wp2_with (at_builtin; refine as_list rfl (.tmp 47) (.tmp 50) rfl W1.heap.size u6 _ rfl HO5.out ⟨w4.heap.size, 0, none⟩ 1 ⟨(partT l (.reg o)).toArray⟩ rfl (kn 0 rfl) HL5.out HB5.out.size ?_; intro v6 w6 ho6 hg6 hat6; rw [HTS.out] at ho6; have HO6 := Lib.hid ho6; have HB6 := Lib.hid (HB5.out.grown hg6 HB5.out.size (base_le_of HO5.out)); have HP6 := Lib.hid (HP5.out.grown hg6 (fun i q hi g' hA => by cases hA; exact fun e => hN.out i q hi g rfl e.symm)); have HN6 := Lib.hid (show ∀ (i : Nat) (q : Part), ps[i]? = some q → ∀ g', some (⟨g, 0, none⟩ : Addr) = some ⟨g', 0, none⟩ → v6.ownBlock ≠ some g' from fun i q hi g' hA => by cases hA; exact own_new hat6 (hN.out i q hi g rfl) (by have := HG5.out; have := HS5.out; omega)); clear ho6 hg6 hat6)
          go_roundw
          case rel => exact ⟨j + 1, hlt, by go_num, HO6, HN6, HP6, Lib.hid (HM3.out _ HB6.out), HB6⟩
          case measure => simp [intOf]; omega
        | num =>
          have hrn : isRN (.num) = true := rfl
          have HW := Lib.hid (written_part (.num) (w3.heap.size + 1) l none 0 wr (HL1.out.below hB.out) hM.out HWF.out (HOK.out _ (List.mem_of_getElem? HPK.out) rfl))
          unfold pv at HW hcx
          simp only [Part.ty, Part.off] at HW hcx
          go_wp2_with fail
          refine HW.out.mono ?_
          rintro e w4 ⟨rfl, hb4⟩
          have hb5 := hb4.alloc (Nat.le_trans (Nat.le_refl _) hb4.size) (.cells #[.string ⟨(partT l (.num)).toArray⟩] 9)
          have HB5 := Lib.hid (bj hB.out hb5)
          have HO5 := Lib.hid (hO.out.below hb5)
          have HP5 := Lib.hid (hP.out.below hb5)
          have HG5 := Lib.hid (show g < wr.heap.size from lt_of_cell hcx)
          have HS5 := Lib.hid hb5.size
          have HL5 := Lib.hid (show (nameS k :: ((ps.take j).filter isRN).map fun p => (⟨(partT l p).toArray⟩ : ByteArray)).length + 1 ≤ 1000000000 by rw [List.length_cons, List.length_map]; have := List.length_filter_le isRN (ps.take j); rw [List.length_take] at this; omega)
          have HTS := Lib.hid (show (nameS k :: ((ps.take j).filter isRN).map fun p => (⟨(partT l p).toArray⟩ : ByteArray)) ++ [⟨(partT l (.num)).toArray⟩] = nameS k :: ((ps.take (j + 1)).filter isRN).map fun p => (⟨(partT l p).toArray⟩ : ByteArray) by rw [filter_snoc HPK.out, if_pos hrn, List.map_append]; rfl)
          clear hb4 hb5 HW hcx
          go_wp2_with (at_builtin; refine as_list rfl (.tmp 47) (.tmp 50) rfl W1.heap.size u6 _ rfl HO5.out ⟨w4.heap.size, 0, none⟩ 1 ⟨(partT l (.num)).toArray⟩ rfl (kn 0 rfl) HL5.out HB5.out.size ?_; intro v6 w6 ho6 hg6 hat6; rw [HTS.out] at ho6; have HO6 := Lib.hid ho6; have HB6 := Lib.hid (HB5.out.grown hg6 HB5.out.size (base_le_of HO5.out)); have HP6 := Lib.hid (HP5.out.grown hg6 (fun i q hi g' hA => by cases hA; exact fun e => hN.out i q hi g rfl e.symm)); have HN6 := Lib.hid (show ∀ (i : Nat) (q : Part), ps[i]? = some q → ∀ g', some (⟨g, 0, none⟩ : Addr) = some ⟨g', 0, none⟩ → v6.ownBlock ≠ some g' from fun i q hi g' hA => by cases hA; exact own_new hat6 (hN.out i q hi g rfl) (by have := HG5.out; have := HS5.out; omega)); clear ho6 hg6 hat6)
          go_roundw
          case rel => exact ⟨j + 1, hlt, by go_num, HO6, HN6, HP6, Lib.hid (HM3.out _ HB6.out), HB6⟩
          case measure => simp [intOf]; omega
        | word =>
          have hrn : ¬ isRN (.word) = true := by decide
          unfold pv at hcx
          simp only [Part.ty, Part.off] at hcx
          have HTS := Lib.hid (show (nameS k :: ((ps.take j).filter isRN).map fun p => (⟨(partT l p).toArray⟩ : ByteArray)) = nameS k :: ((ps.take (j + 1)).filter isRN).map fun p => (⟨(partT l p).toArray⟩ : ByteArray) by rw [filter_snoc HPK.out, if_neg hrn, List.append_nil])
          rw [HTS.out] at hO
          go_wp2_with fail
          go_roundw
          case rel => exact ⟨j + 1, hlt, by go_num, hO, hN, hP, hM, hB⟩
          case measure => simp [intOf]; omega
        | place =>
          have hrn : ¬ isRN (.place) = true := by decide
          unfold pv at hcx
          simp only [Part.ty, Part.off] at hcx
          have HTS := Lib.hid (show (nameS k :: ((ps.take j).filter isRN).map fun p => (⟨(partT l p).toArray⟩ : ByteArray)) = nameS k :: ((ps.take (j + 1)).filter isRN).map fun p => (⟨(partT l p).toArray⟩ : ByteArray) by rw [filter_snoc HPK.out, if_neg hrn, List.append_nil])
          rw [HTS.out] at hO
          go_wp2_with fail
          go_roundw
          case rel => exact ⟨j + 1, hlt, by go_num, hO, hN, hP, hM, hB⟩
          case measure => simp [intOf]; omega
        | places =>
          have hrn : ¬ isRN (.places) = true := by decide
          unfold pv at hcx
          simp only [Part.ty, Part.off] at hcx
          have HTS := Lib.hid (show (nameS k :: ((ps.take j).filter isRN).map fun p => (⟨(partT l p).toArray⟩ : ByteArray)) = nameS k :: ((ps.take (j + 1)).filter isRN).map fun p => (⟨(partT l p).toArray⟩ : ByteArray) by rw [filter_snoc HPK.out, if_neg hrn, List.append_nil])
          rw [HTS.out] at hO
          go_wp2_with fail
          go_roundw
          case rel => exact ⟨j + 1, hlt, by go_num, hO, hN, hP, hM, hB⟩
          case measure => simp [intOf]; omega
      · have hje : j = ps.length := by omega
        subst hje
        clear hlt
        rw [List.take_length] at hO
        have q0 := kp hB.out HQ0.out
        have q3 := kp hB.out HQ3.out
        obtain ⟨xs, hxs⟩ : ∃ xs, xs = nameS k :: (ps.filter isRN).map fun p => (⟨(partT l p).toArray⟩ : ByteArray) := ⟨_, rfl⟩
        have HXE := Lib.hid (show Lib.join (opNames.getD k [] :: (ps.filter isRN).map (partT l)) [32] = Lib.join (xs.map (·.data.toList)) [32] by rw [hxs, List.map_cons, List.map_map]; rfl)
        have HXM := Lib.hid (show xs.map (·.data.toList) = opNames.getD k [] :: (ps.filter isRN).map (partT l) by rw [hxs, List.map_cons, List.map_map]; rfl)
        have HXL := Lib.hid (show xs.length ≤ 4 by rw [hxs, List.length_cons, List.length_map]; have := List.length_filter_le isRN ps; omega)
        have HXN := Lib.hid (show xs ≠ [] by rw [hxs]; simp)
        have HXX := Lib.hid (show ∀ x ∈ xs, x.data.toList.length ≤ 10000 from fun x hx => by
          rw [hxs, List.mem_cons, List.mem_map] at hx
          rcases hx with rfl | ⟨p, hp, rfl⟩
          · exact Nat.le_trans (nameS_len k) (by decide)
          · have hp' := List.mem_filter.1 hp
            exact partT_len HWF.out (HOK.out p hp'.1 hp'.2))
        rw [← hxs] at hO
        clear hxs
        by_cases hbr : brJ ((k : Int) + 1) = true
        · have hb0 : decide ((30 : Int) ≤ (k : Int) + 1) = true := by unfold brJ at hbr; have := of_decide_eq_true hbr; exact decide_eq_true this.1
          have hb1 : decide ((k : Int) + 1 ≤ 40) = true := by unfold brJ at hbr; have := of_decide_eq_true hbr; exact decide_eq_true this.2
          have HPE := Lib.hid (show insP v = Lib.join ((xs ++ [(⟨(Lib.itoa imm).toArray⟩ : ByteArray)]).map (·.data.toList)) [32] by rw [HP.out, if_pos hbr, List.map_append, HXM.out]; rfl)
          clear hbr
          go_wp2_with fail
          have hil := itoa_len imm (by omega) (by omega)
          refine (itoa_any imm (by omega) (by omega) wr (HL1.out.below hB.out)).mono ?_
          rintro e w4 ⟨rfl, hb4⟩
          have hb5 := hb4.alloc (Nat.le_trans (Nat.le_refl _) hb4.size) (.cells #[.string ⟨(Lib.itoa imm).toArray⟩] 9)
          have HB5 := Lib.hid (bj hB.out hb5)
          have HO5 := Lib.hid (hO.out.below hb5)
          have HLL := Lib.hid (show xs.length + 1 ≤ 1000000000 by have := HXL.out; omega)
          obtain ⟨ys, hys⟩ : ∃ ys, ys = xs ++ [(⟨(Lib.itoa imm).toArray⟩ : ByteArray)] := ⟨_, rfl⟩
          rw [← hys] at HPE
          have HYS := Lib.hid hys
          have HJJ := Lib.hid (fun (W6 : World) (v6 : Value) (ho : OwnS W6 W1.heap.size v6 ys) => join_own ho (by rw [hys]; simp) (by rw [hys, List.length_append, List.length_cons, List.length_nil]; have := HXL.out; omega) (fun x hx => by
            rw [hys] at hx
            rcases List.mem_append.1 hx with hx | hx
            · exact HXX.out x hx
            · rw [List.mem_singleton.1 hx]; show (Lib.itoa imm).length ≤ 10000; omega))
          clear hb4 hb5 hO hil hys
          go_wp2_with (at_builtin; refine as_list rfl (.tmp 61) (.tmp 65) rfl W1.heap.size u6 _ rfl HO5.out ⟨w4.heap.size, 0, none⟩ 1 ⟨(Lib.itoa imm).toArray⟩ rfl (kn 0 rfl) HLL.out HB5.out.size ?_; intro v6 w6 ho6 hg6 hat6; rw [← HYS.out] at ho6; obtain ⟨g6, c6, rfl, hJ⟩ := HJJ.out w6 v6 ho6; have HJ := Lib.hid hJ; have HB6 := Lib.hid (HB5.out.grown hg6 HB5.out.size (base_le_of HO5.out)); clear ho6 hg6 hat6 hJ)
          refine HJ.out.mono ?_
          rintro e w7 ⟨rfl, hb7⟩
          have HB7 := Lib.hid (bj HB1.out (bj HB6.out hb7))
          clear hb7
          go_wp2_with fail
          go_ret
          exact ⟨by rw [HPE.out]; rfl, HB7.out⟩
        · have hnb : ¬ (30 ≤ (k : Int) + 1 ∧ (k : Int) + 1 ≤ 40) := fun h => hbr (decide_eq_true h)
          have HPE := Lib.hid (show insP v = Lib.join (xs.map (·.data.toList)) [32] by rw [HP.out, if_neg hbr, List.append_nil, HXM.out])
          obtain ⟨g, c9, rfl, hJ⟩ := join_own hO.out HXN.out (by have := HXL.out; omega) HXX.out
          have HJ := Lib.hid hJ
          clear hJ hbr hO
          by_cases hb0 : (30 : Int) ≤ (k : Int) + 1
          · have hb2 : decide ((30 : Int) ≤ (k : Int) + 1) = true := decide_eq_true hb0
            have hb1 : decide ((k : Int) + 1 ≤ 40) = false := decide_eq_false (fun h => hnb ⟨hb0, h⟩)
            clear hnb hb0
            go_wp2_with fail
            refine HJ.out.mono ?_
            rintro e w4 ⟨rfl, hb4⟩
            have HB4 := Lib.hid (bj HB1.out (bj hB.out hb4))
            clear hb4
            go_wp2_with fail
            go_ret
            exact ⟨by rw [HPE.out]; rfl, HB4.out⟩
          · have hb2 : decide ((30 : Int) ≤ (k : Int) + 1) = false := decide_eq_false hb0
            clear hnb hb0
            go_wp2_with fail
            refine HJ.out.mono ?_
            rintro e w4 ⟨rfl, hb4⟩
            have HB4 := Lib.hid (bj HB1.out (bj hB.out hb4))
            clear hb4
            go_wp2_with fail
            go_ret
            exact ⟨by rw [HPE.out]; rfl, HB4.out⟩
  · have HP := Lib.hid (show insP v = [63] by unfold insP; rw [if_neg hz])
    have hne : ((dec v).2 == 0) = false := by simpa using hz
    have hne2 : ((dec v).2 != 0) = true := by simpa using hz
    generalize (dec v).2 = er at CD hne hne2
    generalize (dec v).1.1 = op at CD
    generalize (dec v).1.2.1 = a at CD
    generalize (dec v).1.2.2.1 = b at CD
    generalize (dec v).1.2.2.2 = imm at CD
    clear hL hz
    go_enter Tryz.func34, Tryz.ntmps34
    go_wp2_with (go_at_call 72; refine CD.out.mono ?_; rintro e w3 ⟨rfl, hb3⟩; have HB3 := Lib.hid hb3; clear hb3)
    go_ret
    exact ⟨by rw [HP.out]; rfl, HB3.out.alloc HB3.out.size _⟩

end Go.Proofs.YtlhgfhmdhmgmpaaGreatDoor

set_option linter.unusedVariables false
set_option linter.unusedSimpArgs false
namespace Go.Proofs.YtlhgfhmdhmgmpaaGreatDoor
open Go.RowKit Go.Proofs.YtlhgfhmdhmgmpaaGreatDoorW.PrintWords Go.Joins Go.Maps

theorem kany_at {K : IntKind} {w : World} {A : Option Addr} {n : Nat} {xs : List Int} (h : (Kd.int K).C w A n xs) (i : Nat) (hi : i < n) : ∃ ad, A = some ad ∧ i < xs.length ∧ w.cell? (ad.add i) = some (.int K (xs.getD i 0)) := by
  have hl : n = xs.length := h.1.symm
  subst hl
  obtain ⟨ad, rfl, hc⟩ := h.2.2 (by omega)
  obtain ⟨cs, hs, hk, hcell⟩ := hc i xs[i] (List.getElem?_eq_getElem hi)
  have e : cs = [Value.int K xs[i]] := hk
  subst e
  have := hcell 0 _ rfl
  refine ⟨ad, rfl, hi, ?_⟩
  rw [show i * (Kd.int K).sz + 0 = i from by show i * 1 + 0 = i; omega] at this
  rw [List.getD_eq_getElem?_getD, List.getElem?_eq_getElem hi]
  exact this

def litL : List UInt8 := [108, 105, 116, 101, 114, 97, 108]
def tabL : List UInt8 := [116, 97, 98, 108, 101]
def whatP (v kind : Int) : List UInt8 := if kind = 1 then insP v else if kind = 2 then litL else if kind = 3 then tabL else [63]
def rowP (i : Nat) (v kind : Int) : List UInt8 := Lib.itoa i ++ [32] ++ digs 8 v.toNat ++ [32] ++ whatP v kind ++ [10]
def rowsT (ws ks : List Int) (j : Nat) : List UInt8 := ((List.range j).map fun i => rowP i (ws.getD i 0) (ks.getD i 0)).flatten
def dataT (ds : List Int) (j : Nat) : List UInt8 := ((List.range j).map fun i => 32 :: Lib.itoa (ds.getD i 0)).flatten
def entryT (e : Int) : List UInt8 := [101, 110, 116, 114, 121, 32] ++ Lib.itoa e ++ [10]
def datL : List UInt8 := [100, 97, 116, 97]
/-- What Show answers. -/
def showP (ws ks ds : List Int) (e : Int) : List UInt8 := ((entryT e ++ rowsT ws ks ws.length) ++ datL ++ dataT ds ds.length) ++ [10]

theorem rowsT_succ (ws ks : List Int) (j : Nat) : rowsT ws ks (j + 1) = rowsT ws ks j ++ rowP j (ws.getD j 0) (ks.getD j 0) := by
  unfold rowsT
  rw [List.range_succ, List.map_append, List.flatten_append]
  simp
theorem dataT_succ (ds : List Int) (j : Nat) : dataT ds (j + 1) = dataT ds j ++ (32 :: Lib.itoa (ds.getD j 0)) := by
  unfold dataT
  rw [List.range_succ, List.map_append, List.flatten_append]
  simp

theorem digs_len : ∀ k n, (digs k n).length = k
  | 0, _ => rfl
  | k + 1, n => by rw [digs, List.length_append, digs_len k]; rfl

theorem insP_len (v : Int) (hv : 0 ≤ v ∧ v < 4294967296) : (insP v).length ≤ 60000 := by
  unfold insP
  split
  · rename_i h
    have hwf := insL_wf hv h
    have := join_len 10000 (insW v) (fun y hy => by
      unfold insW at hy
      rcases List.mem_append.1 hy with hy | hy
      · rw [List.mem_cons, List.mem_map] at hy
        rcases hy with rfl | ⟨p, hp, rfl⟩
        · exact Nat.le_trans (nameS_len _) (by decide)
        · have hp' := List.mem_filter.1 hp
          refine partT_len hwf ?_
          cases p with
          | reg o => exact partsP_reg _ _ hp'.1
          | num => trivial
          | word => cases hp'.2
          | place => cases hp'.2
          | places => cases hp'.2
      · split at hy
        · rw [List.mem_singleton.1 hy]
          have h := itoa_len _ hwf.i0 hwf.i1
          have h' : (Lib.itoa (dec v).1.2.2.2).length ≤ 21 := h
          omega
        · cases hy)
    have hl : (insW v).length ≤ 5 := by
      unfold insW
      rw [List.length_append, List.length_cons, List.length_map]
      have := List.length_filter_le isRN (partsP (dec v).1.1)
      have := partsP_len (dec v).1.1
      split <;> simp only [List.length_cons, List.length_nil] <;> omega
    have : (10000 + 1) * (insW v).length ≤ 10001 * 5 := Nat.mul_le_mul_left _ hl
    omega
  · decide

theorem whatP_len (v kind : Int) (hv : 0 ≤ v ∧ v < 4294967296) : (whatP v kind).length ≤ 60000 := by
  unfold whatP
  have := insP_len v hv
  repeat' split
  · exact this
  all_goals decide

theorem rowP_len (i : Nat) (hi : i ≤ 1000000000) (v kind : Int) (hv : 0 ≤ v ∧ v < 4294967296) : (rowP i v kind).length ≤ 60100 := by
  have h1 := itoa_len (i : Int) (by omega) (by omega)
  have h2 := whatP_len v kind hv
  have h3 := digs_len 8 v.toNat
  unfold rowP
  simp only [List.length_append, List.length_cons, List.length_nil]
  omega

theorem rowsT_len (ws ks : List Int) (hw : ∀ x ∈ ws, 0 ≤ x ∧ x < 4294967296) (j : Nat) (hj : j ≤ 1000000000) : (rowsT ws ks j).length ≤ 60100 * j := by
  induction j with
  | zero => exact Nat.le_refl _
  | succ j ih =>
    rw [rowsT_succ, List.length_append]
    have := ih (by omega)
    have := rowP_len j (by omega) (ws.getD j 0) (ks.getD j 0) (by
      rw [List.getD_eq_getElem?_getD]
      cases h : ws[j]? with
      | none => decide
      | some x => exact hw x (List.mem_of_getElem? h))
    omega

theorem dataT_len (ds : List Int) (hw : ∀ x ∈ ds, 0 ≤ x ∧ x < 4294967296) (j : Nat) : (dataT ds j).length ≤ 30 * j := by
  induction j with
  | zero => exact Nat.le_refl _
  | succ j ih =>
    rw [dataT_succ, List.length_append, List.length_cons]
    have : 0 ≤ ds.getD j 0 ∧ ds.getD j 0 < 4294967296 := by
      rw [List.getD_eq_getElem?_getD]
      cases h : ds[j]? with
      | none => decide
      | some x => exact hw x (List.mem_of_getElem? h)
    have := itoa_len (ds.getD j 0) (by omega) (by omega)
    omega

theorem ba_size (s : ByteArray) : s.data.toList.length = s.size := by rw [Array.length_toList]; rfl

/-- What is known of Show's world. -/
structure SLaid (w : World) : Prop where
  l : LLaid w
  d : DB w

theorem SLaid.below {w w' : World} (h : SLaid w) (hb : Below w.heap.size w w') : SLaid w' := ⟨h.l.below hb, h.d.below hb⟩

/-- Contracts whose answers are variables. -/
theorem itoa_var (n : Int) (h0 : -9223372036854775808 ≤ n) (h1 : n ≤ 9223372036854775807) : ∃ J : ByteArray, J.data.toList = Lib.itoa n ∧ J.size ≤ 21 ∧ ∀ w, LLaid w → Calls Tryz.prog 33 #[.int .i64 n] w fun e w' => e = .returned (.string J) ∧ Below w.heap.size w w' :=
  ⟨⟨(Lib.itoa n).toArray⟩, rfl, by have := itoa_len n h0 h1; exact this, fun w hL => itoa_any n h0 h1 w hL⟩

theorem hex_var (v : Int) (hv : 0 ≤ v ∧ v < 4294967296) : ∃ (X Z : ByteArray), Z.data.toList ++ X.data.toList = digs 8 v.toNat ∧ X.size ≤ 8 ∧ Z.size ≤ 8 ∧ (∀ w, DB w → Calls Tryz.prog 35 #[.int .u64 v, .int .i64 16] w fun e w' => e = .returned (.string X) ∧ Below w.heap.size w w') ∧
    (∀ w, Calls Tryz.prog 36 #[.string ⟨#[48]⟩, .int .i64 (8 - (X.size : Int))] w fun e w' => e = .returned (.string Z) ∧ w = w') := by
  obtain ⟨u, rfl⟩ : ∃ u : Nat, v = u := ⟨v.toNat, by omega⟩
  have hl := hexL_len 7 u (by omega)
  have hp := hexL_pos u
  have hs : (⟨(hexL u).toArray⟩ : ByteArray).size = (hexL u).length := rfl
  refine ⟨⟨(hexL u).toArray⟩, zeroS (8 - (hexL u).length), ?_, by rw [hs]; omega, ?_, fun w hd => fmtX u (by omega) w hd, fun w => ?_⟩
  · rw [show ((u : Nat) : Int).toNat = u by omega]
    exact digs_hexL 7 u (by omega)
  · show (List.replicate (8 - (hexL u).length) (48 : UInt8)).toArray.size ≤ 8
    rw [List.size_toArray, List.length_replicate]; omega
  · rw [hs, show (8 : Int) - ((hexL u).length : Int) = ((8 - (hexL u).length : Nat) : Int) by omega]
    exact repeat0 (8 - (hexL u).length) (by omega) w

abbrev SB (B : Nat) (L : List UInt8) (W : World) : Prop := Lib.IsBuilder 54 5 B B (Lib.byteCells L) W

theorem bw {B : Nat} {L : List UInt8} {W : World} (h : SB B L W) (s : ByteArray) (l : List UInt8) (hs : s.data.toList = l) (hlen : L.length + l.length ≤ 140737488355328) (hB : B ≤ W.heap.size) :
    Calls Tryz.prog 22 #[.pointer (some ⟨B, 0, none⟩), .string s] W fun e w' => e = .returned (.tuple #[.int .i64 s.size, .nilIface]) ∧ SB B (L ++ l) w' ∧ Below B W w' :=
  (builder_write B B _ s W h (by rw [Lib.byteCells_length, ← ba_size, hs]; exact hlen) hB).mono fun e w' ⟨a, b, c⟩ => ⟨a, .inr (by rw [Lib.byteCells_append, ← hs]; exact b), c⟩

set_option maxHeartbeats 4000000 in
set_option maxRecDepth 100000 in
theorem show_any (A0 A1 A2 : Option Addr) (c0 c1 c2 : Nat) (ws ks ds : List Int) (ent : Int) (w : World) (hS : SLaid w) (r0 : (Kd.int .u32).C w A0 ws.length ws) (r1 : (Kd.int .i64).C w A1 ks.length ks) (r2 : (Kd.int .u32).C w A2 ds.length ds)
    (hw0 : ∀ x ∈ ws, 0 ≤ x ∧ x < 4294967296) (hw2 : ∀ x ∈ ds, 0 ≤ x ∧ x < 4294967296) (he : -9223372036854775808 ≤ ent ∧ ent ≤ 9223372036854775807) (l0 : ws.length ≤ 1100000) (l1 : ks.length ≤ 1000000000) (l2 : ds.length ≤ 1100000) :
    Calls Tryz.prog 16 #[.agg #[.slice A0 ws.length c0, .slice A1 ks.length c1, .slice A2 ds.length c2, .int .i64 ent]] w fun e w' => e = .returned (.string ⟨(showP ws ks ds ent).toArray⟩) ∧ Below w.heap.size w w' := by
  obtain ⟨W0, hW0⟩ : ∃ W0, W0 = w.alloc (.cells #[.slice A0 ws.length c0, .slice A1 ks.length c1, .slice A2 ds.length c2, .int .i64 ent] 37) := ⟨_, rfl⟩
  have hB0 : Below w.heap.size w W0 := by rw [hW0]; exact (Below.refl _ _).alloc (Nat.le_refl _) _
  have q0 : W0.cell? ⟨w.heap.size, 0, none⟩ = some (.slice A0 ws.length c0) := by rw [hW0]; exact kn 0 rfl
  have q1 : W0.cell? ⟨w.heap.size, 1, none⟩ = some (.slice A1 ks.length c1) := by rw [hW0]; exact kn 1 rfl
  have q2 : W0.cell? ⟨w.heap.size, 2, none⟩ = some (.slice A2 ds.length c2) := by rw [hW0]; exact kn 2 rfl
  have q3 : W0.cell? ⟨w.heap.size, 3, none⟩ = some (.int .i64 ent) := by rw [hW0]; exact kn 3 rfl
  have HS0 := Lib.hid (hS.below hB0)
  have HR0 := Lib.hid (Kd.C_below r0 hB0)
  have HR1 := Lib.hid (Kd.C_below r1 hB0)
  have HR2 := Lib.hid (Kd.C_below r2 hB0)
  have HW0 := Lib.hid hw0
  have HW2 := Lib.hid hw2
  have HB0 := Lib.hid hB0
  have HQ0 := Lib.hid q0
  have HQ1 := Lib.hid q1
  have HQ2 := Lib.hid q2
  have HQ3 := Lib.hid q3
  have HWE := Lib.hid hW0
  obtain ⟨J, hJ, hJ21, hJC⟩ := itoa_var ent he.1 he.2
  have HJ := Lib.hid hJ
  have HJC := Lib.hid hJC
  clear hS r0 r1 r2 hw0 hw2 he hB0 q0 q1 q2 q3 hJ hJC hW0
  go_enter Tryz.func16, Tryz.ntmps16
  go_upto_region 2 with fail
  rw [← HWE.out]
  have hfb := Lib.fresh_isBuilder 54 5 W0
  have hsz : W0.heap.size = w.heap.size + 1 := by rw [HWE.out]; simp
  obtain ⟨W1, hW1⟩ : ∃ W1, W1 = W0.alloc (.cells #[.pointer none, .slice none 0 0] 54) := ⟨_, rfl⟩
  have hB1 : Below W0.heap.size W0 W1 := by rw [hW1]; exact (Below.refl _ _).alloc (Nat.le_refl _) _
  rw [← hW1] at hfb ⊢
  clear HWE
  have HFB := Lib.hid (show SB W0.heap.size [] W1 from hfb)
  have HB1 := Lib.hid hB1
  have k3 := kp hB1 HQ3.out
  have n1 : (9223372036854775807 < 6 + J.size) = False := eq_false (by omega)
  have n2 : (9223372036854775807 < 6 + J.size + 1) = False := eq_false (by omega)
  clear hfb hB1 hW1
  go_wp2_with (go_at_call 33; refine (HJC.out _ (HS0.out.l.below HB1.out)).mono ?_; rintro e w3 ⟨rfl, hb3⟩; have HB3 := Lib.hid (bj HB1.out hb3); have HFB3 := Lib.hid (isBuilder_below HFB.out hb3); clear hb3)
  have hbw := bw HFB3.out (⟨#[101, 110, 116, 114, 121, 32]⟩ ++ J ++ ⟨#[10]⟩) (entryT ent) (by simp only [ByteArray.data_append, Array.toList_append, HJ.out]; rfl) (by unfold entryT; rw [← HJ.out]; simp only [List.length_append, List.length_cons, List.length_nil, ba_size]; omega) HB3.out.size
  rw [hsz] at hbw
  have HBW := Lib.hid hbw
  clear hbw n1 n2
  refine HBW.out.mono ?_
  rintro e w4 ⟨rfl, hb4, hbl4⟩
  rw [← hsz, List.nil_append] at hb4
  rw [← hsz] at hbl4
  have HF4 := Lib.hid hb4
  have HB4 := Lib.hid (show Below W0.heap.size W0 w4 from HB3.out.trans hbl4)
  have HEL := Lib.hid (show (entryT ent).length ≤ 100 by unfold entryT; rw [← HJ.out]; simp only [List.length_append, List.length_cons, List.length_nil, ba_size]; omega)
  have k0 := kp HB4.out HQ0.out
  clear hb4 hbl4 HBW k3
  go_wp2_with fail
  clear k0
  go_loopw [20] (fun s wr => ∃ j : Nat, j ≤ ws.length ∧ s = .int .i64 j ∧ Hid (SB W0.heap.size (entryT ent ++ rowsT ws ks j) wr) ∧ Hid (Below W0.heap.size W0 wr)) (fun s _ => ws.length - (intOf s).toNat)
  case atStart => exact ⟨0, Nat.zero_le _, rfl, Lib.hid (by have := HF4.out; simpa [rowsT] using this), HB4⟩
  case round =>
    obtain ⟨j, hj, rfl, hF, hB⟩ := hrel
    have hj0 : (0 : Int) ≤ (j : Int) := Int.natCast_nonneg _
    have hjl : (j : Int) ≤ 1100000 := by omega
    have k1 := kp hB.out HQ1.out
    by_cases hlt : j < ws.length
    · obtain ⟨ad, hA, hlw, hcx⟩ := kany_at (Kd.C_below HR0.out hB.out) j hlt
      subst hA
      have hj1 : (j : Int) < (ws.length : Int) := by omega
      obtain ⟨v, hv⟩ : ∃ v, ws.getD j 0 = v := ⟨_, rfl⟩
      have hvr : 0 ≤ v ∧ v < 4294967296 := by
        rw [← hv, List.getD_eq_getElem?_getD, List.getElem?_eq_getElem hlw]
        exact HW0.out _ (List.getElem_mem hlw)
      rw [hv] at hcx
      obtain ⟨kd, hkd⟩ : ∃ kd, ks.getD j 0 = kd := ⟨_, rfl⟩
      have HRS := Lib.hid (show rowsT ws ks (j + 1) = rowsT ws ks j ++ rowP j v kd by rw [rowsT_succ, hv, hkd])
      have HKD := Lib.hid hkd
      clear hv hkd
      go_upto_if 29 with fail
      go_cut [6] from 30 to 34 (fun s wx => s = .int .i64 kd ∧ wr = wx)
      case first =>
        by_cases hk : j < ks.length
        · obtain ⟨ad1, hA1, _, hck⟩ := kany_at (Kd.C_below HR1.out hB.out) j hk
          subst hA1
          rw [HKD.out] at hck
          have hk1 : (j : Int) < (ks.length : Int) := by omega
          have hkd1 : decide ((j : Int) < (ks.length : Int)) = true := decide_eq_true hk1
          go_wp2_with fail
          go_meet
          exact ⟨rfl, rfl⟩
        · have hkd1 : decide ((j : Int) < (ks.length : Int)) = false := decide_eq_false (by omega)
          have hz : kd = 0 := by rw [← HKD.out, List.getD_eq_getElem?_getD, List.getElem?_eq_none (by omega)]; rfl
          subst hz
          go_wp2_with fail
          go_meet
          exact ⟨rfl, rfl⟩
      case rest =>
      obtain ⟨rfl, rfl⟩ := hcut
      go_upto_block 2 with fail
      go_cut [7] from 36 to 43 (fun s wx => ∃ T : ByteArray, s = .string T ∧ Hid (T.data.toList = whatP v kd) ∧ T.size ≤ 60000 ∧ Hid (Below wr.heap.size wr wx))
      case first =>
        have hwl := whatP_len v kd hvr
        by_cases h1 : kd = 1
        · subst h1
          have HW := Lib.hid (show whatP v 1 = insP v from rfl)
          have HI := Lib.hid (ins_any v wr (HS0.out.below hB.out).l hvr.1 hvr.2)
          rw [HW.out] at hwl
          go_wp2_with (go_at_call 34; refine HI.out.mono ?_; rintro e w5 ⟨rfl, hb5⟩; have HB5 := Lib.hid hb5; clear hb5)
          go_meet
          exact ⟨_, rfl, Lib.hid HW.out.symm, hwl, HB5⟩
        · have b1 : (kd == 1) = false := beq_eq_false_iff_ne.mpr h1
          by_cases h2 : kd = 2
          · subst h2
            go_wp2_with fail
            go_meet
            exact ⟨_, rfl, Lib.hid rfl, by decide, Lib.hid (Below.refl _ _)⟩
          · have b2 : (kd == 2) = false := beq_eq_false_iff_ne.mpr h2
            by_cases h3 : kd = 3
            · subst h3
              go_wp2_with fail
              go_meet
              exact ⟨_, rfl, Lib.hid rfl, by decide, Lib.hid (Below.refl _ _)⟩
            · have b3 : (kd == 3) = false := beq_eq_false_iff_ne.mpr h3
              have HW := Lib.hid (show whatP v kd = [63] by unfold whatP; rw [if_neg h1, if_neg h2, if_neg h3])
              clear h1 h2 h3 hwl
              go_wp2_with fail
              go_meet
              exact ⟨_, rfl, Lib.hid HW.out.symm, by decide, Lib.hid (Below.refl _ _)⟩
      case rest =>
      obtain ⟨T, rfl, hT, hTl, hBT⟩ := hcut
      obtain ⟨I, hI, hIl, hIC⟩ := itoa_var (j : Int) (by omega) (by omega)
      obtain ⟨X, Z, hXZ, hXl, hZl, hXC, hZC⟩ := hex_var v hvr
      have HI := Lib.hid hI
      have HIC := Lib.hid hIC
      have HXZ := Lib.hid hXZ
      have HXC := Lib.hid hXC
      have HZC := Lib.hid hZC
      have HBc := Lib.hid (show Below W0.heap.size W0 wc from hB.out.trans (hBT.out.mono hB.out.size))
      have HFc := Lib.hid (isBuilder_below hF.out hBT.out)
      have hwi : IntKind.i64.wrap (8 - (X.size : Int)) = 8 - (X.size : Int) := IntWalk.i64_in _ (by omega)
      have n1 : (9223372036854775807 < I.size + 1) = False := eq_false (by omega)
      have n2 : (9223372036854775807 < I.size + 1 + Z.size) = False := eq_false (by omega)
      have n3 : (9223372036854775807 < I.size + 1 + Z.size + X.size) = False := eq_false (by omega)
      have n4 : (9223372036854775807 < I.size + 1 + Z.size + X.size + 1) = False := eq_false (by omega)
      have n5 : (9223372036854775807 < I.size + 1 + Z.size + X.size + 1 + T.size) = False := eq_false (by omega)
      have n6 : (9223372036854775807 < I.size + 1 + Z.size + X.size + 1 + T.size + 1) = False := eq_false (by omega)
      clear hI hIC hXZ hXC hZC hF hB hBT k1
      go_wp2_with (first
        | (go_at_call 35; refine (HXC.out _ (HS0.out.below HBc.out).d).mono ?_; rintro e w5 ⟨rfl, hb5⟩; have HB5 := Lib.hid (show Below W0.heap.size W0 w5 from HBc.out.trans (hb5.mono HBc.out.size)); have HF5 := Lib.hid (isBuilder_below HFc.out hb5); clear hb5)
        | (go_at_call 33; refine (HIC.out _ (HS0.out.below HB5.out).l).mono ?_; rintro e w6 ⟨rfl, hb6⟩; have HB6 := Lib.hid (show Below W0.heap.size W0 w6 from HB5.out.trans (hb6.mono HB5.out.size)); have HF6 := Lib.hid (isBuilder_below HF5.out hb6); clear hb6)
        | (go_at_call 36; refine (HZC.out _).mono ?_; rintro e w7 ⟨rfl, rfl⟩))
      have hS : (I ++ ⟨#[32]⟩ ++ Z ++ X ++ ⟨#[32]⟩ ++ T ++ ⟨#[10]⟩ : ByteArray).data.toList = rowP j v kd := by
        simp only [ByteArray.data_append, Array.toList_append, HI.out, hT.out]
        unfold rowP
        rw [← HXZ.out]
        simp only [List.append_assoc]
      have hbw := bw HF6.out _ _ hS (by have h1 := HEL.out; have h2 := rowsT_len ws ks HW0.out j (by omega); have h3 := rowP_len j (by omega) v kd hvr; rw [List.length_append]; omega) HB6.out.size
      rw [hsz] at hbw
      have HBW := Lib.hid hbw
      clear hbw n1 n2 n3 n4 n5 n6 hS
      refine HBW.out.mono ?_
      rintro e w8 ⟨rfl, hb8, hbl8⟩
      rw [← hsz, List.append_assoc, ← HRS.out] at hb8
      rw [← hsz] at hbl8
      have HF8 := Lib.hid hb8
      have HB8 := Lib.hid (show Below W0.heap.size W0 w8 from HB6.out.trans hbl8)
      clear hb8 hbl8 HBW
      go_wp2_with fail
      go_roundw
      case rel => exact ⟨j + 1, hlt, by go_num, HF8, HB8⟩
      case measure => simp [intOf]; omega
    · have hje : j = ws.length := by omega
      subst hje
      clear hlt k1
      have hbw := bw hF.out ⟨#[100, 97, 116, 97]⟩ datL rfl (by have h1 := HEL.out; have h2 := rowsT_len ws ks HW0.out ws.length (by omega); rw [List.length_append]; show _ + 4 ≤ _; omega) hB.out.size
      rw [hsz] at hbw
      have HBW := Lib.hid hbw
      clear hbw
      go_wp2_with fail
      refine HBW.out.mono ?_
      rintro e w8 ⟨rfl, hb8, hbl8⟩
      rw [← hsz] at hb8 hbl8
      have HF8 := Lib.hid hb8
      have HB8 := Lib.hid (show Below W0.heap.size W0 w8 from hB.out.trans hbl8)
      have k2 := kp HB8.out HQ2.out
      clear hb8 hbl8 HBW hF hB
      go_wp2_with fail
      clear k2
      go_loopw [67] (fun s wr => ∃ j : Nat, j ≤ ds.length ∧ s = .int .i64 j ∧ Hid (SB W0.heap.size (entryT ent ++ rowsT ws ks ws.length ++ datL ++ dataT ds j) wr) ∧ Hid (Below W0.heap.size W0 wr)) (fun s _ => ds.length - (intOf s).toNat)
      case atStart => exact ⟨0, Nat.zero_le _, rfl, Lib.hid (by have := HF8.out; simpa [dataT] using this), HB8⟩
      case round =>
        obtain ⟨i, hi, rfl, hF, hB⟩ := hrel
        have hi0 : (0 : Int) ≤ (i : Int) := Int.natCast_nonneg _
        have HTL := Lib.hid (show (entryT ent ++ rowsT ws ks ws.length ++ datL ++ dataT ds i).length ≤ 70000000000 by
          have h1 := HEL.out
          have h2 := rowsT_len ws ks HW0.out ws.length (by omega)
          have h3 := dataT_len ds HW2.out i
          simp only [List.length_append]
          show _ + _ + 4 + _ ≤ _
          omega)
        by_cases hlt : i < ds.length
        · obtain ⟨ad, hA, hld, hcx⟩ := kany_at (Kd.C_below HR2.out hB.out) i hlt
          subst hA
          have hi1 : (i : Int) < (ds.length : Int) := by omega
          obtain ⟨v, hv⟩ : ∃ v, ds.getD i 0 = v := ⟨_, rfl⟩
          have hvr : 0 ≤ v ∧ v < 4294967296 := by
            rw [← hv, List.getD_eq_getElem?_getD, List.getElem?_eq_getElem hld]
            exact HW2.out _ (List.getElem_mem hld)
          rw [hv] at hcx
          have HDS := Lib.hid (show dataT ds (i + 1) = dataT ds i ++ (32 :: Lib.itoa v) by rw [dataT_succ, hv])
          have hl21 := itoa_len v (by omega) (by omega)
          have HU := Lib.hid (fmtU_any v (by omega) (by omega) wr (HS0.out.below hB.out).l)
          have n1 : (9223372036854775807 < 1 + (Lib.itoa v).length) = False := eq_false (by omega)
          clear hv
          go_wp2_with (go_at_call 35; refine HU.out.mono ?_; rintro e w5 ⟨rfl, hb5⟩; have HB5 := Lib.hid (show Below W0.heap.size W0 w5 from hB.out.trans (hb5.mono hB.out.size)); have HF5 := Lib.hid (isBuilder_below hF.out hb5); clear hb5)
          have hbw := bw HF5.out (⟨#[32]⟩ ++ ⟨(Lib.itoa v).toArray⟩) (32 :: Lib.itoa v) rfl (by have := HTL.out; rw [List.length_cons]; omega) HB5.out.size
          rw [hsz] at hbw
          have HBW := Lib.hid hbw
          clear hbw
          refine HBW.out.mono ?_
          rintro e w9 ⟨rfl, hb9, hbl9⟩
          rw [← hsz, List.append_assoc, ← HDS.out] at hb9
          rw [← hsz] at hbl9
          have HF9 := Lib.hid hb9
          have HB9 := Lib.hid (show Below W0.heap.size W0 w9 from HB5.out.trans hbl9)
          clear hb9 hbl9 HBW
          go_wp2_with fail
          go_roundw
          case rel => exact ⟨i + 1, hlt, by go_num, HF9, HB9⟩
          case measure => simp [intOf]; omega
        · have hie : i = ds.length := by omega
          subst hie
          clear hlt
          obtain ⟨L, hL⟩ : ∃ L, L = entryT ent ++ rowsT ws ks ws.length ++ datL ++ dataT ds ds.length := ⟨_, rfl⟩
          rw [← hL] at hF HTL
          have HLE := Lib.hid (show showP ws ks ds ent = L ++ [10] by rw [hL]; rfl)
          have hne : L ≠ [] := by rw [hL]; unfold entryT; simp
          have hstr := Tryz.Builder_String W0.heap.size W0.heap.size L wr hF.out hne
          rw [hsz] at hstr
          have HST := Lib.hid hstr
          have hll := HTL.out
          have n1 : (9223372036854775807 < L.length + 1) = False := eq_false (by omega)
          clear hstr hL hne hF
          go_wp2_with fail
          refine HST.out.mono ?_
          rintro e w4 ⟨rfl, hb4⟩
          rw [← hsz] at hb4
          have HBF := Lib.hid (show Below w.heap.size w w4 from HB0.out.trans ((hB.out.trans hb4).mono HB0.out.size))
          clear hb4
          go_wp2_with fail
          go_ret
          exact ⟨by rw [HLE.out]; exact congrArg (fun x => Ending.returned (.string x)) (ba_cat L [10]), HBF.out⟩

end Go.Proofs.YtlhgfhmdhmgmpaaGreatDoor

set_option linter.unusedVariables false
set_option linter.unusedSimpArgs false
namespace Go.Proofs.YtlhgfhmdhmgmpaaGreatDoor
open Go.RowKit Go.Proofs.YtlhgfhmdhmgmpaaGreatDoorW.PrintWords Go.Joins Go.Maps

/-- No cell below n is marked. -/
def Far (fz : Nat × Nat) (n : Nat) : Prop := n ≤ fz.1 ∨ fz.2 = 0

theorem store_far (P : Program) (g o : Nat) (t : TypeId) (fz : Nat × Nat) : ∀ (vs : List Value) (i : Nat) (cur : Array Value) (w : World), w.heap[g]? = some (.cells cur t fz) → Far fz cur.size → o + i + vs.length ≤ cur.size → (∀ v ∈ vs, v.oneCell' = true) →
    (storeCells ⟨g, o, none⟩ vs i).run P w = .ok () (w.setRow g (cur.toList.take (o + i) ++ vs ++ cur.toList.drop (o + i + vs.length)).toArray)
  | [], i, cur, w, hg, _, _, _ => by
    simp only [storeCells, List.append_nil, List.length_nil, Nat.add_zero, List.take_append_drop, Array.toArray_toList]
    rw [setRow_self w g cur t fz hg]
    rfl
  | v :: rest, i, cur, w, hg, hfz, hl, h1 => by
    have hi : o + i < cur.size := by simp at hl; omega
    have hadd : (⟨g, o, none⟩ : Addr).add i = ⟨g, o + i, none⟩ := by unfold Addr.add; split <;> simp_all
    have hcell : w.cell? ⟨g, o + i, none⟩ = some cur[o + i] := by simp [World.cell?, hg, hi]
    have hfro : w.frozen? ⟨g, o + i, none⟩ = false := by
      obtain ⟨lo, hi'⟩ := fz
      simp only [World.frozen?, hg, Bool.and_eq_false_iff, decide_eq_false_iff_not]
      rcases hfz with h | h
      · left; simp only at h; omega
      · right; simp only at h; omega
    have hst : (store ((⟨g, o, none⟩ : Addr).add i) v).run P w = .ok () (w.setRow g (cur.setIfInBounds (o + i) v)) := by
      rw [hadd, run_store P w _ v _ (h1 v (by simp)), hcell]
      simp [hfro, setCell_eq_setRow w g (o + i) cur t fz v hg]
    have ih := store_far P g o t fz rest (i + 1) (cur.setIfInBounds (o + i) v) (w.setRow g (cur.setIfInBounds (o + i) v)) (setRow_heap w g cur _ t _ hg) (by rw [Array.size_setIfInBounds]; exact hfz) (by simp at hl ⊢; omega) (fun x hx => h1 x (by simp [hx]))
    simp only [storeCells, Sem.run_bind, hst, Result.andThen_ok, ih, setRow_setRow]
    congr 3
    have e := list_seg_step cur.toList (o + i) v rest (by simp at hl ⊢; omega)
    simpa [Array.toList_setIfInBounds, Nat.add_assoc] using e

/-- The slice value v owns these bytes. -/
def OwnG (w : World) (B : Nat) (v : Value) (L : List UInt8) : Prop :=
  ∃ g cap cur fz, v = .slice (some ⟨g, 0, none⟩) L.length cap ∧ B ≤ g ∧ w.heap[g]? = some (.cells cur 5 fz) ∧ Far fz cur.size ∧ L.length ≤ cap ∧ cap ≤ maxLen ∧ cur.size = cap ∧ cur.toList.take L.length = Lib.byteCells L

theorem OwnG.below {w w' : World} {B : Nat} {v : Value} {L : List UInt8} (h : OwnG w B v L) (hb : Below w.heap.size w w') : OwnG w' B v L := by
  obtain ⟨g, cap, cur, fz, h1, h2, h3, h4⟩ := h
  exact ⟨g, cap, cur, fz, h1, h2, (hb.block g (Array.getElem?_eq_some_iff.1 h3).1).trans h3, h4⟩

theorem OwnG.block {w : World} {B : Nat} {v : Value} {L : List UInt8} (h : OwnG w B v L) : ∀ b, v.ownBlock = some b → B ≤ b := by
  obtain ⟨g, cap, cur, fz, rfl, h2, _⟩ := h
  intro b hb
  simp only [Value.ownBlock, Option.some.injEq] at hb
  omega

theorem OwnG.form {w : World} {B : Nat} {v : Value} {L : List UInt8} (h : OwnG w B v L) : ∃ g cap, v = .slice (some ⟨g, 0, none⟩) L.length cap ∧ B ≤ g ∧ ∀ j (hj : j < L.length), w.cell? ⟨g, j, none⟩ = some (.int .u8 (L[j].toNat : Int)) := by
  obtain ⟨g, cap, cur, fz, h1, h2, h3, h4, h5, h6, h7, h8⟩ := h
  refine ⟨g, cap, h1, h2, fun j hj => ?_⟩
  rw [cell_of_block h3]
  have e := congrArg (fun l => l[j]?) h8
  simp only [List.getElem?_take, if_pos hj, Lib.byteCells, List.getElem?_map, List.getElem?_eq_getElem hj, Option.map_some] at e
  rw [← Array.getElem?_toList]
  exact e

/-- What a conversion lays. -/
theorem OwnG.conv (w : World) (s : ByteArray) (hs : s.size ≤ 1000000000) : OwnG (Lib.bytesWorld w 5 s) w.heap.size (.slice (some ⟨w.heap.size, 0, none⟩) s.size (grownCap w s.size 0 5)) s.data.toList := by
  have hl := ba_size s
  have hge := grownCap_ge w s.size 0 5
  have hsz : (Lib.bytesCells w 5 s).size = grownCap w s.size 0 5 := by
    unfold Lib.bytesCells
    rw [Array.size_append, Array.size_map, Array.size_replicate]
    have : s.data.size = s.size := rfl
    omega
  refine ⟨w.heap.size, _, _, _, by rw [hl], Nat.le_refl _, Lib.bytesWorld_at_new w _ s, .inl (Nat.le_refl _), by rw [hl]; exact hge, grownCap_le_maxLen w _ _ _ (by unfold maxLen; omega), hsz, ?_⟩
  unfold Lib.bytesCells Lib.byteCells
  rw [Array.toList_append, Array.toList_map, List.take_left' (by rw [List.length_map])]

theorem below_conv (w : World) (s : ByteArray) : Below w.heap.size w (Lib.bytesWorld w 5 s) :=
  ⟨rfl, rfl, rfl, by rw [Lib.bytesWorld_size]; omega, fun i hi => Lib.bytesWorld_at_old w _ s i hi⟩

theorem byteInfo : ∃ i, Tryz.prog.info? 5 = some i ∧ i.zero = some (.int .u8 0) ∧ i.size = 1 ∧ i.bytes = 1 := by
  obtain ⟨i, hi, hii⟩ := Option.map_eq_some_iff.1 (show (Tryz.prog.info? 5).map (fun i => (i.zero, i.size, i.bytes)) = some (some (.int .u8 0), 1, 1) by kernel_rfl)
  simp only [Prod.mk.injEq] at hii
  exact ⟨i, hi, hii.1, hii.2.1, hii.2.2⟩

theorem grown_new {w : World} {B : Nat} {L : List UInt8} (s : List UInt8) (z : Array Value) (need old : Nat) (hz : z.size = grownCap w need old 5 - need) (hn : need = (L ++ s).length) (hB : B ≤ w.heap.size) (hm : need ≤ maxLen) :
    OwnG (w.drew.alloc (.cells ((Lib.byteCells L).toArray ++ (Lib.byteCells s).toArray ++ z) 5)) B (.slice (some ⟨w.heap.size, 0, none⟩) need (grownCap w need old 5)) (L ++ s) := by
  have hge := grownCap_ge w need old 5
  refine ⟨w.heap.size, _, _, (0, 0), by rw [hn], hB, heap_alloc_new w.drew _, .inr rfl, by rw [← hn]; exact hge, grownCap_le_maxLen w _ _ _ hm, ?_, ?_⟩
  · simp only [Array.size_append, List.size_toArray, Lib.byteCells_length, hz]
    rw [List.length_append] at hn
    omega
  · rw [Array.toList_append, Array.toList_append, ← Lib.byteCells_append, List.take_left' (by rw [Lib.byteCells_length])]

theorem OwnG.cells {w : World} {B : Nat} {g cap : Nat} {L : List UInt8} {cur : Array Value} {fz : Nat × Nat} (h3 : w.heap[g]? = some (.cells cur 5 fz)) (h8 : cur.toList.take L.length = Lib.byteCells L) : ∀ j u, (Lib.byteCells L)[j]? = some u → w.cell? ((⟨g, 0, none⟩ : Addr).add j) = some u := by
  intro j u hu
  rw [Lib.add_plain, cell_of_block h3]
  have hj : j < L.length := by have := (List.getElem?_eq_some_iff.1 hu).1; rwa [Lib.byteCells_length] at this
  have e := congrArg (fun l => l[j]?) h8
  simp only [List.getElem?_take, if_pos hj] at e
  rw [hu] at e
  rw [← Array.getElem?_toList]
  rw [Nat.zero_add] at *
  exact e

theorem grownBy_new (w : World) (o : Obj) (row : Option Nat) : w.grownBy (w.drew.alloc o) row :=
  ⟨rfl, rfl, rfl, by simp, fun k hk _ => by first | exact heap_alloc_old w.drew _ k hk | exact heap_alloc_old w.drew _ hk⟩

theorem app_strG {w : World} {B : Nat} {v : Value} {L : List UInt8} (h : OwnG w B v L) (s : ByteArray) (ty : TypeId) (hl : L.length + s.size ≤ 140737488355328) (hB : B ≤ w.heap.size) :
    ∃ v' w', (Builtin.append_ #[52, 9] ty #[v, .string s]).run Tryz.prog w = .ok v' w' ∧ OwnG w' B v' (L ++ s.data.toList) ∧ w.grownBy w' v.ownBlock := by
  obtain ⟨g, cap, cur, fz, rfl, h2, h3, h4, h5, h6, h7, h8⟩ := h
  obtain ⟨i, hi, hz, hsz, hby⟩ := byteInfo
  have hsl := ba_size s
  by_cases hroom : L.length + s.size ≤ cap
  · have hf := Lib.run_firstCells_string (P := Tryz.prog) w 1 s
    have hst := store_far Tryz.prog g L.length 5 fz (Lib.strCells s) 0 cur w h3 h4 (by simp only [Lib.strCells_length]; omega) (Lib.strCells_oneCell s)
    simp only [Nat.add_zero, Lib.strCells_length] at hst
    refine ⟨.slice (some ⟨g, 0, none⟩) (L.length + s.size) cap, _, by simp [Builtin.append_, run_underlying Tryz.underlying52, run_underlying Tryz.underlying9, sizeOf, typeInfo, hi, hsz, Builtin.lenOf, hroom, hf, Addr.add_lit, hst]; rfl, ⟨g, cap, _, fz, by rw [List.length_append, hsl], h2, setRow_heap w g cur _ _ _ h3, ?_, by rw [List.length_append, hsl]; exact hroom, h6, ?_, ?_⟩, ⟨rfl, rfl, rfl, by simp, fun k _ hk => setRow_other w g k _ (fun e => hk (by simp [Value.ownBlock, e]))⟩⟩
    · have : (cur.toList.take L.length ++ Lib.strCells s ++ cur.toList.drop (L.length + s.size)).toArray.size = cur.size := by
        simp only [List.size_toArray, List.length_append, List.length_take, List.length_drop, Array.length_toList, Lib.strCells_length]
        omega
      (try rw [← List.append_assoc]); rw [this]; exact h4
    · simp only [List.size_toArray, List.length_append, List.length_take, List.length_drop, Array.length_toList, Lib.strCells_length]
      omega
    · (try rw [← List.append_assoc]); rw [h8, Lib.strCells_eq, ← Lib.byteCells_append]
      exact List.take_left' (by rw [Lib.byteCells_length])
  · have hr := Lib.run_append_grow_string (P := Tryz.prog) w 52 9 ty 5 i (.int .u8 0) Tryz.underlying52 Tryz.underlying9 hi hz ⟨g, 0, none⟩ L.length cap (Lib.byteCells L) (by rw [hsz, Lib.byteCells_length, Nat.mul_one]) (OwnG.cells (B := B) (cap := cap) h3 h8) s (by omega) (by omega) (by rw [hby]; exact growslice_fits (by omega) (by omega))
    refine ⟨_, _, hr, ?_, grownBy_new _ _ _⟩
    rw [Lib.strCells_eq]
    exact grown_new _ _ _ _ (by rw [size_zeroCells]; show _ * 1 = _; omega) (by rw [List.length_append, hsl]) hB (by unfold maxLen; omega)

theorem app_oneG {w : World} {B : Nat} {v : Value} {L : List UInt8} (h : OwnG w B v L) (b : UInt8) (ad : Addr) (c : Nat) (hc : w.cell? ad = some (.int .u8 (b.toNat : Int))) (ty : TypeId) (hl : L.length + 1 ≤ 140737488355328) (hB : B ≤ w.heap.size) :
    ∃ v' w', (Builtin.append_ #[52, 52] ty #[v, .slice (some ad) 1 c]).run Tryz.prog w = .ok v' w' ∧ OwnG w' B v' (L ++ [b]) ∧ w.grownBy w' v.ownBlock := by
  obtain ⟨g, cap, cur, fz, rfl, h2, h3, h4, h5, h6, h7, h8⟩ := h
  obtain ⟨i, hi, hz, hsz, hby⟩ := byteInfo
  have hnews : ∀ j u, (Lib.byteCells [b])[j]? = some u → w.cell? (ad.add j) = some u := fun j u hu => by
    cases j with
    | zero =>
      have : u = .int .u8 (b.toNat : Int) := by simpa [Lib.byteCells] using hu.symm
      rw [this, ← hc]
      cases ad; simp [Addr.add]
    | succ j => simp [Lib.byteCells] at hu
  have hone : ∀ u ∈ Lib.byteCells [b], u.oneCell' = true := fun u hu => by
    have : u = .int .u8 (b.toNat : Int) := by simpa [Lib.byteCells] using hu
    rw [this]; rfl
  by_cases hroom : L.length + 1 ≤ cap
  · have hf := run_firstCells_some (P := Tryz.prog) w 1 1 ad 1 c (Lib.byteCells [b]) rfl hnews
    have hst := store_far Tryz.prog g L.length 5 fz (Lib.byteCells [b]) 0 cur w h3 h4 (by simp only [Lib.byteCells_length, List.length_cons, List.length_nil]; omega) hone
    simp only [Nat.add_zero] at hst
    refine ⟨.slice (some ⟨g, 0, none⟩) (L.length + 1) cap, _, by simp [Builtin.append_, run_underlying Tryz.underlying52, sizeOf, typeInfo, hi, hsz, Builtin.lenOf, hroom, hf, Addr.add_lit, hst]; rfl, ⟨g, cap, _, fz, by rw [List.length_append]; rfl, h2, setRow_heap w g cur _ _ _ h3, ?_, by rw [List.length_append]; exact hroom, h6, ?_, ?_⟩, ⟨rfl, rfl, rfl, by simp, fun k _ hk => setRow_other w g k _ (fun e => hk (by simp [Value.ownBlock, e]))⟩⟩
    · have : (cur.toList.take L.length ++ Lib.byteCells [b] ++ cur.toList.drop (L.length + (Lib.byteCells [b]).length)).toArray.size = cur.size := by
        simp only [List.size_toArray, List.length_append, List.length_take, List.length_drop, Array.length_toList, Lib.byteCells_length, List.length_cons, List.length_nil]
        omega
      (try rw [← List.append_assoc]); rw [this]; exact h4
    · simp only [List.size_toArray, List.length_append, List.length_take, List.length_drop, Array.length_toList, Lib.byteCells_length, List.length_cons, List.length_nil]
      omega
    · (try rw [← List.append_assoc]); rw [h8, ← Lib.byteCells_append]
      exact List.take_left' (by rw [Lib.byteCells_length])
  · have hr := run_append_grow (P := Tryz.prog) w 52 ty 5 i (.int .u8 0) Tryz.underlying52 hi hz ⟨g, 0, none⟩ L.length cap (Lib.byteCells L) (by rw [hsz, Lib.byteCells_length, Nat.mul_one]) (OwnG.cells (B := B) (cap := cap) h3 h8) ad 1 c (Lib.byteCells [b]) (by rw [hsz]; rfl) hnews (by omega) (by omega) (by rw [hby]; exact growslice_fits (by omega) (by omega))
    refine ⟨_, _, hr, ?_, grownBy_new _ _ _⟩
    exact grown_new _ _ _ _ (by rw [size_zeroCells]; show _ * 1 = _; omega) (by rw [List.length_append]; rfl) hB (by unfold maxLen; omega)

section
variable {w : World} {ops : Array Oper} {o : Oper} {a : Act} {K : Act → World → Prop} {Q : Exit → Act → World → Prop} {E : Prop}

/-- At the operation. -/
theorem wp_strG (sl x : Operand) (ho : o.op = .call { callee := .builtin .append, args := #[sl, x], argTypes := #[52, 9] })
    (B : Nat) (v : Value) (L : List UInt8) (hs : a.eval sl = v) (hown : OwnG w B v L) (s : ByteArray) (hx : a.eval x = .string s) (hl : L.length + s.size ≤ 140737488355328) (hB : B ≤ w.heap.size)
    (h : ∀ v' w', OwnG w' B v' (L ++ s.data.toList) → w.grownBy w' v.ownBlock → K (a.put o.dst v') w') : o.wp Tryz.prog a w K Q := by
  obtain ⟨v', w', hr, h2, h3⟩ := app_strG hown s o.type hl hB
  unfold Oper.wp execOp
  simp only [ho, resolve, invoke, builtin, Sem.run_bind, Sem.run_pure, Result.andThen_ok, List.map_toArray, List.map_cons, List.map_nil, hs, hx, hr]
  exact h v' w' h2 h3

theorem list_strG {rest : List Oper} (hgd : o.guard = none) (sl x : Operand) (ho : o.op = .call { callee := .builtin .append, args := #[sl, x], argTypes := #[52, 9] })
    (B : Nat) (v : Value) (L : List UInt8) (hs : a.eval sl = v) (hown : OwnG w B v L) (s : ByteArray) (hx : a.eval x = .string s) (hl : L.length + s.size ≤ 140737488355328) (hB : B ≤ w.heap.size)
    (h : ∀ v' w', OwnG w' B v' (L ++ s.data.toList) → w.grownBy w' v.ownBlock → wpList Tryz.prog ops Q rest (a.put o.dst v') w') : wpList Tryz.prog ops Q (o :: rest) a w :=
  wpList_plain hgd fun _ hK => wp_strG sl x ho B v L hs hown s hx hl hB fun v' w' h2 h3 => hK _ _ (h v' w' h2 h3)

theorem step_strG (hgd : o.guard = none) (sl x : Operand) (ho : o.op = .call { callee := .builtin .append, args := #[sl, x], argTypes := #[52, 9] })
    (B : Nat) (v : Value) (L : List UInt8) (hs : a.eval sl = v) (hown : OwnG w B v L) (s : ByteArray) (hx : a.eval x = .string s) (hl : L.length + s.size ≤ 140737488355328) (hB : B ≤ w.heap.size)
    (h : ∀ v' w', OwnG w' B v' (L ++ s.data.toList) → w.grownBy w' v.ownBlock → K (a.put o.dst v') w') : if Region.wanted o (yielded ops a.tmps) = true then Oper.wp Tryz.prog o a w K Q else E := by
  have hw : Region.wanted o (yielded ops a.tmps) = true := by simp [Region.wanted, hgd]
  rw [if_pos hw]
  exact wp_strG sl x ho B v L hs hown s hx hl hB h

theorem list_oneG {rest : List Oper} (hgd : o.guard = none) (sl x : Operand) (ho : o.op = .call { callee := .builtin .append, args := #[sl, x], argTypes := #[52, 52] })
    (B : Nat) (v : Value) (L : List UInt8) (hs : a.eval sl = v) (hown : OwnG w B v L) (b : UInt8) (ad : Addr) (c : Nat) (hx : a.eval x = .slice (some ad) 1 c) (hc : w.cell? ad = some (.int .u8 (b.toNat : Int))) (hl : L.length + 1 ≤ 140737488355328) (hB : B ≤ w.heap.size)
    (h : ∀ v' w', OwnG w' B v' (L ++ [b]) → w.grownBy w' v.ownBlock → wpList Tryz.prog ops Q rest (a.put o.dst v') w') : wpList Tryz.prog ops Q (o :: rest) a w := by
  refine wpList_plain hgd fun K hK => ?_
  obtain ⟨v', w', hr, h2, h3⟩ := app_oneG hown b ad c hc o.type hl hB
  unfold Oper.wp execOp
  simp only [ho, resolve, invoke, builtin, Sem.run_bind, Sem.run_pure, Result.andThen_ok, List.map_toArray, List.map_cons, List.map_nil, hs, hx, hr]
  exact hK _ _ (h v' w' h2 h3)
end

end Go.Proofs.YtlhgfhmdhmgmpaaGreatDoor

set_option linter.unusedVariables false
set_option linter.unusedSimpArgs false
namespace Go.Proofs.YtlhgfhmdhmgmpaaGreatDoor
open Go.RowKit Go.Proofs.YtlhgfhmdhmgmpaaGreatDoorW.PrintWords Go.Joins Go.Maps

theorem guardG {o : Oper} {ops : Array Oper} {a : Act} {w : World} {K : Act → World → Prop} {Q : Exit → Act → World → Prop} {E : Prop} (sl x : Operand) (ho : o.op = .call { callee := .builtin .append, args := #[sl, x], argTypes := #[52, 9] })
    (h : if Region.wanted o (yielded ops a.tmps) = true then Oper.wp Tryz.prog o a w K Q else E) : if Region.wanted o (yielded ops a.tmps) = true then Oper.wp Tryz.prog o a w K Q else E := h

theorem OwnG.lower {w : World} {B B' : Nat} {v : Value} {L : List UInt8} (h : OwnG w B v L) (hb : B' ≤ B) : OwnG w B' v L := by
  obtain ⟨g, cap, cur, fz, h1, h2, h3⟩ := h
  exact ⟨g, cap, cur, fz, h1, Nat.le_trans hb h2, h3⟩

set_option maxHeartbeats 4000000 in
set_option maxRecDepth 100000 in
theorem showR_any (A0 A1 A2 : Option Addr) (c0 c1 c2 : Nat) (ws ks ds : List Int) (ent : Int) (w : World)
    (hD : ∀ (n : Int) (w : World), -9223372036854775808 ≤ n → n ≤ 9223372036854775807 → Calls Tryz.prog 37 #[.int .i64 n] w fun e w' => e = .returned (.string ⟨(Lib.itoa n).toArray⟩) ∧ Below w.heap.size w w')
    (hH : ∀ (v : Int) (w : World), 0 ≤ v → v < 4294967296 → Calls Tryz.prog 38 #[.int .u32 v] w fun e w' => e = .returned (.string ⟨(digs 8 v.toNat).toArray⟩) ∧ Below w.heap.size w w')
    (hS : ∀ (v k : Int) (w : World), 0 ≤ v → v < 4294967296 → Calls Tryz.prog 39 #[.int .u32 v, .int .i64 k] w fun e w' => e = .returned (.string ⟨(whatP v k).toArray⟩) ∧ Below w.heap.size w w')
    (r0 : (Kd.int .u32).C w A0 ws.length ws) (r1 : (Kd.int .i64).C w A1 ks.length ks) (r2 : (Kd.int .u32).C w A2 ds.length ds)
    (hw0 : ∀ x ∈ ws, 0 ≤ x ∧ x < 4294967296) (hw2 : ∀ x ∈ ds, 0 ≤ x ∧ x < 4294967296) (he : -9223372036854775808 ≤ ent ∧ ent ≤ 9223372036854775807) (l0 : ws.length ≤ 1100000) (l1 : ks.length ≤ 1000000000) (l2 : ds.length ≤ 1100000) :
    Calls Tryz.prog 17 #[.agg #[.slice A0 ws.length c0, .slice A1 ks.length c1, .slice A2 ds.length c2, .int .i64 ent]] w fun e w' => e = .returned (.string ⟨(showP ws ks ds ent).toArray⟩) ∧ Below w.heap.size w w' := by
  obtain ⟨W0, hW0⟩ : ∃ W0, W0 = w.alloc (.cells #[.slice A0 ws.length c0, .slice A1 ks.length c1, .slice A2 ds.length c2, .int .i64 ent] 37) := ⟨_, rfl⟩
  have hB0 : Below w.heap.size w W0 := by rw [hW0]; exact (Below.refl _ _).alloc (Nat.le_refl _) _
  have q0 : W0.cell? ⟨w.heap.size, 0, none⟩ = some (.slice A0 ws.length c0) := by rw [hW0]; exact kn 0 rfl
  have q1 : W0.cell? ⟨w.heap.size, 1, none⟩ = some (.slice A1 ks.length c1) := by rw [hW0]; exact kn 1 rfl
  have q2 : W0.cell? ⟨w.heap.size, 2, none⟩ = some (.slice A2 ds.length c2) := by rw [hW0]; exact kn 2 rfl
  have q3 : W0.cell? ⟨w.heap.size, 3, none⟩ = some (.int .i64 ent) := by rw [hW0]; exact kn 3 rfl
  have HD := Lib.hid hD
  have HH := Lib.hid hH
  have HS := Lib.hid hS
  have HR0 := Lib.hid (Kd.C_below r0 hB0)
  have HR1 := Lib.hid (Kd.C_below r1 hB0)
  have HR2 := Lib.hid (Kd.C_below r2 hB0)
  have HW0 := Lib.hid hw0
  have HW2 := Lib.hid hw2
  have HB0 := Lib.hid hB0
  have HQ0 := Lib.hid q0
  have HQ1 := Lib.hid q1
  have HQ2 := Lib.hid q2
  have HWE := Lib.hid hW0
  obtain ⟨J, hJ⟩ : ∃ J : ByteArray, J = ⟨(Lib.itoa ent).toArray⟩ := ⟨_, rfl⟩
  have hJs : J.size ≤ 21 := by rw [hJ]; exact itoa_len ent he.1 he.2
  have HJ := Lib.hid (show J.data.toList = Lib.itoa ent by rw [hJ])
  have HJC := Lib.hid (show ∀ w, Calls Tryz.prog 37 #[.int .i64 ent] w fun e w' => e = .returned (.string J) ∧ Below w.heap.size w w' by rw [hJ]; exact fun w => hD ent w he.1 he.2)
  have n1 : (9223372036854775807 < 6 + J.size) = False := eq_false (by omega)
  have n2 : (9223372036854775807 < 6 + J.size + 1) = False := eq_false (by omega)
  have HCV := Lib.hid (fun (W : World) (s : ByteArray) => Lib.run_convert_string_bytes (P := Tryz.prog) W 9 52 5 s Tryz.underlying9 Tryz.underlying52 Tryz.underlying5)
  clear hD hH hS r0 r1 r2 hw0 hw2 he hB0 q0 q1 q2 hW0 hJ
  go_enter Tryz.func17, Tryz.ntmps17
  go_upto_region 1 with fail
  rw [← HWE.out]
  clear HWE
  go_wp2_with (go_at_call 37; refine (HJC.out _).mono ?_; rintro e w3 ⟨rfl, hb3⟩; have HB3 := Lib.hid hb3; clear hb3; have hcv := HCV.out w3 (⟨#[101, 110, 116, 114, 121, 32]⟩ ++ J ++ ⟨#[10]⟩))
  clear hcv n1 n2
  have hsz : (⟨#[101, 110, 116, 114, 121, 32]⟩ ++ J ++ ⟨#[10]⟩ : ByteArray).size = 6 + J.size + 1 := by simp only [ByteArray.size_append]; rfl
  have hown := OwnG.conv w3 (⟨#[101, 110, 116, 114, 121, 32]⟩ ++ J ++ ⟨#[10]⟩) (by rw [hsz]; omega)
  have hbw := below_conv w3 (⟨#[101, 110, 116, 114, 121, 32]⟩ ++ J ++ ⟨#[10]⟩)
  have hdt : (⟨#[101, 110, 116, 114, 121, 32]⟩ ++ J ++ ⟨#[10]⟩ : ByteArray).data.toList = entryT ent := by simp only [ByteArray.data_append, Array.toList_append, HJ.out]; rfl
  rw [hdt, hsz] at hown
  have HB4 := Lib.hid (show Below W0.heap.size W0 _ from HB3.out.trans (hbw.mono HB3.out.size))
  have HO4 := Lib.hid (hown.lower HB3.out.size)
  have HEL := Lib.hid (show (entryT ent).length ≤ 100 by rw [← hdt, ba_size, hsz]; omega)
  generalize Lib.bytesWorld w3 5 (⟨#[101, 110, 116, 114, 121, 32]⟩ ++ J ++ ⟨#[10]⟩) = W4 at HB4 HO4 ⊢
  generalize Value.slice (some ⟨w3.heap.size, 0, none⟩) (6 + J.size + 1) (grownCap w3 (6 + J.size + 1) 0 5) = v4 at HO4 ⊢
  clear hown hbw hsz hdt
  go_loopw [3, 4] (fun vv s wr => ∃ j : Nat, j ≤ ws.length ∧ s = .int .i64 j ∧ Hid (OwnG wr W0.heap.size vv (entryT ent ++ rowsT ws ks j)) ∧ Hid (Below W0.heap.size W0 wr)) (fun _ s _ => ws.length - (intOf s).toNat)
  case atStart => exact ⟨0, Nat.zero_le _, rfl, Lib.hid (by have := HO4.out; simpa [rowsT] using this), HB4⟩
  case round =>
    obtain ⟨j, hj, rfl, hO, hB⟩ := hrel
    have hj0 : (0 : Int) ≤ (j : Int) := Int.natCast_nonneg _
    have hjl : (j : Int) ≤ 1100000 := by omega
    have k0 := kp hB.out HQ0.out
    have k1 := kp hB.out HQ1.out
    by_cases hlt : j < ws.length
    · obtain ⟨ad, hA, hlw, hcx⟩ := kany_at HR0.out j hlt
      subst hA
      have hj1 : (j : Int) < (ws.length : Int) := by omega
      obtain ⟨v, hv⟩ : ∃ v, ws.getD j 0 = v := ⟨_, rfl⟩
      have hvr : 0 ≤ v ∧ v < 4294967296 := by
        rw [← hv, List.getD_eq_getElem?_getD, List.getElem?_eq_getElem hlw]
        exact HW0.out _ (List.getElem_mem hlw)
      rw [hv] at hcx
      obtain ⟨kd, hkd⟩ : ∃ kd, ks.getD j 0 = kd := ⟨_, rfl⟩
      have HRS := Lib.hid (show rowsT ws ks (j + 1) = rowsT ws ks j ++ rowP j v kd by rw [rowsT_succ, hv, hkd])
      have HKD := Lib.hid hkd
      have HCX := Lib.hid hcx
      clear hv hkd hcx
      go_upto_if 24 with fail
      go_cut [5] from 25 to 29 (fun s wx => s = .int .i64 kd ∧ wr = wx)
      case first =>
        by_cases hk : j < ks.length
        · obtain ⟨ad1, hA1, _, hck⟩ := kany_at (Kd.C_below HR1.out hB.out) j hk
          subst hA1
          rw [HKD.out] at hck
          have hk1 : (j : Int) < (ks.length : Int) := by omega
          have hkd1 : decide ((j : Int) < (ks.length : Int)) = true := decide_eq_true hk1
          go_wp2_with fail
          go_meet
          exact ⟨rfl, rfl⟩
        · have hkd1 : decide ((j : Int) < (ks.length : Int)) = false := decide_eq_false (by omega)
          have hz : kd = 0 := by rw [← HKD.out, List.getD_eq_getElem?_getD, List.getElem?_eq_none (by omega)]; rfl
          subst hz
          go_wp2_with fail
          go_meet
          exact ⟨rfl, rfl⟩
      case rest =>
      obtain ⟨rfl, rfl⟩ := hcut
      obtain ⟨I, hI⟩ : ∃ I : ByteArray, I = ⟨(Lib.itoa (j : Int)).toArray⟩ := ⟨_, rfl⟩
      obtain ⟨X, hX⟩ : ∃ X : ByteArray, X = ⟨(digs 8 v.toNat).toArray⟩ := ⟨_, rfl⟩
      obtain ⟨T, hT⟩ : ∃ T : ByteArray, T = ⟨(whatP v kd).toArray⟩ := ⟨_, rfl⟩
      have hIs : I.size ≤ 21 := by rw [hI]; exact itoa_len (j : Int) (by omega) (by omega)
      have hXs : X.size ≤ 8 := by rw [hX]; exact Nat.le_of_eq (digs_len 8 _)
      have hTs : T.size ≤ 60000 := by rw [hT]; exact whatP_len v kd hvr
      have HIC := Lib.hid (fun w => HD.out (j : Int) w (by omega) (by omega))
      have HXC := Lib.hid (fun w => HH.out v w hvr.1 hvr.2)
      have HTC := Lib.hid (fun w => HS.out v kd w hvr.1 hvr.2)
      rw [← hI] at HIC
      rw [← hX] at HXC
      rw [← hT] at HTC
      have HSD := Lib.hid (show (I ++ ⟨#[32]⟩ ++ X ++ ⟨#[32]⟩ ++ T ++ ⟨#[10]⟩ : ByteArray).data.toList = rowP j v kd by
        rw [hI, hX, hT]
        simp only [ByteArray.data_append, Array.toList_append]
        unfold rowP
        rfl)
      have HSL := Lib.hid (show (entryT ent ++ rowsT ws ks j).length + (I ++ ⟨#[32]⟩ ++ X ++ ⟨#[32]⟩ ++ T ++ ⟨#[10]⟩ : ByteArray).size ≤ 140737488355328 by
        rw [← ba_size, HSD.out, List.length_append]
        have h1 := HEL.out
        have h2 := rowsT_len ws ks HW0.out j (by omega)
        have h3 := rowP_len j (by omega) v kd hvr
        omega)
      have n1 : (9223372036854775807 < I.size + 1) = False := eq_false (by omega)
      have n2 : (9223372036854775807 < I.size + 1 + X.size) = False := eq_false (by omega)
      have n3 : (9223372036854775807 < I.size + 1 + X.size + 1) = False := eq_false (by omega)
      have n4 : (9223372036854775807 < I.size + 1 + X.size + 1 + T.size) = False := eq_false (by omega)
      have n5 : (9223372036854775807 < I.size + 1 + X.size + 1 + T.size + 1) = False := eq_false (by omega)
      have HCC := Lib.hid (fun (w' : World) (h : Hid (Below W0.heap.size W0 w')) => (⟨kp h.out HQ0.out, kp h.out HCX.out⟩ : w'.cell? ⟨w.heap.size, 0, none⟩ = some (.slice (some ad) ws.length c0) ∧ w'.cell? (ad.add j) = some (.int .u32 v)))
      have HKK := Lib.hid (fun (w' w'' : World) (h : Hid (Below W0.heap.size W0 w')) (hb : Below w'.heap.size w' w'') => (Lib.hid (h.out.trans (hb.mono h.out.size)) : Hid (Below W0.heap.size W0 w'')))
      have HKO := Lib.hid (fun (w' w'' : World) (h : Hid (OwnG w' W0.heap.size u3 (entryT ent ++ rowsT ws ks j))) (hb : Below w'.heap.size w' w'') => (Lib.hid (h.out.below hb) : Hid (OwnG w'' W0.heap.size u3 (entryT ent ++ rowsT ws ks j))))
      have HB7 := hB
      have HO7 := hO
      clear hI hX hT k0 k1 hO hB
      go_upto_region 8 with fail
      have HB0d := HKK.out _ _ HB7 ((Below.refl _ _).drew)
      have HO0d := HKO.out _ _ HO7 ((Below.refl _ _).drew)
      go_region_held3 (fun w' => w'.cell? ⟨w.heap.size, 0, none⟩ = some (.slice (some ad) ws.length c0) ∧ w'.cell? (ad.add j) = some (.int .u32 v))
        (first
          | (with_reducible exact HCC.out _ HB9)
          | (with_reducible exact HCC.out _ HB8)
          | (with_reducible exact HCC.out _ HB6)
          | (with_reducible exact HCC.out _ HB5)
          | (with_reducible exact HCC.out _ HB0d)
          | fail)
        (first
          | (go_at_call 37; refine (HIC.out _).mono ?_; rintro e w5 ⟨rfl, hb5⟩; have HB5 := HKK.out _ _ HB0d hb5; have HO5 := HKO.out _ _ HO0d hb5; clear hb5)
          | (go_at_call 38; refine (HXC.out _).mono ?_; rintro e w6 ⟨rfl, hb6⟩; have HB6 := HKK.out _ _ HB5 hb6; have HO6 := HKO.out _ _ HO5 hb6; clear hb6)
          | (go_at_call 39; refine (HTC.out _).mono ?_; rintro e w8 ⟨rfl, hb8⟩; have HB8 := HKK.out _ _ HB6 hb8; have HO8 := HKO.out _ _ HO6 hb8; clear hb8)
          | (with_reducible refine guardG (.tmp 30) (.tmp 50) ?ho ?_; (case ho => with_reducible rfl); with_reducible refine step_strG ?hgd (.tmp 30) (.tmp 50) ?ho W0.heap.size u3 (entryT ent ++ rowsT ws ks j) ?hs HO8.out (I ++ ⟨#[32]⟩ ++ X ++ ⟨#[32]⟩ ++ T ++ ⟨#[10]⟩) ?hx HSL.out HB8.out.size ?_; (case ho => with_reducible rfl); (case hgd => rfl); (case hs => simp [go_sem]); (case hx => simp [go_sem]); intro v9 w9 ho9 hg9; have HB9 := Lib.hid (HB8.out.grown hg9 HB8.out.size HO8.out.block); have HO9 := Lib.hid ho9; clear ho9 hg9)
          | fail)
      rw [HSD.out, List.append_assoc, ← HRS.out] at HO9
      clear n1 n2 n3 n4 n5
      go_wp2_with fail
      go_roundw
      case rel => exact ⟨j + 1, hlt, by go_num, HO9, HB9⟩
      case measure => simp [intOf]; omega
    · have hje : j = ws.length := by omega
      subst hje
      clear hlt k1
      have HSL := Lib.hid (show (entryT ent ++ rowsT ws ks ws.length).length + (⟨#[100, 97, 116, 97]⟩ : ByteArray).size ≤ 140737488355328 by
        rw [List.length_append]
        have h1 := HEL.out
        have h2 := rowsT_len ws ks HW0.out ws.length (by omega)
        show _ + 4 ≤ _
        omega)
      go_wp2_with (at_builtin; refine list_strG rfl (.tmp 52) (.const (.string ⟨#[100, 97, 116, 97]⟩)) rfl W0.heap.size u3 (entryT ent ++ rowsT ws ks ws.length) rfl hO.out ⟨#[100, 97, 116, 97]⟩ rfl HSL.out hB.out.size ?_; intro v9 w9 ho9 hg9; have HB9 := Lib.hid (hB.out.grown hg9 hB.out.size hO.out.block); have HO9 := Lib.hid ho9; clear ho9 hg9; have k2 := kp HB9.out HQ2.out)
      clear k0 k2 hO hB
      go_loopw [3, 6] (fun vv s wr => ∃ i : Nat, i ≤ ds.length ∧ s = .int .i64 i ∧ Hid (OwnG wr W0.heap.size vv (entryT ent ++ rowsT ws ks ws.length ++ datL ++ dataT ds i)) ∧ Hid (Below W0.heap.size W0 wr)) (fun _ s _ => ds.length - (intOf s).toNat)
      case atStart => exact ⟨0, Nat.zero_le _, rfl, Lib.hid (by have := HO9.out; simpa [dataT, datL] using this), HB9⟩
      case round =>
        obtain ⟨i, hi, rfl, hO, hB⟩ := hrel
        have hi0 : (0 : Int) ≤ (i : Int) := Int.natCast_nonneg _
        have k2 := kp hB.out HQ2.out
        have HTL := Lib.hid (show (entryT ent ++ rowsT ws ks ws.length ++ datL ++ dataT ds i).length ≤ 70000000000 by
          have h1 := HEL.out
          have h2 := rowsT_len ws ks HW0.out ws.length (by omega)
          have h3 := dataT_len ds HW2.out i
          simp only [List.length_append]
          show _ + _ + 4 + _ ≤ _
          omega)
        by_cases hlt : i < ds.length
        · obtain ⟨ad, hA, hld, hcx⟩ := kany_at (Kd.C_below HR2.out hB.out) i hlt
          subst hA
          have hi1 : (i : Int) < (ds.length : Int) := by omega
          obtain ⟨v, hv⟩ : ∃ v, ds.getD i 0 = v := ⟨_, rfl⟩
          have hvr : 0 ≤ v ∧ v < 4294967296 := by
            rw [← hv, List.getD_eq_getElem?_getD, List.getElem?_eq_getElem hld]
            exact HW2.out _ (List.getElem_mem hld)
          rw [hv] at hcx
          have HDS := Lib.hid (show dataT ds (i + 1) = dataT ds i ++ (32 :: Lib.itoa v) by rw [dataT_succ, hv])
          have hl21 := itoa_len v (by omega) (by omega)
          have HU := Lib.hid (fun w => HD.out v w (by omega) (by omega))
          have n1 : (9223372036854775807 < 1 + (Lib.itoa v).length) = False := eq_false (by omega)
          have hvw : IntKind.i64.wrap v = v := IntWalk.i64_in _ (by omega)
          have HSL2 := Lib.hid (show (entryT ent ++ rowsT ws ks ws.length ++ datL ++ dataT ds i).length + ((⟨#[32]⟩ : ByteArray) ++ ⟨(Lib.itoa v).toArray⟩).size ≤ 140737488355328 by
            have h1 := HTL.out
            have : ((⟨#[32]⟩ : ByteArray) ++ ⟨(Lib.itoa v).toArray⟩).size = 1 + (Lib.itoa v).length := by rw [ByteArray.size_append]; rfl
            omega)
          clear hv
          go_wp2_with (first
            | (go_at_call 37; refine (HU.out _).mono ?_; rintro e w5 ⟨rfl, hb5⟩; have HB5 := Lib.hid (show Below W0.heap.size W0 w5 from hB.out.trans (hb5.mono hB.out.size)); have HO5 := Lib.hid (hO.out.below hb5); clear hb5)
            | (at_builtin; refine list_strG rfl (.tmp 61) (.tmp 69) rfl W0.heap.size u3 _ rfl HO5.out (⟨#[32]⟩ ++ ⟨(Lib.itoa v).toArray⟩) rfl HSL2.out HB5.out.size ?_; intro v7 w7 ho7 hg7; have HB7 := Lib.hid (HB5.out.grown hg7 HB5.out.size HO5.out.block); have HO7 := Lib.hid ho7; clear ho7 hg7))
          have HO8 := Lib.hid (show OwnG w7 W0.heap.size v7 (entryT ent ++ rowsT ws ks ws.length ++ datL ++ dataT ds (i + 1)) by have := HO7.out; rw [List.append_assoc] at this; rw [HDS.out]; exact this)
          go_roundw
          case rel => exact ⟨i + 1, hlt, by go_num, HO8, HB7⟩
          case measure => simp [intOf]; omega
        · have hie : i = ds.length := by omega
          subst hie
          clear hlt
          obtain ⟨L, hL⟩ : ∃ L, L = entryT ent ++ rowsT ws ks ws.length ++ datL ++ dataT ds ds.length := ⟨_, rfl⟩
          rw [← hL] at hO HTL
          have HLE := Lib.hid (show showP ws ks ds ent = L ++ [10] by rw [hL]; rfl)
          have HLL := Lib.hid (show L.length + 1 ≤ 140737488355328 by have := HTL.out; omega)
          have HCB := Lib.hid (fun (W : World) (g cap : Nat) (h : ∀ j (hj : j < (L ++ [10]).length), W.cell? ⟨g, j, none⟩ = some (.int .u8 ((L ++ [10])[j].toNat : Int))) => run_convert_bytes_back (P := Tryz.prog) W 52 9 5 ⟨g, 0, none⟩ cap (L ++ [10]) Tryz.underlying52 Tryz.underlying5 Tryz.underlying9 (fun j hj => by rw [Lib.add_plain]; rw [Nat.zero_add]; exact h j hj))
          clear hL
          go_wp2_with (at_builtin; refine list_oneG rfl (.tmp 71) (.tmp 72) rfl W0.heap.size u3 L rfl (hO.out.below ((Below.refl _ _).alloc (Nat.le_refl _) _)) 10 ⟨wr.heap.size, 0, none⟩ 1 rfl (kn 0 rfl) HLL.out (by have := hB.out.size; simp; omega) ?_; intro v7 w7 ho7 hg7; have hB1 := hB.out.alloc hB.out.size (.cells #[.int .u8 10] 5); have HB7 := Lib.hid (hB1.grown hg7 hB1.size hO.out.block); obtain ⟨g, cap, rfl, hgB, hgc⟩ := ho7.form; have hcb := HCB.out w7 g cap hgc; rw [show (L ++ [(10 : UInt8)]).length = L.length + 1 by simp] at hcb; clear ho7 hg7 hB1 hgc)
          go_ret
          exact ⟨by rw [HLE.out]; rfl, HB0.out.trans (HB7.out.mono HB0.out.size)⟩

end Go.Proofs.YtlhgfhmdhmgmpaaGreatDoor
