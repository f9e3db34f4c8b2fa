/- internal/strconv.ParseUint of 32 bits, at the bases 8, 10 and 16: walked; strconv.ParseUint over it. -/
import Derived.Test.YtjoboaaambdpoaaDoorSh
import Derived.Test.YtjoboaaambdpoaaDoorKu
import Derived.Lib.ConvBytes
import Derived.Lib.AtoiErrMem
import Derived.Lib.Hide
import Derived.Laws.Strings3
import Derived.Laws.Closers25
import Derived.Laws.Closers25b
import Derived.WalkKit
import Derived.BigCall
import Derived.BigGuard
set_option linter.unusedVariables false
set_option linter.unusedSimpArgs false
namespace Go.Proofs.YtjoboaaambdpoaaDoor
open Go.RowKit

/-- A digit's value in any base; 255: it is none. -/
def digV (c : Nat) : Nat := if 48 ≤ c ∧ c ≤ 57 then c - 48 else if 97 ≤ (c ||| 32) ∧ (c ||| 32) ≤ 122 then (c ||| 32) - 87 else 255

inductive PU | ok (n : Nat) | syn | rng

def parseU (b acc : Nat) : List UInt8 → PU
  | [] => .ok acc
  | c :: r => if b ≤ digV c.toNat then .syn else if 4294967295 < acc * b + digV c.toNat then .rng else parseU b (acc * b + digV c.toNat) r

/-- What the library's inner function answers. -/
def puIn : PU → Ending
  | .ok n => .returned (.tuple #[.int .u64 n, .nilIface])
  | .syn => .returned (.tuple #[.int .u64 0, .iface 67 (.int .i64 2)])
  | .rng => .returned (.tuple #[.int .u64 4294967295, .iface 67 (.int .i64 1)])

set_option maxRecDepth 100000 in
theorem low_nat : ∀ c : Nat, c < 256 → bits .or .u8 (c : Int) 32 = ((c ||| 32 : Nat) : Int) := by decide

set_option maxRecDepth 100000 in
theorem low_lt : ∀ c : Nat, c < 256 → (c ||| 32) < 256 := by decide

theorem low_95 (w : World) : Calls Tryd.prog 56 #[.int .u8 95] w fun e w' => e = .returned (.int .u8 127) ∧ w' = w := by
  have := Tryd.internal_strconv_lower 95 w
  rwa [show bits .or .u8 (95 : Int) 32 = 127 from low_nat 95 (by decide)] at this

theorem low_any (c : Nat) (hc : c < 256) (w : World) : Calls Tryd.prog 56 #[.int .u8 c] w fun e w' => e = .returned (.int .u8 ((c ||| 32 : Nat) : Int)) ∧ w' = w := by
  have := Tryd.internal_strconv_lower (c : Int) w
  rwa [low_nat c hc] at this

set_option maxHeartbeats 8000000 in
set_option maxRecDepth 100000 in
theorem inner_8 (t : ByteArray) (hne : t.size ≠ 0) (hmax : t.size ≤ 1000000000) (w : World) :
    Calls Tryd.prog 52 #[.string t, .int .i64 8, .int .i64 32] w fun e w' => e = puIn (parseU 8 0 t.data.toList) ∧ Below w.heap.size w w' := by
  have hemp : t.toList.isEmpty = false := by
    rw [← decide_eq_emptyBytes]
    exact decide_eq_false (fun h => hne (by rw [h]; rfl))
  have hcv := Lib.run_convert_string_bytes (P := Tryd.prog) w 9 32 5 t (u := .string) Tryd.underlying9 Tryd.underlying32 Tryd.underlying5
  have hB : ∀ j, j < t.size → (Lib.bytesWorld w 5 t).cell? ⟨w.heap.size, j, none⟩ = some (.int .u8 (t.data.toList.getD j 0).toNat) := fun j hj => Lib.bytesWorld_cell w 5 t j hj
  have hbel := Lib.hid (Lib.bytesWorld_below w 5 t)
  obtain ⟨W1, hW1⟩ : ∃ W1, W1 = Lib.bytesWorld w 5 t := ⟨_, rfl⟩
  rw [← hW1] at hcv hB hbel
  clear hW1
  obtain ⟨bs, hL⟩ : ∃ bs, bs = t.data.toList := ⟨_, rfl⟩
  have hLn : bs.length = t.size := by rw [hL]; exact Array.length_toList
  rw [← hL] at hB ⊢
  clear hL
  have hmv : IntKind.u64.wrap (IntKind.u64.wrap 4294967296 - 1) = 4294967295 := by
    rw [IntKind.wrap_u64, IntKind.wrap_u64]
    decide
  obtain ⟨R, hR⟩ : ∃ R, R = puIn (parseU 8 0 bs) := ⟨_, rfl⟩
  rw [← hR]
  have HR := Lib.hid hR
  have HB := Lib.hid hB
  clear hR hB
  go_enter Tryd.func52, Tryd.ntmps52
  go_wp2_with fail
  go_loop [12, 13, 101] (fun vu vn vi => ∃ (k acc : Nat), vu = .bool false ∧ vn = .int .u64 acc ∧ vi = .int .i64 k ∧ k ≤ t.size ∧ acc ≤ 4294967295 ∧ Hid (parseU 8 0 bs = parseU 8 acc (bs.drop k))) (fun _ _ vi => t.size - (intOf vi).toNat)
  case atStart => exact ⟨0, 0, rfl, rfl, rfl, Nat.zero_le _, by decide, Lib.hid rfl⟩
  case round =>
    obtain ⟨k, acc, rfl, rfl, rfl, hk, hacc, hh⟩ := hrel
    by_cases hkn : k < t.size
    · have hc := HB.out k hkn
      have hdrop : bs.drop k = bs[k]'(by omega) :: bs.drop (k + 1) := List.drop_eq_getElem_cons (by omega)
      have hget : bs.getD k 0 = bs[k]'(by omega) := by simp [List.getD, List.getElem?_eq_getElem (show k < bs.length by omega)]
      have hdec := hh.out
      rw [hdrop] at hdec
      rw [hget] at hc
      generalize bs[k]'(by omega) = c at hc hdec
      have hc256 : c.toNat < 256 := c.toNat_lt
      obtain ⟨x, hx⟩ : ∃ x, x = c.toNat := ⟨_, rfl⟩
      rw [← hx] at hc hc256
      have hstep : parseU 8 acc (c :: bs.drop (k + 1)) = if 8 ≤ digV x then .syn else if 4294967295 < acc * 8 + digV x then .rng else parseU 8 (acc * 8 + digV x) (bs.drop (k + 1)) := by rw [hx]; rfl
      rw [hstep] at hdec
      have HD := Lib.hid hdec
      clear hdrop hget hstep hdec hh hx
      have hi0 : (0 : Int) ≤ (k : Int) := Int.natCast_nonneg _
      have hi1 : (k : Int) < (t.size : Int) := by omega
      by_cases hdig : 48 ≤ x ∧ x ≤ 57
      · have hdv : digV x = x - 48 := by unfold digV; rw [if_pos hdig]
        rw [hdv] at HD
        obtain ⟨hd0, hd1⟩ := hdig
        by_cases hsy : 8 ≤ x - 48
        · have HE := Lib.hid (show R = puIn .syn by rw [HR.out, HD.out, if_pos hsy])
          clear hdv HD
          go_wp2_with fail
          go_ret2
          exact ⟨by rw [HE.out]; rfl, hbel.out⟩
        · by_cases hov : 4294967295 < acc * 8 + (x - 48)
          · have HE := Lib.hid (show R = puIn .rng by rw [HR.out, HD.out, if_neg hsy, if_pos hov])
            have iov : 4294967295 < (acc : Int) * 8 + ((x : Int) - 48) := by omega
            have icut : decide ((2305843009213693952 : Int) ≤ (acc : Int)) = false := decide_eq_false (by omega)
            clear hdv HD hov
            go_wp2_with fail
            go_ret2
            exact ⟨by rw [HE.out]; rfl, hbel.out⟩
          · have HE := Lib.hid (show parseU 8 0 bs = parseU 8 (acc * 8 + (x - 48)) (bs.drop (k + 1)) by rw [HD.out, if_neg hsy, if_neg hov])
            have iov : (acc : Int) * 8 + ((x : Int) - 48) ≤ 4294967295 := by omega
            have icut : decide ((2305843009213693952 : Int) ≤ (acc : Int)) = false := decide_eq_false (by omega)
            have hnew : acc * 8 + (x - 48) ≤ 4294967295 := by omega
            have inew : (acc : Int) * 8 + ((x : Int) - 48) = ((acc * 8 + (x - 48) : Nat) : Int) := by omega
            have HN := Lib.hid inew
            clear hdv HD hov inew
            go_wp2_with fail
            exact ⟨⟨k + 1, acc * 8 + (x - 48), rfl, (by rw [← HN.out]; try (first | rfl | (congr 1; omega))), by go_num, by omega, hnew, HE⟩, by simp [intOf]; omega⟩
      · by_cases h95 : x = 95
        · have HE := Lib.hid (show R = puIn .syn by rw [HR.out, HD.out, if_pos (by rw [h95]; decide)])
          subst h95
          have HL5 := Lib.hid (fun W => low_95 W)
          clear HD
          go_wp2_with (go_at_call 56; refine (HL5.out _).mono ?_; rintro e w' ⟨rfl, rfl⟩)
          all_goals (go_ret2; exact ⟨by rw [HE.out]; rfl, hbel.out⟩)
        replace h95 : ((x : Int) == 95) = false := by simp; omega
        have hdv : digV x = if 97 ≤ (x ||| 32) ∧ (x ||| 32) ≤ 122 then (x ||| 32) - 87 else 255 := by unfold digV; rw [if_neg hdig]
        rw [hdv] at HD
        have hlow := low_lt x hc256
        have HLW := Lib.hid (fun W => low_any x hc256 W)
        obtain ⟨y, hy⟩ : ∃ y, y = (x ||| 32) := ⟨_, rfl⟩
        rw [← hy] at HD hlow HLW
        clear hy hdv
        by_cases hlet : 97 ≤ y ∧ y ≤ 122
        · rw [if_pos hlet] at HD
          obtain ⟨hl0, hl1⟩ := hlet
          by_cases hsy : 8 ≤ y - 87
          · have HE := Lib.hid (show R = puIn .syn by rw [HR.out, HD.out, if_pos hsy])
            have hy6 : (8 : Int) ≤ (y : Int) - 97 + 10 := by omega
            clear HD hsy
            go_wp2_with (go_at_call 56; refine (HLW.out _).mono ?_; rintro e w' ⟨rfl, rfl⟩)
            all_goals (go_ret2; exact ⟨by rw [HE.out]; rfl, hbel.out⟩)
          · exact absurd (show 8 ≤ y - 87 by omega) hsy
        · rw [if_neg hlet] at HD
          have HE := Lib.hid (show R = puIn .syn by rw [HR.out, HD.out, if_pos (by decide)])
          clear HD
          go_wp2_with (go_at_call 56; refine (HLW.out _).mono ?_; rintro e w' ⟨rfl, rfl⟩)
          all_goals (go_ret2; exact ⟨by rw [HE.out]; rfl, hbel.out⟩)
    · have hkk : k = t.size := by omega
      have HE := Lib.hid (show R = puIn (.ok acc) by rw [HR.out, hh.out, List.drop_eq_nil_of_le (by omega)]; rfl)
      subst hkk
      clear hh
      go_wp2_with fail
      go_ret2
      exact ⟨by rw [HE.out]; rfl, hbel.out⟩

set_option maxHeartbeats 8000000 in
set_option maxRecDepth 100000 in
theorem inner_10 (t : ByteArray) (hne : t.size ≠ 0) (hmax : t.size ≤ 1000000000) (w : World) :
    Calls Tryd.prog 52 #[.string t, .int .i64 10, .int .i64 32] w fun e w' => e = puIn (parseU 10 0 t.data.toList) ∧ Below w.heap.size w w' := by
  have hemp : t.toList.isEmpty = false := by
    rw [← decide_eq_emptyBytes]
    exact decide_eq_false (fun h => hne (by rw [h]; rfl))
  have hcv := Lib.run_convert_string_bytes (P := Tryd.prog) w 9 32 5 t (u := .string) Tryd.underlying9 Tryd.underlying32 Tryd.underlying5
  have hB : ∀ j, j < t.size → (Lib.bytesWorld w 5 t).cell? ⟨w.heap.size, j, none⟩ = some (.int .u8 (t.data.toList.getD j 0).toNat) := fun j hj => Lib.bytesWorld_cell w 5 t j hj
  have hbel := Lib.hid (Lib.bytesWorld_below w 5 t)
  obtain ⟨W1, hW1⟩ : ∃ W1, W1 = Lib.bytesWorld w 5 t := ⟨_, rfl⟩
  rw [← hW1] at hcv hB hbel
  clear hW1
  obtain ⟨bs, hL⟩ : ∃ bs, bs = t.data.toList := ⟨_, rfl⟩
  have hLn : bs.length = t.size := by rw [hL]; exact Array.length_toList
  rw [← hL] at hB ⊢
  clear hL
  have hmv : IntKind.u64.wrap (IntKind.u64.wrap 4294967296 - 1) = 4294967295 := by
    rw [IntKind.wrap_u64, IntKind.wrap_u64]
    decide
  obtain ⟨R, hR⟩ : ∃ R, R = puIn (parseU 10 0 bs) := ⟨_, rfl⟩
  rw [← hR]
  have HR := Lib.hid hR
  have HB := Lib.hid hB
  clear hR hB
  go_enter Tryd.func52, Tryd.ntmps52
  go_wp2_with fail
  go_loop [12, 13, 101] (fun vu vn vi => ∃ (k acc : Nat), vu = .bool false ∧ vn = .int .u64 acc ∧ vi = .int .i64 k ∧ k ≤ t.size ∧ acc ≤ 4294967295 ∧ Hid (parseU 10 0 bs = parseU 10 acc (bs.drop k))) (fun _ _ vi => t.size - (intOf vi).toNat)
  case atStart => exact ⟨0, 0, rfl, rfl, rfl, Nat.zero_le _, by decide, Lib.hid rfl⟩
  case round =>
    obtain ⟨k, acc, rfl, rfl, rfl, hk, hacc, hh⟩ := hrel
    by_cases hkn : k < t.size
    · have hc := HB.out k hkn
      have hdrop : bs.drop k = bs[k]'(by omega) :: bs.drop (k + 1) := List.drop_eq_getElem_cons (by omega)
      have hget : bs.getD k 0 = bs[k]'(by omega) := by simp [List.getD, List.getElem?_eq_getElem (show k < bs.length by omega)]
      have hdec := hh.out
      rw [hdrop] at hdec
      rw [hget] at hc
      generalize bs[k]'(by omega) = c at hc hdec
      have hc256 : c.toNat < 256 := c.toNat_lt
      obtain ⟨x, hx⟩ : ∃ x, x = c.toNat := ⟨_, rfl⟩
      rw [← hx] at hc hc256
      have hstep : parseU 10 acc (c :: bs.drop (k + 1)) = if 10 ≤ digV x then .syn else if 4294967295 < acc * 10 + digV x then .rng else parseU 10 (acc * 10 + digV x) (bs.drop (k + 1)) := by rw [hx]; rfl
      rw [hstep] at hdec
      have HD := Lib.hid hdec
      clear hdrop hget hstep hdec hh hx
      have hi0 : (0 : Int) ≤ (k : Int) := Int.natCast_nonneg _
      have hi1 : (k : Int) < (t.size : Int) := by omega
      by_cases hdig : 48 ≤ x ∧ x ≤ 57
      · have hdv : digV x = x - 48 := by unfold digV; rw [if_pos hdig]
        rw [hdv] at HD
        obtain ⟨hd0, hd1⟩ := hdig
        by_cases hsy : 10 ≤ x - 48
        · exact absurd hsy (by omega)
        · by_cases hov : 4294967295 < acc * 10 + (x - 48)
          · have HE := Lib.hid (show R = puIn .rng by rw [HR.out, HD.out, if_neg hsy, if_pos hov])
            have iov : 4294967295 < (acc : Int) * 10 + ((x : Int) - 48) := by omega
            have icut : decide ((1844674407370955162 : Int) ≤ (acc : Int)) = false := decide_eq_false (by omega)
            clear hdv HD hov
            go_wp2_with fail
            go_ret2
            exact ⟨by rw [HE.out]; rfl, hbel.out⟩
          · have HE := Lib.hid (show parseU 10 0 bs = parseU 10 (acc * 10 + (x - 48)) (bs.drop (k + 1)) by rw [HD.out, if_neg hsy, if_neg hov])
            have iov : (acc : Int) * 10 + ((x : Int) - 48) ≤ 4294967295 := by omega
            have icut : decide ((1844674407370955162 : Int) ≤ (acc : Int)) = false := decide_eq_false (by omega)
            have hnew : acc * 10 + (x - 48) ≤ 4294967295 := by omega
            have inew : (acc : Int) * 10 + ((x : Int) - 48) = ((acc * 10 + (x - 48) : Nat) : Int) := by omega
            have HN := Lib.hid inew
            clear hdv HD hov inew
            go_wp2_with fail
            exact ⟨⟨k + 1, acc * 10 + (x - 48), rfl, (by rw [← HN.out]; try (first | rfl | (congr 1; omega))), by go_num, by omega, hnew, HE⟩, by simp [intOf]; omega⟩
      · by_cases h95 : x = 95
        · have HE := Lib.hid (show R = puIn .syn by rw [HR.out, HD.out, if_pos (by rw [h95]; decide)])
          subst h95
          have HL5 := Lib.hid (fun W => low_95 W)
          clear HD
          go_wp2_with (go_at_call 56; refine (HL5.out _).mono ?_; rintro e w' ⟨rfl, rfl⟩)
          all_goals (go_ret2; exact ⟨by rw [HE.out]; rfl, hbel.out⟩)
        replace h95 : ((x : Int) == 95) = false := by simp; omega
        have hdv : digV x = if 97 ≤ (x ||| 32) ∧ (x ||| 32) ≤ 122 then (x ||| 32) - 87 else 255 := by unfold digV; rw [if_neg hdig]
        rw [hdv] at HD
        have hlow := low_lt x hc256
        have HLW := Lib.hid (fun W => low_any x hc256 W)
        obtain ⟨y, hy⟩ : ∃ y, y = (x ||| 32) := ⟨_, rfl⟩
        rw [← hy] at HD hlow HLW
        clear hy hdv
        by_cases hlet : 97 ≤ y ∧ y ≤ 122
        · rw [if_pos hlet] at HD
          obtain ⟨hl0, hl1⟩ := hlet
          by_cases hsy : 10 ≤ y - 87
          · have HE := Lib.hid (show R = puIn .syn by rw [HR.out, HD.out, if_pos hsy])
            have hy6 : (10 : Int) ≤ (y : Int) - 97 + 10 := by omega
            clear HD hsy
            go_wp2_with (go_at_call 56; refine (HLW.out _).mono ?_; rintro e w' ⟨rfl, rfl⟩)
            all_goals (go_ret2; exact ⟨by rw [HE.out]; rfl, hbel.out⟩)
          · exact absurd (show 10 ≤ y - 87 by omega) hsy
        · rw [if_neg hlet] at HD
          have HE := Lib.hid (show R = puIn .syn by rw [HR.out, HD.out, if_pos (by decide)])
          clear HD
          go_wp2_with (go_at_call 56; refine (HLW.out _).mono ?_; rintro e w' ⟨rfl, rfl⟩)
          all_goals (go_ret2; exact ⟨by rw [HE.out]; rfl, hbel.out⟩)
    · have hkk : k = t.size := by omega
      have HE := Lib.hid (show R = puIn (.ok acc) by rw [HR.out, hh.out, List.drop_eq_nil_of_le (by omega)]; rfl)
      subst hkk
      clear hh
      go_wp2_with fail
      go_ret2
      exact ⟨by rw [HE.out]; rfl, hbel.out⟩

set_option maxHeartbeats 8000000 in
set_option maxRecDepth 100000 in
theorem inner_16 (t : ByteArray) (hne : t.size ≠ 0) (hmax : t.size ≤ 1000000000) (w : World) :
    Calls Tryd.prog 52 #[.string t, .int .i64 16, .int .i64 32] w fun e w' => e = puIn (parseU 16 0 t.data.toList) ∧ Below w.heap.size w w' := by
  have hemp : t.toList.isEmpty = false := by
    rw [← decide_eq_emptyBytes]
    exact decide_eq_false (fun h => hne (by rw [h]; rfl))
  have hcv := Lib.run_convert_string_bytes (P := Tryd.prog) w 9 32 5 t (u := .string) Tryd.underlying9 Tryd.underlying32 Tryd.underlying5
  have hB : ∀ j, j < t.size → (Lib.bytesWorld w 5 t).cell? ⟨w.heap.size, j, none⟩ = some (.int .u8 (t.data.toList.getD j 0).toNat) := fun j hj => Lib.bytesWorld_cell w 5 t j hj
  have hbel := Lib.hid (Lib.bytesWorld_below w 5 t)
  obtain ⟨W1, hW1⟩ : ∃ W1, W1 = Lib.bytesWorld w 5 t := ⟨_, rfl⟩
  rw [← hW1] at hcv hB hbel
  clear hW1
  obtain ⟨bs, hL⟩ : ∃ bs, bs = t.data.toList := ⟨_, rfl⟩
  have hLn : bs.length = t.size := by rw [hL]; exact Array.length_toList
  rw [← hL] at hB ⊢
  clear hL
  have hmv : IntKind.u64.wrap (IntKind.u64.wrap 4294967296 - 1) = 4294967295 := by
    rw [IntKind.wrap_u64, IntKind.wrap_u64]
    decide
  obtain ⟨R, hR⟩ : ∃ R, R = puIn (parseU 16 0 bs) := ⟨_, rfl⟩
  rw [← hR]
  have HR := Lib.hid hR
  have HB := Lib.hid hB
  clear hR hB
  go_enter Tryd.func52, Tryd.ntmps52
  go_wp2_with fail
  go_loop [12, 13, 101] (fun vu vn vi => ∃ (k acc : Nat), vu = .bool false ∧ vn = .int .u64 acc ∧ vi = .int .i64 k ∧ k ≤ t.size ∧ acc ≤ 4294967295 ∧ Hid (parseU 16 0 bs = parseU 16 acc (bs.drop k))) (fun _ _ vi => t.size - (intOf vi).toNat)
  case atStart => exact ⟨0, 0, rfl, rfl, rfl, Nat.zero_le _, by decide, Lib.hid rfl⟩
  case round =>
    obtain ⟨k, acc, rfl, rfl, rfl, hk, hacc, hh⟩ := hrel
    by_cases hkn : k < t.size
    · have hc := HB.out k hkn
      have hdrop : bs.drop k = bs[k]'(by omega) :: bs.drop (k + 1) := List.drop_eq_getElem_cons (by omega)
      have hget : bs.getD k 0 = bs[k]'(by omega) := by simp [List.getD, List.getElem?_eq_getElem (show k < bs.length by omega)]
      have hdec := hh.out
      rw [hdrop] at hdec
      rw [hget] at hc
      generalize bs[k]'(by omega) = c at hc hdec
      have hc256 : c.toNat < 256 := c.toNat_lt
      obtain ⟨x, hx⟩ : ∃ x, x = c.toNat := ⟨_, rfl⟩
      rw [← hx] at hc hc256
      have hstep : parseU 16 acc (c :: bs.drop (k + 1)) = if 16 ≤ digV x then .syn else if 4294967295 < acc * 16 + digV x then .rng else parseU 16 (acc * 16 + digV x) (bs.drop (k + 1)) := by rw [hx]; rfl
      rw [hstep] at hdec
      have HD := Lib.hid hdec
      clear hdrop hget hstep hdec hh hx
      have hi0 : (0 : Int) ≤ (k : Int) := Int.natCast_nonneg _
      have hi1 : (k : Int) < (t.size : Int) := by omega
      by_cases hdig : 48 ≤ x ∧ x ≤ 57
      · have hdv : digV x = x - 48 := by unfold digV; rw [if_pos hdig]
        rw [hdv] at HD
        obtain ⟨hd0, hd1⟩ := hdig
        by_cases hsy : 16 ≤ x - 48
        · exact absurd hsy (by omega)
        · by_cases hov : 4294967295 < acc * 16 + (x - 48)
          · have HE := Lib.hid (show R = puIn .rng by rw [HR.out, HD.out, if_neg hsy, if_pos hov])
            have iov : 4294967295 < (acc : Int) * 16 + ((x : Int) - 48) := by omega
            have icut : decide ((1152921504606846976 : Int) ≤ (acc : Int)) = false := decide_eq_false (by omega)
            clear hdv HD hov
            go_wp2_with fail
            go_ret2
            exact ⟨by rw [HE.out]; rfl, hbel.out⟩
          · have HE := Lib.hid (show parseU 16 0 bs = parseU 16 (acc * 16 + (x - 48)) (bs.drop (k + 1)) by rw [HD.out, if_neg hsy, if_neg hov])
            have iov : (acc : Int) * 16 + ((x : Int) - 48) ≤ 4294967295 := by omega
            have icut : decide ((1152921504606846976 : Int) ≤ (acc : Int)) = false := decide_eq_false (by omega)
            have hnew : acc * 16 + (x - 48) ≤ 4294967295 := by omega
            have inew : (acc : Int) * 16 + ((x : Int) - 48) = ((acc * 16 + (x - 48) : Nat) : Int) := by omega
            have HN := Lib.hid inew
            clear hdv HD hov inew
            go_wp2_with fail
            exact ⟨⟨k + 1, acc * 16 + (x - 48), rfl, (by rw [← HN.out]; try (first | rfl | (congr 1; omega))), by go_num, by omega, hnew, HE⟩, by simp [intOf]; omega⟩
      · by_cases h95 : x = 95
        · have HE := Lib.hid (show R = puIn .syn by rw [HR.out, HD.out, if_pos (by rw [h95]; decide)])
          subst h95
          have HL5 := Lib.hid (fun W => low_95 W)
          clear HD
          go_wp2_with (go_at_call 56; refine (HL5.out _).mono ?_; rintro e w' ⟨rfl, rfl⟩)
          all_goals (go_ret2; exact ⟨by rw [HE.out]; rfl, hbel.out⟩)
        replace h95 : ((x : Int) == 95) = false := by simp; omega
        have hdv : digV x = if 97 ≤ (x ||| 32) ∧ (x ||| 32) ≤ 122 then (x ||| 32) - 87 else 255 := by unfold digV; rw [if_neg hdig]
        rw [hdv] at HD
        have hlow := low_lt x hc256
        have HLW := Lib.hid (fun W => low_any x hc256 W)
        obtain ⟨y, hy⟩ : ∃ y, y = (x ||| 32) := ⟨_, rfl⟩
        rw [← hy] at HD hlow HLW
        clear hy hdv
        by_cases hlet : 97 ≤ y ∧ y ≤ 122
        · rw [if_pos hlet] at HD
          obtain ⟨hl0, hl1⟩ := hlet
          by_cases hsy : 16 ≤ y - 87
          · have HE := Lib.hid (show R = puIn .syn by rw [HR.out, HD.out, if_pos hsy])
            have hy6 : (16 : Int) ≤ (y : Int) - 97 + 10 := by omega
            clear HD hsy
            go_wp2_with (go_at_call 56; refine (HLW.out _).mono ?_; rintro e w' ⟨rfl, rfl⟩)
            all_goals (go_ret2; exact ⟨by rw [HE.out]; rfl, hbel.out⟩)
          · have hy : y = 97 ∨ y = 98 ∨ y = 99 ∨ y = 100 ∨ y = 101 ∨ y = 102 := by omega
            rcases hy with rfl | rfl | rfl | rfl | rfl | rfl
            · have HLV : Hid (∀ W, Calls Tryd.prog 56 #[.int .u8 x] W fun e w' => e = .returned (.int .u8 97) ∧ w' = W) := Lib.hid HLW.out
              by_cases hov : 4294967295 < acc * 16 + 10
              · have HE := Lib.hid (show R = puIn .rng by rw [HR.out, HD.out, if_neg hsy, if_pos hov])
                have iov : 4294967295 < (acc : Int) * 16 + 10 := by omega
                have icut : decide ((1152921504606846976 : Int) ≤ (acc : Int)) = false := decide_eq_false (by omega)
                clear HD hov hsy hl0 hl1 HLW hlow
                go_wp2_with (go_at_call 56; refine (HLV.out _).mono ?_; rintro e w' ⟨rfl, rfl⟩)
                all_goals (go_ret2; exact ⟨by rw [HE.out]; rfl, hbel.out⟩)
              · have HE := Lib.hid (show parseU 16 0 bs = parseU 16 (acc * 16 + 10) (bs.drop (k + 1)) by rw [HD.out, if_neg hsy, if_neg hov])
                have iov1 : decide ((acc : Int) * 16 + 10 < (acc : Int) * 16) = false := decide_eq_false (by omega)
                have iov2 : decide (4294967295 < (acc : Int) * 16 + 10) = false := decide_eq_false (by omega)
                have icut : decide ((1152921504606846976 : Int) ≤ (acc : Int)) = false := decide_eq_false (by omega)
                have hnew : acc * 16 + 10 ≤ 4294967295 := by omega
                have HN := Lib.hid (show (acc : Int) * 16 + 10 = ((acc * 16 + 10 : Nat) : Int) by omega)
                clear HD hov hsy hl0 hl1 HLW hlow
                go_wp2_with (go_at_call 56; refine (HLV.out _).mono ?_; rintro e w' ⟨rfl, rfl⟩)
                all_goals exact ⟨⟨k + 1, acc * 16 + 10, rfl, (by rw [← HN.out]; try (first | rfl | (congr 1; omega))), by go_num, by omega, hnew, HE⟩, by simp [intOf]; omega⟩
            · have HLV : Hid (∀ W, Calls Tryd.prog 56 #[.int .u8 x] W fun e w' => e = .returned (.int .u8 98) ∧ w' = W) := Lib.hid HLW.out
              by_cases hov : 4294967295 < acc * 16 + 11
              · have HE := Lib.hid (show R = puIn .rng by rw [HR.out, HD.out, if_neg hsy, if_pos hov])
                have iov : 4294967295 < (acc : Int) * 16 + 11 := by omega
                have icut : decide ((1152921504606846976 : Int) ≤ (acc : Int)) = false := decide_eq_false (by omega)
                clear HD hov hsy hl0 hl1 HLW hlow
                go_wp2_with (go_at_call 56; refine (HLV.out _).mono ?_; rintro e w' ⟨rfl, rfl⟩)
                all_goals (go_ret2; exact ⟨by rw [HE.out]; rfl, hbel.out⟩)
              · have HE := Lib.hid (show parseU 16 0 bs = parseU 16 (acc * 16 + 11) (bs.drop (k + 1)) by rw [HD.out, if_neg hsy, if_neg hov])
                have iov1 : decide ((acc : Int) * 16 + 11 < (acc : Int) * 16) = false := decide_eq_false (by omega)
                have iov2 : decide (4294967295 < (acc : Int) * 16 + 11) = false := decide_eq_false (by omega)
                have icut : decide ((1152921504606846976 : Int) ≤ (acc : Int)) = false := decide_eq_false (by omega)
                have hnew : acc * 16 + 11 ≤ 4294967295 := by omega
                have HN := Lib.hid (show (acc : Int) * 16 + 11 = ((acc * 16 + 11 : Nat) : Int) by omega)
                clear HD hov hsy hl0 hl1 HLW hlow
                go_wp2_with (go_at_call 56; refine (HLV.out _).mono ?_; rintro e w' ⟨rfl, rfl⟩)
                all_goals exact ⟨⟨k + 1, acc * 16 + 11, rfl, (by rw [← HN.out]; try (first | rfl | (congr 1; omega))), by go_num, by omega, hnew, HE⟩, by simp [intOf]; omega⟩
            · have HLV : Hid (∀ W, Calls Tryd.prog 56 #[.int .u8 x] W fun e w' => e = .returned (.int .u8 99) ∧ w' = W) := Lib.hid HLW.out
              by_cases hov : 4294967295 < acc * 16 + 12
              · have HE := Lib.hid (show R = puIn .rng by rw [HR.out, HD.out, if_neg hsy, if_pos hov])
                have iov : 4294967295 < (acc : Int) * 16 + 12 := by omega
                have icut : decide ((1152921504606846976 : Int) ≤ (acc : Int)) = false := decide_eq_false (by omega)
                clear HD hov hsy hl0 hl1 HLW hlow
                go_wp2_with (go_at_call 56; refine (HLV.out _).mono ?_; rintro e w' ⟨rfl, rfl⟩)
                all_goals (go_ret2; exact ⟨by rw [HE.out]; rfl, hbel.out⟩)
              · have HE := Lib.hid (show parseU 16 0 bs = parseU 16 (acc * 16 + 12) (bs.drop (k + 1)) by rw [HD.out, if_neg hsy, if_neg hov])
                have iov1 : decide ((acc : Int) * 16 + 12 < (acc : Int) * 16) = false := decide_eq_false (by omega)
                have iov2 : decide (4294967295 < (acc : Int) * 16 + 12) = false := decide_eq_false (by omega)
                have icut : decide ((1152921504606846976 : Int) ≤ (acc : Int)) = false := decide_eq_false (by omega)
                have hnew : acc * 16 + 12 ≤ 4294967295 := by omega
                have HN := Lib.hid (show (acc : Int) * 16 + 12 = ((acc * 16 + 12 : Nat) : Int) by omega)
                clear HD hov hsy hl0 hl1 HLW hlow
                go_wp2_with (go_at_call 56; refine (HLV.out _).mono ?_; rintro e w' ⟨rfl, rfl⟩)
                all_goals exact ⟨⟨k + 1, acc * 16 + 12, rfl, (by rw [← HN.out]; try (first | rfl | (congr 1; omega))), by go_num, by omega, hnew, HE⟩, by simp [intOf]; omega⟩
            · have HLV : Hid (∀ W, Calls Tryd.prog 56 #[.int .u8 x] W fun e w' => e = .returned (.int .u8 100) ∧ w' = W) := Lib.hid HLW.out
              by_cases hov : 4294967295 < acc * 16 + 13
              · have HE := Lib.hid (show R = puIn .rng by rw [HR.out, HD.out, if_neg hsy, if_pos hov])
                have iov : 4294967295 < (acc : Int) * 16 + 13 := by omega
                have icut : decide ((1152921504606846976 : Int) ≤ (acc : Int)) = false := decide_eq_false (by omega)
                clear HD hov hsy hl0 hl1 HLW hlow
                go_wp2_with (go_at_call 56; refine (HLV.out _).mono ?_; rintro e w' ⟨rfl, rfl⟩)
                all_goals (go_ret2; exact ⟨by rw [HE.out]; rfl, hbel.out⟩)
              · have HE := Lib.hid (show parseU 16 0 bs = parseU 16 (acc * 16 + 13) (bs.drop (k + 1)) by rw [HD.out, if_neg hsy, if_neg hov])
                have iov1 : decide ((acc : Int) * 16 + 13 < (acc : Int) * 16) = false := decide_eq_false (by omega)
                have iov2 : decide (4294967295 < (acc : Int) * 16 + 13) = false := decide_eq_false (by omega)
                have icut : decide ((1152921504606846976 : Int) ≤ (acc : Int)) = false := decide_eq_false (by omega)
                have hnew : acc * 16 + 13 ≤ 4294967295 := by omega
                have HN := Lib.hid (show (acc : Int) * 16 + 13 = ((acc * 16 + 13 : Nat) : Int) by omega)
                clear HD hov hsy hl0 hl1 HLW hlow
                go_wp2_with (go_at_call 56; refine (HLV.out _).mono ?_; rintro e w' ⟨rfl, rfl⟩)
                all_goals exact ⟨⟨k + 1, acc * 16 + 13, rfl, (by rw [← HN.out]; try (first | rfl | (congr 1; omega))), by go_num, by omega, hnew, HE⟩, by simp [intOf]; omega⟩
            · have HLV : Hid (∀ W, Calls Tryd.prog 56 #[.int .u8 x] W fun e w' => e = .returned (.int .u8 101) ∧ w' = W) := Lib.hid HLW.out
              by_cases hov : 4294967295 < acc * 16 + 14
              · have HE := Lib.hid (show R = puIn .rng by rw [HR.out, HD.out, if_neg hsy, if_pos hov])
                have iov : 4294967295 < (acc : Int) * 16 + 14 := by omega
                have icut : decide ((1152921504606846976 : Int) ≤ (acc : Int)) = false := decide_eq_false (by omega)
                clear HD hov hsy hl0 hl1 HLW hlow
                go_wp2_with (go_at_call 56; refine (HLV.out _).mono ?_; rintro e w' ⟨rfl, rfl⟩)
                all_goals (go_ret2; exact ⟨by rw [HE.out]; rfl, hbel.out⟩)
              · have HE := Lib.hid (show parseU 16 0 bs = parseU 16 (acc * 16 + 14) (bs.drop (k + 1)) by rw [HD.out, if_neg hsy, if_neg hov])
                have iov1 : decide ((acc : Int) * 16 + 14 < (acc : Int) * 16) = false := decide_eq_false (by omega)
                have iov2 : decide (4294967295 < (acc : Int) * 16 + 14) = false := decide_eq_false (by omega)
                have icut : decide ((1152921504606846976 : Int) ≤ (acc : Int)) = false := decide_eq_false (by omega)
                have hnew : acc * 16 + 14 ≤ 4294967295 := by omega
                have HN := Lib.hid (show (acc : Int) * 16 + 14 = ((acc * 16 + 14 : Nat) : Int) by omega)
                clear HD hov hsy hl0 hl1 HLW hlow
                go_wp2_with (go_at_call 56; refine (HLV.out _).mono ?_; rintro e w' ⟨rfl, rfl⟩)
                all_goals exact ⟨⟨k + 1, acc * 16 + 14, rfl, (by rw [← HN.out]; try (first | rfl | (congr 1; omega))), by go_num, by omega, hnew, HE⟩, by simp [intOf]; omega⟩
            · have HLV : Hid (∀ W, Calls Tryd.prog 56 #[.int .u8 x] W fun e w' => e = .returned (.int .u8 102) ∧ w' = W) := Lib.hid HLW.out
              by_cases hov : 4294967295 < acc * 16 + 15
              · have HE := Lib.hid (show R = puIn .rng by rw [HR.out, HD.out, if_neg hsy, if_pos hov])
                have iov : 4294967295 < (acc : Int) * 16 + 15 := by omega
                have icut : decide ((1152921504606846976 : Int) ≤ (acc : Int)) = false := decide_eq_false (by omega)
                clear HD hov hsy hl0 hl1 HLW hlow
                go_wp2_with (go_at_call 56; refine (HLV.out _).mono ?_; rintro e w' ⟨rfl, rfl⟩)
                all_goals (go_ret2; exact ⟨by rw [HE.out]; rfl, hbel.out⟩)
              · have HE := Lib.hid (show parseU 16 0 bs = parseU 16 (acc * 16 + 15) (bs.drop (k + 1)) by rw [HD.out, if_neg hsy, if_neg hov])
                have iov1 : decide ((acc : Int) * 16 + 15 < (acc : Int) * 16) = false := decide_eq_false (by omega)
                have iov2 : decide (4294967295 < (acc : Int) * 16 + 15) = false := decide_eq_false (by omega)
                have icut : decide ((1152921504606846976 : Int) ≤ (acc : Int)) = false := decide_eq_false (by omega)
                have hnew : acc * 16 + 15 ≤ 4294967295 := by omega
                have HN := Lib.hid (show (acc : Int) * 16 + 15 = ((acc * 16 + 15 : Nat) : Int) by omega)
                clear HD hov hsy hl0 hl1 HLW hlow
                go_wp2_with (go_at_call 56; refine (HLV.out _).mono ?_; rintro e w' ⟨rfl, rfl⟩)
                all_goals exact ⟨⟨k + 1, acc * 16 + 15, rfl, (by rw [← HN.out]; try (first | rfl | (congr 1; omega))), by go_num, by omega, hnew, HE⟩, by simp [intOf]; omega⟩
        · rw [if_neg hlet] at HD
          have HE := Lib.hid (show R = puIn .syn by rw [HR.out, HD.out, if_pos (by decide)])
          clear HD
          go_wp2_with (go_at_call 56; refine (HLW.out _).mono ?_; rintro e w' ⟨rfl, rfl⟩)
          all_goals (go_ret2; exact ⟨by rw [HE.out]; rfl, hbel.out⟩)
    · have hkk : k = t.size := by omega
      have HE := Lib.hid (show R = puIn (.ok acc) by rw [HR.out, hh.out, List.drop_eq_nil_of_le (by omega)]; rfl)
      subst hkk
      clear hh
      go_wp2_with fail
      go_ret2
      exact ⟨by rw [HE.out]; rfl, hbel.out⟩

end Go.Proofs.YtjoboaaambdpoaaDoor
