/- lex's scanner: letters, digits, peek, run: walked. -/
import Derived.Test.YtjoboaaambdpoaaDoorLxM
import Derived.Test.YtjoboaaambdpoaaDoorWWords
import Derived.Deep.LoopGhost
import Derived.Deep.QuietTactic
import Derived.BigQuiet
import Derived.Deep.DeepCutAuto
import Derived.Lib.SmallJoins
set_option linter.unusedVariables false
set_option linter.unusedSimpArgs false
namespace Go.Proofs.YtjoboaaambdpoaaDoor
open Go.RowKit Go.Proofs.YtjoboaaambdpoaaDoorW.PrintWords Go.Maps Go.Joins

abbrev bz := Go.Proofs.YtjoboaaambdpoaaDoorW.PrintWords.bt

def isL (c : Int) : Bool := (decide (97 ≤ c) && decide (c ≤ 122)) || (decide (65 ≤ c) && decide (c ≤ 90)) || decide (c = 95)
def isD (c : Int) : Bool := decide (48 ≤ c) && decide (c ≤ 57)

theorem letter_any (c : Int) (w : World) : Calls Tryd.prog 27 #[.int .u8 c] w fun e w' => e = .returned (.bool (isL c)) ∧ w = w' := by
  have h : (c < 65) ∨ (65 ≤ c ∧ c ≤ 90) ∨ (90 < c ∧ c < 95) ∨ c = 95 ∨ (95 < c ∧ c < 97) ∨ (97 ≤ c ∧ c ≤ 122) ∨ 122 < c := by omega
  rcases h with h | ⟨h, h'⟩ | ⟨h, h'⟩ | rfl | ⟨h, h'⟩ | ⟨h, h'⟩ | h
  · rw [show isL c = false from by simp [isL]; omega]
    have h1 : ¬ (97 ≤ c) := by omega
    have h2 : ¬ (65 ≤ c) := by omega
    have h3 : c ≠ 95 := by omega
    go_enter Tryd.func27, Tryd.ntmps27
    go_wp2
    go_ret
    exact ⟨by first | rfl | (simp; omega), rfl⟩
  · rw [show isL c = true from by simp [isL]; omega]
    have h1 : ¬ (97 ≤ c) := by omega
    go_enter Tryd.func27, Tryd.ntmps27
    go_wp2
    go_ret
    exact ⟨by first | rfl | (simp; omega), rfl⟩
  · rw [show isL c = false from by simp [isL]; omega]
    have h1 : ¬ (97 ≤ c) := by omega
    have h2 : ¬ (c ≤ 90) := by omega
    have h4 : 65 ≤ c := by omega
    have h3 : c ≠ 95 := by omega
    go_enter Tryd.func27, Tryd.ntmps27
    go_wp2
    go_ret
    exact ⟨by first | rfl | (simp; omega), rfl⟩
  · rw [show isL 95 = true from rfl]
    go_enter Tryd.func27, Tryd.ntmps27
    go_wp2
    go_ret
    exact ⟨by first | rfl | (simp; omega), rfl⟩
  · rw [show isL c = false from by simp [isL]; omega]
    have h1 : ¬ (97 ≤ c) := by omega
    have h2 : ¬ (c ≤ 90) := by omega
    have h4 : 65 ≤ c := by omega
    have h3 : c ≠ 95 := by omega
    go_enter Tryd.func27, Tryd.ntmps27
    go_wp2
    go_ret
    exact ⟨by first | rfl | (simp; omega), rfl⟩
  · rw [show isL c = true from by simp [isL]; omega]
    go_enter Tryd.func27, Tryd.ntmps27
    go_wp2
    go_ret
    exact ⟨by first | rfl | (simp; omega), rfl⟩
  · rw [show isL c = false from by simp [isL]; omega]
    have h1 : 97 ≤ c := by omega
    have h2 : ¬ (c ≤ 122) := by omega
    have h4 : 65 ≤ c := by omega
    have h5 : ¬ (c ≤ 90) := by omega
    have h3 : c ≠ 95 := by omega
    go_enter Tryd.func27, Tryd.ntmps27
    go_wp2
    go_ret
    exact ⟨by first | rfl | (simp; omega), rfl⟩

theorem digit_any (c : Int) (w : World) : Calls Tryd.prog 29 #[.int .u8 c] w fun e w' => e = .returned (.bool (isD c)) ∧ w = w' := by
  have h : c < 48 ∨ (48 ≤ c ∧ c ≤ 57) ∨ (48 ≤ c ∧ 57 < c) := by omega
  rcases h with h | ⟨h, h'⟩ | ⟨h, h'⟩
  · rw [show isD c = false from by simp [isD]; omega]
    have h1 : ¬ (48 ≤ c) := by omega
    go_enter Tryd.func29, Tryd.ntmps29
    go_wp2
    go_ret
    exact ⟨by first | rfl | (simp; omega), rfl⟩
  · rw [show isD c = true from by simp [isD]; omega]
    go_enter Tryd.func29, Tryd.ntmps29
    go_wp2
    go_ret
    exact ⟨by first | rfl | (simp; omega), rfl⟩
  · rw [show isD c = false from by simp [isD]; omega]
    have h1 : ¬ (c ≤ 57) := by omega
    go_enter Tryd.func29, Tryd.ntmps29
    go_wp2
    go_ret
    exact ⟨by first | rfl | (simp; omega), rfl⟩

/-- The scanner at block g: its source, where it stands, the slice of what it has. -/
structure Sc (w : World) (g : Nat) (src : ByteArray) (i : Int) (sl : Value) : Prop where
  blk : w.heap[g]? = some (.cells #[.string src, .int .i64 i, sl] 43 (0, 0))

theorem below_blk {w w' : World} {g : Nat} {o : Obj} (hb : Below w.heap.size w w') (h : w.heap[g]? = some o) : w'.heap[g]? = some o := by
  rw [hb.block g (Array.getElem?_eq_some_iff.1 h).1]
  exact h

namespace Sc
variable {w w' : World} {g : Nat} {src : ByteArray} {i : Int} {sl : Value}
theorem below (h : Sc w g src i sl) (hb : Below w.heap.size w w') : Sc w' g src i sl := ⟨below_blk hb h.blk⟩
theorem drewN (h : Sc w g src i sl) (n : Nat) : Sc (w.drewN n) g src i sl := ⟨h.blk⟩
theorem c0 (h : Sc w g src i sl) : w.cell? ⟨g, 0, none⟩ = some (.string src) := cell_of_block h.blk 0
theorem c1 (h : Sc w g src i sl) : w.cell? ⟨g, 1, none⟩ = some (.int .i64 i) := cell_of_block h.blk 1
theorem c2 (h : Sc w g src i sl) : w.cell? ⟨g, 2, none⟩ = some sl := cell_of_block h.blk 2
theorem f1 (h : Sc w g src i sl) : w.frozen? ⟨g, 1, none⟩ = false := unfrozen_of_block h.blk 1
theorem f2 (h : Sc w g src i sl) : w.frozen? ⟨g, 2, none⟩ = false := unfrozen_of_block h.blk 2
theorem set1 (h : Sc w g src i sl) (x : Int) : Sc (w.setCell ⟨g, 1, none⟩ (.int .i64 x)) g src x sl := ⟨by rw [block_setCell h.blk _]; rfl⟩
theorem set2 (h : Sc w g src i sl) (v : Value) : Sc (w.setCell ⟨g, 2, none⟩ v) g src i v := ⟨by rw [block_setCell h.blk _]; rfl⟩
theorem lt (h : Sc w g src i sl) : g < w.heap.size := (Array.getElem?_eq_some_iff.1 h.blk).1
end Sc

theorem peek_any (g : Nat) (src : ByteArray) (i n : Nat) (sl : Value) (w : World) (h : Sc w g src i sl) (hs : src.size ≤ 1000000) (hi : i ≤ src.size) (hn : n ≤ 10) :
    Calls Tryd.prog 23 #[.pointer (some ⟨g, 0, none⟩), .int .i64 n] w fun e w' => e = .returned (.int .u8 (bz src ((i : Int) + (n : Int)))) ∧ Below w.heap.size w w' := by
  have k0 := h.c0
  have k1 := h.c1
  clear h
  obtain ⟨j, hj⟩ : ∃ j : Int, j = (i : Int) + (n : Int) := ⟨_, rfl⟩
  have hw : IntKind.i64.wrap ((i : Int) + (n : Int)) = j := by rw [hj]; exact IntWalk.i64_in _ (by omega)
  rw [← hj]
  have hj0 : 0 ≤ j := by omega
  by_cases hl : j < (src.size : Int)
  · have hx := bt_at src j
    have p6 := eq_true hj0
    have q6 := eq_true hl
    clear hj
    go_enter Tryd.func23, Tryd.ntmps23
    go_wp2
    repeat (go_quiet (fail); try go_wp2)
    go_ret
    exact ⟨by first | rfl | (simp [*]; done), by repeat (first | exact Below.refl _ _ | apply pw_below_drewN)⟩
  · have hz : bz src j = 0 := by
      unfold bz Go.Proofs.YtjoboaaambdpoaaDoorW.PrintWords.bt
      rw [dif_neg (by omega)]
    rw [hz]
    clear hj
    go_enter Tryd.func23, Tryd.ntmps23
    go_wp2
    repeat (go_quiet (fail); try go_wp2)
    go_ret
    exact ⟨by first | rfl | (simp [*]; done), by repeat (first | exact Below.refl _ _ | apply pw_below_drewN)⟩

/-- How many letters and digits stand ahead. -/
def runL : List UInt8 → Nat
  | [] => 0
  | c :: r => if isL c.toNat = true ∨ isD c.toNat = true then 1 + runL r else 0

theorem runL_le : ∀ l : List UInt8, runL l ≤ l.length
  | [] => Nat.le_refl _
  | c :: r => by
    rw [runL]
    have := runL_le r
    split
    · rw [List.length_cons]; omega
    · exact Nat.zero_le _

theorem bt_drop (src : ByteArray) (k : Nat) (h : k < src.size) : ∃ c : UInt8, src.data.toList.drop k = c :: src.data.toList.drop (k + 1) ∧ bz src (k : Int) = (c.toNat : Int) := by
  have hl : k < src.data.toList.length := by rw [Array.length_toList]; exact h
  refine ⟨src.data.toList[k], List.drop_eq_getElem_cons hl, ?_⟩
  unfold bz Go.Proofs.YtjoboaaambdpoaaDoorW.PrintWords.bt
  rw [dif_pos (show (k : Int).toNat < src.size by omega)]
  simp [ByteArray.getElem_eq_getElem_data]

set_option maxRecDepth 100000 in
set_option maxHeartbeats 4000000 in
theorem run_any (g : Nat) (src : ByteArray) (i : Nat) (sl : Value) (w : World) (h : Sc w g src i sl) (hs : src.size ≤ 1000000) (hi : i ≤ src.size) :
    Calls Tryd.prog 26 #[.pointer (some ⟨g, 0, none⟩)] w fun e w' => e = .returned (.int .i64 (runL (src.data.toList.drop i))) ∧ Below w.heap.size w w' := by
  have H := Lib.hid h
  clear h
  obtain ⟨R, hR⟩ : ∃ R, R = runL (src.data.toList.drop i) := ⟨_, rfl⟩
  rw [← hR]
  have HR := Lib.hid hR
  clear hR
  go_enter Tryd.func26, Tryd.ntmps26
  go_wp2_with fail
  go_loopw [3] (fun s wr => ∃ k : Nat, i + k ≤ src.size ∧ s = .int .i64 k ∧ Hid (R = k + runL (src.data.toList.drop (i + k))) ∧ Hid (Below w.heap.size w wr)) (fun s _ => src.size - (intOf s).toNat)
  case atStart => exact ⟨0, by omega, rfl, Lib.hid (by rw [HR.out]; simp), Lib.hid (Below.refl _ _)⟩
  case round =>
    obtain ⟨k, hk, rfl, hh, hB⟩ := hrel
    have k0 := (H.out.below hB.out).c0
    have k1 := (H.out.below hB.out).c1
    obtain ⟨j, hj⟩ : ∃ j : Int, j = (i : Int) + (k : Int) := ⟨_, rfl⟩
    have hw : IntKind.i64.wrap ((i : Int) + (k : Int)) = j := by rw [hj]; exact IntWalk.i64_in _ (by omega)
    have hj0 : 0 ≤ j := by omega
    by_cases hl : i + k < src.size
    · have hlj : j < (src.size : Int) := by omega
      obtain ⟨c, hd, hb⟩ := bt_drop src (i + k) hl
      have hc : bz src j = (c.toNat : Int) := by rw [← hb, hj]; rfl
      have hx0 := bt_at src j
      obtain ⟨x, hx⟩ : ∃ x : Int, x = (c.toNat : Int) := ⟨_, rfl⟩
      have hx1 : ∀ h : j.toNat < src.size, ((src[j.toNat]'h).toNat : Int) = x := fun h => by rw [hx0 h, hx]; exact hc
      have hst := hh.out
      rw [hd, runL, ← hx] at hst
      have HS := Lib.hid hst
      have p6 := eq_true hj0
      have q6 := eq_true hlj
      clear hst hd hb hc hx0 hx hh hj
      have hw1 : IntKind.i64.wrap ((k : Int) + 1) = (k : Int) + 1 := IntWalk.i64_in _ (by omega)
      cases hL : isL x with
      | true =>
        have CL := Lib.hid (fun W => show Calls Tryd.prog 27 #[.int .u8 x] W fun e w' => e = .returned (.bool true) ∧ W = w' from by have := letter_any x W; rwa [hL] at this)
        have HN := Lib.hid (show R = (k + 1 : Nat) + runL (src.data.toList.drop (i + k + 1)) by rw [HS.out, hL, if_pos (.inl rfl)]; omega)
        clear HS hL
        go_wp2_with fail
        go_quiet ((go_at_call 27; exact Calls.quiet_of_same ((CL.out _).mono fun e w' h => ⟨h.1, h.2.symm⟩)))
        go_wp2_with fail
        go_roundw
        case rel => exact ⟨k + 1, by omega, by go_num, Lib.hid HN.out, Lib.hid (by repeat (first | exact hB.out | apply pw_below_drewN))⟩
        case measure => simp [intOf]; omega
      | false =>
        have CL := Lib.hid (fun W => show Calls Tryd.prog 27 #[.int .u8 x] W fun e w' => e = .returned (.bool false) ∧ W = w' from by have := letter_any x W; rwa [hL] at this)
        cases hD : isD x with
        | true =>
          have CD := Lib.hid (fun W => show Calls Tryd.prog 29 #[.int .u8 x] W fun e w' => e = .returned (.bool true) ∧ W = w' from by have := digit_any x W; rwa [hD] at this)
          have HN := Lib.hid (show R = (k + 1 : Nat) + runL (src.data.toList.drop (i + k + 1)) by rw [HS.out, hL, hD, if_pos (.inr rfl)]; omega)
          clear HS hL hD
          go_wp2_with fail
          go_quiet (first | (go_at_call 27; exact Calls.quiet_of_same ((CL.out _).mono fun e w' h => ⟨h.1, h.2.symm⟩)) | (go_at_call 29; exact Calls.quiet_of_same ((CD.out _).mono fun e w' h => ⟨h.1, h.2.symm⟩)))
          go_wp2_with fail
          go_roundw
          case rel => exact ⟨k + 1, by omega, by go_num, Lib.hid HN.out, Lib.hid (by repeat (first | exact hB.out | apply pw_below_drewN))⟩
          case measure => simp [intOf]; omega
        | false =>
          have CD := Lib.hid (fun W => show Calls Tryd.prog 29 #[.int .u8 x] W fun e w' => e = .returned (.bool false) ∧ W = w' from by have := digit_any x W; rwa [hD] at this)
          have HN := Lib.hid (show R = k by rw [HS.out, hL, hD, if_neg (by simp)]; omega)
          clear HS hL hD
          go_wp2_with fail
          go_quiet (first | (go_at_call 27; exact Calls.quiet_of_same ((CL.out _).mono fun e w' h => ⟨h.1, h.2.symm⟩)) | (go_at_call 29; exact Calls.quiet_of_same ((CD.out _).mono fun e w' h => ⟨h.1, h.2.symm⟩)))
          go_wp2_with fail
          go_ret
          exact ⟨by rw [HN.out]; rfl, by repeat (first | exact hB.out | apply pw_below_drewN)⟩
    · have hlj : (src.size : Int) ≤ j := by omega
      have hld : decide (j < (src.size : Int)) = false := decide_eq_false (by omega)
      have HN := Lib.hid (show R = k by rw [hh.out, List.drop_eq_nil_of_le (by rw [Array.length_toList]; show src.size ≤ _; omega)]; rfl)
      clear hh hj hl
      go_wp2_with fail
      go_quiet (fail)
      go_wp2_with fail
      go_ret
      exact ⟨by rw [HN.out]; rfl, by repeat (first | exact hB.out | apply pw_below_drewN)⟩

end Go.Proofs.YtjoboaaambdpoaaDoor
