/- list.value, list.signed: walked. -/
import Derived.Test.YtlhgfhmdhmgmpaaGreatDoorLiC
set_option linter.unusedVariables false
set_option linter.unusedSimpArgs false
namespace Go.Proofs.YtlhgfhmdhmgmpaaGreatDoor
open Go.RowKit Go.Proofs.YtlhgfhmdhmgmpaaGreatDoorW.PrintWords Go.Joins Go.Maps

/-- What value answers. -/
def valueP (s : List UInt8) : Int × Bool :=
  match Lib.atoiAll s with
  | .ok v => (v, decide (Lib.itoa v = s))
  | .range => (Lib.atoiSat s, false)
  | _ => (0, false)

theorem valueP_rng (s : List UInt8) : -9223372036854775808 ≤ (valueP s).1 ∧ (valueP s).1 ≤ 9223372036854775807 := by
  unfold valueP
  split
  · rename_i h; exact Lib.atoiAll_bounds h
  · exact Lib.atoiSat_bounds s
  · exact ⟨by decide, by decide⟩

theorem below_bytesWorld (w : World) (e : TypeId) (s : ByteArray) : Below w.heap.size w (Lib.bytesWorld w e s) := by
  have h : Below w.heap.size w (w.drew.alloc (.cells (Lib.bytesCells w e s) e)) := ((Below.refl _ w).drew).alloc (Nat.le_refl _) _
  refine h.trans ⟨rfl, rfl, rfl, by simp [Lib.bytesWorld, World.freeze], fun k hk => ?_⟩
  show ((w.drew.alloc (.cells (Lib.bytesCells w e s) e)).heap.modify w.heap.size _)[k]? = _
  rw [Array.getElem?_modify, if_neg (by omega)]

theorem ba_eq (a : List UInt8) (s : ByteArray) : ((⟨a.toArray⟩ : ByteArray) = s) ↔ a = s.data.toList := by
  constructor
  · intro h; rw [← h]
  · intro h; subst h; cases s; rfl

theorem beq_dec (a b : List UInt8) : (a == b) = decide (a = b) := by rw [Bool.eq_iff_iff]; simp

set_option maxHeartbeats 2000000 in
set_option maxRecDepth 100000 in
theorem value_any (s : ByteArray) (w : World) (hL : LLaid w) (hs : s.size ≤ 281474976710656) :
    Calls Tryz.prog 100 #[.string s] w fun e w' => e = .returned (.tuple #[.int .i64 (valueP s.data.toList).1, .bool (valueP s.data.toList).2]) ∧ Below w.heap.size w w' := by
  have HL := Lib.hid hL
  obtain ⟨es, hes, hes2⟩ := hL.es
  obtain ⟨er, her, her2⟩ := hL.er
  clear hL
  cases h : Lib.atoiAll s.data.toList with
  | ok v =>
    have hv := Lib.atoiAll_bounds h
    have e1 : valueP s.data.toList = (v, decide (Lib.itoa v = s.data.toList)) := by unfold valueP; rw [h]
    rw [e1]
    have HC := Lib.hid (Tryz.strconv_Atoi_ok s (by omega) v h w)
    clear h e1 hes her
    go_enter Tryz.func100, Tryz.ntmps100
    go_wp2_with fail
    refine HC.out.mono ?_
    rintro e w1 ⟨rfl, hw⟩
    have hb1 : Below w.heap.size w w1 := by
      rcases hw with rfl | ⟨t, rfl⟩
      · exact Below.refl _ _
      · exact below_bytesWorld w _ t
    have HB1 := Lib.hid hb1
    clear hw hb1
    go_wp2_with fail
    refine (itoa_any v hv.1 hv.2 w1 (HL.out.below HB1.out)).mono ?_
    rintro e w2 ⟨rfl, hb2⟩
    have HB2 := Lib.hid (bj HB1.out hb2)
    clear hb2
    go_wp2_with fail
    go_ret2
    exact ⟨congrArg (fun x => Ending.returned (.tuple #[.int .i64 v, .bool x])) (by rw [ByteArray.toList_eq]; exact beq_dec _ _), HB2.out⟩
  | range =>
    have e1 : valueP s.data.toList = (Lib.atoiSat s.data.toList, false) := by unfold valueP; rw [h]
    rw [e1]
    have HC := Lib.hid (Tryz.strconv_Atoi_range s hs h er w her her2)
    clear h e1 hes her
    go_enter Tryz.func100, Tryz.ntmps100
    go_wp2_with fail
    refine HC.out.mono ?_
    rintro e w1 ⟨N, rfl, _, _, hb1⟩
    have HB1 := Lib.hid hb1
    clear hb1
    go_wp2_with fail
    go_ret2
    exact ⟨rfl, HB1.out⟩
  | _ =>
    have e1 : valueP s.data.toList = (0, false) := by unfold valueP; rw [h]
    rw [e1]
    have HC := Lib.hid (Tryz.strconv_Atoi_syntax s hs h es w hes hes2)
    clear h e1 hes her
    go_enter Tryz.func100, Tryz.ntmps100
    go_wp2_with fail
    refine HC.out.mono ?_
    rintro e w1 ⟨N, rfl, _, _, hb1⟩
    have HB1 := Lib.hid hb1
    clear hb1
    go_wp2_with fail
    go_ret2
    exact ⟨rfl, HB1.out⟩

/-- What signed answers. -/
def signedP (s : List UInt8) (c : UInt8) : Int × Bool :=
  ((valueP (Lib.trimPrefix s [c])).1, Lib.hasPrefix s [c] && (valueP (Lib.trimPrefix s [c])).2 && decide (0 ≤ (valueP (Lib.trimPrefix s [c])).1))

set_option maxRecDepth 100000 in
theorem signed_any (s : ByteArray) (c : UInt8) (w : World) (hL : LLaid w) (hs : s.size ≤ 281474976710656) :
    Calls Tryz.prog 61 #[.string s, .string ⟨#[c]⟩] w fun e w' => e = .returned (.tuple #[.int .i64 (signedP s.data.toList c).1, .bool (signedP s.data.toList c).2]) ∧ Below w.heap.size w w' := by
  have HL := Lib.hid hL
  have hsz : (⟨(Lib.trimPrefix s.data.toList [c]).toArray⟩ : ByteArray).size ≤ 281474976710656 := by
    show (Lib.trimPrefix s.data.toList [c]).toArray.size ≤ _
    rw [List.size_toArray]
    have : (Lib.trimPrefix s.data.toList [c]).length ≤ s.data.toList.length := by
      unfold Lib.trimPrefix
      split
      · rw [List.length_drop]; omega
      · exact Nat.le_refl _
    rw [Array.length_toList] at this
    exact Nat.le_trans this hs
  have HV := Lib.hid (value_any _ w hL hsz)
  have HP := Lib.hid (Tryz.strings_CutPrefix s ⟨#[c]⟩ w)
  unfold signedP
  have e1 : (⟨#[c]⟩ : ByteArray).data.toList = [c] := rfl
  rw [e1] at HP
  clear hL hs hsz e1
  have e2 : ({ data := (Lib.trimPrefix s.data.toList [c]).toArray } : ByteArray).data.toList = Lib.trimPrefix s.data.toList [c] := rfl
  rw [e2] at HV
  generalize hV : valueP (Lib.trimPrefix s.data.toList [c]) = V at HV
  clear hV e2
  obtain ⟨v, f⟩ := V
  simp only at HV
  generalize Lib.hasPrefix s.data.toList [c] = q at HP
  by_cases h0 : 0 ≤ v
  · have d0 : decide (0 ≤ v) = true := decide_eq_true h0
    clear h0
    cases q <;> cases f <;>
      (go_enter Tryz.func61, Tryz.ntmps61
       go_wp2_with (first | (go_at_call 99; refine HP.out.mono ?_; rintro e w' ⟨rfl, rfl⟩) | (go_at_call 100; refine HV.out.mono ?_; rintro e w' ⟨rfl, hb⟩))
       go_ret2
       exact ⟨by first | rfl | (simp only [d0]; rfl), by assumption⟩)
  · have d0 : decide (0 ≤ v) = false := decide_eq_false h0
    clear h0
    cases q <;> cases f <;>
      (go_enter Tryz.func61, Tryz.ntmps61
       go_wp2_with (first | (go_at_call 99; refine HP.out.mono ?_; rintro e w' ⟨rfl, rfl⟩) | (go_at_call 100; refine HV.out.mono ?_; rintro e w' ⟨rfl, hb⟩))
       go_ret2
       exact ⟨by first | rfl | (simp only [d0]; rfl), by assumption⟩)

end Go.Proofs.YtlhgfhmdhmgmpaaGreatDoor
