/- Texts joined: LiG LiT LiT2 LiT3 LiT4 LiU LiW LiX0. -/
import Derived.Test.YtlhgfhmdhmgmpaaGreatDoorLiAZ
import Derived.Deep.RegionLaw
import Derived.Outline
import Derived.Test.YtlhgfhmdhmgmpaaGreatDoorEncB
import Derived.Test.YtlhgfhmdhmgmpaaGreatDoorAp
import Derived.WalkSmall
import Derived.Lib.OthersKept
import Derived.Lib.TrimU
import Derived.Lib.FieldsU
import Derived.Lib.IndexLaws
import Derived.BigRegion
import Derived.RegionTactic
set_option linter.unusedVariables false
set_option linter.unusedSimpArgs false
namespace Go.Proofs.YtlhgfhmdhmgmpaaGreatDoor
open Go.RowKit Go.Proofs.YtlhgfhmdhmgmpaaGreatDoorW.PrintWords Go.Joins Go.Maps

/-- What value answers. -/
def valueP (s : List UInt8) : Int × Bool :=
  match Lib.atoiAll s with
  | .ok v => (v, decide (Lib.itoa v = s))
  | .range => (Lib.atoiSat s, false)
  | _ => (0, false)

theorem below_bytesWorld (w : World) (e : TypeId) (s : ByteArray) : Below w.heap.size w (Lib.bytesWorld w e s) := by
  have h : Below w.heap.size w (w.drew.alloc (.cells (Lib.bytesCells w e s) e)) := ((Below.refl _ w).drew).alloc (Nat.le_refl _) _
  refine h.trans ⟨rfl, rfl, rfl, by simp [Lib.bytesWorld, World.freeze], fun k hk => ?_⟩
  show ((w.drew.alloc (.cells (Lib.bytesCells w e s) e)).heap.modify w.heap.size _)[k]? = _
  rw [Array.getElem?_modify, if_neg (by omega)]

theorem beq_dec (a b : List UInt8) : (a == b) = decide (a = b) := by rw [Bool.eq_iff_iff]; simp

set_option maxHeartbeats 2000000 in
set_option maxRecDepth 100000 in
theorem value_any (s : ByteArray) (w : World) (hL : LLaid w) (hs : s.size ≤ 281474976710656) :
    Calls Tryz.prog 100 #[.string s] w fun e w' => e = .returned (.tuple #[.int .i64 (valueP s.data.toList).1, .bool (valueP s.data.toList).2]) ∧ Below w.heap.size w w' := by
  have HL := Lib.hid hL
  obtain ⟨es, hes, hes2⟩ := hL.es
  obtain ⟨er, her, her2⟩ := hL.er
  clear hL
  cases h : Lib.atoiAll s.data.toList with
  | ok v =>
    have hv := Lib.atoiAll_bounds h
    have e1 : valueP s.data.toList = (v, decide (Lib.itoa v = s.data.toList)) := by unfold valueP; rw [h]
    rw [e1]
    have HC := Lib.hid (Tryz.strconv_Atoi_ok s (by omega) v h w)
    clear h e1 hes her
    go_enter Tryz.func100, Tryz.ntmps100
    go_wp2_with fail
    refine HC.out.mono ?_
    rintro e w1 ⟨rfl, hw⟩
    have hb1 : Below w.heap.size w w1 := by
      rcases hw with rfl | ⟨t, rfl⟩
      · exact Below.refl _ _
      · exact below_bytesWorld w _ t
    have HB1 := Lib.hid hb1
    clear hw hb1
    go_wp2_with fail
    refine (itoa_any v hv.1 hv.2 w1 (HL.out.below HB1.out)).mono ?_
    rintro e w2 ⟨rfl, hb2⟩
    have HB2 := Lib.hid (bj HB1.out hb2)
    clear hb2
    go_wp2_with fail
    go_ret2
    exact ⟨congrArg (fun x => Ending.returned (.tuple #[.int .i64 v, .bool x])) (by rw [ByteArray.toList_eq]; exact beq_dec _ _), HB2.out⟩
  | range =>
    have e1 : valueP s.data.toList = (Lib.atoiSat s.data.toList, false) := by unfold valueP; rw [h]
    rw [e1]
    have HC := Lib.hid (Tryz.strconv_Atoi_range s hs h er w her her2)
    clear h e1 hes her
    go_enter Tryz.func100, Tryz.ntmps100
    go_wp2_with fail
    refine HC.out.mono ?_
    rintro e w1 ⟨N, rfl, _, _, hb1⟩
    have HB1 := Lib.hid hb1
    clear hb1
    go_wp2_with fail
    go_ret2
    exact ⟨rfl, HB1.out⟩
  | _ =>
    have e1 : valueP s.data.toList = (0, false) := by unfold valueP; rw [h]
    rw [e1]
    have HC := Lib.hid (Tryz.strconv_Atoi_syntax s hs h es w hes hes2)
    clear h e1 hes her
    go_enter Tryz.func100, Tryz.ntmps100
    go_wp2_with fail
    refine HC.out.mono ?_
    rintro e w1 ⟨N, rfl, _, _, hb1⟩
    have HB1 := Lib.hid hb1
    clear hb1
    go_wp2_with fail
    go_ret2
    exact ⟨rfl, HB1.out⟩

/-- What signed answers. -/
def signedP (s : List UInt8) (c : UInt8) : Int × Bool :=
  ((valueP (Lib.trimPrefix s [c])).1, Lib.hasPrefix s [c] && (valueP (Lib.trimPrefix s [c])).2 && decide (0 ≤ (valueP (Lib.trimPrefix s [c])).1))

set_option maxRecDepth 100000 in
theorem signed_any (s : ByteArray) (c : UInt8) (w : World) (hL : LLaid w) (hs : s.size ≤ 281474976710656) :
    Calls Tryz.prog 61 #[.string s, .string ⟨#[c]⟩] w fun e w' => e = .returned (.tuple #[.int .i64 (signedP s.data.toList c).1, .bool (signedP s.data.toList c).2]) ∧ Below w.heap.size w w' := by
  have HL := Lib.hid hL
  have hsz : (⟨(Lib.trimPrefix s.data.toList [c]).toArray⟩ : ByteArray).size ≤ 281474976710656 := by
    show (Lib.trimPrefix s.data.toList [c]).toArray.size ≤ _
    rw [List.size_toArray]
    have : (Lib.trimPrefix s.data.toList [c]).length ≤ s.data.toList.length := by
      unfold Lib.trimPrefix
      split
      · rw [List.length_drop]; omega
      · exact Nat.le_refl _
    rw [Array.length_toList] at this
    exact Nat.le_trans this hs
  have HV := Lib.hid (value_any _ w hL hsz)
  have HP := Lib.hid (Tryz.strings_CutPrefix s ⟨#[c]⟩ w)
  unfold signedP
  have e1 : (⟨#[c]⟩ : ByteArray).data.toList = [c] := rfl
  rw [e1] at HP
  clear hL hs hsz e1
  have e2 : ({ data := (Lib.trimPrefix s.data.toList [c]).toArray } : ByteArray).data.toList = Lib.trimPrefix s.data.toList [c] := rfl
  rw [e2] at HV
  generalize hV : valueP (Lib.trimPrefix s.data.toList [c]) = V at HV
  clear hV e2
  obtain ⟨v, f⟩ := V
  simp only at HV
  generalize Lib.hasPrefix s.data.toList [c] = q at HP
  by_cases h0 : 0 ≤ v
  · have d0 : decide (0 ≤ v) = true := decide_eq_true h0
    clear h0
    cases q <;> cases f <;>
      (go_enter Tryz.func61, Tryz.ntmps61
       go_wp2_with (first | (go_at_call 99; refine HP.out.mono ?_; rintro e w' ⟨rfl, rfl⟩) | (go_at_call 100; refine HV.out.mono ?_; rintro e w' ⟨rfl, hb⟩))
       go_ret2
       exact ⟨by first | rfl | (simp only [d0]; rfl), by assumption⟩)
  · have d0 : decide (0 ≤ v) = false := decide_eq_false h0
    clear h0
    cases q <;> cases f <;>
      (go_enter Tryz.func61, Tryz.ntmps61
       go_wp2_with (first | (go_at_call 99; refine HP.out.mono ?_; rintro e w' ⟨rfl, rfl⟩) | (go_at_call 100; refine HV.out.mono ?_; rintro e w' ⟨rfl, hb⟩))
       go_ret2
       exact ⟨by first | rfl | (simp only [d0]; rfl), by assumption⟩)

end Go.Proofs.YtlhgfhmdhmgmpaaGreatDoor

set_option linter.unusedVariables false
set_option linter.unusedSimpArgs false
namespace Go.Proofs.YtlhgfhmdhmgmpaaGreatDoor
open Go.RowKit Go.Proofs.YtlhgfhmdhmgmpaaGreatDoorW.PrintWords Go.Joins Go.Maps

def setF (l : Line) (o : Nat) (n : Int) : Line := if o = 1 then { l with a := n } else if o = 2 then { l with b := n } else { l with imm := n }

/-- The labels of words; none: one is no label. -/
def labsP : List ByteArray → Option (List Int)
  | [] => some []
  | s :: r => if (signedP s.data.toList 76).2 = true then (labsP r).map ((signedP s.data.toList 76).1 :: ·) else none

def takeP (l : Line) : Part → List ByteArray → Option (Line × List ByteArray)
  | .places, ws => (labsP ws).map fun ns => ({ l with list := ns }, [])
  | .reg o, s :: r => if (signedP s.data.toList 82).2 = true then some (setF l o (signedP s.data.toList 82).1, r) else none
  | .num, s :: r => if (valueP s.data.toList).2 = true then some ({ l with imm := (valueP s.data.toList).1 }, r) else none
  | .word, s :: r => if ((valueP s.data.toList).2 && decide (0 ≤ (valueP s.data.toList).1) && decide ((valueP s.data.toList).1 < 4294967296)) = true then some ({ l with n := (valueP s.data.toList).1 }, r) else none
  | .place, s :: r => if (signedP s.data.toList 76).2 = true then some ({ l with label := (signedP s.data.toList 76).1 }, r) else none
  | _, [] => none

/-- A line that is being read, in its block. -/
def LineX (w : World) (b : Nat) (l : Line) (v : Value) : Prop :=
  w.heap[b]? = some (.cells #[.int .i64 l.op, .int .i64 l.a, .int .i64 l.b, .int .i64 l.imm, .int .u32 l.n, .int .i64 l.label, v] 49 (0, 0))

/-- Only block b has turned, of what was there. -/
structure Just (b : Nat) (w w' : World) : Prop where
  os : w'.os = w.os
  tape : w'.tape = w.tape
  output : w'.output = w.output
  size : w.heap.size ≤ w'.heap.size
  block : ∀ k, k < w.heap.size → k ≠ b → w'.heap[k]? = w.heap[k]?

theorem Just.of_below {b : Nat} {w w' : World} (h : Below w.heap.size w w') : Just b w w' := ⟨h.os, h.tape, h.output, h.size, fun k hk _ => h.block k hk⟩

theorem Just.set {b : Nat} {w w' : World} (h : Just b w w') (o : Nat) (v : Value) : Just b w (w'.setCell ⟨b, o, none⟩ v) :=
  ⟨h.os, h.tape, h.output, by simpa [World.setCell] using h.size, fun k hk hne => (Below.heap_setCell _ _ _ _ hne).trans (h.block k hk hne)⟩

theorem Just.trans {b : Nat} {w w1 w2 : World} (h : Just b w w1) (h' : Just b w1 w2) : Just b w w2 :=
  ⟨h'.os.trans h.os, h'.tape.trans h.tape, h'.output.trans h.output, Nat.le_trans h.size h'.size, fun k hk hne => (h'.block k (Nat.lt_of_lt_of_le hk h.size) hne).trans (h.block k hk hne)⟩

theorem Just.below {b B : Nat} {w w' : World} (h : Just b w w') (hB : B ≤ b) (hs : B ≤ w.heap.size) : Below B w w' := ⟨h.os, h.tape, h.output, h.size, fun k hk => h.block k (by omega) (by omega)⟩

theorem Just.cell {b : Nat} {w w' : World} (h : Just b w w') {p : Addr} {v : Value} (hc : w.cell? p = some v) (hne : p.block ≠ b) : w'.cell? p = some v := by
  have hb := h.block p.block (lt_of_cell hc) hne
  simp only [World.cell?, hb] at hc ⊢
  exact hc

/-- A slice of words. -/
def WS (w : World) (B : Nat) (v : Value) (ws : List ByteArray) : Prop := ∃ A c, v = .slice A ws.length c ∧ ws.length ≤ c ∧ (∀ ad, A = some ad → ad.block < B) ∧ ∀ (j : Nat) x, ws[j]? = some x → ∃ ad, A = some ad ∧ w.cell? (ad.add j) = some (.string x)

attribute [local go_sem] as_reg_reg as_reg_num as_reg_word as_reg_place as_reg_places as_num_reg as_num_num as_num_word as_num_place as_num_places as_word_reg as_word_num as_word_word as_word_place as_word_places as_place_reg as_place_num as_place_word as_place_place as_place_places as_places_reg as_places_num as_places_word as_places_place as_places_places

theorem LineX.set_reg {w : World} {b o : Nat} {l : Line} {v : Value} (hx : LineX w b l v) (ho : o = 1 ∨ o = 2 ∨ o = 3) (n : Int) : LineX (w.setCell ⟨b, o, none⟩ (.int .i64 n)) b (setF l o n) v := by
  unfold LineX at *
  rw [block_setCell hx _]
  rcases ho with rfl | rfl | rfl <;> rfl

theorem LineX.set_place {w : World} {b : Nat} {l : Line} {v : Value} (hx : LineX w b l v) (n : Int) : LineX (w.setCell ⟨b, 5, none⟩ (.int .i64 n)) b { l with label := n } v := by
  unfold LineX at *
  rw [block_setCell hx _]
  rfl

theorem LineX.set_num {w : World} {b : Nat} {l : Line} {v : Value} (hx : LineX w b l v) (n : Int) : LineX (w.setCell ⟨b, 3, none⟩ (.int .i64 n)) b { l with imm := n } v := by
  unfold LineX at *
  rw [block_setCell hx _]
  rfl

theorem LineX.set_word {w : World} {b : Nat} {l : Line} {v : Value} (hx : LineX w b l v) (n : Int) : LineX (w.setCell ⟨b, 4, none⟩ (.int .u32 n)) b { l with n := n } v := by
  unfold LineX at *
  rw [block_setCell hx _]
  rfl

theorem ws_tail {w : World} {ad : Addr} {c : Nat} {s : ByteArray} {r : List ByteArray} (hc : (s :: r).length ≤ c) (h : ∀ (j : Nat) x, (s :: r)[j]? = some x → ∃ ad', some ad = some ad' ∧ w.cell? (ad'.add j) = some (.string x)) :
    ∃ ad', (if c = 1 then some ad else some (ad.add 1)) = some ad' ∧ ∀ (j : Nat) x, r[j]? = some x → w.cell? (ad'.add j) = some (.string x) := by
  by_cases h1 : c = 1
  · refine ⟨ad, if_pos h1, fun j x hx => ?_⟩
    have : r = [] := List.eq_nil_of_length_eq_zero (by rw [List.length_cons] at hc; omega)
    rw [this] at hx
    simp at hx
  · refine ⟨ad.add 1, if_neg h1, fun j x hx => ?_⟩
    obtain ⟨ad', e, hcl⟩ := h (j + 1) x (by simpa using hx)
    cases e
    rw [Addr.add_add, Nat.add_comm 1 j]
    exact hcl

/-- What takes answers of a part that is one word. -/
def TakesR (b : Nat) (l : Line) (v : Value) (p : Part) (ws : List ByteArray) (w : World) (e : Ending) (w' : World) : Prop :=
  ∃ (ok : Bool) (v' : Value) (l' : Line) (ws' : List ByteArray), e = .returned (.tuple #[v', .bool ok]) ∧ LineX w' b l' v ∧ takeP l p ws = (if ok = true then some (l', ws') else none) ∧ (ok = true → WS w' b v' ws') ∧ Just b w w'

theorem takes_end {b o c n : Nat} {l l' : Line} {v u x V' : Value} {p : Part} {s : ByteArray} {r : List ByteArray} {ad : Addr} {w w1 : World} {vb : Bool} (hx : LineX w b l v) (hb : Below w.heap.size w w1) (hu : w.cell? ⟨b, o, none⟩ = some u) (hbb : ad.block < b) (hc : (s :: r).length ≤ c)
    (hce : ∀ (j : Nat) x, (s :: r)[j]? = some x → ∃ ad', some ad = some ad' ∧ w.cell? (ad'.add j) = some (.string x)) (hx' : LineX (w1.setCell ⟨b, o, none⟩ x) b l' v) (ht : takeP l p (s :: r) = if vb = true then some (l', r) else none) (hn : n = (s :: r).length)
    (hV : V' = .slice (if c = 1 then some ad else some (ad.add 1)) (n - 1) (c - 1)) : TakesR b l v p (s :: r) w (.returned (.tuple #[V', .bool vb])) (w1.setCell ⟨b, o, none⟩ x) := by
  obtain ⟨ad', hif, hc2⟩ := ws_tail hc hce
  rw [hif, hn, List.length_cons, Nat.add_sub_cancel] at hV
  refine ⟨vb, V', l', r, rfl, hx', ht, fun _ => ?_, (Just.of_below hb).set o _⟩
  have hblk : ad'.block < b := by
    have h2 : ad'.block = ad.block := by
      split at hif
      · cases hif; rfl
      · cases hif; rfl
    rw [h2]; exact hbb
  refine ⟨some ad', c - 1, hV, by rw [List.length_cons] at hc; omega, fun a ha => by cases ha; exact hblk, fun j y hy => ⟨ad', rfl, ?_⟩⟩
  have hj : (ad'.add j).block = ad'.block := by unfold Addr.add; split <;> rfl
  rw [World.cell?_setCell_other _ _ _ _ (fun e => by rw [← e] at hj; simp only at hj; omega)]
  exact pw_cell_below hb (hc2 j y hy)

set_option maxHeartbeats 4000000 in
set_option maxRecDepth 100000 in
theorem takes_reg (b o : Nat) (l : Line) (v : Value) (V : Value) (ws : List ByteArray) (w : World) (hL : LLaid w) (hx : LineX w b l v) (ho : o = 1 ∨ o = 2 ∨ o = 3) (hw : WS w b V ws) (hsz : ∀ s ∈ ws, s.size ≤ 281474976710656) :
    Calls Tryz.prog 63 #[pv b (.reg o), V] w (TakesR b l v (.reg o) ws w) := by
  obtain ⟨A, c, rfl, hc, hbb, hcells⟩ := hw
  show Calls Tryz.prog _ #[.iface 120 (.agg #[.pointer (some ⟨b, o, none⟩)]), _] w _
  cases ws with
  | nil =>
    have HX := Lib.hid hx
    clear hL hx hcells hsz
    go_enter Tryz.func63, Tryz.ntmps63
    go_wp2_with fail
    go_ret2
    exact ⟨false, _, l, [], rfl, (((Below.refl _ _).alloc (Nat.le_refl _) _).block b (Array.getElem?_eq_some_iff.1 HX.out).1).trans HX.out, rfl, (fun h => by cases h), Just.of_below ((Below.refl _ _).alloc (Nat.le_refl _) _)⟩
  | cons s r =>
    obtain ⟨ad, rfl, hs0⟩ := hcells 0 s rfl
    have HBB := Lib.hid (hbb ad rfl)
    clear hbb
    have hs1 : w.cell? ad = some (.string s) := hs0
    have hbl : b < w.heap.size := (Array.getElem?_eq_some_iff.1 hx).1
    obtain ⟨u, hu⟩ : ∃ u, w.cell? ⟨b, o, none⟩ = some (.int .i64 u) := by
      rw [cell_of_block hx]
      rcases ho with rfl | rfl | rfl
      · exact ⟨_, rfl⟩
      · exact ⟨_, rfl⟩
      · exact ⟨_, rfl⟩
    have hf := unfrozen_of_block hx o
    have HS := Lib.hid (fun W (h : Below w.heap.size w W) => signed_any s 82 W (hL.below h) (hsz s (by simp)))
    have HX := Lib.hid hx
    have HU := Lib.hid hu
    have HF := Lib.hid hf
    have HS1 := Lib.hid hs1
    have HC := Lib.hid hc
    have HCE := Lib.hid hcells
    have hz : (0 : Int) < (((s :: r).length : Nat) : Int) := by simp only [List.length_cons]; omega
    have hln : ((((s :: r).length : Nat) : Int) == 0) = false := beq_eq_false_iff_ne.mpr (by omega)
    generalize hV : signedP s.data.toList 82 = VV at HS
    have HVV := Lib.hid hV
    have hlc : 1 ≤ (s :: r).length := by simp
    have hlc2 : (s :: r).length ≤ c := hc
    obtain ⟨n, hn⟩ : ∃ n, n = (s :: r).length := ⟨_, rfl⟩
    rw [← hn] at hz hln hlc hlc2 ⊢
    have HN := Lib.hid hn
    have HO := Lib.hid ho
    clear hL hx hu hf hs0 hs1 hV hcells hsz hc hn ho
    obtain ⟨vn, vb⟩ := VV
    simp only at HS
    go_enter Tryz.func63, Tryz.ntmps63
    go_upto_block 2 with fail
    go_cut [12] from 13 to 114 (fun s12 wx => s12 = .bool vb ∧ Hid (∃ w1, Below w.heap.size w w1 ∧ wx = w1.setCell ⟨b, o, none⟩ (.int .i64 vn)))
    case first =>
      go_upto_region 18 with fail
      obtain ⟨W, hW⟩ : ∃ W, W = (w.alloc (.cells #[.pointer none] 95)).alloc (.cells #[.pointer (some ⟨b, o, none⟩)] 120) := ⟨_, rfl⟩
      rw [← hW]
      have hbW : Below w.heap.size w W := by rw [hW]; exact ((Below.refl _ _).alloc (Nat.le_refl _) _).alloc (by simp) _
      have p0 : W.cell? ⟨w.heap.size + 1, 0, none⟩ = some (.pointer (some ⟨b, o, none⟩)) := by rw [hW]; exact knA (by simp) 0 rfl
      have p1 := kp hbW HS1.out
      have p2 := kp hbW HU.out
      have p3 := kpf hbW HU.out HF.out
      have HBW := Lib.hid hbW
      clear hW hbW
      go_region_with ((go_at_call 61; refine (HS.out _ ?_).mono ?_; (repeat (first | exact HBW.out | refine Below.drew ?_)); rintro e w1 ⟨rfl, hb⟩; have q0 := kp hb p0; have q1 := kp hb p1; have q2 := kp hb p2; have q3 := kpf hb p2 p3; have HB := Lib.hid (show Below w.heap.size w w1 from bj ((HBW.out).drew) hb); clear hb))
      all_goals go_wp2_with fail
      all_goals go_meet
      all_goals exact ⟨rfl, Lib.hid ⟨_, HB.out, rfl⟩⟩
    case rest =>
      obtain ⟨rfl, hWX⟩ := hcut
      obtain ⟨w1, hb1, rfl⟩ := hWX.out
      have HE := Lib.hid (fun (V' : Value) (hV : V' = .slice (if c = 1 then some ad else some (ad.add 1)) (n - 1) (c - 1)) => takes_end (p := .reg o) (v := v) (u := .int .i64 u) (HX.out) hb1 HU.out HBB.out HC.out HCE.out (LineX.set_reg ((hb1.block b hbl).trans HX.out) HO.out vn) (show takeP l (.reg o) (s :: r) = if vb = true then some (setF l o vn, r) else none by
        show (if (signedP s.data.toList 82).2 = true then some (setF l o (signedP s.data.toList 82).1, r) else none) = _
        rw [HVV.out]) HN.out hV)
      clear hb1 hWX
      by_cases h1 : c = 1
      · subst h1
        go_wp2_with fail
        go_ret2
        exact HE.out _ (by rw [if_pos trivial, show n - 1 = 0 by omega]; rfl)
      · go_wp2_with fail
        go_ret2
        exact HE.out _ (by rw [if_neg h1]; rfl)

set_option maxHeartbeats 4000000 in
set_option maxRecDepth 100000 in
theorem takes_place (b : Nat) (l : Line) (v : Value) (V : Value) (ws : List ByteArray) (w : World) (hL : LLaid w) (hx : LineX w b l v) (hw : WS w b V ws) (hsz : ∀ s ∈ ws, s.size ≤ 281474976710656) :
    Calls Tryz.prog 63 #[pv b .place, V] w (TakesR b l v .place ws w) := by
  obtain ⟨A, c, rfl, hc, hbb, hcells⟩ := hw
  show Calls Tryz.prog _ #[.iface 92 (.agg #[.pointer (some ⟨b, 5, none⟩)]), _] w _
  cases ws with
  | nil =>
    have HX := Lib.hid hx
    clear hL hx hcells hsz
    go_enter Tryz.func63, Tryz.ntmps63
    go_wp2_with fail
    go_ret2
    exact ⟨false, _, l, [], rfl, (((Below.refl _ _).alloc (Nat.le_refl _) _).block b (Array.getElem?_eq_some_iff.1 HX.out).1).trans HX.out, rfl, (fun h => by cases h), Just.of_below ((Below.refl _ _).alloc (Nat.le_refl _) _)⟩
  | cons s r =>
    obtain ⟨ad, rfl, hs0⟩ := hcells 0 s rfl
    have HBB := Lib.hid (hbb ad rfl)
    clear hbb
    have hs1 : w.cell? ad = some (.string s) := hs0
    have hbl : b < w.heap.size := (Array.getElem?_eq_some_iff.1 hx).1
    obtain ⟨u, hu⟩ : ∃ u, w.cell? ⟨b, 5, none⟩ = some (.int .i64 u) := ⟨_, by rw [cell_of_block hx]; rfl⟩
    have hf := unfrozen_of_block hx 5
    have HS := Lib.hid (fun W (h : Below w.heap.size w W) => signed_any s 76 W (hL.below h) (hsz s (by simp)))
    have HX := Lib.hid hx
    have HU := Lib.hid hu
    have HF := Lib.hid hf
    have HS1 := Lib.hid hs1
    have HC := Lib.hid hc
    have HCE := Lib.hid hcells
    have hz : (0 : Int) < (((s :: r).length : Nat) : Int) := by simp only [List.length_cons]; omega
    have hln : ((((s :: r).length : Nat) : Int) == 0) = false := beq_eq_false_iff_ne.mpr (by omega)
    generalize hV : signedP s.data.toList 76 = VV at HS
    have HVV := Lib.hid hV
    have hlc : 1 ≤ (s :: r).length := by simp
    have hlc2 : (s :: r).length ≤ c := hc
    obtain ⟨n, hn⟩ : ∃ n, n = (s :: r).length := ⟨_, rfl⟩
    rw [← hn] at hz hln hlc hlc2 ⊢
    have HN := Lib.hid hn
    clear hL hx hu hf hs0 hs1 hV hcells hsz hc hn
    obtain ⟨vn, vb⟩ := VV
    simp only at HS
    go_enter Tryz.func63, Tryz.ntmps63
    go_upto_block 2 with fail
    go_cut [12] from 13 to 114 (fun s12 wx => s12 = .bool vb ∧ Hid (∃ w1, Below w.heap.size w w1 ∧ wx = w1.setCell ⟨b, 5, none⟩ (.int .i64 vn)))
    case first =>
      go_upto_region 21 with fail
      obtain ⟨W, hW⟩ : ∃ W, W = (w.alloc (.cells #[.pointer none] 95)).alloc (.cells #[.pointer (some ⟨b, 5, none⟩)] 92) := ⟨_, rfl⟩
      rw [← hW]
      have hbW : Below w.heap.size w W := by rw [hW]; exact ((Below.refl _ _).alloc (Nat.le_refl _) _).alloc (by simp) _
      have p0 : W.cell? ⟨w.heap.size + 1, 0, none⟩ = some (.pointer (some ⟨b, 5, none⟩)) := by rw [hW]; exact knA (by simp) 0 rfl
      have p1 := kp hbW HS1.out
      have p2 := kp hbW HU.out
      have p3 := kpf hbW HU.out HF.out
      have HBW := Lib.hid hbW
      clear hW hbW
      go_region_with ((go_at_call 61; refine (HS.out _ ?_).mono ?_; (repeat (first | exact HBW.out | refine Below.drew ?_)); rintro e w1 ⟨rfl, hb⟩; have q0 := kp hb p0; have q1 := kp hb p1; have q2 := kp hb p2; have q3 := kpf hb p2 p3; have HB := Lib.hid (show Below w.heap.size w w1 from bj ((HBW.out).drew) hb); clear hb))
      all_goals go_wp2_with fail
      all_goals go_meet
      all_goals exact ⟨rfl, Lib.hid ⟨_, HB.out, rfl⟩⟩
    case rest =>
      obtain ⟨rfl, hWX⟩ := hcut
      obtain ⟨w1, hb1, rfl⟩ := hWX.out
      have HE := Lib.hid (fun (V' : Value) (hV : V' = .slice (if c = 1 then some ad else some (ad.add 1)) (n - 1) (c - 1)) => takes_end (p := .place) (v := v) (u := .int .i64 u) (HX.out) hb1 HU.out HBB.out HC.out HCE.out (LineX.set_place ((hb1.block b hbl).trans HX.out) vn) (show takeP l .place (s :: r) = if vb = true then some ({ l with label := vn }, r) else none by
        show (if (signedP s.data.toList 76).2 = true then some ({ l with label := (signedP s.data.toList 76).1 }, r) else none) = _
        rw [HVV.out]) HN.out hV)
      clear hb1 hWX
      by_cases h1 : c = 1
      · subst h1
        go_wp2_with fail
        go_ret2
        exact HE.out _ (by rw [if_pos trivial, show n - 1 = 0 by omega]; rfl)
      · go_wp2_with fail
        go_ret2
        exact HE.out _ (by rw [if_neg h1]; rfl)

set_option maxHeartbeats 4000000 in
set_option maxRecDepth 100000 in
theorem takes_num (b : Nat) (l : Line) (v : Value) (V : Value) (ws : List ByteArray) (w : World) (hL : LLaid w) (hx : LineX w b l v) (hw : WS w b V ws) (hsz : ∀ s ∈ ws, s.size ≤ 281474976710656) :
    Calls Tryz.prog 63 #[pv b .num, V] w (TakesR b l v .num ws w) := by
  obtain ⟨A, c, rfl, hc, hbb, hcells⟩ := hw
  show Calls Tryz.prog _ #[.iface 121 (.agg #[.pointer (some ⟨b, 3, none⟩)]), _] w _
  cases ws with
  | nil =>
    have HX := Lib.hid hx
    clear hL hx hcells hsz
    go_enter Tryz.func63, Tryz.ntmps63
    go_wp2_with fail
    go_ret2
    exact ⟨false, _, l, [], rfl, (((Below.refl _ _).alloc (Nat.le_refl _) _).block b (Array.getElem?_eq_some_iff.1 HX.out).1).trans HX.out, rfl, (fun h => by cases h), Just.of_below ((Below.refl _ _).alloc (Nat.le_refl _) _)⟩
  | cons s r =>
    obtain ⟨ad, rfl, hs0⟩ := hcells 0 s rfl
    have HBB := Lib.hid (hbb ad rfl)
    clear hbb
    have hs1 : w.cell? ad = some (.string s) := hs0
    have hbl : b < w.heap.size := (Array.getElem?_eq_some_iff.1 hx).1
    obtain ⟨u, hu⟩ : ∃ u, w.cell? ⟨b, 3, none⟩ = some (.int .i64 u) := ⟨_, by rw [cell_of_block hx]; rfl⟩
    have hf := unfrozen_of_block hx 3
    have HS := Lib.hid (fun W (h : Below w.heap.size w W) => value_any s W (hL.below h) (hsz s (by simp)))
    have HX := Lib.hid hx
    have HU := Lib.hid hu
    have HF := Lib.hid hf
    have HS1 := Lib.hid hs1
    have HC := Lib.hid hc
    have HCE := Lib.hid hcells
    have hz : (0 : Int) < (((s :: r).length : Nat) : Int) := by simp only [List.length_cons]; omega
    have hln : ((((s :: r).length : Nat) : Int) == 0) = false := beq_eq_false_iff_ne.mpr (by omega)
    generalize hV : valueP s.data.toList = VV at HS
    have HVV := Lib.hid hV
    have hlc : 1 ≤ (s :: r).length := by simp
    have hlc2 : (s :: r).length ≤ c := hc
    obtain ⟨n, hn⟩ : ∃ n, n = (s :: r).length := ⟨_, rfl⟩
    rw [← hn] at hz hln hlc hlc2 ⊢
    have HN := Lib.hid hn
    clear hL hx hu hf hs0 hs1 hV hcells hsz hc hn
    obtain ⟨vn, vb⟩ := VV
    simp only at HS
    go_enter Tryz.func63, Tryz.ntmps63
    go_upto_block 2 with fail
    go_cut [12] from 13 to 114 (fun s12 wx => s12 = .bool vb ∧ Hid (∃ w1, Below w.heap.size w w1 ∧ wx = w1.setCell ⟨b, 3, none⟩ (.int .i64 vn)))
    case first =>
      go_upto_region 24 with fail
      obtain ⟨W, hW⟩ : ∃ W, W = (w.alloc (.cells #[.pointer none] 95)).alloc (.cells #[.pointer (some ⟨b, 3, none⟩)] 121) := ⟨_, rfl⟩
      rw [← hW]
      have hbW : Below w.heap.size w W := by rw [hW]; exact ((Below.refl _ _).alloc (Nat.le_refl _) _).alloc (by simp) _
      have p0 : W.cell? ⟨w.heap.size + 1, 0, none⟩ = some (.pointer (some ⟨b, 3, none⟩)) := by rw [hW]; exact knA (by simp) 0 rfl
      have p1 := kp hbW HS1.out
      have p2 := kp hbW HU.out
      have p3 := kpf hbW HU.out HF.out
      have HBW := Lib.hid hbW
      clear hW hbW
      go_region_with ((go_at_call 100; refine (HS.out _ ?_).mono ?_; (repeat (first | exact HBW.out | refine Below.drew ?_)); rintro e w1 ⟨rfl, hb⟩; have q0 := kp hb p0; have q1 := kp hb p1; have q2 := kp hb p2; have q3 := kpf hb p2 p3; have HB := Lib.hid (show Below w.heap.size w w1 from bj ((HBW.out).drew) hb); clear hb))
      all_goals go_wp2_with fail
      all_goals go_meet
      all_goals exact ⟨rfl, Lib.hid ⟨_, HB.out, rfl⟩⟩
    case rest =>
      obtain ⟨rfl, hWX⟩ := hcut
      obtain ⟨w1, hb1, rfl⟩ := hWX.out
      have HE := Lib.hid (fun (V' : Value) (hV : V' = .slice (if c = 1 then some ad else some (ad.add 1)) (n - 1) (c - 1)) => takes_end (p := .num) (v := v) (u := .int .i64 u) (HX.out) hb1 HU.out HBB.out HC.out HCE.out (LineX.set_num ((hb1.block b hbl).trans HX.out) vn) (show takeP l .num (s :: r) = if vb = true then some ({ l with imm := vn }, r) else none by
        show (if (valueP s.data.toList).2 = true then some ({ l with imm := (valueP s.data.toList).1 }, r) else none) = _
        rw [HVV.out]) HN.out hV)
      clear hb1 hWX
      by_cases h1 : c = 1
      · subst h1
        go_wp2_with fail
        go_ret2
        exact HE.out _ (by rw [if_pos trivial, show n - 1 = 0 by omega]; rfl)
      · go_wp2_with fail
        go_ret2
        exact HE.out _ (by rw [if_neg h1]; rfl)

end Go.Proofs.YtlhgfhmdhmgmpaaGreatDoor

set_option linter.unusedVariables false
set_option linter.unusedSimpArgs false
namespace Go.Proofs.YtlhgfhmdhmgmpaaGreatDoor
open Go.RowKit Go.Proofs.YtlhgfhmdhmgmpaaGreatDoorW.PrintWords Go.Joins Go.Maps
attribute [local go_sem] as_reg_reg as_reg_num as_reg_word as_reg_place as_reg_places as_num_reg as_num_num as_num_word as_num_place as_num_places as_word_reg as_word_num as_word_word as_word_place as_word_places as_place_reg as_place_num as_place_word as_place_place as_place_places as_places_reg as_places_num as_places_word as_places_place as_places_places

set_option maxHeartbeats 4000000 in
set_option maxRecDepth 100000 in
theorem takes_word (b : Nat) (l : Line) (v : Value) (V : Value) (ws : List ByteArray) (w : World) (hL : LLaid w) (hx : LineX w b l v) (hw : WS w b V ws) (hsz : ∀ s ∈ ws, s.size ≤ 281474976710656) :
    Calls Tryz.prog 63 #[pv b .word, V] w (TakesR b l v .word ws w) := by
  obtain ⟨A, c, rfl, hc, hbb, hcells⟩ := hw
  show Calls Tryz.prog _ #[.iface 89 (.agg #[.pointer (some ⟨b, 4, none⟩)]), _] w _
  cases ws with
  | nil =>
    have HX := Lib.hid hx
    clear hL hx hcells hsz
    go_enter Tryz.func63, Tryz.ntmps63
    go_wp2_with fail
    go_ret2
    exact ⟨false, _, l, [], rfl, (((Below.refl _ _).alloc (Nat.le_refl _) _).block b (Array.getElem?_eq_some_iff.1 HX.out).1).trans HX.out, rfl, (fun h => by cases h), Just.of_below ((Below.refl _ _).alloc (Nat.le_refl _) _)⟩
  | cons s r =>
    obtain ⟨ad, rfl, hs0⟩ := hcells 0 s rfl
    have HBB := Lib.hid (hbb ad rfl)
    clear hbb
    have hs1 : w.cell? ad = some (.string s) := hs0
    have hbl : b < w.heap.size := (Array.getElem?_eq_some_iff.1 hx).1
    obtain ⟨u, hu⟩ : ∃ u, w.cell? ⟨b, 4, none⟩ = some (.int .u32 u) := ⟨_, by rw [cell_of_block hx]; rfl⟩
    have hf := unfrozen_of_block hx 4
    have HS := Lib.hid (fun W (h : Below w.heap.size w W) => value_any s W (hL.below h) (hsz s (by simp)))
    have HX := Lib.hid hx
    have HU := Lib.hid hu
    have HF := Lib.hid hf
    have HS1 := Lib.hid hs1
    have HC := Lib.hid hc
    have HCE := Lib.hid hcells
    have hz : (0 : Int) < (((s :: r).length : Nat) : Int) := by simp only [List.length_cons]; omega
    have hln : ((((s :: r).length : Nat) : Int) == 0) = false := beq_eq_false_iff_ne.mpr (by omega)
    generalize hV : valueP s.data.toList = VV at HS
    have HVV := Lib.hid hV
    have hlc : 1 ≤ (s :: r).length := by simp
    have hlc2 : (s :: r).length ≤ c := hc
    obtain ⟨n, hn⟩ : ∃ n, n = (s :: r).length := ⟨_, rfl⟩
    rw [← hn] at hz hln hlc hlc2 ⊢
    have HN := Lib.hid hn
    clear hL hx hu hf hs0 hs1 hV hcells hsz hc hn
    obtain ⟨vn, vb⟩ := VV
    simp only at HS
    go_enter Tryz.func63, Tryz.ntmps63
    go_upto_block 2 with fail
    go_cut [12] from 13 to 114 (fun s12 wx => s12 = .bool (vb && decide (0 ≤ vn) && decide (vn < 4294967296)) ∧ Hid (∃ w1, Below w.heap.size w w1 ∧ wx = w1.setCell ⟨b, 4, none⟩ (.int .u32 (IntKind.u32.wrap vn))))
    case first =>
      go_upto_region 28 with fail
      obtain ⟨W, hW⟩ : ∃ W, W = (w.alloc (.cells #[.pointer none] 95)).alloc (.cells #[.pointer (some ⟨b, 4, none⟩)] 89) := ⟨_, rfl⟩
      rw [← hW]
      have hbW : Below w.heap.size w W := by rw [hW]; exact ((Below.refl _ _).alloc (Nat.le_refl _) _).alloc (by simp) _
      have p0 : W.cell? ⟨w.heap.size + 1, 0, none⟩ = some (.pointer (some ⟨b, 4, none⟩)) := by rw [hW]; exact knA (by simp) 0 rfl
      have p1 := kp hbW HS1.out
      have p2 := kp hbW HU.out
      have p3 := kpf hbW HU.out HF.out
      have HBW := Lib.hid hbW
      clear hW hbW
      go_wp2_with fail
      refine (HS.out _ HBW.out).mono ?_
      rintro e w1 ⟨rfl, hb⟩
      have q0 := kp hb p0
      have q2 := kp hb p2
      have q3 := kpf hb p2 p3
      have HB := Lib.hid (bj HBW.out hb)
      clear hb p0 p1 p2 p3
      cases vb with
      | false =>
        go_wp2_with fail
        go_meet
        exact ⟨rfl, Lib.hid ⟨_, HB.out, rfl⟩⟩
      | true =>
        by_cases h0 : 0 ≤ vn
        · have d0 : decide (0 ≤ vn) = true := decide_eq_true h0
          by_cases h1 : vn < 4294967296
          · have d1 : decide (vn < 4294967296) = true := decide_eq_true h1
            go_wp2_with fail
            go_meet
            exact ⟨by first | rfl | (simp only [d0, d1]; rfl), Lib.hid ⟨_, HB.out, by first | rfl | (rw [u32_own 32 (by omega) vn h0 (by omega)])⟩⟩
          · have d1 : decide (vn < 4294967296) = false := decide_eq_false h1
            go_wp2_with fail
            go_meet
            exact ⟨by first | rfl | (simp only [d0, d1]; rfl), Lib.hid ⟨_, HB.out, rfl⟩⟩
        · have d0 : decide (0 ≤ vn) = false := decide_eq_false h0
          go_wp2_with fail
          go_meet
          exact ⟨by first | rfl | (simp only [d0]; rfl), Lib.hid ⟨_, HB.out, rfl⟩⟩
    case rest =>
      obtain ⟨rfl, hWX⟩ := hcut
      obtain ⟨w1, hb1, rfl⟩ := hWX.out
      have HE := Lib.hid (fun (V' : Value) (hV : V' = .slice (if c = 1 then some ad else some (ad.add 1)) (n - 1) (c - 1)) => takes_end (p := .word) (v := v) (u := .int .u32 u) (vb := vb && decide (0 ≤ vn) && decide (vn < 4294967296)) (HX.out) hb1 HU.out HBB.out HC.out HCE.out (LineX.set_word ((hb1.block b hbl).trans HX.out) (IntKind.u32.wrap vn)) (by
        show (if ((valueP s.data.toList).2 && decide (0 ≤ (valueP s.data.toList).1) && decide ((valueP s.data.toList).1 < 4294967296)) = true then some ({ l with n := (valueP s.data.toList).1 }, r) else none) = _
        rw [HVV.out]
        split
        · rename_i hh
          simp only [Bool.and_eq_true, decide_eq_true_eq] at hh
          rw [u32_own 32 (by omega) vn hh.1.2 (by omega)]
        · rfl) HN.out hV)
      clear hb1 hWX
      by_cases h1 : c = 1
      · subst h1
        go_wp2_with fail
        go_ret2
        exact HE.out _ (by rw [if_pos trivial, show n - 1 = 0 by omega]; rfl)
      · go_wp2_with fail
        go_ret2
        exact HE.out _ (by rw [if_neg h1]; rfl)

end Go.Proofs.YtlhgfhmdhmgmpaaGreatDoor

set_option linter.unusedVariables false
set_option linter.unusedSimpArgs false
namespace Go.Proofs.YtlhgfhmdhmgmpaaGreatDoor
open Go.RowKit Go.Proofs.YtlhgfhmdhmgmpaaGreatDoorW.PrintWords Go.Joins Go.Maps
attribute [local go_sem] as_places_places

/-- A list that a line holds: nothing, or a row of its own block, whole. -/
def KO (w : World) (A : Option Addr) (c n : Nat) (xs : List Int) : Prop :=
  kInt.C w A n xs ∧ (A = none → c = 0) ∧ ∀ ad, A = some ad → ad = ⟨ad.block, 0, none⟩ ∧ ∃ cur, w.heap[ad.block]? = some (.cells cur 3 (0, 0)) ∧ cur.size = c ∧ c ≤ maxLen

theorem KO.below {w w' : World} {A : Option Addr} {c n : Nat} {xs : List Int} (h : KO w A c n xs) (hb : Below w.heap.size w w') : KO w' A c n xs :=
  ⟨Kd.C_below h.1 hb, h.2.1, fun ad e => by obtain ⟨h1, cur, h3, h4⟩ := h.2.2 ad e; exact ⟨h1, cur, (hb.block _ (Array.getElem?_eq_some_iff.1 h3).1).trans h3, h4⟩⟩

theorem KO.nil (w : World) : KO w none 0 0 [] := ⟨⟨rfl, by decide, fun h => absurd h (Nat.lt_irrefl _)⟩, fun _ => rfl, fun ad e => by cases e⟩

theorem KO.keep {w w' : World} {A : Option Addr} {c n : Nat} {xs : List Int} (h : KO w A c n xs) (hk : ∀ ad, A = some ad → w'.heap[ad.block]? = w.heap[ad.block]?) : KO w' A c n xs := by
  refine ⟨?_, h.2.1, fun ad e => by obtain ⟨h1, cur, h3, h4⟩ := h.2.2 ad e; exact ⟨h1, cur, (hk ad e).trans h3, h4⟩⟩
  obtain ⟨h1, h2, h3⟩ := h.1
  refine ⟨h1, h2, fun hp => ?_⟩
  obtain ⟨ad, e, hc⟩ := h3 hp
  refine ⟨ad, e, fun i x hx => ?_⟩
  obtain ⟨cs, a1, a2, a3⟩ := hc i x hx
  refine ⟨cs, a1, a2, fun j u hu => ?_⟩
  have hb : w'.heap[(ad.add (i * kInt.sz + j)).block]? = w.heap[(ad.add (i * kInt.sz + j)).block]? := by rw [add_block]; exact hk ad e
  have := a3 j u hu
  simp only [World.cell?, hb] at this ⊢
  exact this

/-- What takes answers of labels. -/
def TakesP (b : Nat) (l : Line) (ws : List ByteArray) (w : World) (e : Ending) (w' : World) : Prop :=
  ∃ (ok : Bool) (l' : Line) (v : Value), e = .returned (.tuple #[.slice none 0 0, .bool ok]) ∧ (∃ A n c, v = .slice A n c) ∧ LineX w' b l' v ∧ takeP l .places ws = (if ok = true then some (l', []) else none) ∧ (ok = true → ∃ A c, v = .slice A l'.list.length c ∧ (l'.list.length ≤ c ∧ ∀ ad, A = some ad → b < ad.block) ∧ KO w' A c l'.list.length l'.list) ∧ Just b w w'

abbrev OwnI (w : World) (B : Nat) (v : Value) (xs : List Int) : Prop := w.ownsRow B 3 1 v xs.length (xs.map (Value.int .i64))

theorem LineX.set_list {w : World} {b : Nat} {l : Line} {v : Value} (hx : LineX w b l v) (ns : List Int) (u : Value) : LineX (w.setCell ⟨b, 6, none⟩ u) b { l with list := ns } u := by
  unfold LineX at *
  rw [block_setCell hx _]
  rfl

theorem OwnI.slice {w : World} {B : Nat} {v : Value} {xs : List Int} (h : OwnI w B v xs) : ∃ A c, v = .slice A xs.length c := by
  rcases h.2 with ⟨rfl, h0⟩ | ⟨g, cap, cur, rfl, _⟩
  · exact ⟨none, 0, by rw [h0]⟩
  · exact ⟨_, _, rfl⟩

theorem reps_ints (k : IntKind) (xs : List Int) : Reps (fun x cs => cs = [Value.int k x]) 1 xs (xs.map (Value.int k)) := by
  refine ⟨by simp, fun j p hj => ?_⟩
  have hlt := (List.getElem?_eq_some_iff.1 hj).1
  have he := (List.getElem?_eq_some_iff.1 hj).2
  rw [Nat.mul_one]
  have : (xs.map (Value.int k)).drop j = Value.int k p :: (xs.map (Value.int k)).drop (j + 1) := by
    rw [List.drop_eq_getElem_cons (by simpa using hlt)]
    simp [he]
  rw [this]
  rfl

theorem LLaid.big2 {w : World} (h : LLaid w) : 8 + 1 ≤ w.heap.size := by
  obtain ⟨_, h, _⟩ := h.er
  exact lt_of_cell h

theorem LLaid.below16 {w w' : World} (h : LLaid w) (hb : Below (8 + 1) w w') : LLaid w' := by
  have hc : ∀ (g i : Nat) v, g < 8 + 1 → w.cell? ⟨g, i, none⟩ = some v → w'.cell? ⟨g, i, none⟩ = some v := fun g i v hg hv => by
    rw [hb.cell (p := ⟨g, i, none⟩) hg]; exact hv
  obtain ⟨s, hs, hs2⟩ := h.es
  obtain ⟨r, hr, hr2⟩ := h.er
  exact ⟨⟨Nat.lt_of_lt_of_le h.forms.1 hb.size, fun i hi => hc _ i _ (by decide) (h.forms.2 i hi)⟩, Go.var?_below hb gPow (by decide) h.pow, Go.var?_below hb gSpc (by decide) h.spc, Nat.lt_of_lt_of_le h.big hb.size, ⟨s, hc _ 0 _ (by decide) hs, hs2⟩, ⟨r, hc _ 0 _ (by decide) hr, hr2⟩⟩

theorem own_cap {w : World} {B : Nat} {A : Option Addr} {n c : Nat} {e sz : Nat} {xs : List Value} (h : w.ownsRow B e sz (.slice A n c) n xs) : n ≤ c := by
  rcases h.2 with ⟨h1, h2⟩ | ⟨g, cap, cur, h1, _, _, h3, _⟩
  · cases h1; exact Nat.le_refl _
  · cases h1; exact h3

theorem OwnI.reads {w : World} {B : Nat} {A : Option Addr} {c : Nat} {xs : List Int} (h : OwnI w B (.slice A xs.length c) xs) : kInt.C w A xs.length xs := by
  obtain ⟨A', c', e, hr⟩ := own_reads_row h (reps_ints .i64 xs) rfl
  cases e
  exact hr

theorem own_ko {w : World} {B : Nat} {A : Option Addr} {c : Nat} {xs : List Int} (h : OwnI w B (.slice A xs.length c) xs) : KO w A c xs.length xs := by
  refine ⟨OwnI.reads h, ?_, ?_⟩
  · intro e
    rcases h.2 with ⟨h1, _⟩ | ⟨g, cap, cur, h1, _⟩
    · injection h1 with _ _ e3
    · injection h1 with e1 _ _
      rw [e] at e1; cases e1
  · intro ad e
    rcases h.2 with ⟨h1, _⟩ | ⟨g, cap, cur, h1, h2, h3, h4, h5, h6, h7⟩
    · injection h1 with e1 _ _
      rw [e] at e1; cases e1
    · injection h1 with e1 _ e3
      rw [e] at e1
      injection e1 with e1
      subst e1
      exact ⟨rfl, cur, h3, by rw [h6, Nat.mul_one, e3], by rw [e3]; exact h5⟩

theorem labs_snoc : ∀ (xs : List ByteArray) (k : Nat) (s : ByteArray) (ns : List Int), xs[k]? = some s → (signedP s.data.toList 76).2 = true →
    labsP xs = (labsP (xs.drop k)).map (ns ++ ·) → labsP xs = (labsP (xs.drop (k + 1))).map ((ns ++ [(signedP s.data.toList 76).1]) ++ ·) := by
  intro xs k s ns hk hs h
  have hlt := (List.getElem?_eq_some_iff.1 hk).1
  have e : xs.drop k = s :: xs.drop (k + 1) := by
    rw [List.drop_eq_getElem_cons hlt]
    have := (List.getElem?_eq_some_iff.1 hk).2
    rw [this]
  rw [h, e, labsP, if_pos hs, Option.map_map]
  congr 1
  funext x
  simp

theorem labs_fail (xs : List ByteArray) (k : Nat) (s : ByteArray) (ns : List Int) (hk : xs[k]? = some s) (hs : (signedP s.data.toList 76).2 = false) (h : labsP xs = (labsP (xs.drop k)).map (ns ++ ·)) : labsP xs = none := by
  have hlt := (List.getElem?_eq_some_iff.1 hk).1
  have e : xs.drop k = s :: xs.drop (k + 1) := by
    rw [List.drop_eq_getElem_cons hlt]
    have := (List.getElem?_eq_some_iff.1 hk).2
    rw [this]
  rw [h, e, labsP, if_neg (by rw [hs]; simp)]
  rfl

theorem grown_blk {w w' : World} {row : Option Nat} {k : Nat} {o : Obj} (hg : w.grownBy w' row) (h : w.heap[k]? = some o) (hne : some k ≠ row) : w'.heap[k]? = some o := (hg.block k (Array.getElem?_eq_some_iff.1 h).1 hne).trans h

theorem grown_cell {w w' : World} {row : Option Nat} {p : Addr} {v : Value} (hg : w.grownBy w' row) (h : w.cell? p = some v) (hne : some p.block ≠ row) : w'.cell? p = some v := by
  have hb := hg.block p.block (lt_of_cell h) hne
  simp only [World.cell?, hb] at h ⊢
  exact h

theorem Just.grown {b : Nat} {w w1 w' : World} {row : Option Nat} (h : Just b w w1) (hg : w1.grownBy w' row) (hr : ∀ k, row = some k → w.heap.size ≤ k) : Just b w w' :=
  ⟨hg.os.trans h.os, hg.tape.trans h.tape, hg.output.trans h.output, Nat.le_trans h.size hg.size, fun k hk hne => (hg.block k (Nat.lt_of_lt_of_le hk h.size) (fun e => by have := hr k e.symm; omega)).trans (h.block k hk hne)⟩

theorem own_far {w : World} {B e size n b : Nat} {v : Value} {xs : List Value} (h : w.ownsRow B e size v n xs) (hb : b < B) (o : Nat) (u : Value) : (w.setCell ⟨b, o, none⟩ u).ownsRow B e size v n xs := by
  refine ⟨h.1, ?_⟩
  rcases h.2 with h0 | ⟨g, cap, cur, hv, hg0, hg, rest⟩
  · exact .inl h0
  · exact .inr ⟨g, cap, cur, hv, hg0, (Below.heap_setCell _ _ _ _ (by show g ≠ b; omega)).trans hg, rest⟩

theorem ownI_of {w : World} {B : Nat} {v : Value} {ns : List Int} {n : Int} (h : w.ownsRow B 3 1 v (ns.length + 1) ((ns ++ [n]).map (Value.int .i64))) : OwnI w B v (ns ++ [n]) := by
  rw [OwnI, List.length_append]; exact h

theorem infoInt : (Tryz.prog.info? 3).map (fun i => (i.zero, i.size, i.bytes)) = some (some (.int .i64 0), 1, 8) := by kernel_rfl

set_option maxHeartbeats 4000000 in
set_option maxRecDepth 100000 in
theorem takes_places (b : Nat) (l : Line) (V : Value) (ws : List ByteArray) (w : World) (hL : LLaid w) (hx : LineX w b l (.slice none 0 0)) (hl : l.list = []) (hw : WS w b V ws) (hsz : ∀ s ∈ ws, s.size ≤ 281474976710656) (hlen : ws.length ≤ 4294967296) (hb16 : 8 + 1 ≤ b) :
    Calls Tryz.prog 63 #[pv b .places, V] w (TakesP b l ws w) := by
  obtain ⟨A, c, rfl, hc, hbb, hcells⟩ := hw
  show Calls Tryz.prog _ #[.iface 95 (.agg #[.pointer (some ⟨b, 6, none⟩)]), _] w _
  have hbl : b < w.heap.size := (Array.getElem?_eq_some_iff.1 hx).1
  obtain ⟨W0, hW0⟩ : ∃ W0, W0 = w.alloc (.cells #[.pointer (some ⟨b, 6, none⟩)] 95) := ⟨_, rfl⟩
  have hB0 : Below w.heap.size w W0 := by rw [hW0]; exact (Below.refl _ _).alloc (Nat.le_refl _) _
  have hz0 : w.heap.size < W0.heap.size := by rw [hW0]; simp
  have hp0 : W0.cell? ⟨w.heap.size, 0, none⟩ = some (.pointer (some ⟨b, 6, none⟩)) := by rw [hW0]; exact kn 0 rfl
  have HX0 := Lib.hid (show LineX W0 b l (.slice none 0 0) from (hB0.block b hbl).trans hx)
  have HB0 := Lib.hid hB0
  have HP0 := Lib.hid hp0
  have HL := Lib.hid hL
  have HSZ := Lib.hid hsz
  have HCE := Lib.hid hcells
  have HBB := Lib.hid hbb
  have HW0 := Lib.hid hW0
  have HLL := Lib.hid hl
  clear hL hx hsz hcells hbb hW0 hB0 hp0 hl hc
  go_enter Tryz.func63, Tryz.ntmps63
  go_wp2_with fail
  rw [← HW0.out]
  go_loopw [26] (fun s wr => ∃ (k : Nat) (ns : List Int) (v : Value), k ≤ ws.length ∧ s = .int .i64 k ∧ Hid (ns.length = k) ∧ Hid (labsP ws = (labsP (ws.drop k)).map (ns ++ ·)) ∧ Hid (LineX wr b { l with list := ns } v) ∧ Hid (OwnI wr W0.heap.size v ns) ∧ Hid (Just b W0 wr)) (fun s _ => ws.length - (intOf s).toNat)
  case atStart => exact ⟨0, [], .slice none 0 0, Nat.zero_le _, rfl, Lib.hid rfl, Lib.hid (by simp), Lib.hid (by rw [show ({ l with list := [] } : Line) = l by rw [← HLL.out]]; exact HX0.out), Lib.hid (own_nil _ _ _ _), Lib.hid (Just.of_below (Below.refl _ _))⟩
  case round =>
    obtain ⟨k, ns, v, hk, rfl, hns, hlab, hX, hO, hJ⟩ := hrel
    have q0 := hJ.out.cell HP0.out (by simp; omega)
    by_cases hlt : k < ws.length
    · obtain ⟨ad, hA, hcx⟩ := HCE.out k _ (List.getElem?_eq_getElem hlt)
      have HKS := Lib.hid (List.getElem?_eq_getElem hlt : ws[k]? = some ws[k])
      have hmem : ws[k] ∈ ws := List.getElem_mem hlt
      generalize ws[k] = s at hcx HKS hmem
      subst hA
      have hadb : (ad.add k).block = ad.block := by unfold Addr.add; split <;> rfl
      have hcx2 := hJ.out.cell (kp HB0.out hcx) (by have := HBB.out ad rfl; omega)
      have hx0 : (0 : Int) ≤ (k : Int) := Int.natCast_nonneg _
      have hx1 : (k : Int) < (ws.length : Int) := by omega
      have HLr := Lib.hid ((HL.out.below HB0.out).below16 (hJ.out.below hb16 (Nat.le_trans HL.out.big2 (Nat.le_of_lt hz0))))
      have HC := Lib.hid (signed_any s 76 wr HLr.out (HSZ.out s hmem))
      generalize hV : signedP s.data.toList 76 = VV at HC
      have HVV := Lib.hid hV
      obtain ⟨n, f⟩ := VV
      simp only at HC
      clear hV hcx hmem
      obtain ⟨A9, c9, rfl⟩ := hO.out.slice
      have q1 := cell_of_block hX.out 6
      have q2 := unfrozen_of_block hX.out 6
      simp only [List.getElem?_toArray, List.getElem?_cons_succ, List.getElem?_cons_zero] at q1
      go_wp2_with fail
      refine HC.out.mono ?_
      rintro e w1 ⟨rfl, hb1⟩
      have HB1 := Lib.hid hb1
      replace q0 := kp hb1 q0
      replace q2 := kpf hb1 q1 q2
      replace q1 := kp hb1 q1
      clear hb1 hcx2
      cases f with
      | false =>
        have HF := Lib.hid (labs_fail ws k s ns HKS.out (by rw [HVV.out]) hlab.out)
        go_wp2_with fail
        go_ret2
        exact ⟨false, _, _, rfl, ⟨_, _, _, rfl⟩, (HB1.out.block b (Array.getElem?_eq_some_iff.1 hX.out).1).trans hX.out, by show (labsP ws).map _ = _; rw [HF.out]; rfl, (fun h => by cases h), (Just.of_below HB0.out).trans (hJ.out.trans (Just.of_below HB1.out))⟩
      | true =>
        go_wp2_with fail
        have hba : Below w1.heap.size w1 (w1.alloc (.cells #[.int .i64 n] 3)) := (Below.refl _ _).alloc (Nat.le_refl _) _
        have q0a := kp hba q0
        have q1a := kp hba q1
        have q2a := kpf hba q1 q2
        have hw1s := Nat.le_trans hJ.out.size HB1.out.size
        have OA := Lib.hid (show OwnI (w1.alloc (.cells #[.int .i64 n] 3)) W0.heap.size (.slice A9 ns.length c9) ns from li_own_below (li_own_below hO.out HB1.out) hba)
        have XA := Lib.hid (show LineX (w1.alloc (.cells #[.int .i64 n] 3)) b { l with list := ns } (.slice A9 ns.length c9) from (hba.block b (Nat.lt_of_lt_of_le (Array.getElem?_eq_some_iff.1 hX.out).1 HB1.out.size)).trans ((HB1.out.block b (Array.getElem?_eq_some_iff.1 hX.out).1).trans hX.out))
        have JA := Lib.hid (show Just b W0 (w1.alloc (.cells #[.int .i64 n] 3)).drew from hJ.out.trans (Just.of_below ((HB1.out.alloc HB1.out.size _).drew)))
        have BA := Lib.hid (show W0.heap.size ≤ (w1.alloc (.cells #[.int .i64 n] 3)).heap.size from JA.out.size)
        have on := one_new w1 .i64 n 3
        have ON := Lib.hid on
        have hnl : ns.length + 1 ≤ 5000000000 := by have := hns.out; omega
        clear on hba
        go_region_law (refine ap_step 35 3 (k := .i64) (bytes := 8) Tryz.underlying35 infoInt (by decide) rfl (.tmp 42) (.tmp 44) rfl W0.heap.size (.slice A9 ns.length c9) ns.length ns rfl OA.out ⟨w1.heap.size, 0, none⟩ 1 1 [n] rfl rfl ON.out (by decide) hnl BA.out ?_; intro gq capq w2 ho hg _ _; have hrow := base_le_of OA.out; have r0 := grown_cell hg q0a (fun e => by have := hrow _ e.symm; simp at this; omega); have r1 := grown_cell hg q1a (fun e => by have := hrow _ e.symm; simp at this; omega); have HX2 := Lib.hid (show LineX w2 b { l with list := ns } (.slice A9 ns.length c9) from grown_blk hg XA.out (fun e => by have := hrow _ e.symm; omega)); have r2 := unfrozen_of_block HX2.out 6; have HJ2 := Lib.hid (JA.out.grown hg hrow); have HO2 := Lib.hid ho; clear ho hg hrow)
        all_goals
          go_wp2_with fail
          go_roundw
          case rel => exact ⟨k + 1, ns ++ [n], _, hlt, by go_num, Lib.hid (by rw [List.length_append, hns.out]; rfl), Lib.hid (by have := labs_snoc ws k s ns HKS.out (by rw [HVV.out]) hlab.out; rw [HVV.out] at this; exact this), Lib.hid (HX2.out.set_list (ns ++ [n]) _), Lib.hid (own_far (ownI_of HO2.out) (by have := HB0.out.size; omega) _ _), Lib.hid (HJ2.out.set 6 _)⟩
          case measure => simp [intOf]; omega
    · have hke : k = ws.length := by omega
      subst hke
      clear hlt
      have HF := Lib.hid (show labsP ws = some ns by rw [hlab.out, List.drop_length]; simp [labsP])
      go_wp2_with fail
      go_ret2
      obtain ⟨A9, c9, rfl⟩ := hO.out.slice
      exact ⟨true, _, _, rfl, ⟨_, _, _, rfl⟩, hX.out, by show (labsP ws).map _ = _; rw [HF.out]; rfl, fun _ => ⟨A9, c9, rfl, ⟨own_cap hO.out, fun ad e => by have := base_le_of hO.out ad.block (by rw [e]; rfl); omega⟩, own_ko hO.out⟩, (Just.of_below HB0.out).trans hJ.out⟩

end Go.Proofs.YtlhgfhmdhmgmpaaGreatDoor

set_option linter.unusedVariables false
set_option linter.unusedSimpArgs false
namespace Go.Proofs.YtlhgfhmdhmgmpaaGreatDoor
open Go.RowKit Go.Proofs.YtlhgfhmdhmgmpaaGreatDoorW.PrintWords Go.Joins Go.Maps

theorem takeP_list {l l' : Line} {p : Part} {ws ws' : List ByteArray} (h : takeP l p ws = some (l', ws')) (hp : p ≠ .places) : l'.list = l.list := by
  cases p with
  | places => exact absurd rfl hp
  | reg o =>
    cases ws with
    | nil => cases h
    | cons s r =>
      rw [takeP] at h
      split at h
      · cases h
        unfold setF
        split
        · rfl
        · split <;> rfl
      · cases h
  | num =>
    cases ws with
    | nil => cases h
    | cons s r => rw [takeP] at h; split at h <;> cases h; rfl
  | word =>
    cases ws with
    | nil => cases h
    | cons s r => rw [takeP] at h; split at h <;> cases h; rfl
  | place =>
    cases ws with
    | nil => cases h
    | cons s r => rw [takeP] at h; split at h <;> cases h; rfl

theorem takeP_sub {l l' : Line} {p : Part} {ws ws' : List ByteArray} (h : takeP l p ws = some (l', ws')) : (∀ x ∈ ws', x ∈ ws) ∧ ws'.length ≤ ws.length := by
  have key : ∀ s r, ws = s :: r → ws' = r → (∀ x ∈ ws', x ∈ ws) ∧ ws'.length ≤ ws.length := fun s r h1 h2 => by
    subst h1; subst h2
    exact ⟨fun x hx => List.mem_cons_of_mem _ hx, by simp⟩
  cases p with
  | places =>
    rw [takeP] at h
    obtain ⟨ns, _, h2⟩ := Option.map_eq_some_iff.1 h
    cases h2
    exact ⟨fun x hx => by simp at hx, Nat.zero_le _⟩
  | reg o =>
    cases ws with
    | nil => cases h
    | cons s r => rw [takeP] at h; split at h <;> cases h; exact key s _ rfl rfl
  | num =>
    cases ws with
    | nil => cases h
    | cons s r => rw [takeP] at h; split at h <;> cases h; exact key s _ rfl rfl
  | word =>
    cases ws with
    | nil => cases h
    | cons s r => rw [takeP] at h; split at h <;> cases h; exact key s _ rfl rfl
  | place =>
    cases ws with
    | nil => cases h
    | cons s r => rw [takeP] at h; split at h <;> cases h; exact key s _ rfl rfl

def TakesU (b : Nat) (l : Line) (p : Part) (ws : List ByteArray) (w : World) (e : Ending) (w' : World) : Prop :=
  ∃ (ok : Bool) (v' : Value) (l' : Line) (ws' : List ByteArray) (vl : Value), e = .returned (.tuple #[v', .bool ok]) ∧ (∃ A n c, vl = .slice A n c) ∧ LineX w' b l' vl ∧ takeP l p ws = (if ok = true then some (l', ws') else none) ∧ (ok = true → WS w' b v' ws') ∧
    (ok = true → (p ≠ .places → vl = .slice none 0 0 ∧ l'.list = []) ∧ (p = .places → ∃ A c, vl = .slice A l'.list.length c ∧ (l'.list.length ≤ c ∧ ∀ ad, A = some ad → b < ad.block) ∧ KO w' A c l'.list.length l'.list)) ∧ Just b w w'

theorem takesU_of {b : Nat} {l : Line} {p : Part} {ws : List ByteArray} {w : World} (hl : l.list = []) (hp : p ≠ .places) {e : Ending} {w' : World} (h : TakesR b l (.slice none 0 0) p ws w e w') : TakesU b l p ws w e w' := by
  obtain ⟨ok, v', l', ws', h1, h2, h3, h4, h5⟩ := h
  refine ⟨ok, v', l', ws', _, h1, ⟨_, _, _, rfl⟩, h2, h3, h4, fun ho => ⟨fun _ => ⟨rfl, ?_⟩, fun e => absurd e hp⟩, h5⟩
  rw [if_pos ho] at h3
  rw [takeP_list h3 hp, hl]

theorem takes_any (p : Part) (b : Nat) (l : Line) (V : Value) (ws : List ByteArray) (w : World) (hL : LLaid w) (hx : LineX w b l (.slice none 0 0)) (hl : l.list = []) (ho : ∀ o, p = .reg o → o = 1 ∨ o = 2 ∨ o = 3) (hw : WS w b V ws) (hsz : ∀ s ∈ ws, s.size ≤ 281474976710656) (hlen : ws.length ≤ 4294967296) (hb16 : 8 + 1 ≤ b) :
    Calls Tryz.prog 63 #[pv b p, V] w (TakesU b l p ws w) := by
  cases p with
  | reg o => exact (takes_reg b o l _ V ws w hL hx (ho o rfl) hw hsz).mono fun e w' h => takesU_of hl (by simp) h
  | num => exact (takes_num b l _ V ws w hL hx hw hsz).mono fun e w' h => takesU_of hl (by simp) h
  | word => exact (takes_word b l _ V ws w hL hx hw hsz).mono fun e w' h => takesU_of hl (by simp) h
  | place => exact (takes_place b l _ V ws w hL hx hw hsz).mono fun e w' h => takesU_of hl (by simp) h
  | places =>
    refine (takes_places b l V ws w hL hx hl hw hsz hlen hb16).mono fun e w' h => ?_
    obtain ⟨ok, l', v, h1, h0, h2, h3, h4, h5⟩ := h
    exact ⟨ok, .slice none 0 0, l', [], v, h1, h0, h2, h3, fun _ => ⟨none, 0, rfl, Nat.le_refl _, (fun ad h => by cases h), fun j x hx => by simp at hx⟩, fun ho => ⟨fun e => absurd rfl e, fun _ => h4 ho⟩, h5⟩

/-- The parts of a line, one behind the other. -/
def takeF : Line → List Part → List ByteArray → Option (Line × List ByteArray)
  | l, [], ws => some (l, ws)
  | l, p :: ps, ws => (takeP l p ws).bind fun x => takeF x.1 ps x.2

theorem takeF_step {l l' : Line} {ps : List Part} {k : Nat} {p : Part} {ws ws' : List ByteArray} (hk : ps[k]? = some p) (h : takeP l p ws = some (l', ws')) : takeF l (ps.drop k) ws = takeF l' (ps.drop (k + 1)) ws' := by
  have hlt := (List.getElem?_eq_some_iff.1 hk).1
  have e : ps.drop k = p :: ps.drop (k + 1) := by
    rw [List.drop_eq_getElem_cons hlt, (List.getElem?_eq_some_iff.1 hk).2]
  rw [e, takeF, h]
  rfl

theorem takeF_fail {l : Line} {ps : List Part} {k : Nat} {p : Part} {ws : List ByteArray} (hk : ps[k]? = some p) (h : takeP l p ws = none) : takeF l (ps.drop k) ws = none := by
  have hlt := (List.getElem?_eq_some_iff.1 hk).1
  have e : ps.drop k = p :: ps.drop (k + 1) := by
    rw [List.drop_eq_getElem_cons hlt, (List.getElem?_eq_some_iff.1 hk).2]
  rw [e, takeF, h]
  rfl

theorem places_last (op : Int) (k : Nat) (h : (partsP op)[k]? = some .places) : k + 1 = (partsP op).length := by
  have h42 := partsP_places _ (List.mem_of_getElem? h)
  subst h42
  have e : partsP 42 = [.reg 1, .places] := by decide
  rw [e] at h ⊢
  match k, h with
  | 0, h => cases h
  | 1, h => rfl
  | (n + 2), h => simp at h

end Go.Proofs.YtlhgfhmdhmgmpaaGreatDoor

set_option linter.unusedVariables false
set_option linter.unusedSimpArgs false
namespace Go.Proofs.YtlhgfhmdhmgmpaaGreatDoor
open Go.RowKit Go.Proofs.YtlhgfhmdhmgmpaaGreatDoorW.PrintWords Go.Joins Go.Maps

/-- What line answers: some line, and whether it is one. -/
def LineR (r : Option Line) (w : World) (e : Ending) (w' : World) : Prop :=
  ∃ (ok : Bool) (l : Line) (v : Value), e = .returned (.tuple #[lineV l v, .bool ok]) ∧ r = (if ok = true then some l else none) ∧ (∃ A n c, v = .slice A n c) ∧ (ok = true → ∃ A c, v = .slice A l.list.length c ∧ (l.list.length ≤ c ∧ ∀ ad, A = some ad → w.heap.size ≤ ad.block) ∧ KO w' A c l.list.length l.list) ∧ Below w.heap.size w w'

def labelL (n : Int) : Line := ⟨0, 0, 0, 0, 0, n, []⟩

def labelR (s : List UInt8) : Option Line := if ((signedP s 76).2 && mayP (labelL (signedP s 76).1)) = true then some (labelL (signedP s 76).1) else none

theorem set7 {w : World} {R : Nat} {b0 b1 b2 b3 b4 b5 b6 : Value} {t : TypeId} (h : w.heap[R]? = some (.cells #[b0, b1, b2, b3, b4, b5, b6] t (0, 0))) (a0 a1 a2 a3 a4 a5 a6 : Value) :
    (((((((w.setCell ⟨R, 0, none⟩ a0).setCell ⟨R, 1, none⟩ a1).setCell ⟨R, 2, none⟩ a2).setCell ⟨R, 3, none⟩ a3).setCell ⟨R, 4, none⟩ a4).setCell ⟨R, 5, none⟩ a5).setCell ⟨R, 6, none⟩ a6).heap[R]? = some (.cells #[a0, a1, a2, a3, a4, a5, a6] t (0, 0)) := by
  have h0 : (w.setCell ⟨R, 0, none⟩ a0).heap[R]? = some (.cells #[a0, b1, b2, b3, b4, b5, b6] t (0, 0)) := by rw [block_setCell h]; rfl
  have h1 : ((w.setCell ⟨R, 0, none⟩ a0).setCell ⟨R, 1, none⟩ a1).heap[R]? = some (.cells #[a0, a1, b2, b3, b4, b5, b6] t (0, 0)) := by rw [block_setCell h0]; rfl
  have h2 : (((w.setCell ⟨R, 0, none⟩ a0).setCell ⟨R, 1, none⟩ a1).setCell ⟨R, 2, none⟩ a2).heap[R]? = some (.cells #[a0, a1, a2, b3, b4, b5, b6] t (0, 0)) := by rw [block_setCell h1]; rfl
  have h3 : ((((w.setCell ⟨R, 0, none⟩ a0).setCell ⟨R, 1, none⟩ a1).setCell ⟨R, 2, none⟩ a2).setCell ⟨R, 3, none⟩ a3).heap[R]? = some (.cells #[a0, a1, a2, a3, b4, b5, b6] t (0, 0)) := by rw [block_setCell h2]; rfl
  have h4 : (((((w.setCell ⟨R, 0, none⟩ a0).setCell ⟨R, 1, none⟩ a1).setCell ⟨R, 2, none⟩ a2).setCell ⟨R, 3, none⟩ a3).setCell ⟨R, 4, none⟩ a4).heap[R]? = some (.cells #[a0, a1, a2, a3, a4, b5, b6] t (0, 0)) := by rw [block_setCell h3]; rfl
  have h5 : ((((((w.setCell ⟨R, 0, none⟩ a0).setCell ⟨R, 1, none⟩ a1).setCell ⟨R, 2, none⟩ a2).setCell ⟨R, 3, none⟩ a3).setCell ⟨R, 4, none⟩ a4).setCell ⟨R, 5, none⟩ a5).heap[R]? = some (.cells #[a0, a1, a2, a3, a4, a5, b6] t (0, 0)) := by rw [block_setCell h4]; rfl
  have h6 : (((((((w.setCell ⟨R, 0, none⟩ a0).setCell ⟨R, 1, none⟩ a1).setCell ⟨R, 2, none⟩ a2).setCell ⟨R, 3, none⟩ a3).setCell ⟨R, 4, none⟩ a4).setCell ⟨R, 5, none⟩ a5).setCell ⟨R, 6, none⟩ a6).heap[R]? = some (.cells #[a0, a1, a2, a3, a4, a5, a6] t (0, 0)) := by rw [block_setCell h5]; rfl
  exact h6

theorem below7 {B : Nat} {w w' : World} {R : Nat} (h : Below B w w') (hR : B ≤ R) (a0 a1 a2 a3 a4 a5 a6 : Value) :
    Below B w (((((((w'.setCell ⟨R, 0, none⟩ a0).setCell ⟨R, 1, none⟩ a1).setCell ⟨R, 2, none⟩ a2).setCell ⟨R, 3, none⟩ a3).setCell ⟨R, 4, none⟩ a4).setCell ⟨R, 5, none⟩ a5).setCell ⟨R, 6, none⟩ a6) :=
  ((((((h.setCell hR a0).setCell hR a1).setCell hR a2).setCell hR a3).setCell hR a4).setCell hR a5).setCell hR a6

theorem kint_nil (w : World) : kInt.C w none 0 [] := ⟨rfl, by decide, fun h => absurd h (Nat.lt_irrefl _)⟩

set_option maxHeartbeats 4000000 in
set_option maxRecDepth 100000 in
theorem line_label (ad : Addr) (c : Nat) (s : ByteArray) (w : World) (hL : LLaid w) (hs : w.cell? ad = some (.string s)) (hsz : s.size ≤ 281474976710656) (hsuf : Lib.hasSuffix s.data.toList [58] = true) :
    Calls Tryz.prog 29 #[.slice (some ad) 1 c] w (LineR (labelR (Lib.trimSuffix s.data.toList [58])) w) := by
  have HL := Lib.hid hL
  have HS := Lib.hid hs
  have hsz2 : (⟨(Lib.trimSuffix s.data.toList [58]).toArray⟩ : ByteArray).size ≤ 281474976710656 := by
    show (Lib.trimSuffix s.data.toList [58]).toArray.size ≤ _
    rw [List.size_toArray]
    have : (Lib.trimSuffix s.data.toList [58]).length ≤ s.data.toList.length := by
      unfold Lib.trimSuffix
      split <;> first | (rw [List.length_take]; omega) | omega | exact Nat.le_refl _
    rw [Array.length_toList] at this
    exact Nat.le_trans this hsz
  have HC := Lib.hid (fun W => Tryz.strings_CutSuffix s ⟨#[58]⟩ W (by omega))
  have e1 : (⟨#[58]⟩ : ByteArray).data.toList = [58] := rfl
  rw [e1, hsuf] at HC
  generalize Lib.trimSuffix s.data.toList [58] = t at HC hsz2 ⊢
  have HG := Lib.hid (fun W (h : Below w.heap.size w W) => signed_any ⟨t.toArray⟩ 76 W (hL.below h) hsz2)
  have e2 : (⟨t.toArray⟩ : ByteArray).data.toList = t := rfl
  rw [e2] at HG
  have hsw := ka (.cells #[.int .i64 0, .int .i64 0, .int .i64 0, .int .i64 0, .int .u32 0, .int .i64 0, .slice none 0 0] 49) hs
  have HRR := Lib.hid (show ∀ R, (if ((signedP t 76).2 && mayP (labelL (signedP t 76).1)) = true then some (labelL (signedP t 76).1) else none) = R → labelR t = R from fun R h => h)
  generalize signedP t 76 = V at HG HRR
  obtain ⟨n, f⟩ := V
  simp only at HG HRR
  clear hs hsz hsz2 hsuf e1 e2
  have HLb := Lib.hid (fun W (h : Below w.heap.size w W) => hL.below h)
  clear hL
  go_enter Tryz.func29, Tryz.ntmps29
  go_wp2_with (go_at_call 60; refine (HC.out _).mono ?_; rintro e w' ⟨rfl, rfl⟩)
  refine (HG.out _ ((Below.refl _ _).alloc (Nat.le_refl _) _)).mono ?_
  rintro e w1 ⟨rfl, hb1⟩
  have HB1 := Lib.hid (bt hb1)
  have hR : w1.heap[w.heap.size]? = some (.cells #[.int .i64 0, .int .i64 0, .int .i64 0, .int .i64 0, .int .u32 0, .int .i64 0, .slice none 0 0] 49 (0, 0)) := (hb1.block _ (by simp)).trans (heap_alloc_new w _)
  have HR := Lib.hid hR
  clear hb1 hR hsw
  go_wp2_with fail
  obtain ⟨W5, hW5⟩ : ∃ W5, W5 = w1.alloc (.cells #[.int .i64 0, .int .i64 0, .int .i64 0, .int .i64 0, .int .u32 0, .int .i64 n, .slice none 0 0] 49) := ⟨_, rfl⟩
  rw [← hW5]
  have hb5 : Below w1.heap.size w1 W5 := by rw [hW5]; exact (Below.refl _ _).alloc (Nat.le_refl _) _
  have hR5 : W5.heap[w.heap.size]? = some (.cells #[.int .i64 0, .int .i64 0, .int .i64 0, .int .i64 0, .int .u32 0, .int .i64 0, .slice none 0 0] 49 (0, 0)) := (hb5.block _ (Array.getElem?_eq_some_iff.1 HR.out).1).trans HR.out
  have hX5 : W5.heap[w1.heap.size]? = some (.cells #[.int .i64 0, .int .i64 0, .int .i64 0, .int .i64 0, .int .u32 0, .int .i64 n, .slice none 0 0] 49 (0, 0)) := by rw [hW5]; exact heap_alloc_new w1 _
  have r0 := cell_of_block hR5 0
  have g0 := unfrozen_of_block hR5 0
  have x0 := cell_of_block hX5 0
  have r1 := cell_of_block hR5 1
  have g1 := unfrozen_of_block hR5 1
  have x1 := cell_of_block hX5 1
  have r2 := cell_of_block hR5 2
  have g2 := unfrozen_of_block hR5 2
  have x2 := cell_of_block hX5 2
  have r3 := cell_of_block hR5 3
  have g3 := unfrozen_of_block hR5 3
  have x3 := cell_of_block hX5 3
  have r4 := cell_of_block hR5 4
  have g4 := unfrozen_of_block hR5 4
  have x4 := cell_of_block hX5 4
  have r5 := cell_of_block hR5 5
  have g5 := unfrozen_of_block hR5 5
  have x5 := cell_of_block hX5 5
  have r6 := cell_of_block hR5 6
  have g6 := unfrozen_of_block hR5 6
  have x6 := cell_of_block hX5 6
  simp only [List.getElem?_toArray, List.getElem?_cons_succ, List.getElem?_cons_zero] at r0 r1 r2 r3 r4 r5 r6 x0 x1 x2 x3 x4 x5 x6
  have HB5 := Lib.hid (bj HB1.out hb5)
  have HL5 := Lib.hid (HL.out.below (bj HB1.out hb5))
  have hlt : w.heap.size < w1.heap.size := (Array.getElem?_eq_some_iff.1 HR.out).1
  have n1 : ¬ w.heap.size = w1.heap.size := by omega
  have HR5 := Lib.hid hR5
  have HX5 := Lib.hid hX5
  clear hW5 hb5 hR5 hX5
  cases f with
  | false =>
    go_region
    all_goals go_wp2_with fail
    all_goals refine bodyPost_ret (results_ct rfl _ _ w.heap.size 49 #[.int .i64 0, .int .i64 0, .int .i64 0, .int .i64 0, .int .u32 0, .int .i64 n, .slice none 0 0] (0, 0) _ rfl (by (with_reducible repeat (first | refine blk_drewN ?_ _ | refine blk_drew ?_)); exact set7 HR5.out _ _ _ _ _ _ _) Tryz.underlying49 rfl (by kernel_rfl)) rfl ?_
    all_goals exact ⟨false, labelL n, .slice none 0 0, rfl, HRR.out none rfl, ⟨_, _, _, rfl⟩, (fun h => by cases h), by (with_reducible repeat (first | refine Below.drew ?_ | refine pw_below_drewN ?_ _)); exact below7 HB5.out (Nat.le_refl _) _ _ _ _ _ _ _⟩
  | true =>
    have hm := may_any (labelL n) none 0
    unfold lineV labelL at hm
    have HM := Lib.hid (fun W (h : Below w.heap.size w W) => hm W (HLb.out W h) (kint_nil W))
    clear hm
    go_region_with ((go_at_call 21; refine (HM.out _ ?_).mono ?_; (with_reducible repeat (first | exact HB5.out | refine Below.drew ?_)); rintro e w6 ⟨rfl, hb6⟩; have y0 := kp hb6 x0; have s0 := kp hb6 r0; have h0 := kpf hb6 r0 g0; have y1 := kp hb6 x1; have s1 := kp hb6 r1; have h1 := kpf hb6 r1 g1; have y2 := kp hb6 x2; have s2 := kp hb6 r2; have h2 := kpf hb6 r2 g2; have y3 := kp hb6 x3; have s3 := kp hb6 r3; have h3 := kpf hb6 r3 g3; have y4 := kp hb6 x4; have s4 := kp hb6 r4; have h4 := kpf hb6 r4 g4; have y5 := kp hb6 x5; have s5 := kp hb6 r5; have h5 := kpf hb6 r5 g5; have y6 := kp hb6 x6; have s6 := kp hb6 r6; have h6 := kpf hb6 r6 g6; have HB6 := Lib.hid (show Below w.heap.size w w6 from bj (HB5.out.drew) hb6); have HR6 := Lib.hid ((hb6.block _ (Array.getElem?_eq_some_iff.1 HR5.out).1).trans HR5.out); clear hb6))
    all_goals go_wp2_with fail
    all_goals refine bodyPost_ret (results_ct rfl _ _ w.heap.size 49 #[.int .i64 0, .int .i64 0, .int .i64 0, .int .i64 0, .int .u32 0, .int .i64 n, .slice none 0 0] (0, 0) _ rfl (by (with_reducible repeat (first | refine blk_drewN ?_ _ | refine blk_drew ?_)); exact set7 HR6.out _ _ _ _ _ _ _) Tryz.underlying49 rfl (by kernel_rfl)) rfl ?_
    all_goals exact ⟨mayP (labelL n), labelL n, .slice none 0 0, rfl, HRR.out _ (by cases mayP (labelL n) <;> rfl), ⟨_, _, _, rfl⟩, (fun _ => ⟨none, 0, rfl, ⟨Nat.le_refl _, (fun ad e => by cases e)⟩, KO.nil _⟩), by (with_reducible repeat (first | refine Below.drew ?_ | refine pw_below_drewN ?_ _)); exact below7 HB6.out (Nat.le_refl _) _ _ _ _ _ _ _⟩

end Go.Proofs.YtlhgfhmdhmgmpaaGreatDoor

set_option linter.unusedVariables false
set_option linter.unusedSimpArgs false
namespace Go.Proofs.YtlhgfhmdhmgmpaaGreatDoor
open Go.RowKit Go.Proofs.YtlhgfhmdhmgmpaaGreatDoorW.PrintWords Go.Joins Go.Maps

def gb (s : ByteArray) (i : Nat) : Nat := (s.get! i).toNat

theorem decodeN_far (n b0 b1 b2 b3 : Nat) (h : 128 ≤ b0) : 128 ≤ (Lib.decodeN n b0 b1 b2 b3).1 ∧ ((2 ≤ (Lib.decodeN n b0 b1 b2 b3).2 → 128 ≤ b1) ∧ (3 ≤ (Lib.decodeN n b0 b1 b2 b3).2 → 128 ≤ b2) ∧ (4 ≤ (Lib.decodeN n b0 b1 b2 b3).2 → 128 ≤ b3)) ∧ (Lib.decodeN n b0 b1 b2 b3).2 ≤ 4 := by
  unfold Lib.decodeN
  rw [if_neg (by omega)]
  split
  · split <;> (simp only; omega)
  · split
    · split <;> (simp only; omega)
    · split
      · split <;> (simp only; omega)
      · simp only; omega

/-- A rune at a place: a byte below 128 alone; or bytes from 128 on. -/
theorem dec_cases (s : ByteArray) (pos : Nat) : (gb s pos < 128 ∧ Utf8.decode s pos = (gb s pos, 1)) ∨ (128 ≤ (Utf8.decode s pos).1 ∧ ∀ i, pos ≤ i → i < pos + (Utf8.decode s pos).2 → 128 ≤ gb s i) := by
  by_cases h : gb s pos < 128
  · left
    refine ⟨h, ?_⟩
    rw [Lib.decode_at]
    unfold Lib.decodeN gb
    unfold gb at h
    rw [if_pos h]
  · right
    have := decodeN_far (s.size - pos) (gb s pos) (gb s (pos + 1)) (gb s (pos + 2)) (gb s (pos + 3)) (by omega)
    rw [Lib.decode_at]
    unfold gb at this h ⊢
    refine ⟨this.1, fun i h1 h2 => ?_⟩
    obtain ⟨d, rfl⟩ : ∃ d, i = pos + d := ⟨i - pos, by omega⟩
    have h4 := this.2.2
    have h3 := this.2.1
    match d with
    | 0 => simpa using Nat.le_of_not_lt h
    | 1 => exact h3.1 (by omega)
    | 2 => exact h3.2.1 (by omega)
    | 3 => exact h3.2.2 (by omega)
    | (d + 4) => omega

/-- The first place of a ';', or behind the end. -/
def semiFrom (s : ByteArray) : Nat → Nat → Nat
  | 0, i => i
  | f + 1, i => if gb s i = 59 then i else semiFrom s f (i + 1)
def semi (s : ByteArray) : Nat := semiFrom s s.size 0
def cutR (s : ByteArray) : ByteArray := s.extract 0 (semi s)
def sepR (r : Nat) : Bool := decide (r = 32) || decide (r = 9)
def wordsR (s : ByteArray) : List ByteArray := Lib.goFieldsP sepR (cutR s)

theorem semiFrom_skip (s : ByteArray) : ∀ (d f i : Nat), (∀ j, i ≤ j → j < i + d → gb s j ≠ 59) → semiFrom s (f + d) i = semiFrom s f (i + d)
  | 0, f, i, _ => rfl
  | d + 1, f, i, h => by
    rw [show f + (d + 1) = (f + d) + 1 by omega, semiFrom, if_neg (h i (by omega) (by omega)), semiFrom_skip s d f (i + 1) (fun j h1 h2 => h j (by omega) (by omega)), show i + 1 + d = i + (d + 1) by omega]

theorem semi_at {s : ByteArray} {pos : Nat} (hp : pos < s.size) (h : ∀ j, j < pos → gb s j ≠ 59) (hx : gb s pos = 59) : semi s = pos := by
  unfold semi
  have := semiFrom_skip s pos (s.size - pos) 0 (fun j _ h2 => h j (by omega))
  rw [show s.size - pos + pos = s.size by omega, Nat.zero_add] at this
  rw [this]
  obtain ⟨f, hf⟩ : ∃ f, s.size - pos = f + 1 := ⟨s.size - pos - 1, by omega⟩
  rw [hf, semiFrom, if_pos hx]

theorem semi_none {s : ByteArray} (h : ∀ j, j < s.size → gb s j ≠ 59) : semi s = s.size := by
  unfold semi
  have := semiFrom_skip s s.size 0 0 (fun j _ h2 => h j (by omega))
  rw [Nat.zero_add] at this
  rw [this]; simp [semiFrom]

theorem sep_any (x : Nat) (w : World) : Calls Tryz.prog 59 #[.int .i32 x] w fun e w' => e = .returned (.bool (sepR x)) ∧ w = w' := by
  unfold sepR
  by_cases h0 : x = 32
  · have d0 : ((x : Int) == 32) = true := by rw [h0]; rfl
    rw [decide_eq_true h0]
    clear h0
    go_enter Tryz.func59, Tryz.ntmps59
    go_wp2
    go_ret
    exact ⟨rfl, rfl⟩
  · have d0 : ((x : Int) == 32) = false := beq_eq_false_iff_ne.mpr (by omega)
    rw [decide_eq_false h0]
    clear h0
    by_cases h1 : x = 9
    · have d1 : ((x : Int) == 9) = true := by rw [h1]; rfl
      rw [decide_eq_true h1]
      clear h1
      go_enter Tryz.func59, Tryz.ntmps59
      go_wp2
      go_ret
      exact ⟨rfl, rfl⟩
    · have d1 : ((x : Int) == 9) = false := beq_eq_false_iff_ne.mpr (by omega)
      rw [decide_eq_false h1]
      clear h1
      go_enter Tryz.func59, Tryz.ntmps59
      go_wp2
      go_ret
      exact ⟨rfl, rfl⟩

theorem fields_sep (s : ByteArray) (w : World) (hs : s.size ≤ 4294967296) :
    Calls Tryz.prog 58 #[.string s, .func (.func 59) #[] #[]] w fun e w' => ∃ A, e = .returned (.slice (some ⟨A, 0, none⟩) (Lib.goFieldsP sepR s).length (Lib.goFieldsP sepR s).length) ∧ w.heap.size ≤ A ∧
      OwnS w' w.heap.size (.slice (some ⟨A, 0, none⟩) (Lib.goFieldsP sepR s).length (Lib.goFieldsP sepR s).length) (Lib.goFieldsP sepR s) ∧ Below w.heap.size w w' :=
  Tryz.strings_FieldsFunc_runes 59 #[] (enters_of Tryz.func59 (by kernel_rfl) rfl) sepR s w hs (fun W x hx hb => by
    show Calls _ _ (#[encR x] ++ #[]) W _
    rw [Array.append_empty]
    exact (sep_any x W).mono fun e w' ⟨h1, h2⟩ => ⟨h1, 0, by rw [← h2]; rfl⟩)

theorem own_base {w : World} {B B' e size n : Nat} {v : Value} {xs : List Value} (h : w.ownsRow B e size v n xs) (hb : B' ≤ B) : w.ownsRow B' e size v n xs := by
  refine ⟨h.1, ?_⟩
  rcases h.2 with h0 | ⟨g, cap, cur, hv, hg0, rest⟩
  · exact .inl h0
  · exact .inr ⟨g, cap, cur, hv, Nat.le_trans hb hg0, rest⟩

theorem extract_all (s : ByteArray) : s.extract 0 s.size = s := by
  apply ByteArray.ext
  simp

set_option maxHeartbeats 4000000 in
set_option maxRecDepth 100000 in
theorem words_any (s : ByteArray) (w : World) (hs : s.size ≤ 4294967296) :
    Calls Tryz.prog 28 #[.string s] w fun e w' => ∃ A, e = .returned (.slice (some ⟨A, 0, none⟩) (wordsR s).length (wordsR s).length) ∧ w.heap.size ≤ A ∧
      OwnS w' w.heap.size (.slice (some ⟨A, 0, none⟩) (wordsR s).length (wordsR s).length) (wordsR s) ∧ Below w.heap.size w w' := by
  have HF := Lib.hid (fun W => fields_sep (cutR s) W (by
    have : (cutR s).size ≤ s.size := by
      unfold cutR
      simp only [ByteArray.size_extract]
      omega
    omega))
  go_enter Tryz.func28, Tryz.ntmps28
  go_wp2_with fail
  have hb0 : Below w.heap.size w (w.alloc (.stringIter s 0)) := (Below.refl _ _).alloc (Nat.le_refl _) _
  go_loopw [0] (fun v wr => ∃ pos : Nat, v = .string s ∧ Hid (wr.heap[w.heap.size]? = some (.stringIter s pos)) ∧ Hid (∀ j, j < pos → gb s j ≠ 59) ∧ Hid (Below w.heap.size w wr) ∧ pos ≤ s.size) (fun _ wr => s.size - wr.iterPos w.heap.size)
  case atStart => exact ⟨0, rfl, Lib.hid (World.iter_heap w s 0), Lib.hid (fun j hj => absurd hj (Nat.not_lt_zero _)), Lib.hid hb0, Nat.zero_le _⟩
  case round =>
    obtain ⟨pos, rfl, hit, hno, hB, hle⟩ := hrel
    have hpos0 : wr.iterPos w.heap.size = pos := by simp [World.iterPos, hit.out]
    have HP0 := Lib.hid hpos0
    clear hb0 hpos0
    by_cases hp : pos < s.size
    · have hnx : ∀ ty, (Instr.next (.pointer (some ⟨w.heap.size, 0, none⟩)) true ty).run Tryz.prog wr = _ := fun ty => Lib.run_next_any_at wr w.heap.size s pos ty hit.out hp
      have hdc := dec_cases s pos
      have hwn : pos + (Utf8.decode s pos).2 ≤ s.size := by
        have := Lib.decodeN_le_n' (s.size - pos) (s.get! pos).toNat (s.get! (pos + 1)).toNat (s.get! (pos + 2)).toNat (s.get! (pos + 3)).toNat (by omega)
        rw [← Lib.decode_at] at this
        omega
      have hwd := Lib.width_pos s pos
      obtain ⟨R, hR⟩ : ∃ R, (Utf8.decode s pos).1 = R := ⟨_, rfl⟩
      obtain ⟨K, hK⟩ : ∃ K, (Utf8.decode s pos).2 = K := ⟨_, rfl⟩
      have hd2 : Utf8.decode s pos = (R, K) := by rw [← hR, ← hK]
      rw [hd2] at hdc hwn hwd
      simp only at hdc hwn hwd
      rw [hR, hK] at hnx
      have hit2 := Lib.iterAt_heap wr w.heap.size s pos (pos + K) hit.out
      have hbw2 := Lib.below_iterAt hB.out (k := w.heap.size) (Nat.le_refl _) s (pos + K)
      obtain ⟨W1, hW1⟩ : ∃ W1, W1 = wr.iterAt w.heap.size s (pos + K) := ⟨_, rfl⟩
      rw [← hW1] at hnx hit2 hbw2
      have HIT := Lib.hid hit2
      have HBW := Lib.hid hbw2
      have HDC := Lib.hid hdc
      clear hW1 hit2 hbw2 hdc hd2 hR hK hit hB
      have hp0 : (0 : Int) ≤ (pos : Int) := Int.natCast_nonneg _
      by_cases h59 : R = 59
      · have hsm : semi s = pos := semi_at hp hno.out (by
          rcases HDC.out with ⟨_, h⟩ | ⟨h, _⟩
          · cases h; exact h59
          · omega)
        have d0 : ((R : Int) == 59) = true := by rw [h59]; rfl
        have hsl : (pos : Int) ≤ (s.size : Int) := by omega
        have HE := Lib.hid (show s.extract 0 pos = cutR s by unfold cutR; rw [hsm])
        clear h59 hsm
        have HFF := Lib.hid (HF.out W1)
        rw [← HE.out] at HFF
        have HWR := Lib.hid (show wordsR s = Lib.goFieldsP sepR (s.extract 0 pos) by unfold wordsR; rw [HE.out])
        go_wp2_with fail
        refine HFF.out.mono ?_
        rw [← HWR.out]
        rintro e w5 ⟨A, rfl, hA, hO, hb5⟩
        have HW := Lib.hid (HBW.out.size)
        have HA := Lib.hid hA
        have HO := Lib.hid (own_base hO HW.out)
        have HB5 := Lib.hid (bj HBW.out hb5)
        clear hA hO hb5
        go_wp2_with fail
        go_ret
        exact ⟨A, rfl, Nat.le_trans HW.out HA.out, HO.out, HB5.out⟩
      · have d0 : ((R : Int) == 59) = false := beq_eq_false_iff_ne.mpr (by omega)
        have HN := Lib.hid (show ∀ j, j < pos + K → gb s j ≠ 59 from fun j hj => by
          rcases Nat.lt_or_ge j pos with h | h
          · exact hno.out j h
          · rcases HDC.out with ⟨h1, h2⟩ | ⟨_, h2⟩
            · cases h2
              rw [show j = pos by omega]; exact h59
            · have := h2 j h hj; omega)
        clear h59
        go_wp2_with fail
        go_roundw
        case rel => exact ⟨pos + K, rfl, HIT, HN, HBW, hwn⟩
        case measure =>
          have e1 : W1.iterPos w.heap.size = pos + K := by simp [World.iterPos, HIT.out]
          rw [e1, HP0.out]; omega
    · have hnx : ∀ ty, (Instr.next (.pointer (some ⟨w.heap.size, 0, none⟩)) true ty).run Tryz.prog wr = _ := fun ty => Lib.run_next_end_at wr w.heap.size s pos ty hit.out hp
      have hsm : semi s = s.size := semi_none (fun j hj => hno.out j (by omega))
      have HE := Lib.hid (show cutR s = s by unfold cutR; rw [hsm]; exact extract_all s)
      clear hsm
      have HFF := Lib.hid (HF.out wr)
      rw [HE.out] at HFF
      have HWR := Lib.hid (show wordsR s = Lib.goFieldsP sepR s by unfold wordsR; rw [HE.out])
      go_wp2_with fail
      refine HFF.out.mono ?_
      rw [← HWR.out]
      rintro e w5 ⟨A, rfl, hA, hO, hb5⟩
      have HW := Lib.hid (hB.out.size)
      have HA := Lib.hid hA
      have HO := Lib.hid (own_base hO HW.out)
      have HB5 := Lib.hid (bj hB.out hb5)
      clear hA hO hb5
      go_wp2_with fail
      go_ret
      exact ⟨A, rfl, Nat.le_trans HW.out HA.out, HO.out, HB5.out⟩

end Go.Proofs.YtlhgfhmdhmgmpaaGreatDoor

set_option linter.unusedVariables false
set_option linter.unusedSimpArgs false
namespace Go.Proofs.YtlhgfhmdhmgmpaaGreatDoor
open Go.RowKit Go.Proofs.YtlhgfhmdhmgmpaaGreatDoorW.PrintWords Go.Joins Go.Maps

/-! ### one line, and what is left -/
def nlAt (s : ByteArray) : Int := Lib.indexByte s.data.toList 10
def oneR (s : ByteArray) : ByteArray := if 0 ≤ nlAt s then s.extract 0 (nlAt s).toNat else s
def restR (s : ByteArray) : ByteArray := if 0 ≤ nlAt s then s.extract ((nlAt s).toNat + 1) s.size else ⟨#[]⟩

theorem nlAt_lt (s : ByteArray) (h : 0 ≤ nlAt s) : (nlAt s).toNat < s.size := by
  obtain ⟨o, ho⟩ : ∃ o : Nat, nlAt s = o := ⟨(nlAt s).toNat, by omega⟩
  have := (Lib.indexByte_some (l := s.data.toList) (c := 10) (o := o) ho).1
  have := (List.getElem?_eq_some_iff.1 this).1
  rw [Array.length_toList] at this
  rw [ho]
  exact this

theorem restR_lt (s : ByteArray) (h : s.size ≠ 0) : (restR s).size < s.size := by
  unfold restR
  split
  · have := nlAt_lt s ‹_›
    simp only [ByteArray.size_extract]
    omega
  · show 0 < s.size; omega

theorem oneR_le (s : ByteArray) : (oneR s).size ≤ s.size := by
  unfold oneR
  split
  · simp only [ByteArray.size_extract]; omega
  · exact Nat.le_refl _

set_option maxRecDepth 100000 in
theorem scut_any (s : ByteArray) (w : World) (hs : s.size ≤ 4294967296) :
    Calls Tryz.prog 57 #[.string s, .string ⟨#[10]⟩] w fun e w' => (∃ b, e = .returned (.tuple #[.string (oneR s), .string (restR s), .bool b])) ∧ Below w.heap.size w w' := by
  have HC := Lib.hid (Tryz.stringslite_Index_one s 10 w)
  have H1 := Lib.hid (show oneR s = if 0 ≤ nlAt s then s.extract 0 (nlAt s).toNat else s from rfl)
  have H2 := Lib.hid (show restR s = if 0 ≤ nlAt s then s.extract ((nlAt s).toNat + 1) s.size else ⟨#[]⟩ from rfl)
  have hlt := nlAt_lt s
  have hge := Lib.indexByte_ge s.data.toList 10
  change -1 ≤ nlAt s at hge
  change Hid (Calls _ _ _ _ fun e w' => e = .returned (.int .i64 (nlAt s)) ∧ w' = w) at HC
  generalize nlAt s = I at HC H1 H2 hlt hge
  generalize oneR s = O at H1 ⊢
  generalize restR s = T at H2 ⊢
  by_cases h0 : 0 ≤ I
  · obtain ⟨k, rfl⟩ : ∃ k : Nat, I = k := ⟨I.toNat, by omega⟩
    have hk := hlt h0
    rw [Int.toNat_natCast] at hk
    have d0 : decide ((0 : Int) ≤ (k : Int)) = true := decide_eq_true h0
    have p0 : (k : Int) ≤ (s.size : Int) := by omega
    have p1 : (k : Int) + 1 ≤ (s.size : Int) := by omega
    have p2 : (0 : Int) ≤ (k : Int) + 1 := by omega
    have pw : IntKind.i64.wrap ((k : Int) + 1) = (k : Int) + 1 := IntWalk.i64_in _ (by omega)
    have pt : ((k : Int) + 1).toNat = k + 1 := by omega
    clear hlt hge hs
    go_enter Tryz.func57, Tryz.ntmps57
    go_wp2_with (go_at_call 97; refine HC.out.mono ?_; rintro e w' ⟨rfl, rfl⟩)
    go_region
    all_goals go_wp2_with fail
    all_goals go_ret3
    all_goals exact ⟨⟨true, by rw [H1.out, H2.out, if_pos h0, if_pos h0]; rfl⟩, (Below.refl _ _).drew⟩
  · have d0 : decide ((0 : Int) ≤ I) = false := decide_eq_false h0
    clear hlt hge hs
    go_enter Tryz.func57, Tryz.ntmps57
    go_wp2_with (go_at_call 97; refine HC.out.mono ?_; rintro e w' ⟨rfl, rfl⟩)
    all_goals go_ret3
    all_goals exact ⟨⟨false, by rw [H1.out, H2.out, if_neg (by omega), if_neg (by omega)]; rfl⟩, Below.refl _ _⟩

set_option maxRecDepth 100000 in
theorem cut_any (s : ByteArray) (w : World) (hs : s.size ≤ 4294967296) :
    Calls Tryz.prog 27 #[.string s, .string ⟨#[10]⟩] w fun e w' => (∃ b, e = .returned (.tuple #[.string (oneR s), .string (restR s), .bool b])) ∧ Below w.heap.size w w' := by
  have HC := Lib.hid (scut_any s w hs)
  generalize oneR s = O at HC ⊢
  generalize restR s = T at HC ⊢
  clear hs
  go_enter Tryz.func27, Tryz.ntmps27
  go_wp2_with fail
  refine HC.out.mono ?_
  rintro e w' ⟨⟨b, rfl⟩, hb⟩
  have HB := Lib.hid hb
  clear hb
  go_wp2_with fail
  go_ret3
  exact ⟨⟨b, rfl⟩, HB.out⟩

theorem spans_len (p : Nat → Bool) (s : ByteArray) : ∀ (f pos : Nat) (st : Option Nat) (acc : List (Nat × Nat)), (Lib.spansFromP p s f pos st acc).1.length ≤ acc.length + (s.size - pos)
  | 0, pos, st, acc => by show acc.length ≤ _; omega
  | f + 1, pos, st, acc => by
    have hw := Lib.width_pos s pos
    have h1 := fun st' => spans_len p s f (pos + (Utf8.decode s pos).2) st' acc
    have h2 := fun a st' => spans_len p s f (pos + (Utf8.decode s pos).2) st' (acc ++ [(a, pos)])
    simp only [List.length_append, List.length_cons, List.length_nil] at h2
    by_cases hp : pos < s.size
    · cases hr : p (Utf8.decode s pos).1 <;> cases st with
      | some a => simp only [Lib.spansFromP, hp, hr, if_true, Bool.false_eq_true, if_false]; first | (have := h2 a none; omega) | (have := h1 (some a); omega)
      | none => simp only [Lib.spansFromP, hp, hr, if_true, Bool.false_eq_true, if_false]; first | (have := h1 none; omega) | (have := h1 (some pos); omega)
    · simp only [Lib.spansFromP, hp, if_false]; omega

theorem cutR_le (s : ByteArray) : (cutR s).size ≤ s.size := by
  unfold cutR
  simp only [ByteArray.size_extract]
  omega

theorem wordsR_small (s : ByteArray) : (∀ x ∈ wordsR s, x.size ≤ s.size) ∧ (wordsR s).length ≤ s.size + 1 := by
  have hc := cutR_le s
  unfold wordsR Lib.goFieldsP
  constructor
  · intro x hx
    obtain ⟨y, _, rfl⟩ := List.mem_map.1 hx
    simp only [ByteArray.size_extract]
    omega
  · rw [List.length_map]
    have h := spans_len sepR (cutR s) (cutR s).size 0 none []
    unfold Lib.spansOfP
    generalize Lib.spansFromP sepR (cutR s) (cutR s).size 0 none [] = R at h
    obtain ⟨acc, st⟩ := R
    cases st with
    | none => simp only [Lib.closeSpans] at *; simp at h; omega
    | some a => simp only [Lib.closeSpans, List.length_append, List.length_cons, List.length_nil] at *; simp at h; omega

end Go.Proofs.YtlhgfhmdhmgmpaaGreatDoor
