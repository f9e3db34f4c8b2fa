/- list.takes: walked. -/
import Derived.Test.YtlhgfhmdhmgmpaaGreatDoorLiG
import Derived.Deep.RegionLaw
import Derived.Outline
set_option linter.unusedVariables false
set_option linter.unusedSimpArgs false
namespace Go.Proofs.YtlhgfhmdhmgmpaaGreatDoor
open Go.RowKit Go.Proofs.YtlhgfhmdhmgmpaaGreatDoorW.PrintWords Go.Joins Go.Maps

def setF (l : Line) (o : Nat) (n : Int) : Line := if o = 1 then { l with a := n } else if o = 2 then { l with b := n } else { l with imm := n }

/-- The labels of words; none: one is no label. -/
def labsP : List ByteArray → Option (List Int)
  | [] => some []
  | s :: r => if (signedP s.data.toList 76).2 = true then (labsP r).map ((signedP s.data.toList 76).1 :: ·) else none

def takeP (l : Line) : Part → List ByteArray → Option (Line × List ByteArray)
  | .places, ws => (labsP ws).map fun ns => ({ l with list := ns }, [])
  | .reg o, s :: r => if (signedP s.data.toList 82).2 = true then some (setF l o (signedP s.data.toList 82).1, r) else none
  | .num, s :: r => if (valueP s.data.toList).2 = true then some ({ l with imm := (valueP s.data.toList).1 }, r) else none
  | .word, s :: r => if ((valueP s.data.toList).2 && decide (0 ≤ (valueP s.data.toList).1) && decide ((valueP s.data.toList).1 < 4294967296)) = true then some ({ l with n := (valueP s.data.toList).1 }, r) else none
  | .place, s :: r => if (signedP s.data.toList 76).2 = true then some ({ l with label := (signedP s.data.toList 76).1 }, r) else none
  | _, [] => none

/-- A line that is being read, in its block. -/
def LineX (w : World) (b : Nat) (l : Line) (v : Value) : Prop :=
  w.heap[b]? = some (.cells #[.int .i64 l.op, .int .i64 l.a, .int .i64 l.b, .int .i64 l.imm, .int .u32 l.n, .int .i64 l.label, v] 49 (0, 0))

/-- Only block b has turned, of what was there. -/
structure Just (b : Nat) (w w' : World) : Prop where
  os : w'.os = w.os
  tape : w'.tape = w.tape
  output : w'.output = w.output
  size : w.heap.size ≤ w'.heap.size
  block : ∀ k, k < w.heap.size → k ≠ b → w'.heap[k]? = w.heap[k]?

theorem Just.of_below {b : Nat} {w w' : World} (h : Below w.heap.size w w') : Just b w w' := ⟨h.os, h.tape, h.output, h.size, fun k hk _ => h.block k hk⟩

theorem Just.set {b : Nat} {w w' : World} (h : Just b w w') (o : Nat) (v : Value) : Just b w (w'.setCell ⟨b, o, none⟩ v) :=
  ⟨h.os, h.tape, h.output, by simpa [World.setCell] using h.size, fun k hk hne => (Below.heap_setCell _ _ _ _ hne).trans (h.block k hk hne)⟩

theorem Just.trans {b : Nat} {w w1 w2 : World} (h : Just b w w1) (h' : Just b w1 w2) : Just b w w2 :=
  ⟨h'.os.trans h.os, h'.tape.trans h.tape, h'.output.trans h.output, Nat.le_trans h.size h'.size, fun k hk hne => (h'.block k (Nat.lt_of_lt_of_le hk h.size) hne).trans (h.block k hk hne)⟩

theorem Just.below {b B : Nat} {w w' : World} (h : Just b w w') (hB : B ≤ b) (hs : B ≤ w.heap.size) : Below B w w' := ⟨h.os, h.tape, h.output, h.size, fun k hk => h.block k (by omega) (by omega)⟩

theorem Just.cell {b : Nat} {w w' : World} (h : Just b w w') {p : Addr} {v : Value} (hc : w.cell? p = some v) (hne : p.block ≠ b) : w'.cell? p = some v := by
  have hb := h.block p.block (lt_of_cell hc) hne
  simp only [World.cell?, hb] at hc ⊢
  exact hc

/-- A slice of words. -/
def WS (w : World) (B : Nat) (v : Value) (ws : List ByteArray) : Prop := ∃ A c, v = .slice A ws.length c ∧ ws.length ≤ c ∧ (∀ ad, A = some ad → ad.block < B) ∧ ∀ (j : Nat) x, ws[j]? = some x → ∃ ad, A = some ad ∧ w.cell? (ad.add j) = some (.string x)

attribute [local go_sem] as_reg_reg as_reg_num as_reg_word as_reg_place as_reg_places as_num_reg as_num_num as_num_word as_num_place as_num_places as_word_reg as_word_num as_word_word as_word_place as_word_places as_place_reg as_place_num as_place_word as_place_place as_place_places as_places_reg as_places_num as_places_word as_places_place as_places_places

theorem LineX.set_reg {w : World} {b o : Nat} {l : Line} {v : Value} (hx : LineX w b l v) (ho : o = 1 ∨ o = 2 ∨ o = 3) (n : Int) : LineX (w.setCell ⟨b, o, none⟩ (.int .i64 n)) b (setF l o n) v := by
  unfold LineX at *
  rw [block_setCell hx _]
  rcases ho with rfl | rfl | rfl <;> rfl

theorem LineX.set_place {w : World} {b : Nat} {l : Line} {v : Value} (hx : LineX w b l v) (n : Int) : LineX (w.setCell ⟨b, 5, none⟩ (.int .i64 n)) b { l with label := n } v := by
  unfold LineX at *
  rw [block_setCell hx _]
  rfl

theorem LineX.set_num {w : World} {b : Nat} {l : Line} {v : Value} (hx : LineX w b l v) (n : Int) : LineX (w.setCell ⟨b, 3, none⟩ (.int .i64 n)) b { l with imm := n } v := by
  unfold LineX at *
  rw [block_setCell hx _]
  rfl

theorem LineX.set_word {w : World} {b : Nat} {l : Line} {v : Value} (hx : LineX w b l v) (n : Int) : LineX (w.setCell ⟨b, 4, none⟩ (.int .u32 n)) b { l with n := n } v := by
  unfold LineX at *
  rw [block_setCell hx _]
  rfl

theorem ws_tail {w : World} {ad : Addr} {c : Nat} {s : ByteArray} {r : List ByteArray} (hc : (s :: r).length ≤ c) (h : ∀ (j : Nat) x, (s :: r)[j]? = some x → ∃ ad', some ad = some ad' ∧ w.cell? (ad'.add j) = some (.string x)) :
    ∃ ad', (if c = 1 then some ad else some (ad.add 1)) = some ad' ∧ ∀ (j : Nat) x, r[j]? = some x → w.cell? (ad'.add j) = some (.string x) := by
  by_cases h1 : c = 1
  · refine ⟨ad, if_pos h1, fun j x hx => ?_⟩
    have : r = [] := List.eq_nil_of_length_eq_zero (by rw [List.length_cons] at hc; omega)
    rw [this] at hx
    simp at hx
  · refine ⟨ad.add 1, if_neg h1, fun j x hx => ?_⟩
    obtain ⟨ad', e, hcl⟩ := h (j + 1) x (by simpa using hx)
    cases e
    rw [Addr.add_add, Nat.add_comm 1 j]
    exact hcl

/-- What takes answers of a part that is one word. -/
def TakesR (b : Nat) (l : Line) (v : Value) (p : Part) (ws : List ByteArray) (w : World) (e : Ending) (w' : World) : Prop :=
  ∃ (ok : Bool) (v' : Value) (l' : Line) (ws' : List ByteArray), e = .returned (.tuple #[v', .bool ok]) ∧ LineX w' b l' v ∧ takeP l p ws = (if ok = true then some (l', ws') else none) ∧ (ok = true → WS w' b v' ws') ∧ Just b w w'

theorem takes_end {b o c n : Nat} {l l' : Line} {v u x V' : Value} {p : Part} {s : ByteArray} {r : List ByteArray} {ad : Addr} {w w1 : World} {vb : Bool} (hx : LineX w b l v) (hb : Below w.heap.size w w1) (hu : w.cell? ⟨b, o, none⟩ = some u) (hbb : ad.block < b) (hc : (s :: r).length ≤ c)
    (hce : ∀ (j : Nat) x, (s :: r)[j]? = some x → ∃ ad', some ad = some ad' ∧ w.cell? (ad'.add j) = some (.string x)) (hx' : LineX (w1.setCell ⟨b, o, none⟩ x) b l' v) (ht : takeP l p (s :: r) = if vb = true then some (l', r) else none) (hn : n = (s :: r).length)
    (hV : V' = .slice (if c = 1 then some ad else some (ad.add 1)) (n - 1) (c - 1)) : TakesR b l v p (s :: r) w (.returned (.tuple #[V', .bool vb])) (w1.setCell ⟨b, o, none⟩ x) := by
  obtain ⟨ad', hif, hc2⟩ := ws_tail hc hce
  rw [hif, hn, List.length_cons, Nat.add_sub_cancel] at hV
  refine ⟨vb, V', l', r, rfl, hx', ht, fun _ => ?_, (Just.of_below hb).set o _⟩
  have hblk : ad'.block < b := by
    have h2 : ad'.block = ad.block := by
      split at hif
      · cases hif; rfl
      · cases hif; rfl
    rw [h2]; exact hbb
  refine ⟨some ad', c - 1, hV, by rw [List.length_cons] at hc; omega, fun a ha => by cases ha; exact hblk, fun j y hy => ⟨ad', rfl, ?_⟩⟩
  have hj : (ad'.add j).block = ad'.block := by unfold Addr.add; split <;> rfl
  rw [World.cell?_setCell_other _ _ _ _ (fun e => by rw [← e] at hj; simp only at hj; omega)]
  exact pw_cell_below hb (hc2 j y hy)

set_option maxHeartbeats 4000000 in
set_option maxRecDepth 100000 in
theorem takes_reg (b o : Nat) (l : Line) (v : Value) (V : Value) (ws : List ByteArray) (w : World) (hL : LLaid w) (hx : LineX w b l v) (ho : o = 1 ∨ o = 2 ∨ o = 3) (hw : WS w b V ws) (hsz : ∀ s ∈ ws, s.size ≤ 281474976710656) :
    Calls Tryz.prog 63 #[pv b (.reg o), V] w (TakesR b l v (.reg o) ws w) := by
  obtain ⟨A, c, rfl, hc, hbb, hcells⟩ := hw
  show Calls Tryz.prog _ #[.iface 120 (.agg #[.pointer (some ⟨b, o, none⟩)]), _] w _
  cases ws with
  | nil =>
    have HX := Lib.hid hx
    clear hL hx hcells hsz
    go_enter Tryz.func63, Tryz.ntmps63
    go_wp2_with fail
    go_ret2
    exact ⟨false, _, l, [], rfl, (((Below.refl _ _).alloc (Nat.le_refl _) _).block b (Array.getElem?_eq_some_iff.1 HX.out).1).trans HX.out, rfl, (fun h => by cases h), Just.of_below ((Below.refl _ _).alloc (Nat.le_refl _) _)⟩
  | cons s r =>
    obtain ⟨ad, rfl, hs0⟩ := hcells 0 s rfl
    have HBB := Lib.hid (hbb ad rfl)
    clear hbb
    have hs1 : w.cell? ad = some (.string s) := hs0
    have hbl : b < w.heap.size := (Array.getElem?_eq_some_iff.1 hx).1
    obtain ⟨u, hu⟩ : ∃ u, w.cell? ⟨b, o, none⟩ = some (.int .i64 u) := by
      rw [cell_of_block hx]
      rcases ho with rfl | rfl | rfl
      · exact ⟨_, rfl⟩
      · exact ⟨_, rfl⟩
      · exact ⟨_, rfl⟩
    have hf := unfrozen_of_block hx o
    have HS := Lib.hid (fun W (h : Below w.heap.size w W) => signed_any s 82 W (hL.below h) (hsz s (by simp)))
    have HX := Lib.hid hx
    have HU := Lib.hid hu
    have HF := Lib.hid hf
    have HS1 := Lib.hid hs1
    have HC := Lib.hid hc
    have HCE := Lib.hid hcells
    have hz : (0 : Int) < (((s :: r).length : Nat) : Int) := by simp only [List.length_cons]; omega
    have hln : ((((s :: r).length : Nat) : Int) == 0) = false := beq_eq_false_iff_ne.mpr (by omega)
    generalize hV : signedP s.data.toList 82 = VV at HS
    have HVV := Lib.hid hV
    have hlc : 1 ≤ (s :: r).length := by simp
    have hlc2 : (s :: r).length ≤ c := hc
    obtain ⟨n, hn⟩ : ∃ n, n = (s :: r).length := ⟨_, rfl⟩
    rw [← hn] at hz hln hlc hlc2 ⊢
    have HN := Lib.hid hn
    have HO := Lib.hid ho
    clear hL hx hu hf hs0 hs1 hV hcells hsz hc hn ho
    obtain ⟨vn, vb⟩ := VV
    simp only at HS
    go_enter Tryz.func63, Tryz.ntmps63
    go_upto_block 2 with fail
    go_cut [12] from 13 to 114 (fun s12 wx => s12 = .bool vb ∧ Hid (∃ w1, Below w.heap.size w w1 ∧ wx = w1.setCell ⟨b, o, none⟩ (.int .i64 vn)))
    case first =>
      go_upto_region 18 with fail
      obtain ⟨W, hW⟩ : ∃ W, W = (w.alloc (.cells #[.pointer none] 95)).alloc (.cells #[.pointer (some ⟨b, o, none⟩)] 120) := ⟨_, rfl⟩
      rw [← hW]
      have hbW : Below w.heap.size w W := by rw [hW]; exact ((Below.refl _ _).alloc (Nat.le_refl _) _).alloc (by simp) _
      have p0 : W.cell? ⟨w.heap.size + 1, 0, none⟩ = some (.pointer (some ⟨b, o, none⟩)) := by rw [hW]; exact knA (by simp) 0 rfl
      have p1 := kp hbW HS1.out
      have p2 := kp hbW HU.out
      have p3 := kpf hbW HU.out HF.out
      have HBW := Lib.hid hbW
      clear hW hbW
      go_region_with ((go_at_call 61; refine (HS.out _ ?_).mono ?_; (repeat (first | exact HBW.out | refine Below.drew ?_)); rintro e w1 ⟨rfl, hb⟩; have q0 := kp hb p0; have q1 := kp hb p1; have q2 := kp hb p2; have q3 := kpf hb p2 p3; have HB := Lib.hid (show Below w.heap.size w w1 from bj ((HBW.out).drew) hb); clear hb))
      all_goals go_wp2_with fail
      all_goals go_meet
      all_goals exact ⟨rfl, Lib.hid ⟨_, HB.out, rfl⟩⟩
    case rest =>
      obtain ⟨rfl, hWX⟩ := hcut
      obtain ⟨w1, hb1, rfl⟩ := hWX.out
      have HE := Lib.hid (fun (V' : Value) (hV : V' = .slice (if c = 1 then some ad else some (ad.add 1)) (n - 1) (c - 1)) => takes_end (p := .reg o) (v := v) (u := .int .i64 u) (HX.out) hb1 HU.out HBB.out HC.out HCE.out (LineX.set_reg ((hb1.block b hbl).trans HX.out) HO.out vn) (show takeP l (.reg o) (s :: r) = if vb = true then some (setF l o vn, r) else none by
        show (if (signedP s.data.toList 82).2 = true then some (setF l o (signedP s.data.toList 82).1, r) else none) = _
        rw [HVV.out]) HN.out hV)
      clear hb1 hWX
      by_cases h1 : c = 1
      · subst h1
        go_wp2_with fail
        go_ret2
        exact HE.out _ (by rw [if_pos trivial, show n - 1 = 0 by omega]; rfl)
      · go_wp2_with fail
        go_ret2
        exact HE.out _ (by rw [if_neg h1]; rfl)

set_option maxHeartbeats 4000000 in
set_option maxRecDepth 100000 in
theorem takes_place (b : Nat) (l : Line) (v : Value) (V : Value) (ws : List ByteArray) (w : World) (hL : LLaid w) (hx : LineX w b l v) (hw : WS w b V ws) (hsz : ∀ s ∈ ws, s.size ≤ 281474976710656) :
    Calls Tryz.prog 63 #[pv b .place, V] w (TakesR b l v .place ws w) := by
  obtain ⟨A, c, rfl, hc, hbb, hcells⟩ := hw
  show Calls Tryz.prog _ #[.iface 92 (.agg #[.pointer (some ⟨b, 5, none⟩)]), _] w _
  cases ws with
  | nil =>
    have HX := Lib.hid hx
    clear hL hx hcells hsz
    go_enter Tryz.func63, Tryz.ntmps63
    go_wp2_with fail
    go_ret2
    exact ⟨false, _, l, [], rfl, (((Below.refl _ _).alloc (Nat.le_refl _) _).block b (Array.getElem?_eq_some_iff.1 HX.out).1).trans HX.out, rfl, (fun h => by cases h), Just.of_below ((Below.refl _ _).alloc (Nat.le_refl _) _)⟩
  | cons s r =>
    obtain ⟨ad, rfl, hs0⟩ := hcells 0 s rfl
    have HBB := Lib.hid (hbb ad rfl)
    clear hbb
    have hs1 : w.cell? ad = some (.string s) := hs0
    have hbl : b < w.heap.size := (Array.getElem?_eq_some_iff.1 hx).1
    obtain ⟨u, hu⟩ : ∃ u, w.cell? ⟨b, 5, none⟩ = some (.int .i64 u) := ⟨_, by rw [cell_of_block hx]; rfl⟩
    have hf := unfrozen_of_block hx 5
    have HS := Lib.hid (fun W (h : Below w.heap.size w W) => signed_any s 76 W (hL.below h) (hsz s (by simp)))
    have HX := Lib.hid hx
    have HU := Lib.hid hu
    have HF := Lib.hid hf
    have HS1 := Lib.hid hs1
    have HC := Lib.hid hc
    have HCE := Lib.hid hcells
    have hz : (0 : Int) < (((s :: r).length : Nat) : Int) := by simp only [List.length_cons]; omega
    have hln : ((((s :: r).length : Nat) : Int) == 0) = false := beq_eq_false_iff_ne.mpr (by omega)
    generalize hV : signedP s.data.toList 76 = VV at HS
    have HVV := Lib.hid hV
    have hlc : 1 ≤ (s :: r).length := by simp
    have hlc2 : (s :: r).length ≤ c := hc
    obtain ⟨n, hn⟩ : ∃ n, n = (s :: r).length := ⟨_, rfl⟩
    rw [← hn] at hz hln hlc hlc2 ⊢
    have HN := Lib.hid hn
    clear hL hx hu hf hs0 hs1 hV hcells hsz hc hn
    obtain ⟨vn, vb⟩ := VV
    simp only at HS
    go_enter Tryz.func63, Tryz.ntmps63
    go_upto_block 2 with fail
    go_cut [12] from 13 to 114 (fun s12 wx => s12 = .bool vb ∧ Hid (∃ w1, Below w.heap.size w w1 ∧ wx = w1.setCell ⟨b, 5, none⟩ (.int .i64 vn)))
    case first =>
      go_upto_region 21 with fail
      obtain ⟨W, hW⟩ : ∃ W, W = (w.alloc (.cells #[.pointer none] 95)).alloc (.cells #[.pointer (some ⟨b, 5, none⟩)] 92) := ⟨_, rfl⟩
      rw [← hW]
      have hbW : Below w.heap.size w W := by rw [hW]; exact ((Below.refl _ _).alloc (Nat.le_refl _) _).alloc (by simp) _
      have p0 : W.cell? ⟨w.heap.size + 1, 0, none⟩ = some (.pointer (some ⟨b, 5, none⟩)) := by rw [hW]; exact knA (by simp) 0 rfl
      have p1 := kp hbW HS1.out
      have p2 := kp hbW HU.out
      have p3 := kpf hbW HU.out HF.out
      have HBW := Lib.hid hbW
      clear hW hbW
      go_region_with ((go_at_call 61; refine (HS.out _ ?_).mono ?_; (repeat (first | exact HBW.out | refine Below.drew ?_)); rintro e w1 ⟨rfl, hb⟩; have q0 := kp hb p0; have q1 := kp hb p1; have q2 := kp hb p2; have q3 := kpf hb p2 p3; have HB := Lib.hid (show Below w.heap.size w w1 from bj ((HBW.out).drew) hb); clear hb))
      all_goals go_wp2_with fail
      all_goals go_meet
      all_goals exact ⟨rfl, Lib.hid ⟨_, HB.out, rfl⟩⟩
    case rest =>
      obtain ⟨rfl, hWX⟩ := hcut
      obtain ⟨w1, hb1, rfl⟩ := hWX.out
      have HE := Lib.hid (fun (V' : Value) (hV : V' = .slice (if c = 1 then some ad else some (ad.add 1)) (n - 1) (c - 1)) => takes_end (p := .place) (v := v) (u := .int .i64 u) (HX.out) hb1 HU.out HBB.out HC.out HCE.out (LineX.set_place ((hb1.block b hbl).trans HX.out) vn) (show takeP l .place (s :: r) = if vb = true then some ({ l with label := vn }, r) else none by
        show (if (signedP s.data.toList 76).2 = true then some ({ l with label := (signedP s.data.toList 76).1 }, r) else none) = _
        rw [HVV.out]) HN.out hV)
      clear hb1 hWX
      by_cases h1 : c = 1
      · subst h1
        go_wp2_with fail
        go_ret2
        exact HE.out _ (by rw [if_pos trivial, show n - 1 = 0 by omega]; rfl)
      · go_wp2_with fail
        go_ret2
        exact HE.out _ (by rw [if_neg h1]; rfl)

set_option maxHeartbeats 4000000 in
set_option maxRecDepth 100000 in
theorem takes_num (b : Nat) (l : Line) (v : Value) (V : Value) (ws : List ByteArray) (w : World) (hL : LLaid w) (hx : LineX w b l v) (hw : WS w b V ws) (hsz : ∀ s ∈ ws, s.size ≤ 281474976710656) :
    Calls Tryz.prog 63 #[pv b .num, V] w (TakesR b l v .num ws w) := by
  obtain ⟨A, c, rfl, hc, hbb, hcells⟩ := hw
  show Calls Tryz.prog _ #[.iface 121 (.agg #[.pointer (some ⟨b, 3, none⟩)]), _] w _
  cases ws with
  | nil =>
    have HX := Lib.hid hx
    clear hL hx hcells hsz
    go_enter Tryz.func63, Tryz.ntmps63
    go_wp2_with fail
    go_ret2
    exact ⟨false, _, l, [], rfl, (((Below.refl _ _).alloc (Nat.le_refl _) _).block b (Array.getElem?_eq_some_iff.1 HX.out).1).trans HX.out, rfl, (fun h => by cases h), Just.of_below ((Below.refl _ _).alloc (Nat.le_refl _) _)⟩
  | cons s r =>
    obtain ⟨ad, rfl, hs0⟩ := hcells 0 s rfl
    have HBB := Lib.hid (hbb ad rfl)
    clear hbb
    have hs1 : w.cell? ad = some (.string s) := hs0
    have hbl : b < w.heap.size := (Array.getElem?_eq_some_iff.1 hx).1
    obtain ⟨u, hu⟩ : ∃ u, w.cell? ⟨b, 3, none⟩ = some (.int .i64 u) := ⟨_, by rw [cell_of_block hx]; rfl⟩
    have hf := unfrozen_of_block hx 3
    have HS := Lib.hid (fun W (h : Below w.heap.size w W) => value_any s W (hL.below h) (hsz s (by simp)))
    have HX := Lib.hid hx
    have HU := Lib.hid hu
    have HF := Lib.hid hf
    have HS1 := Lib.hid hs1
    have HC := Lib.hid hc
    have HCE := Lib.hid hcells
    have hz : (0 : Int) < (((s :: r).length : Nat) : Int) := by simp only [List.length_cons]; omega
    have hln : ((((s :: r).length : Nat) : Int) == 0) = false := beq_eq_false_iff_ne.mpr (by omega)
    generalize hV : valueP s.data.toList = VV at HS
    have HVV := Lib.hid hV
    have hlc : 1 ≤ (s :: r).length := by simp
    have hlc2 : (s :: r).length ≤ c := hc
    obtain ⟨n, hn⟩ : ∃ n, n = (s :: r).length := ⟨_, rfl⟩
    rw [← hn] at hz hln hlc hlc2 ⊢
    have HN := Lib.hid hn
    clear hL hx hu hf hs0 hs1 hV hcells hsz hc hn
    obtain ⟨vn, vb⟩ := VV
    simp only at HS
    go_enter Tryz.func63, Tryz.ntmps63
    go_upto_block 2 with fail
    go_cut [12] from 13 to 114 (fun s12 wx => s12 = .bool vb ∧ Hid (∃ w1, Below w.heap.size w w1 ∧ wx = w1.setCell ⟨b, 3, none⟩ (.int .i64 vn)))
    case first =>
      go_upto_region 24 with fail
      obtain ⟨W, hW⟩ : ∃ W, W = (w.alloc (.cells #[.pointer none] 95)).alloc (.cells #[.pointer (some ⟨b, 3, none⟩)] 121) := ⟨_, rfl⟩
      rw [← hW]
      have hbW : Below w.heap.size w W := by rw [hW]; exact ((Below.refl _ _).alloc (Nat.le_refl _) _).alloc (by simp) _
      have p0 : W.cell? ⟨w.heap.size + 1, 0, none⟩ = some (.pointer (some ⟨b, 3, none⟩)) := by rw [hW]; exact knA (by simp) 0 rfl
      have p1 := kp hbW HS1.out
      have p2 := kp hbW HU.out
      have p3 := kpf hbW HU.out HF.out
      have HBW := Lib.hid hbW
      clear hW hbW
      go_region_with ((go_at_call 100; refine (HS.out _ ?_).mono ?_; (repeat (first | exact HBW.out | refine Below.drew ?_)); rintro e w1 ⟨rfl, hb⟩; have q0 := kp hb p0; have q1 := kp hb p1; have q2 := kp hb p2; have q3 := kpf hb p2 p3; have HB := Lib.hid (show Below w.heap.size w w1 from bj ((HBW.out).drew) hb); clear hb))
      all_goals go_wp2_with fail
      all_goals go_meet
      all_goals exact ⟨rfl, Lib.hid ⟨_, HB.out, rfl⟩⟩
    case rest =>
      obtain ⟨rfl, hWX⟩ := hcut
      obtain ⟨w1, hb1, rfl⟩ := hWX.out
      have HE := Lib.hid (fun (V' : Value) (hV : V' = .slice (if c = 1 then some ad else some (ad.add 1)) (n - 1) (c - 1)) => takes_end (p := .num) (v := v) (u := .int .i64 u) (HX.out) hb1 HU.out HBB.out HC.out HCE.out (LineX.set_num ((hb1.block b hbl).trans HX.out) vn) (show takeP l .num (s :: r) = if vb = true then some ({ l with imm := vn }, r) else none by
        show (if (valueP s.data.toList).2 = true then some ({ l with imm := (valueP s.data.toList).1 }, r) else none) = _
        rw [HVV.out]) HN.out hV)
      clear hb1 hWX
      by_cases h1 : c = 1
      · subst h1
        go_wp2_with fail
        go_ret2
        exact HE.out _ (by rw [if_pos trivial, show n - 1 = 0 by omega]; rfl)
      · go_wp2_with fail
        go_ret2
        exact HE.out _ (by rw [if_neg h1]; rfl)

end Go.Proofs.YtlhgfhmdhmgmpaaGreatDoor
