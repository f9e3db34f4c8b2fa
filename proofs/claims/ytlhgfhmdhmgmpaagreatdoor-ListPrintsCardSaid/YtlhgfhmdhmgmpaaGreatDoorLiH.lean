/- list.Print: walked. -/
import Derived.Test.YtlhgfhmdhmgmpaaGreatDoorLiF
set_option linter.unusedVariables false
set_option linter.unusedSimpArgs false
namespace Go.Proofs.YtlhgfhmdhmgmpaaGreatDoor
open Go.RowKit Go.Proofs.YtlhgfhmdhmgmpaaGreatDoorW.PrintWords Go.Joins Go.Maps

theorem builder_write (B b : Nat) (bs : List Value) (s : ByteArray) (w : World) (h : Lib.IsBuilder 54 5 B b bs w) (hlen : bs.length + s.size ≤ 140737488355328) (hBw : B ≤ w.heap.size) :
    Calls Tryz.prog 22 #[.pointer (some ⟨b, 0, none⟩), .string s] w fun e w' => e = .returned (.tuple #[.int .i64 s.size, .nilIface]) ∧ (Lib.BuilderAt 54 5 B b (.pointer (some ⟨b, 0, none⟩)) (bs ++ Lib.strCells s) w' ∧ Below B w w') :=
  Any.Builder_WriteString (P := Tryz.prog) (ρ := Tryz.lays156_ren) { Tryz.lays156 with } Tryz.Builder_Extra_156 B b bs s w h hlen hBw

theorem builderAt_below {T e : TypeId} {B b : Nat} {p : Value} {bs : List Value} {w w' : World} (h : Lib.BuilderAt T e B b p bs w) (hb : Below w.heap.size w w') : Lib.BuilderAt T e B b p bs w' := by
  obtain ⟨h1, v, h2, h3, h4⟩ := h
  exact ⟨h1, v, (hb.block b (Array.getElem?_eq_some_iff.1 h2).1).trans h2, li_own_below h3 hb, h4⟩

theorem isBuilder_below {T e : TypeId} {B b : Nat} {bs : List Value} {w w' : World} (h : Lib.IsBuilder T e B b bs w) (hb : Below w.heap.size w w') : Lib.IsBuilder T e B b bs w' := h.imp (builderAt_below · hb) (builderAt_below · hb)

theorem may_op {l : Line} (h : mayP l = true) (h0 : l.op ≠ 0) : 1 ≤ l.op ∧ l.op ≤ 48 ∧ fitsP l = true := by
  unfold mayP at h
  rw [if_neg h0, Bool.and_eq_true] at h
  have he := h.2
  unfold endP at he
  simp only [Bool.and_eq_true, decide_eq_true_eq] at he
  have := he.1.1.1
  have hf : formOf l.op ≠ 9 := fun e => by
    unfold enc at this
    rw [if_pos e] at this
    exact absurd this (by decide)
  have := formOf_no _ hf
  exact ⟨this.1, this.2, h.1⟩

theorem text_any (l : Line) (A : Option Addr) (c : Nat) (w : World) (hL : LLaid w) (hr : kInt.C w A l.list.length l.list) (hwf : WfL l) (hm : mayP l = true) :
    Calls Tryz.prog 23 #[lineV l (.slice A l.list.length c)] w fun e w' => e = .returned (.string ⟨(textP l).toArray⟩) ∧ Below w.heap.size w w' := by
  unfold textP
  split
  · exact text_label l A c w hL hr hwf ‹_›
  · have := may_op hm ‹_›
    exact text_other l A c w hL hr hwf this.1 this.2.1 this.2.2

theorem textP_len {l : Line} (hwf : WfL l) (hm : mayP l = true) : (textP l).length ≤ 40004 := by
  unfold textP
  split
  · have := itoa_len _ hwf.l0 hwf.l1
    rw [List.length_append, List.length_cons]
    show _ + 1 + 1 ≤ _
    omega
  · rename_i h0
    have hf := (may_op hm h0).2.2
    have := join_len 10000 (opNames.getD (l.op.toNat - 1) [] :: (partsP l.op).map (partT l)) (fun y hy => by
      rw [List.mem_cons, List.mem_map] at hy
      rcases hy with rfl | ⟨p, hp, rfl⟩
      · exact Nat.le_trans (nameS_len _) (by decide)
      · exact partT_len hwf (partOk_of hf hp))
    rw [List.length_cons, List.length_map] at this
    have h3 := partsP_len l.op
    have : (10000 + 1) * ((partsP l.op).length + 1) ≤ 10001 * 4 := Nat.mul_le_mul_left _ (by omega)
    omega

/-- The text of a list's lines. -/
def bodyP (ls : List Line) : List UInt8 := (ls.map fun l => textP l ++ [10]).flatten

def printP (ls : List Line) : List UInt8 × Int := if 60000 < ls.length then ([], 2) else if ls.all mayP = true then (bodyP ls, 0) else ([], 1)

theorem bodyP_len : ∀ (ls : List Line), (∀ l ∈ ls, WfL l ∧ mayP l = true) → (bodyP ls).length ≤ 40005 * ls.length
  | [], _ => by simp [bodyP]
  | l :: r, h => by
    have h1 := bodyP_len r (fun x hx => h x (by simp [hx]))
    have h2 := textP_len (h l (by simp)).1 (h l (by simp)).2
    have e : bodyP (l :: r) = (textP l ++ [10]) ++ bodyP r := by simp [bodyP]
    rw [e, List.length_append, List.length_append]
    simp only [List.length_cons, List.length_nil]
    omega

theorem bodyP_snoc (ls : List Line) (l : Line) : bodyP (ls ++ [l]) = bodyP ls ++ (textP l ++ [10]) := by simp [bodyP]

set_option maxHeartbeats 4000000 in
set_option maxRecDepth 100000 in
theorem print_any (ls : List Line) (A : Option Addr) (c : Nat) (w : World) (hL : LLaid w) (hl : Lines w (.slice A ls.length c) ls) (hwf : ∀ l ∈ ls, WfL l) :
    Calls Tryz.prog 8 #[.slice A ls.length c] w fun e w' => e = .returned (.tuple #[.string ⟨(printP ls).1.toArray⟩, .int .i64 (printP ls).2]) ∧ Below w.heap.size w w' := by
  have HL := Lib.hid hL
  have HLN := Lib.hid hl
  have HWF := Lib.hid hwf
  clear hL hl hwf
  by_cases hbig : 60000 < ls.length
  · have e : printP ls = ([], 2) := by unfold printP; rw [if_pos hbig]
    have hd : decide ((60000 : Int) < (ls.length : Int)) = true := decide_eq_true (by omega)
    rw [e]
    clear e
    go_enter Tryz.func8, Tryz.ntmps8
    go_wp2_with fail
    go_ret2
    exact ⟨rfl, Below.refl _ _⟩
  have hd : decide ((60000 : Int) < (ls.length : Int)) = false := decide_eq_false (by omega)
  have hle : ls.length ≤ 60000 := by omega
  have HP := Lib.hid (show ∀ R, (if ls.all mayP = true then (bodyP ls, 0) else ([], 1)) = R → printP ls = R from fun R h => by unfold printP; rw [if_neg hbig, h])
  clear hbig
  go_enter Tryz.func8, Tryz.ntmps8
  go_wp2_with fail
  go_loopw [14] (fun s wr => ∃ k : Nat, k ≤ ls.length ∧ s = .int .i64 k ∧ Hid ((ls.take k).all mayP = true) ∧ Hid (Below w.heap.size w wr)) (fun s _ => ls.length - (intOf s).toNat)
  case atStart => exact ⟨0, Nat.zero_le _, rfl, Lib.hid rfl, Lib.hid (Below.refl _ _)⟩
  case round =>
    obtain ⟨k, hk, rfl, hall, hB⟩ := hrel
    by_cases hlt : k < ls.length
    · obtain ⟨ad, l, v, hA, hli, hat, hv⟩ := (HLN.out.below hB.out).at_ k hlt
      obtain ⟨A2, c2, rfl, hr2⟩ := hv
      obtain ⟨k0, k1, k2, k3, k4, k5, k6⟩ := hat
      subst hA
      have hx0 : (0 : Int) ≤ (k : Int) := Int.natCast_nonneg _
      have hx1 : (k : Int) < (ls.length : Int) := by omega
      have HLI := Lib.hid hli
      have HR2 := Lib.hid hr2
      clear hli hr2
      go_wp2_with fail
      have hb1 : Below wr.heap.size wr (wr.alloc (lineO l (.slice A2 l.list.length c2))) := (Below.refl _ _).alloc (Nat.le_refl _) _
      have hm := may_any l A2 c2 _ ((HL.out.below hB.out).below hb1) (Kd.C_below HR2.out hb1)
      unfold lineV lineO at hm
      refine hm.mono ?_
      rintro e w3 ⟨rfl, hb3⟩
      have HB3 := Lib.hid (bj hB.out (bt hb3))
      clear hb1 hm hb3 k0 k1 k2 k3 k4 k5 k6
      cases hml : mayP l with
      | true =>
        have HA := Lib.hid (show (ls.take (k + 1)).all mayP = true by rw [List.take_add_one, HLI.out, List.all_append, hall.out]; simp [hml])
        clear hml
        go_wp2_with fail
        go_roundw
        case rel => exact ⟨k + 1, hlt, by go_num, HA, HB3⟩
        case measure => simp [intOf]; omega
      | false =>
        have HE := Lib.hid (HP.out ([], 1) (by rw [if_neg (by rw [List.all_eq_true]; intro h; have := h l (List.mem_of_getElem? HLI.out); rw [hml] at this; cases this)]))
        clear hml
        go_wp2_with fail
        go_ret2
        exact ⟨by rw [HE.out]; rfl, HB3.out⟩
    · have hke : k = ls.length := by omega
      subst hke
      clear hlt
      rw [List.take_length] at hall
      have HE := Lib.hid (HP.out (bodyP ls, 0) (by rw [if_pos hall.out]))
      have HA := Lib.hid (List.all_eq_true.1 hall.out)
      clear HP
      obtain ⟨w9, rfl⟩ : ∃ w9, w9 = wr := ⟨_, rfl⟩
      go_wp2_with fail
      have hfb := Lib.fresh_isBuilder 54 5 w9
      have hWb : Below w9.heap.size w9 (w9.alloc (.cells #[.pointer none, .slice none 0 0] 54)) := (Below.refl _ _).alloc (Nat.le_refl _) _
      have HFB := Lib.hid hfb
      have HWB := Lib.hid hWb
      clear hfb hWb
      go_loopw [24] (fun s wy => ∃ j : Nat, j ≤ ls.length ∧ s = .int .i64 j ∧ Hid (Lib.IsBuilder 54 5 w9.heap.size w9.heap.size (Lib.byteCells (bodyP (ls.take j))) wy) ∧ Hid (Below w9.heap.size w9 wy)) (fun s _ => ls.length - (intOf s).toNat)
      case atStart => exact ⟨0, Nat.zero_le _, rfl, HFB, HWB⟩
      case round =>
        obtain ⟨j, hj, rfl, hBu, hB2⟩ := hrel
        by_cases hlt : j < ls.length
        · obtain ⟨ad, l, v, hA, hli, hat, hv⟩ := (HLN.out.below (bj hB.out hB2.out)).at_ j hlt
          obtain ⟨A2, c2, rfl, hr2⟩ := hv
          obtain ⟨k0, k1, k2, k3, k4, k5, k6⟩ := hat
          subst hA
          have hx0 : (0 : Int) ≤ (j : Int) := Int.natCast_nonneg _
          have hx1 : (j : Int) < (ls.length : Int) := by omega
          have HLI := Lib.hid hli
          have HR2 := Lib.hid hr2
          clear hli hr2
          go_wp2_with fail
          have hmem := List.mem_of_getElem? HLI.out
          have hb1 : Below wr.heap.size wr (wr.alloc (lineO l (.slice A2 l.list.length c2))) := (Below.refl _ _).alloc (Nat.le_refl _) _
          have hm := text_any l A2 c2 _ ((HL.out.below (bj hB.out hB2.out)).below hb1) (Kd.C_below HR2.out hb1) (HWF.out l hmem) (HA.out l hmem)
          unfold lineV lineO at hm
          refine hm.mono ?_
          rintro e w3 ⟨rfl, hb3⟩
          have hl1 := textP_len (HWF.out l hmem) (HA.out l hmem)
          have hl2 : (9223372036854775807 < (textP l).length + 1) = False := eq_false (by omega)
          have hl3 := bodyP_len (ls.take j) (fun x hx => ⟨HWF.out x (List.mem_of_mem_take hx), HA.out x (List.mem_of_mem_take hx)⟩)
          have hl4 : (ls.take j).length ≤ 60000 := by rw [List.length_take]; omega
          have hcat := ba_cat (textP l) [10]
          have hcat2 : (⟨[10].toArray⟩ : ByteArray) = ⟨#[10]⟩ := rfl
          rw [hcat2] at hcat
          have HCAT := Lib.hid hcat
          have HBu3 := Lib.hid (isBuilder_below hBu.out (bt hb3))
          have HB3 := Lib.hid (Nat.le_trans hB2.out.size (bt hb3).size)
          have hw := builder_write w9.heap.size w9.heap.size (Lib.byteCells (bodyP (ls.take j))) ((⟨(textP l).toArray⟩ : ByteArray) ++ ⟨#[10]⟩) w3 HBu3.out (by
            rw [hcat, Lib.byteCells_length]
            show _ + (textP l ++ [10]).toArray.size ≤ _
            rw [List.size_toArray, List.length_append]
            simp only [List.length_cons, List.length_nil]
            omega) HB3.out
          have HW := Lib.hid hw
          have HBL := Lib.hid (hB2.out.trans ((bt hb3).mono hB2.out.size))
          have HTS := Lib.hid (show Lib.byteCells (bodyP (ls.take j)) ++ Lib.strCells ((⟨(textP l).toArray⟩ : ByteArray) ++ ⟨#[10]⟩) = Lib.byteCells (bodyP (ls.take (j + 1))) by
            rw [hcat, Lib.strCells_eq, List.take_add_one, HLI.out]
            show _ ++ Lib.byteCells (textP l ++ [10]) = Lib.byteCells (bodyP (ls.take j ++ [l]))
            rw [bodyP_snoc]
            simp [Lib.byteCells])
          clear hm hb1 hb3 hl1 hl3 hl4 hcat hcat2 hw k0 k1 k2 k3 k4 k5 k6 hmem
          go_wp2_with fail
          refine HW.out.mono ?_
          rintro e w4 ⟨rfl, hb4, hb5⟩
          rw [HTS.out] at hb4
          have HB5 := Lib.hid (HBL.out.trans hb5)
          have HBu4 := Lib.hid (show Lib.IsBuilder 54 5 w9.heap.size w9.heap.size (Lib.byteCells (bodyP (ls.take (j + 1)))) w4 from .inr hb4)
          clear hb4 hb5
          go_wp2_with fail
          go_roundw
          case rel => exact ⟨j + 1, hlt, by go_num, HBu4, HB5⟩
          case measure => simp [intOf]; omega
        · have hje : j = ls.length := by omega
          subst hje
          clear hlt
          rw [List.take_length] at hBu
          have HS : Hid (Calls Tryz.prog 24 #[.pointer (some ⟨w9.heap.size, 0, none⟩)] wr fun e w' => e = .returned (.string ⟨(bodyP ls).toArray⟩) ∧ Below w9.heap.size wr w') := by
            refine Lib.hid ?_
            by_cases hne : bodyP ls = []
            · rw [hne] at hBu ⊢
              exact Tryz.Builder_String_empty w9.heap.size w9.heap.size wr hBu.out hB2.out.size
            · exact Tryz.Builder_String w9.heap.size w9.heap.size (bodyP ls) wr hBu.out hne
          go_wp2_with fail
          refine HS.out.mono ?_
          rintro e w4 ⟨rfl, hb4⟩
          have HB4 := Lib.hid (hB.out.trans ((hB2.out.trans hb4).mono hB.out.size))
          clear hb4
          go_wp2_with fail
          go_ret2
          exact ⟨by rw [HE.out]; rfl, HB4.out⟩

end Go.Proofs.YtlhgfhmdhmgmpaaGreatDoor
