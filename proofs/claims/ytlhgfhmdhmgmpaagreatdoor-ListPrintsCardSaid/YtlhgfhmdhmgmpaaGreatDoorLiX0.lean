/- strings.Cut at a line's end: walked. -/
import Derived.Test.YtlhgfhmdhmgmpaaGreatDoorLiW
import Derived.Lib.IndexLaws
import Derived.BigRegion
import Derived.RegionTactic
set_option linter.unusedVariables false
set_option linter.unusedSimpArgs false
namespace Go.Proofs.YtlhgfhmdhmgmpaaGreatDoor
open Go.RowKit Go.Proofs.YtlhgfhmdhmgmpaaGreatDoorW.PrintWords Go.Joins Go.Maps

/-! ### one line, and what is left -/
def nlAt (s : ByteArray) : Int := Lib.indexByte s.data.toList 10
def oneR (s : ByteArray) : ByteArray := if 0 ≤ nlAt s then s.extract 0 (nlAt s).toNat else s
def restR (s : ByteArray) : ByteArray := if 0 ≤ nlAt s then s.extract ((nlAt s).toNat + 1) s.size else ⟨#[]⟩

theorem nlAt_lt (s : ByteArray) (h : 0 ≤ nlAt s) : (nlAt s).toNat < s.size := by
  obtain ⟨o, ho⟩ : ∃ o : Nat, nlAt s = o := ⟨(nlAt s).toNat, by omega⟩
  have := (Lib.indexByte_some (l := s.data.toList) (c := 10) (o := o) ho).1
  have := (List.getElem?_eq_some_iff.1 this).1
  rw [Array.length_toList] at this
  rw [ho]
  exact this

theorem restR_lt (s : ByteArray) (h : s.size ≠ 0) : (restR s).size < s.size := by
  unfold restR
  split
  · have := nlAt_lt s ‹_›
    simp only [ByteArray.size_extract]
    omega
  · show 0 < s.size; omega

theorem oneR_le (s : ByteArray) : (oneR s).size ≤ s.size := by
  unfold oneR
  split
  · simp only [ByteArray.size_extract]; omega
  · exact Nat.le_refl _

set_option maxRecDepth 100000 in
theorem scut_any (s : ByteArray) (w : World) (hs : s.size ≤ 4294967296) :
    Calls Tryz.prog 57 #[.string s, .string ⟨#[10]⟩] w fun e w' => (∃ b, e = .returned (.tuple #[.string (oneR s), .string (restR s), .bool b])) ∧ Below w.heap.size w w' := by
  have HC := Lib.hid (Tryz.stringslite_Index_one s 10 w)
  have H1 := Lib.hid (show oneR s = if 0 ≤ nlAt s then s.extract 0 (nlAt s).toNat else s from rfl)
  have H2 := Lib.hid (show restR s = if 0 ≤ nlAt s then s.extract ((nlAt s).toNat + 1) s.size else ⟨#[]⟩ from rfl)
  have hlt := nlAt_lt s
  have hge := Lib.indexByte_ge s.data.toList 10
  change -1 ≤ nlAt s at hge
  change Hid (Calls _ _ _ _ fun e w' => e = .returned (.int .i64 (nlAt s)) ∧ w' = w) at HC
  generalize nlAt s = I at HC H1 H2 hlt hge
  generalize oneR s = O at H1 ⊢
  generalize restR s = T at H2 ⊢
  by_cases h0 : 0 ≤ I
  · obtain ⟨k, rfl⟩ : ∃ k : Nat, I = k := ⟨I.toNat, by omega⟩
    have hk := hlt h0
    rw [Int.toNat_natCast] at hk
    have d0 : decide ((0 : Int) ≤ (k : Int)) = true := decide_eq_true h0
    have p0 : (k : Int) ≤ (s.size : Int) := by omega
    have p1 : (k : Int) + 1 ≤ (s.size : Int) := by omega
    have p2 : (0 : Int) ≤ (k : Int) + 1 := by omega
    have pw : IntKind.i64.wrap ((k : Int) + 1) = (k : Int) + 1 := IntWalk.i64_in _ (by omega)
    have pt : ((k : Int) + 1).toNat = k + 1 := by omega
    clear hlt hge hs
    go_enter Tryz.func57, Tryz.ntmps57
    go_wp2_with (go_at_call 97; refine HC.out.mono ?_; rintro e w' ⟨rfl, rfl⟩)
    go_region
    all_goals go_wp2_with fail
    all_goals go_ret3
    all_goals exact ⟨⟨true, by rw [H1.out, H2.out, if_pos h0, if_pos h0]; rfl⟩, (Below.refl _ _).drew⟩
  · have d0 : decide ((0 : Int) ≤ I) = false := decide_eq_false h0
    clear hlt hge hs
    go_enter Tryz.func57, Tryz.ntmps57
    go_wp2_with (go_at_call 97; refine HC.out.mono ?_; rintro e w' ⟨rfl, rfl⟩)
    all_goals go_ret3
    all_goals exact ⟨⟨false, by rw [H1.out, H2.out, if_neg (by omega), if_neg (by omega)]; rfl⟩, Below.refl _ _⟩

set_option maxRecDepth 100000 in
theorem cut_any (s : ByteArray) (w : World) (hs : s.size ≤ 4294967296) :
    Calls Tryz.prog 27 #[.string s, .string ⟨#[10]⟩] w fun e w' => (∃ b, e = .returned (.tuple #[.string (oneR s), .string (restR s), .bool b])) ∧ Below w.heap.size w w' := by
  have HC := Lib.hid (scut_any s w hs)
  generalize oneR s = O at HC ⊢
  generalize restR s = T at HC ⊢
  clear hs
  go_enter Tryz.func27, Tryz.ntmps27
  go_wp2_with fail
  refine HC.out.mono ?_
  rintro e w' ⟨⟨b, rfl⟩, hb⟩
  have HB := Lib.hid hb
  clear hb
  go_wp2_with fail
  go_ret3
  exact ⟨⟨b, rfl⟩, HB.out⟩

theorem spans_len (p : Nat → Bool) (s : ByteArray) : ∀ (f pos : Nat) (st : Option Nat) (acc : List (Nat × Nat)), (Lib.spansFromP p s f pos st acc).1.length ≤ acc.length + (s.size - pos)
  | 0, pos, st, acc => by show acc.length ≤ _; omega
  | f + 1, pos, st, acc => by
    have hw := Lib.width_pos s pos
    have h1 := fun st' => spans_len p s f (pos + (Utf8.decode s pos).2) st' acc
    have h2 := fun a st' => spans_len p s f (pos + (Utf8.decode s pos).2) st' (acc ++ [(a, pos)])
    simp only [List.length_append, List.length_cons, List.length_nil] at h2
    by_cases hp : pos < s.size
    · cases hr : p (Utf8.decode s pos).1 <;> cases st with
      | some a => simp only [Lib.spansFromP, hp, hr, if_true, Bool.false_eq_true, if_false]; first | (have := h2 a none; omega) | (have := h1 (some a); omega)
      | none => simp only [Lib.spansFromP, hp, hr, if_true, Bool.false_eq_true, if_false]; first | (have := h1 none; omega) | (have := h1 (some pos); omega)
    · simp only [Lib.spansFromP, hp, if_false]; omega

theorem cutR_le (s : ByteArray) : (cutR s).size ≤ s.size := by
  unfold cutR
  simp only [ByteArray.size_extract]
  omega

theorem wordsR_small (s : ByteArray) : (∀ x ∈ wordsR s, x.size ≤ s.size) ∧ (wordsR s).length ≤ s.size + 1 := by
  have hc := cutR_le s
  unfold wordsR Lib.goFieldsP
  constructor
  · intro x hx
    obtain ⟨y, _, rfl⟩ := List.mem_map.1 hx
    simp only [ByteArray.size_extract]
    omega
  · rw [List.length_map]
    have h := spans_len sepR (cutR s) (cutR s).size 0 none []
    unfold Lib.spansOfP
    generalize Lib.spansFromP sepR (cutR s) (cutR s).size 0 none [] = R at h
    obtain ⟨acc, st⟩ := R
    cases st with
    | none => simp only [Lib.closeSpans] at *; simp at h; omega
    | some a => simp only [Lib.closeSpans, List.length_append, List.length_cons, List.length_nil] at *; simp at h; omega

end Go.Proofs.YtlhgfhmdhmgmpaaGreatDoor
