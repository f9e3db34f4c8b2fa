/- list's law: live, walked. -/
import Derived.Test.YtlhgfhmdhmgmpaaGreatDoorLpF
import Derived.Test.YtlhgfhmdhmgmpaaGreatDoorLiY
import Derived.Deep.RegionHeld3
import Derived.Deep.RegionLaw
set_option linter.unusedVariables false
set_option linter.unusedSimpArgs false
namespace Go.Proofs.YtlhgfhmdhmgmpaaGreatDoor
open Go.RowKit Go.Proofs.YtlhgfhmdhmgmpaaGreatDoorW.PrintWords Go.Joins Go.Maps

theorem Lines.mk' {w : World} {A : Option Addr} {c : Nat} {ls : List Line} (hb : ls.length ≤ 9223372036854775807)
    (h : 0 < ls.length → ∃ ad, A = some ad ∧ ∀ i l, ls[i]? = some l → ∃ A' c', l.list.length ≤ c' ∧ kInt.C w A' l.list.length l.list ∧ ∀ j u, [Value.int .i64 l.op, .int .i64 l.a, .int .i64 l.b, .int .i64 l.imm, .int .u32 l.n, .int .i64 l.label, .slice A' l.list.length c'][j]? = some u → w.cell? (ad.add (i * 7 + j)) = some u) :
    Lines w (.slice A ls.length c) ls := by
  refine ⟨A, c, rfl, rfl, hb, fun hp => ?_⟩
  obtain ⟨ad, rfl, hc⟩ := h hp
  refine ⟨ad, rfl, fun i l hl => ?_⟩
  obtain ⟨A', c', hlc, hr, hcell⟩ := hc i l hl
  exact ⟨_, rfl, ⟨[_], _, rfl, rfl, [_], _, rfl, rfl, [_], _, rfl, rfl, [_], _, rfl, rfl, [_], _, rfl, rfl, [_], _, rfl, rfl, A', c', rfl, hlc, hr⟩, hcell⟩

def two (l m : Line) : Array Value := #[.int .i64 l.op, .int .i64 l.a, .int .i64 l.b, .int .i64 l.imm, .int .u32 l.n, .int .i64 l.label, .slice none 0 0, .int .i64 m.op, .int .i64 m.a, .int .i64 m.b, .int .i64 m.imm, .int .u32 m.n, .int .i64 m.label, .slice none 0 0]

theorem Lines.two {w : World} {b : Nat} {t : TypeId} {fr : Nat × Nat} {l m : Line} (hl : l.list = []) (hm : m.list = []) (h : w.heap[b]? = some (.cells (two l m) t fr)) :
    Lines w (.slice (some ⟨b, 0, none⟩) 2 2) [l, m] := by
  refine Lines.mk' (ls := [l, m]) (by simp) fun _ => ⟨_, rfl, fun i l' hl' => ?_⟩
  have hi : i < 2 := (List.getElem?_eq_some_iff.1 hl').1
  have hadd : ∀ j, (⟨b, 0, none⟩ : Addr).add j = ⟨b, j, none⟩ := fun j => by unfold Addr.add; split <;> simp_all
  have key : ∀ (i : Nat) (l : Line), l.list = [] → (∀ j u, [Value.int .i64 l.op, .int .i64 l.a, .int .i64 l.b, .int .i64 l.imm, .int .u32 l.n, .int .i64 l.label, .slice none 0 0][j]? = some u → w.cell? ⟨b, i * 7 + j, none⟩ = some u) →
      ∃ A' c', l.list.length ≤ c' ∧ kInt.C w A' l.list.length l.list ∧ ∀ j u, [Value.int .i64 l.op, .int .i64 l.a, .int .i64 l.b, .int .i64 l.imm, .int .u32 l.n, .int .i64 l.label, .slice A' l.list.length c'][j]? = some u → w.cell? ((⟨b, 0, none⟩ : Addr).add (i * 7 + j)) = some u := by
    intro i l hn hc
    rw [hn]
    exact ⟨none, 0, Nat.le_refl _, Kd.C_nil kInt w, fun j u hu => by rw [hadd]; exact hc j u hu⟩
  have hcb := cell_of_block h
  match i, hi, hl' with
  | 0, _, hl' =>
    cases hl'
    refine key 0 _ hl fun j u hu => ?_
    rw [hcb]
    have hj := (List.getElem?_eq_some_iff.1 hu).1
    match j, hj, hu with
    | 0, _, hu | 1, _, hu | 2, _, hu | 3, _, hu | 4, _, hu | 5, _, hu | 6, _, hu => exact hu
  | 1, _, hl' =>
    cases hl'
    refine key 1 _ hm fun j u hu => ?_
    rw [hcb]
    have hj := (List.getElem?_eq_some_iff.1 hu).1
    match j, hj, hu with
    | 0, _, hu | 1, _, hu | 2, _, hu | 3, _, hu | 4, _, hu | 5, _, hu | 6, _, hu => exact hu

set_option maxRecDepth 100000 in
set_option maxHeartbeats 4000000 in
theorem live_any (w : World) (hL : LLaid w) : Calls Tryz.prog 10 #[] w fun e w' => e = .returned (.bool true) ∧ Below w.heap.size w w' := by
  have HL := Lib.hid hL
  clear hL
  go_enter Tryz.func10, Tryz.ntmps10
  go_wp2_with fail
  have hb1 : Below w.heap.size w (w.alloc (.cells (two ⟨1, 3, 0, -2, 0, 0, []⟩ ⟨0, 0, 0, 0, 0, 7, []⟩) 49)) := (Below.refl _ _).alloc (Nat.le_refl _) _
  have hl : Lines (w.alloc (.cells (two ⟨1, 3, 0, -2, 0, 0, []⟩ ⟨0, 0, 0, 0, 0, 7, []⟩) 49)) (.slice (some ⟨w.heap.size, 0, none⟩) 2 2) lvA := Lines.two rfl rfl (heap_alloc_new w _)
  have P := print_any lvA (some ⟨w.heap.size, 0, none⟩) 2 _ (HL.out.below hb1) hl lvA_wf
  rw [lvA_print] at P
  refine P.mono ?_
  rintro e w2 ⟨rfl, hb2⟩
  have HW2 := Lib.hid (bj hb1 hb2)
  clear P hl hb1 hb2
  have HL2 := Lib.hid (HL.out.below HW2.out)
  go_wp2_with fail
  have Q := parse_any (baL [32, 82, 69, 84, 32, 59, 32, 115, 111, 10, 10, 74, 77, 80, 9, 76, 48]) w2 HL2.out (by rw [baL_size]; decide)
  rw [lvB_parse] at Q
  refine Q.mono ?_
  rintro e w3 ⟨v, rfl, hLR, hb3⟩
  obtain ⟨A3, c3, rfl⟩ := hLR.slice
  have HLN := Lib.hid hLR.lines
  have HW3 := Lib.hid (bj HW2.out hb3)
  clear Q hLR hb3
  go_wp2_with fail
  have hb4 : Below w3.heap.size w3 (w3.alloc (.cells (two ⟨44, 0, 0, 0, 0, 0, []⟩ ⟨40, 0, 0, 0, 0, 0, []⟩) 49)) := (Below.refl _ _).alloc (Nat.le_refl _) _
  have hl4 : Lines (w3.alloc (.cells (two ⟨44, 0, 0, 0, 0, 0, []⟩ ⟨40, 0, 0, 0, 0, 0, []⟩) 49)) (.slice (some ⟨w3.heap.size, 0, none⟩) 2 2) lvB := Lines.two rfl rfl (heap_alloc_new w3 _)
  refine (same_lines lvB A3 (some ⟨w3.heap.size, 0, none⟩) c3 2 _ (HLN.out.below hb4) hl4 (by decide) (by intro l hl; simp only [lvB, List.mem_cons, List.not_mem_nil, or_false] at hl; rcases hl with rfl | rfl <;> decide)).mono ?_
  rintro e w5 ⟨rfl, hb5⟩
  have HW5 := Lib.hid (bj (bj HW3.out hb4) hb5)
  clear hb4 hl4 hb5
  go_wp2_with fail
  go_ret
  exact ⟨rfl, HW5.out⟩

end Go.Proofs.YtlhgfhmdhmgmpaaGreatDoor
