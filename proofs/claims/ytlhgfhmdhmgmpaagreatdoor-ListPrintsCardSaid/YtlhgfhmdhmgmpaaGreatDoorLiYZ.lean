/- Texts joined: LiY LiZ LiO LiO2 LiZ0. -/
import Derived.Test.YtlhgfhmdhmgmpaaGreatDoorInB
import Derived.Test.YtlhgfhmdhmgmpaaGreatDoorLiX
import Derived.Test.YtlhgfhmdhmgmpaaGreatDoorLiH
import Derived.Test.YtlhgfhmdhmgmpaaGreatDoorLpZ
import Derived.Deep.RegionHeld3
import Derived.Deep.RegionLaw
import Derived.WalkKit
import Derived.OpenShut
import Derived.Deep.Slices
import Derived.ChangeArms
import Derived.SizedLaws
import Derived.Test.YtlhgfhmdhmgmpaaGreatDoorWZ
set_option linter.unusedVariables false
set_option linter.unusedSimpArgs false
namespace Go.Proofs.YtlhgfhmdhmgmpaaGreatDoor
open Go.RowKit Go.Proofs.YtlhgfhmdhmgmpaaGreatDoorW.PrintWords Go.Maps Go.Joins

theorem bdn (w : World) (n : Nat) : Below w.heap.size w (w.drewN n) := ⟨rfl, rfl, rfl, Nat.le_refl _, fun _ _ => rfl⟩

set_option maxRecDepth 100000 in
set_option maxHeartbeats 4000000 in
theorem same_lines (ls : List Line) (A0 A1 : Option Addr) (c0 c1 : Nat) (w : World) (h0 : Lines w (.slice A0 ls.length c0) ls) (h1 : Lines w (.slice A1 ls.length c1) ls) (hn : ls.length ≤ 140737488351232) (hf : ∀ l ∈ ls, l.list.length ≤ 140737488351232) :
    Calls Tryz.prog 11 #[.slice A0 ls.length c0, .slice A1 ls.length c1] w fun e w' => e = .returned (.bool true) ∧ Below w.heap.size w w' := by
  have H0 := Lib.hid h0
  have H1 := Lib.hid h1
  have HF := Lib.hid hf
  clear h0 h1 hf
  go_enter Tryz.func11, Tryz.ntmps11
  go_wp2_with fail
  go_loopw [5] (fun s wr => ∃ i : Nat, i ≤ ls.length ∧ s = .int .i64 i ∧ Hid (Below w.heap.size w wr)) (fun s _ => ls.length - (intOf s).toNat)
  case atStart => exact ⟨0, Nat.zero_le _, rfl, Lib.hid (Below.refl _ _)⟩
  case round =>
    obtain ⟨i, hi, rfl, HB⟩ := hrel
    by_cases hlt : i < ls.length
    · obtain ⟨ad, l, v, rfl, hli, ⟨k0, k1, k2, k3, k4, k5, k6⟩, hv⟩ := (H0.out.below HB.out).at_ i hlt
      obtain ⟨ad', l', v', rfl, hli', ⟨m0, m1, m2, m3, m4, m5, m6⟩, hv'⟩ := (H1.out.below HB.out).at_ i hlt
      obtain rfl : l = l' := Option.some.inj (hli.symm.trans hli')
      have hlist := HF.out l (List.mem_of_getElem? hli)
      obtain ⟨B0, d0, rfl, hr0⟩ := id hv
      obtain ⟨B1, d1, rfl, hr1⟩ := id hv'
      have HV := Lib.hid hv
      have HV' := Lib.hid hv'
      clear hr0 hr1 hv hv' hli hli'
      replace m0 := ka (.cells #[.int .i64 l.op, .int .i64 l.a, .int .i64 l.b, .int .i64 l.imm, .int .u32 l.n, .int .i64 l.label, .slice B0 l.list.length d0] 49) m0
      replace m1 := ka (.cells #[.int .i64 l.op, .int .i64 l.a, .int .i64 l.b, .int .i64 l.imm, .int .u32 l.n, .int .i64 l.label, .slice B0 l.list.length d0] 49) m1
      replace m2 := ka (.cells #[.int .i64 l.op, .int .i64 l.a, .int .i64 l.b, .int .i64 l.imm, .int .u32 l.n, .int .i64 l.label, .slice B0 l.list.length d0] 49) m2
      replace m3 := ka (.cells #[.int .i64 l.op, .int .i64 l.a, .int .i64 l.b, .int .i64 l.imm, .int .u32 l.n, .int .i64 l.label, .slice B0 l.list.length d0] 49) m3
      replace m4 := ka (.cells #[.int .i64 l.op, .int .i64 l.a, .int .i64 l.b, .int .i64 l.imm, .int .u32 l.n, .int .i64 l.label, .slice B0 l.list.length d0] 49) m4
      replace m5 := ka (.cells #[.int .i64 l.op, .int .i64 l.a, .int .i64 l.b, .int .i64 l.imm, .int .u32 l.n, .int .i64 l.label, .slice B0 l.list.length d0] 49) m5
      replace m6 := ka (.cells #[.int .i64 l.op, .int .i64 l.a, .int .i64 l.b, .int .i64 l.imm, .int .u32 l.n, .int .i64 l.label, .slice B0 l.list.length d0] 49) m6
      have hi0 : (0 : Int) ≤ (i : Int) := Int.natCast_nonneg _
      have hi1 : (i : Int) < (ls.length : Int) := by omega
      go_wp2_with fail
      have hb2 : Below wr.heap.size wr ((wr.alloc (.cells #[.int .i64 l.op, .int .i64 l.a, .int .i64 l.b, .int .i64 l.imm, .int .u32 l.n, .int .i64 l.label, .slice B0 l.list.length d0] 49)).alloc (.cells #[.int .i64 l.op, .int .i64 l.a, .int .i64 l.b, .int .i64 l.imm, .int .u32 l.n, .int .i64 l.label, .slice B1 l.list.length d1] 49)) := (((Below.refl _ wr).alloc (Nat.le_refl _) _).alloc (by rw [World.size_alloc]; exact Nat.le_succ _) _)
      have b6 : ((wr.alloc (.cells #[.int .i64 l.op, .int .i64 l.a, .int .i64 l.b, .int .i64 l.imm, .int .u32 l.n, .int .i64 l.label, .slice B0 l.list.length d0] 49)).alloc (.cells #[.int .i64 l.op, .int .i64 l.a, .int .i64 l.b, .int .i64 l.imm, .int .u32 l.n, .int .i64 l.label, .slice B1 l.list.length d1] 49)).cell? ⟨wr.heap.size, 6, none⟩ = some (.slice B0 l.list.length d0) := ka _ (kn 6 rfl)
      have c6 : ((wr.alloc (.cells #[.int .i64 l.op, .int .i64 l.a, .int .i64 l.b, .int .i64 l.imm, .int .u32 l.n, .int .i64 l.label, .slice B0 l.list.length d0] 49)).alloc (.cells #[.int .i64 l.op, .int .i64 l.a, .int .i64 l.b, .int .i64 l.imm, .int .u32 l.n, .int .i64 l.label, .slice B1 l.list.length d1] 49)).cell? ⟨wr.heap.size + 1, 6, none⟩ = some (.slice B1 l.list.length d1) := by
        have := kn (w := wr.alloc (.cells #[.int .i64 l.op, .int .i64 l.a, .int .i64 l.b, .int .i64 l.imm, .int .u32 l.n, .int .i64 l.label, .slice B0 l.list.length d0] 49)) (cs := #[.int .i64 l.op, .int .i64 l.a, .int .i64 l.b, .int .i64 l.imm, .int .u32 l.n, .int .i64 l.label, .slice B1 l.list.length d1]) (t := 49) 6 rfl
        rwa [World.size_alloc] at this
      have HB2 := Lib.hid hb2
      have HVb := Lib.hid (HV.out.below hb2)
      have HVc := Lib.hid (HV'.out.below hb2)
      clear hb2 k0 k1 k2 k3 k4 k5 k6 m0 m1 m2 m3 m4 m5 m6 HV HV'
      generalize ((wr.alloc (.cells #[.int .i64 l.op, .int .i64 l.a, .int .i64 l.b, .int .i64 l.imm, .int .u32 l.n, .int .i64 l.label, .slice B0 l.list.length d0] 49)).alloc (.cells #[.int .i64 l.op, .int .i64 l.a, .int .i64 l.b, .int .i64 l.imm, .int .u32 l.n, .int .i64 l.label, .slice B1 l.list.length d1] 49)) = W2 at *
      have F : Hid (∀ W3, Below W2.heap.size W2 W3 → Ints W3 (.slice B0 l.list.length d0) l.list ∧ Ints W3 (.slice B1 l.list.length d1) l.list ∧ W3.cell? ⟨wr.heap.size, 6, none⟩ = some (.slice B0 l.list.length d0) ∧ W3.cell? ⟨wr.heap.size + 1, 6, none⟩ = some (.slice B1 l.list.length d1)) :=
        Lib.hid fun W3 hb => ⟨HVb.out.below hb, HVc.out.below hb, kp hb b6, kp hb c6⟩
      clear b6 c6 HVb HVc
      have hbr := Lib.hid (Below.refl W2.heap.size W2)
      go_loopw [8] (fun s w3 => ∃ k : Nat, k ≤ l.list.length ∧ s = .int .i64 k ∧ Hid (Below W2.heap.size W2 w3)) (fun s _ => l.list.length - (intOf s).toNat)
      case atStart => exact ⟨0, Nat.zero_le _, rfl, hbr⟩
      case round =>
        rename_i w3 _
        obtain ⟨k, hk, rfl, hB3⟩ := hrel
        obtain ⟨va, vb, b6, c6⟩ := F.out _ hB3.out
        by_cases hlt2 : k < l.list.length
        · obtain ⟨e0, x, rfl, hx, kx⟩ := va.at_ k hlt2
          obtain ⟨e1, x', rfl, hx', kx'⟩ := vb.at_ k hlt2
          obtain rfl : x = x' := Option.some.inj (hx.symm.trans hx')
          clear hx hx' va vb
          have hk0 : (0 : Int) ≤ (k : Int) := Int.natCast_nonneg _
          have hk1 : (k : Int) < (l.list.length : Int) := by omega
          go_wp2_with fail
          go_quiet (fail)
          go_wp2_with fail
          exact ⟨⟨k + 1, by omega, by go_num, Lib.hid (hB3.out.trans ((bdn _ _).mono hB3.out.size))⟩, by simp [intOf]; omega⟩
        · go_wp2_with fail
          exact ⟨⟨i + 1, by omega, by go_num, Lib.hid (HB.out.trans ((HB2.out.trans (hB3.out.mono HB2.out.size)).mono HB.out.size))⟩, by simp [intOf]; omega⟩
    · go_wp2_with fail
      go_ret
      exact ⟨rfl, HB.out⟩

end Go.Proofs.YtlhgfhmdhmgmpaaGreatDoor

set_option linter.unusedVariables false
set_option linter.unusedSimpArgs false
namespace Go.Proofs.YtlhgfhmdhmgmpaaGreatDoor
open Go.RowKit Go.Proofs.YtlhgfhmdhmgmpaaGreatDoorW.PrintWords Go.Joins Go.Maps

theorem Lines.mk' {w : World} {A : Option Addr} {c : Nat} {ls : List Line} (hb : ls.length ≤ 9223372036854775807)
    (h : 0 < ls.length → ∃ ad, A = some ad ∧ ∀ i l, ls[i]? = some l → ∃ A' c', l.list.length ≤ c' ∧ kInt.C w A' l.list.length l.list ∧ ∀ j u, [Value.int .i64 l.op, .int .i64 l.a, .int .i64 l.b, .int .i64 l.imm, .int .u32 l.n, .int .i64 l.label, .slice A' l.list.length c'][j]? = some u → w.cell? (ad.add (i * 7 + j)) = some u) :
    Lines w (.slice A ls.length c) ls := by
  refine ⟨A, c, rfl, rfl, hb, fun hp => ?_⟩
  obtain ⟨ad, rfl, hc⟩ := h hp
  refine ⟨ad, rfl, fun i l hl => ?_⟩
  obtain ⟨A', c', hlc, hr, hcell⟩ := hc i l hl
  exact ⟨_, rfl, ⟨[_], _, rfl, rfl, [_], _, rfl, rfl, [_], _, rfl, rfl, [_], _, rfl, rfl, [_], _, rfl, rfl, [_], _, rfl, rfl, A', c', rfl, hlc, hr⟩, hcell⟩

def two (l m : Line) : Array Value := #[.int .i64 l.op, .int .i64 l.a, .int .i64 l.b, .int .i64 l.imm, .int .u32 l.n, .int .i64 l.label, .slice none 0 0, .int .i64 m.op, .int .i64 m.a, .int .i64 m.b, .int .i64 m.imm, .int .u32 m.n, .int .i64 m.label, .slice none 0 0]

theorem Lines.two {w : World} {b : Nat} {t : TypeId} {fr : Nat × Nat} {l m : Line} (hl : l.list = []) (hm : m.list = []) (h : w.heap[b]? = some (.cells (two l m) t fr)) :
    Lines w (.slice (some ⟨b, 0, none⟩) 2 2) [l, m] := by
  refine Lines.mk' (ls := [l, m]) (by simp) fun _ => ⟨_, rfl, fun i l' hl' => ?_⟩
  have hi : i < 2 := (List.getElem?_eq_some_iff.1 hl').1
  have hadd : ∀ j, (⟨b, 0, none⟩ : Addr).add j = ⟨b, j, none⟩ := fun j => by unfold Addr.add; split <;> simp_all
  have key : ∀ (i : Nat) (l : Line), l.list = [] → (∀ j u, [Value.int .i64 l.op, .int .i64 l.a, .int .i64 l.b, .int .i64 l.imm, .int .u32 l.n, .int .i64 l.label, .slice none 0 0][j]? = some u → w.cell? ⟨b, i * 7 + j, none⟩ = some u) →
      ∃ A' c', l.list.length ≤ c' ∧ kInt.C w A' l.list.length l.list ∧ ∀ j u, [Value.int .i64 l.op, .int .i64 l.a, .int .i64 l.b, .int .i64 l.imm, .int .u32 l.n, .int .i64 l.label, .slice A' l.list.length c'][j]? = some u → w.cell? ((⟨b, 0, none⟩ : Addr).add (i * 7 + j)) = some u := by
    intro i l hn hc
    rw [hn]
    exact ⟨none, 0, Nat.le_refl _, Kd.C_nil kInt w, fun j u hu => by rw [hadd]; exact hc j u hu⟩
  have hcb := cell_of_block h
  match i, hi, hl' with
  | 0, _, hl' =>
    cases hl'
    refine key 0 _ hl fun j u hu => ?_
    rw [hcb]
    have hj := (List.getElem?_eq_some_iff.1 hu).1
    match j, hj, hu with
    | 0, _, hu | 1, _, hu | 2, _, hu | 3, _, hu | 4, _, hu | 5, _, hu | 6, _, hu => exact hu
  | 1, _, hl' =>
    cases hl'
    refine key 1 _ hm fun j u hu => ?_
    rw [hcb]
    have hj := (List.getElem?_eq_some_iff.1 hu).1
    match j, hj, hu with
    | 0, _, hu | 1, _, hu | 2, _, hu | 3, _, hu | 4, _, hu | 5, _, hu | 6, _, hu => exact hu

set_option maxRecDepth 100000 in
set_option maxHeartbeats 4000000 in
theorem live_any (w : World) (hL : LLaid w) : Calls Tryz.prog 10 #[] w fun e w' => e = .returned (.bool true) ∧ Below w.heap.size w w' := by
  have HL := Lib.hid hL
  clear hL
  go_enter Tryz.func10, Tryz.ntmps10
  go_wp2_with fail
  have hb1 : Below w.heap.size w (w.alloc (.cells (two ⟨1, 3, 0, -2, 0, 0, []⟩ ⟨0, 0, 0, 0, 0, 7, []⟩) 49)) := (Below.refl _ _).alloc (Nat.le_refl _) _
  have hl : Lines (w.alloc (.cells (two ⟨1, 3, 0, -2, 0, 0, []⟩ ⟨0, 0, 0, 0, 0, 7, []⟩) 49)) (.slice (some ⟨w.heap.size, 0, none⟩) 2 2) lvA := Lines.two rfl rfl (heap_alloc_new w _)
  have P := print_any lvA (some ⟨w.heap.size, 0, none⟩) 2 _ (HL.out.below hb1) hl lvA_wf
  rw [lvA_print] at P
  refine P.mono ?_
  rintro e w2 ⟨rfl, hb2⟩
  have HW2 := Lib.hid (bj hb1 hb2)
  clear P hl hb1 hb2
  have HL2 := Lib.hid (HL.out.below HW2.out)
  go_wp2_with fail
  have Q := parse_any (baL [32, 82, 69, 84, 32, 59, 32, 115, 111, 10, 10, 74, 77, 80, 9, 76, 48]) w2 HL2.out (by rw [baL_size]; decide)
  rw [lvB_parse] at Q
  refine Q.mono ?_
  rintro e w3 ⟨v, rfl, hLR, hb3⟩
  obtain ⟨A3, c3, rfl⟩ := hLR.slice
  have HLN := Lib.hid hLR.lines
  have HW3 := Lib.hid (bj HW2.out hb3)
  clear Q hLR hb3
  go_wp2_with fail
  have hb4 : Below w3.heap.size w3 (w3.alloc (.cells (two ⟨44, 0, 0, 0, 0, 0, []⟩ ⟨40, 0, 0, 0, 0, 0, []⟩) 49)) := (Below.refl _ _).alloc (Nat.le_refl _) _
  have hl4 : Lines (w3.alloc (.cells (two ⟨44, 0, 0, 0, 0, 0, []⟩ ⟨40, 0, 0, 0, 0, 0, []⟩) 49)) (.slice (some ⟨w3.heap.size, 0, none⟩) 2 2) lvB := Lines.two rfl rfl (heap_alloc_new w3 _)
  refine (same_lines lvB A3 (some ⟨w3.heap.size, 0, none⟩) c3 2 _ (HLN.out.below hb4) hl4 (by decide) (by intro l hl; simp only [lvB, List.mem_cons, List.not_mem_nil, or_false] at hl; rcases hl with rfl | rfl <;> decide)).mono ?_
  rintro e w5 ⟨rfl, hb5⟩
  have HW5 := Lib.hid (bj (bj HW3.out hb4) hb5)
  clear hb4 hl4 hb5
  go_wp2_with fail
  go_ret
  exact ⟨rfl, HW5.out⟩

end Go.Proofs.YtlhgfhmdhmgmpaaGreatDoor

namespace Go.Proofs.YtlhgfhmdhmgmpaaGreatDoor
open Go.RowKit Go.Proofs.YtlhgfhmdhmgmpaaGreatDoorW.PrintWords Go.Maps Go.Joins Go.ChangeShapes Go.WideShapes

variable {H : Type} {enc : TypeId × Value → H} {W : World} {base : Nat} {spare : Nat → Bool} {held : Bool}

theorem open_list {fuel : Nat} {cs : List Value} {x : DataW H × List MemPlace} (h : DataW.trod enc Tryz.prog W base spare held fuel 35 cs = some x) :
    ∃ (xs : List Int) (A : Option Addr) (c : Nat), cs = [.slice A xs.length c] ∧ xs.length ≤ c ∧ kInt.C W A xs.length xs ∧ ∀ y ∈ xs, (Lit.int .i64 y).wf = true := by
  rcases Deep.open_slice1 Tryz.underlying35 (by kernel_rfl) h with ⟨rfl, _⟩ | ⟨a, len, cap, m, n, V, D, Pl, rfl, hb, hl, hm, hmm, rfl, hx⟩
  · exact ⟨[], none, 0, rfl, Nat.le_refl _, Kd.C_nil kInt W, by simp⟩
  · have hml : len ≤ m := by rw [hmm]; split <;> omega
    have hv : ∀ i, i < len → ∃ z, V i = .int .i64 z ∧ (Lit.int .i64 z).wf = true := fun i hi => by
      obtain ⟨z, e, _, hw⟩ := DataW.trod_int Tryz.underlying3 (hx i (by omega)).2
      exact ⟨z, by simpa using e, hw⟩
    obtain ⟨f, hf⟩ : ∃ f : Nat → Int, ∀ i, i < len → V i = .int .i64 (f i) ∧ (Lit.int .i64 (f i)).wf = true :=
      ⟨fun i => if hi : i < len then (hv i hi).choose else 0, fun i hi => by simp only [hi, dif_pos]; exact (hv i hi).choose_spec⟩
    refine ⟨(List.range len).map f, some a, cap, by simp, by simpa using hl, ?_, fun y hy => ?_⟩
    · refine ⟨rfl, by simp; unfold maxLen at hm; omega, fun _ => ⟨a, rfl, fun j p hj => ⟨[.int .i64 p], rfl, rfl, fun i u hu => ?_⟩⟩⟩
      have hj' : j < len := by have := (List.getElem?_eq_some_iff.1 hj).1; simpa using this
      have hp : p = f j := by simp [hj'] at hj; exact hj.symm
      have hi : i = 0 := by have := (List.getElem?_eq_some_iff.1 hu).1; simpa using this
      subst hi
      cases hu
      rw [show j * kInt.sz + 0 = j from by show j * 1 + 0 = j; omega, hp, ← (hf j hj').1]
      exact (hx j (by omega)).1
    · obtain ⟨i, hi, rfl⟩ := List.mem_map.1 hy
      exact (hf i (List.mem_range.1 hi)).2

theorem open_ints {fuel : Nat} {cs : List Value} {x : DataW H × List MemPlace} (h : DataW.trod enc Tryz.prog W base spare held fuel 35 cs = some x) :
    ∃ (xs : List Int) (A : Option Addr) (c : Nat), cs = [.slice A xs.length c] ∧ kInt.C W A xs.length xs ∧ (∀ y ∈ xs, (Lit.int .i64 y).wf = true) ∧ xs.length ≤ c := by
  obtain ⟨xs, A, c, e, h1, h2, h3⟩ := open_list h
  exact ⟨xs, A, c, e, h2, h3, h1⟩

theorem list7 {α : Type} {cs : List α} (h : cs.length = 7) : ∃ c0 c1 c2 c3 c4 c5 c6, cs = [c0, c1, c2, c3, c4, c5, c6] := by
  match cs, h with
  | [c0, c1, c2, c3, c4, c5, c6], _ => exact ⟨c0, c1, c2, c3, c4, c5, c6, rfl⟩

theorem open_line {fuel : Nat} {cs : List Value} {x : DataW H × List MemPlace} (h : DataW.trod enc Tryz.prog W base spare held fuel 49 cs = some x) :
    ∃ (l : Line) (A : Option Addr) (c : Nat), cs = [.int .i64 l.op, .int .i64 l.a, .int .i64 l.b, .int .i64 l.imm, .int .u32 l.n, .int .i64 l.label, .slice A l.list.length c] ∧ l.list.length ≤ c ∧ kInt.C W A l.list.length l.list ∧
      ((Lit.int .i64 l.label).wf = true ∧ ∀ y ∈ l.list, (Lit.int .i64 y).wf = true) ∧ ((Lit.int .i64 l.op).wf = true ∧ (Lit.int .i64 l.a).wf = true ∧ (Lit.int .i64 l.b).wf = true ∧ (Lit.int .i64 l.imm).wf = true ∧ (Lit.int .u32 l.n).wf = true) := by
  obtain ⟨xs, n, _, rfl, hl, hlen, hf⟩ := DataW.trod_struct Tryz.underlying49 h
  have h7 : cs.length = 7 := hl.trans (by kernel_rfl)
  obtain ⟨c0, c1, c2, c3, c4, c5, c6, rfl⟩ := list7 h7
  obtain ⟨y0, y1, y2, y3, y4, y5, y6, rfl⟩ := list7 (show xs.length = 7 from hlen)
  have hci : Tryz.prog.cellsOf 3 = 1 := by kernel_rfl
  have hcu : Tryz.prog.cellsOf 47 = 1 := by kernel_rfl
  have hcl : Tryz.prog.cellsOf 35 = 1 := by kernel_rfl
  have g0 : DataW.trod enc Tryz.prog W base spare held n 3 (([c0, c1, c2, c3, c4, c5, c6].drop 0).take (Tryz.prog.cellsOf 3)) = some y0 := hf 0 _ rfl
  rw [hci] at g0
  replace g0 : DataW.trod enc Tryz.prog W base spare held n 3 [c0] = some y0 := g0
  have g1 : DataW.trod enc Tryz.prog W base spare held n 3 (([c0, c1, c2, c3, c4, c5, c6].drop 1).take (Tryz.prog.cellsOf 3)) = some y1 := hf 1 _ rfl
  rw [hci] at g1
  replace g1 : DataW.trod enc Tryz.prog W base spare held n 3 [c1] = some y1 := g1
  have g2 : DataW.trod enc Tryz.prog W base spare held n 3 (([c0, c1, c2, c3, c4, c5, c6].drop 2).take (Tryz.prog.cellsOf 3)) = some y2 := hf 2 _ rfl
  rw [hci] at g2
  replace g2 : DataW.trod enc Tryz.prog W base spare held n 3 [c2] = some y2 := g2
  have g3 : DataW.trod enc Tryz.prog W base spare held n 3 (([c0, c1, c2, c3, c4, c5, c6].drop 3).take (Tryz.prog.cellsOf 3)) = some y3 := hf 3 _ rfl
  rw [hci] at g3
  replace g3 : DataW.trod enc Tryz.prog W base spare held n 3 [c3] = some y3 := g3
  have g4 : DataW.trod enc Tryz.prog W base spare held n 47 (([c0, c1, c2, c3, c4, c5, c6].drop 4).take (Tryz.prog.cellsOf 47)) = some y4 := hf 4 _ rfl
  rw [hcu] at g4
  replace g4 : DataW.trod enc Tryz.prog W base spare held n 47 [c4] = some y4 := g4
  have g5 : DataW.trod enc Tryz.prog W base spare held n 3 (([c0, c1, c2, c3, c4, c5, c6].drop 5).take (Tryz.prog.cellsOf 3)) = some y5 := hf 5 _ rfl
  rw [hci] at g5
  replace g5 : DataW.trod enc Tryz.prog W base spare held n 3 [c5] = some y5 := g5
  have g6 : DataW.trod enc Tryz.prog W base spare held n 35 (([c0, c1, c2, c3, c4, c5, c6].drop 6).take (Tryz.prog.cellsOf 35)) = some y6 := hf 6 _ rfl
  rw [hcl] at g6
  replace g6 : DataW.trod enc Tryz.prog W base spare held n 35 [c6] = some y6 := g6
  obtain ⟨z0, e0, _, w0⟩ := DataW.trod_int Tryz.underlying3 g0
  obtain ⟨z1, e1, _, w1⟩ := DataW.trod_int Tryz.underlying3 g1
  obtain ⟨z2, e2, _, w2⟩ := DataW.trod_int Tryz.underlying3 g2
  obtain ⟨z3, e3, _, w3⟩ := DataW.trod_int Tryz.underlying3 g3
  obtain ⟨z4, e4, _, w4⟩ := DataW.trod_int Tryz.underlying47 g4
  obtain ⟨z5, e5, _, w5⟩ := DataW.trod_int Tryz.underlying3 g5
  obtain ⟨ys, A, c, e6, hlc, hk, hw⟩ := open_list g6
  obtain rfl : c0 = .int .i64 z0 := by simpa using e0
  obtain rfl : c1 = .int .i64 z1 := by simpa using e1
  obtain rfl : c2 = .int .i64 z2 := by simpa using e2
  obtain rfl : c3 = .int .i64 z3 := by simpa using e3
  obtain rfl : c4 = .int .u32 z4 := by simpa using e4
  obtain rfl : c5 = .int .i64 z5 := by simpa using e5
  obtain rfl : c6 = .slice A ys.length c := by simpa using e6
  exact ⟨⟨z0, z1, z2, z3, z4, z5, ys⟩, A, c, rfl, hlc, hk, ⟨w5, hw⟩, w0, w1, w2, w3, w4⟩

theorem add2 (a : Addr) (i j : Nat) : (a.add i).add j = a.add (i + j) := by
  unfold Addr.add
  split <;> split <;> simp_all [Nat.add_assoc]

theorem wf_line {l : Line} (h1 : (Lit.int .i64 l.label).wf = true ∧ ∀ y ∈ l.list, (Lit.int .i64 y).wf = true) (h2 : (Lit.int .i64 l.a).wf = true) (h3 : (Lit.int .i64 l.b).wf = true) (h4 : (Lit.int .i64 l.imm).wf = true) (h5 : (Lit.int .u32 l.n).wf = true) : WfL l := by
  have a := bounds_i64 h2
  have b := bounds_i64 h3
  have c := bounds_i64 h4
  have d := bounds_u32 h5
  have e := bounds_i64 h1.1
  exact ⟨by omega, by omega, by omega, by omega, by omega, by omega, by omega, by omega, by omega, by omega, fun x hx => by have := bounds_i64 (h1.2 x hx); omega⟩

theorem open_lines {fuel : Nat} {cs : List Value} {x : DataW H × List MemPlace} (h : DataW.trod enc Tryz.prog W base spare held fuel 22 cs = some x) :
    ∃ (ls : List Line) (A : Option Addr) (c : Nat), cs = [.slice A ls.length c] ∧ Lines W (.slice A ls.length c) ls ∧ (∀ l ∈ ls, WfL l) ∧ ls.length ≤ c := by
  rcases Deep.open_slice Tryz.underlying22 h with ⟨rfl, _⟩ | ⟨a, len, cap, m, n, D, Pl, rfl, hb, hl, hm, hmm, rfl, hx⟩
  · exact ⟨[], none, 0, rfl, Lines.mk' (by decide) (fun h => absurd h (Nat.lt_irrefl 0)), by simp, Nat.le_refl _⟩
  · have hml : len ≤ m := by rw [hmm]; split <;> omega
    have hcl : Tryz.prog.cellsOf 49 = 7 := by kernel_rfl
    have hv : ∀ i, i < len → ∃ l : Line, (∃ (A : Option Addr) (c : Nat), l.list.length ≤ c ∧ kInt.C W A l.list.length l.list ∧ ∀ j u, [Value.int .i64 l.op, .int .i64 l.a, .int .i64 l.b, .int .i64 l.imm, .int .u32 l.n, .int .i64 l.label, .slice A l.list.length c][j]? = some u → W.cell? (a.add (i * 7 + j)) = some u) ∧
        WfL l := fun i hi => by
      obtain ⟨cs', h1, h2⟩ := hx i (by omega)
      obtain ⟨l, A, c, rfl, hlc, hk, hw0, _, hw1, hw2, hw3, hw4⟩ := open_line h2
      have hw := wf_line hw0 hw1 hw2 hw3 hw4
      obtain ⟨_, _, h3⟩ := World.cells?_some h1
      refine ⟨l, ⟨A, c, hlc, hk, fun j u hu => ?_⟩, hw⟩
      have hj := (List.getElem?_eq_some_iff.1 hu).1
      have := h3 j (by rw [hcl]; simpa using hj)
      rw [add2, hcl] at this
      rw [this]
      exact hu
    obtain ⟨f, hf⟩ : ∃ f : Nat → Line, ∀ i (hi : i < len), f i = (hv i hi).choose :=
      ⟨fun i => if hi : i < len then (hv i hi).choose else ⟨0, 0, 0, 0, 0, 0, []⟩, fun i hi => by simp only [hi, dif_pos]⟩
    have hlen : ((List.range len).map f).length = len := by simp
    refine ⟨(List.range len).map f, some a, cap, by rw [hlen], Lines.mk' (by rw [hlen]; unfold maxLen at hm; omega) fun _ => ⟨a, rfl, fun i l hli => ?_⟩, fun l hl' => ?_, by rw [hlen]; exact hl⟩
    · have hi : i < len := by have := (List.getElem?_eq_some_iff.1 hli).1; simpa using this
      have hp : l = f i := by simp [hi] at hli; exact hli.symm
      rw [hp, hf i hi]
      exact (hv i hi).choose_spec.1
    · obtain ⟨i, hi, rfl⟩ := List.mem_map.1 hl'
      have hi' := List.mem_range.1 hi
      rw [hf i hi']
      exact (hv i hi').choose_spec.2

end Go.Proofs.YtlhgfhmdhmgmpaaGreatDoor

namespace Go.Proofs.YtlhgfhmdhmgmpaaGreatDoor
open Go.RowKit Go.Proofs.YtlhgfhmdhmgmpaaGreatDoorW.PrintWords Go.Maps Go.Joins Go.ChangeShapes Go.WideShapes

variable {H : Type} {enc : TypeId × Value → H} {W : World} {base : Nat} {spare : Nat → Bool} {held : Bool}

theorem weights_all {P : Program} {e : TypeId} : ∀ {L : List (DataW H)} {d : DataW H}, d ∈ L → ∀ n ∈ d.weights P e, n ∈ DataW.weightsAll P e L
  | x :: L, d, hd, n, hn => by
    rw [DataW.weightsAll, List.mem_append]
    rcases List.mem_cons.1 hd with rfl | hd
    · exact .inl hn
    · exact .inr (weights_all hd n hn)

theorem line_sized {fuel : Nat} {cs : List Value} {x : DataW H × List MemPlace} {l : Line} {A : Option Addr} {c : Nat} (h : DataW.trod enc Tryz.prog W base spare held fuel 49 cs = some x) (hz : ∀ n ∈ x.1.weights Tryz.prog 49, n ≤ reachBytes)
    (he : cs = [.int .i64 l.op, .int .i64 l.a, .int .i64 l.b, .int .i64 l.imm, .int .u32 l.n, .int .i64 l.label, .slice A l.list.length c]) : l.list.length * 8 ≤ 140737488351232 := by
  obtain ⟨xs, n, _, rfl, hl, hlen, hf⟩ := DataW.trod_struct Tryz.underlying49 h
  subst he
  obtain ⟨y0, y1, y2, y3, y4, y5, y6, rfl⟩ := list7 (show xs.length = 7 from hlen)
  have hcl : Tryz.prog.cellsOf 35 = 1 := by kernel_rfl
  have g6 : DataW.trod enc Tryz.prog W base spare held n 35 (([Value.int .i64 l.op, .int .i64 l.a, .int .i64 l.b, .int .i64 l.imm, .int .u32 l.n, .int .i64 l.label, .slice A l.list.length c].drop 6).take (Tryz.prog.cellsOf 35)) = some y6 := hf 6 _ rfl
  rw [hcl] at g6
  replace g6 : DataW.trod enc Tryz.prog W base spare held n 35 [.slice A l.list.length c] = some y6 := g6
  have hw : (DataW.weightsEach Tryz.prog [3, 3, 3, 3, 47, 3, 35] [y0.1, y1.1, y2.1, y3.1, y4.1, y5.1, y6.1]).all (· ≤ reachBytes) = true := by
    rw [List.all_eq_true]
    intro m hm
    exact decide_eq_true (hz m (by simpa [DataW.weights, Tryz.underlying49] using hm))
  exact Go.Proofs.YtlhgfhmdhmgmpaaGreatDoorW.PrintWords.sized_ints hw (j := 6) (t := 35) rfl rfl Tryz.underlying35 Tryz.underlying3 (by kernel_rfl) (by kernel_rfl) ⟨n, g6⟩

theorem open_lines_sized {fuel : Nat} {cs : List Value} {x : DataW H × List MemPlace} (hz : ∀ n ∈ x.1.weights Tryz.prog 22, n ≤ reachBytes) (h : DataW.trod enc Tryz.prog W base spare held fuel 22 cs = some x) :
    ∃ (ls : List Line) (A : Option Addr) (c : Nat), cs = [.slice A ls.length c] ∧ Lines W (.slice A ls.length c) ls ∧ (∀ l ∈ ls, WfL l) ∧
      (ls.length ≤ c ∧ ls.length * 72 ≤ 140737488351232 ∧ ∀ l ∈ ls, l.list.length * 8 ≤ 140737488351232) := by
  rcases Deep.open_slice Tryz.underlying22 h with ⟨rfl, _⟩ | ⟨a, len, cap, m, n, D, Pl, rfl, hb, hl, hm, hmm, rfl, hx⟩
  · exact ⟨[], none, 0, rfl, Lines.mk' (by decide) (fun h => absurd h (Nat.lt_irrefl 0)), by simp, Nat.le_refl _, by decide, by simp⟩
  · have hml : len ≤ m := by rw [hmm]; split <;> omega
    have hcl : Tryz.prog.cellsOf 49 = 7 := by kernel_rfl
    have hbl : Tryz.prog.bytesOf 49 = 72 := by kernel_rfl
    have hz0 : ∀ i, i < len → ∀ k ∈ (D i).weights Tryz.prog 49, k ≤ reachBytes := fun i hi k hk => hz k (by
      simp only [DataW.weights, Tryz.underlying22, List.mem_cons, List.mem_append]
      exact .inr (.inl (weights_all (List.mem_map.2 ⟨i, List.mem_range.2 hi, rfl⟩) k hk)))
    have hzl : len * 72 ≤ 140737488351232 := by
      have := hz ((len + (m - len)) * 72) (by
        simp only [DataW.weights, Tryz.underlying22, List.mem_cons, hbl, List.length_map, List.length_range]
        exact .inl trivial)
      unfold reachBytes at this
      omega
    have hv : ∀ i, i < len → ∃ l : Line, (∃ (A : Option Addr) (c : Nat), l.list.length ≤ c ∧ kInt.C W A l.list.length l.list ∧ ∀ j u, [Value.int .i64 l.op, .int .i64 l.a, .int .i64 l.b, .int .i64 l.imm, .int .u32 l.n, .int .i64 l.label, .slice A l.list.length c][j]? = some u → W.cell? (a.add (i * 7 + j)) = some u) ∧
        (WfL l ∧ l.list.length * 8 ≤ 140737488351232) := fun i hi => by
      obtain ⟨cs', h1, h2⟩ := hx i (by omega)
      obtain ⟨l, A, c, hcs, hlc, hk, hw0, _, hw1, hw2, hw3, hw4⟩ := open_line h2
      have hw := wf_line hw0 hw1 hw2 hw3 hw4
      have h8 := line_sized h2 (hz0 i hi) hcs
      subst hcs
      obtain ⟨_, _, h3⟩ := World.cells?_some h1
      refine ⟨l, ⟨A, c, hlc, hk, fun j u hu => ?_⟩, hw, h8⟩
      have hj := (List.getElem?_eq_some_iff.1 hu).1
      have := h3 j (by rw [hcl]; simpa using hj)
      rw [add2, hcl] at this
      rw [this]
      exact hu
    obtain ⟨f, hf⟩ : ∃ f : Nat → Line, ∀ i (hi : i < len), f i = (hv i hi).choose :=
      ⟨fun i => if hi : i < len then (hv i hi).choose else ⟨0, 0, 0, 0, 0, 0, []⟩, fun i hi => by simp only [hi, dif_pos]⟩
    have hlen : ((List.range len).map f).length = len := by simp
    have hmem : ∀ l ∈ (List.range len).map f, WfL l ∧ l.list.length * 8 ≤ 140737488351232 := fun l hl' => by
      obtain ⟨i, hi, rfl⟩ := List.mem_map.1 hl'
      have hi' := List.mem_range.1 hi
      rw [hf i hi']
      exact (hv i hi').choose_spec.2
    refine ⟨(List.range len).map f, some a, cap, by rw [hlen], Lines.mk' (by rw [hlen]; unfold maxLen at hm; omega) fun _ => ⟨a, rfl, fun i l hli => ?_⟩, fun l hl' => (hmem l hl').1, by rw [hlen]; exact hl, by rw [hlen]; exact hzl, fun l hl' => (hmem l hl').2⟩
    have hi : i < len := by have := (List.getElem?_eq_some_iff.1 hli).1; simpa using this
    have hp : l = f i := by simp [hi] at hli; exact hli.symm
    rw [hp, hf i hi]
    exact (hv i hi).choose_spec.1

end Go.Proofs.YtlhgfhmdhmgmpaaGreatDoor

set_option linter.unusedVariables false
set_option linter.unusedSimpArgs false
namespace Go.Proofs.YtlhgfhmdhmgmpaaGreatDoor
open Go.RowKit Go.Proofs.YtlhgfhmdhmgmpaaGreatDoorW.PrintWords Go.Joins Go.Maps

theorem print_good {ls : List Line} (h : (printP ls).2 = 0) : ls.length ≤ 60000 ∧ ls.all mayP = true ∧ (printP ls).1 = bodyP ls := by
  unfold printP at h ⊢
  split at h
  · exact absurd h (by decide)
  · rename_i hlen
    rw [if_neg hlen]
    split at h
    · rename_i hall
      rw [if_pos hall]
      exact ⟨by omega, hall, rfl⟩
    · exact absurd h (by decide)

theorem may_short {l : Line} (h : mayP l = true) : l.list.length ≤ 400 := by
  unfold mayP at h
  split at h
  · unfold labelP at h
    simp only [Bool.and_eq_true, decide_eq_true_eq] at h
    omega
  · unfold fitsP at h
    simp only [Bool.and_eq_true, decide_eq_true_eq] at h
    exact h.1.2

theorem print_size {ls : List Line} (hwf : ∀ l ∈ ls, WfL l) (h : (printP ls).2 = 0) : (baL (printP ls).1).size ≤ 4294967290 := by
  obtain ⟨h1, h2, h3⟩ := print_good h
  rw [baL_size, h3]
  have := bodyP_len ls fun l hl => ⟨hwf l hl, List.all_eq_true.1 h2 l hl⟩
  have h4 : 40005 * ls.length ≤ 40005 * 60000 := Nat.mul_le_mul_left _ h1
  omega

theorem print_bad {ls : List Line} (h : (printP ls).2 ≠ 0) : ((printP ls).2 == 0) = false := by
  exact beq_eq_false_iff_ne.mpr h

end Go.Proofs.YtlhgfhmdhmgmpaaGreatDoor
