/- Texts joined: LiY LiZ LiO. -/
import Derived.Test.YtlhgfhmdhmgmpaaGreatDoorInB
import Derived.Test.YtlhgfhmdhmgmpaaGreatDoorLiX
import Derived.Test.YtlhgfhmdhmgmpaaGreatDoorLiAZ
import Derived.Test.YtlhgfhmdhmgmpaaGreatDoorLpZ
import Derived.Deep.RegionHeld3
import Derived.Deep.RegionLaw
import Derived.WalkKit
import Derived.OpenShut
import Derived.Deep.Slices
import Derived.ChangeArms
set_option linter.unusedVariables false
set_option linter.unusedSimpArgs false
namespace Go.Proofs.YtlhgfhmdhmgmpaaGreatDoor
open Go.RowKit Go.Proofs.YtlhgfhmdhmgmpaaGreatDoorW.PrintWords Go.Maps Go.Joins

theorem bdn (w : World) (n : Nat) : Below w.heap.size w (w.drewN n) := ⟨rfl, rfl, rfl, Nat.le_refl _, fun _ _ => rfl⟩

set_option maxRecDepth 100000 in
set_option maxHeartbeats 4000000 in
theorem same_lines (ls : List Line) (A0 A1 : Option Addr) (c0 c1 : Nat) (w : World) (h0 : Lines w (.slice A0 ls.length c0) ls) (h1 : Lines w (.slice A1 ls.length c1) ls) (hn : ls.length ≤ 140737488351232) (hf : ∀ l ∈ ls, l.list.length ≤ 140737488351232) :
    Calls Tryz.prog 11 #[.slice A0 ls.length c0, .slice A1 ls.length c1] w fun e w' => e = .returned (.bool true) ∧ Below w.heap.size w w' := by
  have H0 := Lib.hid h0
  have H1 := Lib.hid h1
  have HF := Lib.hid hf
  clear h0 h1 hf
  go_enter Tryz.func11, Tryz.ntmps11
  go_wp2_with fail
  go_loopw [5] (fun s wr => ∃ i : Nat, i ≤ ls.length ∧ s = .int .i64 i ∧ Hid (Below w.heap.size w wr)) (fun s _ => ls.length - (intOf s).toNat)
  case atStart => exact ⟨0, Nat.zero_le _, rfl, Lib.hid (Below.refl _ _)⟩
  case round =>
    obtain ⟨i, hi, rfl, HB⟩ := hrel
    by_cases hlt : i < ls.length
    · obtain ⟨ad, l, v, rfl, hli, ⟨k0, k1, k2, k3, k4, k5, k6⟩, hv⟩ := (H0.out.below HB.out).at_ i hlt
      obtain ⟨ad', l', v', rfl, hli', ⟨m0, m1, m2, m3, m4, m5, m6⟩, hv'⟩ := (H1.out.below HB.out).at_ i hlt
      obtain rfl : l = l' := Option.some.inj (hli.symm.trans hli')
      have hlist := HF.out l (List.mem_of_getElem? hli)
      obtain ⟨B0, d0, rfl, hr0⟩ := id hv
      obtain ⟨B1, d1, rfl, hr1⟩ := id hv'
      have HV := Lib.hid hv
      have HV' := Lib.hid hv'
      clear hr0 hr1 hv hv' hli hli'
      replace m0 := ka (.cells #[.int .i64 l.op, .int .i64 l.a, .int .i64 l.b, .int .i64 l.imm, .int .u32 l.n, .int .i64 l.label, .slice B0 l.list.length d0] 49) m0
      replace m1 := ka (.cells #[.int .i64 l.op, .int .i64 l.a, .int .i64 l.b, .int .i64 l.imm, .int .u32 l.n, .int .i64 l.label, .slice B0 l.list.length d0] 49) m1
      replace m2 := ka (.cells #[.int .i64 l.op, .int .i64 l.a, .int .i64 l.b, .int .i64 l.imm, .int .u32 l.n, .int .i64 l.label, .slice B0 l.list.length d0] 49) m2
      replace m3 := ka (.cells #[.int .i64 l.op, .int .i64 l.a, .int .i64 l.b, .int .i64 l.imm, .int .u32 l.n, .int .i64 l.label, .slice B0 l.list.length d0] 49) m3
      replace m4 := ka (.cells #[.int .i64 l.op, .int .i64 l.a, .int .i64 l.b, .int .i64 l.imm, .int .u32 l.n, .int .i64 l.label, .slice B0 l.list.length d0] 49) m4
      replace m5 := ka (.cells #[.int .i64 l.op, .int .i64 l.a, .int .i64 l.b, .int .i64 l.imm, .int .u32 l.n, .int .i64 l.label, .slice B0 l.list.length d0] 49) m5
      replace m6 := ka (.cells #[.int .i64 l.op, .int .i64 l.a, .int .i64 l.b, .int .i64 l.imm, .int .u32 l.n, .int .i64 l.label, .slice B0 l.list.length d0] 49) m6
      have hi0 : (0 : Int) ≤ (i : Int) := Int.natCast_nonneg _
      have hi1 : (i : Int) < (ls.length : Int) := by omega
      go_wp2_with fail
      have hb2 : Below wr.heap.size wr ((wr.alloc (.cells #[.int .i64 l.op, .int .i64 l.a, .int .i64 l.b, .int .i64 l.imm, .int .u32 l.n, .int .i64 l.label, .slice B0 l.list.length d0] 49)).alloc (.cells #[.int .i64 l.op, .int .i64 l.a, .int .i64 l.b, .int .i64 l.imm, .int .u32 l.n, .int .i64 l.label, .slice B1 l.list.length d1] 49)) := (((Below.refl _ wr).alloc (Nat.le_refl _) _).alloc (by rw [World.size_alloc]; exact Nat.le_succ _) _)
      have b6 : ((wr.alloc (.cells #[.int .i64 l.op, .int .i64 l.a, .int .i64 l.b, .int .i64 l.imm, .int .u32 l.n, .int .i64 l.label, .slice B0 l.list.length d0] 49)).alloc (.cells #[.int .i64 l.op, .int .i64 l.a, .int .i64 l.b, .int .i64 l.imm, .int .u32 l.n, .int .i64 l.label, .slice B1 l.list.length d1] 49)).cell? ⟨wr.heap.size, 6, none⟩ = some (.slice B0 l.list.length d0) := ka _ (kn 6 rfl)
      have c6 : ((wr.alloc (.cells #[.int .i64 l.op, .int .i64 l.a, .int .i64 l.b, .int .i64 l.imm, .int .u32 l.n, .int .i64 l.label, .slice B0 l.list.length d0] 49)).alloc (.cells #[.int .i64 l.op, .int .i64 l.a, .int .i64 l.b, .int .i64 l.imm, .int .u32 l.n, .int .i64 l.label, .slice B1 l.list.length d1] 49)).cell? ⟨wr.heap.size + 1, 6, none⟩ = some (.slice B1 l.list.length d1) := by
        have := kn (w := wr.alloc (.cells #[.int .i64 l.op, .int .i64 l.a, .int .i64 l.b, .int .i64 l.imm, .int .u32 l.n, .int .i64 l.label, .slice B0 l.list.length d0] 49)) (cs := #[.int .i64 l.op, .int .i64 l.a, .int .i64 l.b, .int .i64 l.imm, .int .u32 l.n, .int .i64 l.label, .slice B1 l.list.length d1]) (t := 49) 6 rfl
        rwa [World.size_alloc] at this
      have HB2 := Lib.hid hb2
      have HVb := Lib.hid (HV.out.below hb2)
      have HVc := Lib.hid (HV'.out.below hb2)
      clear hb2 k0 k1 k2 k3 k4 k5 k6 m0 m1 m2 m3 m4 m5 m6 HV HV'
      generalize ((wr.alloc (.cells #[.int .i64 l.op, .int .i64 l.a, .int .i64 l.b, .int .i64 l.imm, .int .u32 l.n, .int .i64 l.label, .slice B0 l.list.length d0] 49)).alloc (.cells #[.int .i64 l.op, .int .i64 l.a, .int .i64 l.b, .int .i64 l.imm, .int .u32 l.n, .int .i64 l.label, .slice B1 l.list.length d1] 49)) = W2 at *
      have F : Hid (∀ W3, Below W2.heap.size W2 W3 → Ints W3 (.slice B0 l.list.length d0) l.list ∧ Ints W3 (.slice B1 l.list.length d1) l.list ∧ W3.cell? ⟨wr.heap.size, 6, none⟩ = some (.slice B0 l.list.length d0) ∧ W3.cell? ⟨wr.heap.size + 1, 6, none⟩ = some (.slice B1 l.list.length d1)) :=
        Lib.hid fun W3 hb => ⟨HVb.out.below hb, HVc.out.below hb, kp hb b6, kp hb c6⟩
      clear b6 c6 HVb HVc
      have hbr := Lib.hid (Below.refl W2.heap.size W2)
      go_loopw [8] (fun s w3 => ∃ k : Nat, k ≤ l.list.length ∧ s = .int .i64 k ∧ Hid (Below W2.heap.size W2 w3)) (fun s _ => l.list.length - (intOf s).toNat)
      case atStart => exact ⟨0, Nat.zero_le _, rfl, hbr⟩
      case round =>
        rename_i w3 _
        obtain ⟨k, hk, rfl, hB3⟩ := hrel
        obtain ⟨va, vb, b6, c6⟩ := F.out _ hB3.out
        by_cases hlt2 : k < l.list.length
        · obtain ⟨e0, x, rfl, hx, kx⟩ := va.at_ k hlt2
          obtain ⟨e1, x', rfl, hx', kx'⟩ := vb.at_ k hlt2
          obtain rfl : x = x' := Option.some.inj (hx.symm.trans hx')
          clear hx hx' va vb
          have hk0 : (0 : Int) ≤ (k : Int) := Int.natCast_nonneg _
          have hk1 : (k : Int) < (l.list.length : Int) := by omega
          go_wp2_with fail
          go_quiet (fail)
          go_wp2_with fail
          exact ⟨⟨k + 1, by omega, by go_num, Lib.hid (hB3.out.trans ((bdn _ _).mono hB3.out.size))⟩, by simp [intOf]; omega⟩
        · go_wp2_with fail
          exact ⟨⟨i + 1, by omega, by go_num, Lib.hid (HB.out.trans ((HB2.out.trans (hB3.out.mono HB2.out.size)).mono HB.out.size))⟩, by simp [intOf]; omega⟩
    · go_wp2_with fail
      go_ret
      exact ⟨rfl, HB.out⟩

end Go.Proofs.YtlhgfhmdhmgmpaaGreatDoor

set_option linter.unusedVariables false
set_option linter.unusedSimpArgs false
namespace Go.Proofs.YtlhgfhmdhmgmpaaGreatDoor
open Go.RowKit Go.Proofs.YtlhgfhmdhmgmpaaGreatDoorW.PrintWords Go.Joins Go.Maps

theorem Lines.mk' {w : World} {A : Option Addr} {c : Nat} {ls : List Line} (hb : ls.length ≤ 9223372036854775807)
    (h : 0 < ls.length → ∃ ad, A = some ad ∧ ∀ i l, ls[i]? = some l → ∃ A' c', l.list.length ≤ c' ∧ kInt.C w A' l.list.length l.list ∧ ∀ j u, [Value.int .i64 l.op, .int .i64 l.a, .int .i64 l.b, .int .i64 l.imm, .int .u32 l.n, .int .i64 l.label, .slice A' l.list.length c'][j]? = some u → w.cell? (ad.add (i * 7 + j)) = some u) :
    Lines w (.slice A ls.length c) ls := by
  refine ⟨A, c, rfl, rfl, hb, fun hp => ?_⟩
  obtain ⟨ad, rfl, hc⟩ := h hp
  refine ⟨ad, rfl, fun i l hl => ?_⟩
  obtain ⟨A', c', hlc, hr, hcell⟩ := hc i l hl
  exact ⟨_, rfl, ⟨[_], _, rfl, rfl, [_], _, rfl, rfl, [_], _, rfl, rfl, [_], _, rfl, rfl, [_], _, rfl, rfl, [_], _, rfl, rfl, A', c', rfl, hlc, hr⟩, hcell⟩

def two (l m : Line) : Array Value := #[.int .i64 l.op, .int .i64 l.a, .int .i64 l.b, .int .i64 l.imm, .int .u32 l.n, .int .i64 l.label, .slice none 0 0, .int .i64 m.op, .int .i64 m.a, .int .i64 m.b, .int .i64 m.imm, .int .u32 m.n, .int .i64 m.label, .slice none 0 0]

theorem Lines.two {w : World} {b : Nat} {t : TypeId} {fr : Nat × Nat} {l m : Line} (hl : l.list = []) (hm : m.list = []) (h : w.heap[b]? = some (.cells (two l m) t fr)) :
    Lines w (.slice (some ⟨b, 0, none⟩) 2 2) [l, m] := by
  refine Lines.mk' (ls := [l, m]) (by simp) fun _ => ⟨_, rfl, fun i l' hl' => ?_⟩
  have hi : i < 2 := (List.getElem?_eq_some_iff.1 hl').1
  have hadd : ∀ j, (⟨b, 0, none⟩ : Addr).add j = ⟨b, j, none⟩ := fun j => by unfold Addr.add; split <;> simp_all
  have key : ∀ (i : Nat) (l : Line), l.list = [] → (∀ j u, [Value.int .i64 l.op, .int .i64 l.a, .int .i64 l.b, .int .i64 l.imm, .int .u32 l.n, .int .i64 l.label, .slice none 0 0][j]? = some u → w.cell? ⟨b, i * 7 + j, none⟩ = some u) →
      ∃ A' c', l.list.length ≤ c' ∧ kInt.C w A' l.list.length l.list ∧ ∀ j u, [Value.int .i64 l.op, .int .i64 l.a, .int .i64 l.b, .int .i64 l.imm, .int .u32 l.n, .int .i64 l.label, .slice A' l.list.length c'][j]? = some u → w.cell? ((⟨b, 0, none⟩ : Addr).add (i * 7 + j)) = some u := by
    intro i l hn hc
    rw [hn]
    exact ⟨none, 0, Nat.le_refl _, Kd.C_nil kInt w, fun j u hu => by rw [hadd]; exact hc j u hu⟩
  have hcb := cell_of_block h
  match i, hi, hl' with
  | 0, _, hl' =>
    cases hl'
    refine key 0 _ hl fun j u hu => ?_
    rw [hcb]
    have hj := (List.getElem?_eq_some_iff.1 hu).1
    match j, hj, hu with
    | 0, _, hu | 1, _, hu | 2, _, hu | 3, _, hu | 4, _, hu | 5, _, hu | 6, _, hu => exact hu
  | 1, _, hl' =>
    cases hl'
    refine key 1 _ hm fun j u hu => ?_
    rw [hcb]
    have hj := (List.getElem?_eq_some_iff.1 hu).1
    match j, hj, hu with
    | 0, _, hu | 1, _, hu | 2, _, hu | 3, _, hu | 4, _, hu | 5, _, hu | 6, _, hu => exact hu

set_option maxRecDepth 100000 in
set_option maxHeartbeats 4000000 in
theorem live_any (w : World) (hL : LLaid w) : Calls Tryz.prog 10 #[] w fun e w' => e = .returned (.bool true) ∧ Below w.heap.size w w' := by
  have HL := Lib.hid hL
  clear hL
  go_enter Tryz.func10, Tryz.ntmps10
  go_wp2_with fail
  have hb1 : Below w.heap.size w (w.alloc (.cells (two ⟨1, 3, 0, -2, 0, 0, []⟩ ⟨0, 0, 0, 0, 0, 7, []⟩) 49)) := (Below.refl _ _).alloc (Nat.le_refl _) _
  have hl : Lines (w.alloc (.cells (two ⟨1, 3, 0, -2, 0, 0, []⟩ ⟨0, 0, 0, 0, 0, 7, []⟩) 49)) (.slice (some ⟨w.heap.size, 0, none⟩) 2 2) lvA := Lines.two rfl rfl (heap_alloc_new w _)
  have P := print_any lvA (some ⟨w.heap.size, 0, none⟩) 2 _ (HL.out.below hb1) hl lvA_wf
  rw [lvA_print] at P
  refine P.mono ?_
  rintro e w2 ⟨rfl, hb2⟩
  have HW2 := Lib.hid (bj hb1 hb2)
  clear P hl hb1 hb2
  have HL2 := Lib.hid (HL.out.below HW2.out)
  go_wp2_with fail
  have Q := parse_any (baL [32, 82, 69, 84, 32, 59, 32, 115, 111, 10, 10, 74, 77, 80, 9, 76, 48]) w2 HL2.out (by rw [baL_size]; decide)
  rw [lvB_parse] at Q
  refine Q.mono ?_
  rintro e w3 ⟨v, rfl, hLR, hb3⟩
  obtain ⟨A3, c3, rfl⟩ := hLR.slice
  have HLN := Lib.hid hLR.lines
  have HW3 := Lib.hid (bj HW2.out hb3)
  clear Q hLR hb3
  go_wp2_with fail
  have hb4 : Below w3.heap.size w3 (w3.alloc (.cells (two ⟨44, 0, 0, 0, 0, 0, []⟩ ⟨40, 0, 0, 0, 0, 0, []⟩) 49)) := (Below.refl _ _).alloc (Nat.le_refl _) _
  have hl4 : Lines (w3.alloc (.cells (two ⟨44, 0, 0, 0, 0, 0, []⟩ ⟨40, 0, 0, 0, 0, 0, []⟩) 49)) (.slice (some ⟨w3.heap.size, 0, none⟩) 2 2) lvB := Lines.two rfl rfl (heap_alloc_new w3 _)
  refine (same_lines lvB A3 (some ⟨w3.heap.size, 0, none⟩) c3 2 _ (HLN.out.below hb4) hl4 (by decide) (by intro l hl; simp only [lvB, List.mem_cons, List.not_mem_nil, or_false] at hl; rcases hl with rfl | rfl <;> decide)).mono ?_
  rintro e w5 ⟨rfl, hb5⟩
  have HW5 := Lib.hid (bj (bj HW3.out hb4) hb5)
  clear hb4 hl4 hb5
  go_wp2_with fail
  go_ret
  exact ⟨rfl, HW5.out⟩

end Go.Proofs.YtlhgfhmdhmgmpaaGreatDoor

namespace Go.Proofs.YtlhgfhmdhmgmpaaGreatDoor
open Go.RowKit Go.Proofs.YtlhgfhmdhmgmpaaGreatDoorW.PrintWords Go.Maps Go.Joins Go.ChangeShapes Go.WideShapes

variable {H : Type} {enc : TypeId × Value → H} {W : World} {base : Nat} {spare : Nat → Bool} {held : Bool}

end Go.Proofs.YtlhgfhmdhmgmpaaGreatDoor
