/- SameLines of two slices that read as the same lines: true. -/
import Derived.Test.YtlhgfhmdhmgmpaaGreatDoorInB
import Derived.Test.YtlhgfhmdhmgmpaaGreatDoorLiX
import Derived.Test.YtlhgfhmdhmgmpaaGreatDoorLiH
set_option linter.unusedVariables false
set_option linter.unusedSimpArgs false
namespace Go.Proofs.YtlhgfhmdhmgmpaaGreatDoor
open Go.RowKit Go.Proofs.YtlhgfhmdhmgmpaaGreatDoorW.PrintWords Go.Maps Go.Joins

theorem bdn (w : World) (n : Nat) : Below w.heap.size w (w.drewN n) := ⟨rfl, rfl, rfl, Nat.le_refl _, fun _ _ => rfl⟩

set_option maxRecDepth 100000 in
set_option maxHeartbeats 4000000 in
theorem same_lines (ls : List Line) (A0 A1 : Option Addr) (c0 c1 : Nat) (w : World) (h0 : Lines w (.slice A0 ls.length c0) ls) (h1 : Lines w (.slice A1 ls.length c1) ls) (hn : ls.length ≤ 140737488351232) (hf : ∀ l ∈ ls, l.list.length ≤ 140737488351232) :
    Calls Tryz.prog 11 #[.slice A0 ls.length c0, .slice A1 ls.length c1] w fun e w' => e = .returned (.bool true) ∧ Below w.heap.size w w' := by
  have H0 := Lib.hid h0
  have H1 := Lib.hid h1
  have HF := Lib.hid hf
  clear h0 h1 hf
  go_enter Tryz.func11, Tryz.ntmps11
  go_wp2_with fail
  go_loopw [5] (fun s wr => ∃ i : Nat, i ≤ ls.length ∧ s = .int .i64 i ∧ Hid (Below w.heap.size w wr)) (fun s _ => ls.length - (intOf s).toNat)
  case atStart => exact ⟨0, Nat.zero_le _, rfl, Lib.hid (Below.refl _ _)⟩
  case round =>
    obtain ⟨i, hi, rfl, HB⟩ := hrel
    by_cases hlt : i < ls.length
    · obtain ⟨ad, l, v, rfl, hli, ⟨k0, k1, k2, k3, k4, k5, k6⟩, hv⟩ := (H0.out.below HB.out).at_ i hlt
      obtain ⟨ad', l', v', rfl, hli', ⟨m0, m1, m2, m3, m4, m5, m6⟩, hv'⟩ := (H1.out.below HB.out).at_ i hlt
      obtain rfl : l = l' := Option.some.inj (hli.symm.trans hli')
      have hlist := HF.out l (List.mem_of_getElem? hli)
      obtain ⟨B0, d0, rfl, hr0⟩ := id hv
      obtain ⟨B1, d1, rfl, hr1⟩ := id hv'
      have HV := Lib.hid hv
      have HV' := Lib.hid hv'
      clear hr0 hr1 hv hv' hli hli'
      replace m0 := ka (.cells #[.int .i64 l.op, .int .i64 l.a, .int .i64 l.b, .int .i64 l.imm, .int .u32 l.n, .int .i64 l.label, .slice B0 l.list.length d0] 49) m0
      replace m1 := ka (.cells #[.int .i64 l.op, .int .i64 l.a, .int .i64 l.b, .int .i64 l.imm, .int .u32 l.n, .int .i64 l.label, .slice B0 l.list.length d0] 49) m1
      replace m2 := ka (.cells #[.int .i64 l.op, .int .i64 l.a, .int .i64 l.b, .int .i64 l.imm, .int .u32 l.n, .int .i64 l.label, .slice B0 l.list.length d0] 49) m2
      replace m3 := ka (.cells #[.int .i64 l.op, .int .i64 l.a, .int .i64 l.b, .int .i64 l.imm, .int .u32 l.n, .int .i64 l.label, .slice B0 l.list.length d0] 49) m3
      replace m4 := ka (.cells #[.int .i64 l.op, .int .i64 l.a, .int .i64 l.b, .int .i64 l.imm, .int .u32 l.n, .int .i64 l.label, .slice B0 l.list.length d0] 49) m4
      replace m5 := ka (.cells #[.int .i64 l.op, .int .i64 l.a, .int .i64 l.b, .int .i64 l.imm, .int .u32 l.n, .int .i64 l.label, .slice B0 l.list.length d0] 49) m5
      replace m6 := ka (.cells #[.int .i64 l.op, .int .i64 l.a, .int .i64 l.b, .int .i64 l.imm, .int .u32 l.n, .int .i64 l.label, .slice B0 l.list.length d0] 49) m6
      have hi0 : (0 : Int) ≤ (i : Int) := Int.natCast_nonneg _
      have hi1 : (i : Int) < (ls.length : Int) := by omega
      go_wp2_with fail
      have hb2 : Below wr.heap.size wr ((wr.alloc (.cells #[.int .i64 l.op, .int .i64 l.a, .int .i64 l.b, .int .i64 l.imm, .int .u32 l.n, .int .i64 l.label, .slice B0 l.list.length d0] 49)).alloc (.cells #[.int .i64 l.op, .int .i64 l.a, .int .i64 l.b, .int .i64 l.imm, .int .u32 l.n, .int .i64 l.label, .slice B1 l.list.length d1] 49)) := (((Below.refl _ wr).alloc (Nat.le_refl _) _).alloc (by rw [World.size_alloc]; exact Nat.le_succ _) _)
      have b6 : ((wr.alloc (.cells #[.int .i64 l.op, .int .i64 l.a, .int .i64 l.b, .int .i64 l.imm, .int .u32 l.n, .int .i64 l.label, .slice B0 l.list.length d0] 49)).alloc (.cells #[.int .i64 l.op, .int .i64 l.a, .int .i64 l.b, .int .i64 l.imm, .int .u32 l.n, .int .i64 l.label, .slice B1 l.list.length d1] 49)).cell? ⟨wr.heap.size, 6, none⟩ = some (.slice B0 l.list.length d0) := ka _ (kn 6 rfl)
      have c6 : ((wr.alloc (.cells #[.int .i64 l.op, .int .i64 l.a, .int .i64 l.b, .int .i64 l.imm, .int .u32 l.n, .int .i64 l.label, .slice B0 l.list.length d0] 49)).alloc (.cells #[.int .i64 l.op, .int .i64 l.a, .int .i64 l.b, .int .i64 l.imm, .int .u32 l.n, .int .i64 l.label, .slice B1 l.list.length d1] 49)).cell? ⟨wr.heap.size + 1, 6, none⟩ = some (.slice B1 l.list.length d1) := by
        have := kn (w := wr.alloc (.cells #[.int .i64 l.op, .int .i64 l.a, .int .i64 l.b, .int .i64 l.imm, .int .u32 l.n, .int .i64 l.label, .slice B0 l.list.length d0] 49)) (cs := #[.int .i64 l.op, .int .i64 l.a, .int .i64 l.b, .int .i64 l.imm, .int .u32 l.n, .int .i64 l.label, .slice B1 l.list.length d1]) (t := 49) 6 rfl
        rwa [World.size_alloc] at this
      have HB2 := Lib.hid hb2
      have HVb := Lib.hid (HV.out.below hb2)
      have HVc := Lib.hid (HV'.out.below hb2)
      clear hb2 k0 k1 k2 k3 k4 k5 k6 m0 m1 m2 m3 m4 m5 m6 HV HV'
      generalize ((wr.alloc (.cells #[.int .i64 l.op, .int .i64 l.a, .int .i64 l.b, .int .i64 l.imm, .int .u32 l.n, .int .i64 l.label, .slice B0 l.list.length d0] 49)).alloc (.cells #[.int .i64 l.op, .int .i64 l.a, .int .i64 l.b, .int .i64 l.imm, .int .u32 l.n, .int .i64 l.label, .slice B1 l.list.length d1] 49)) = W2 at *
      have F : Hid (∀ W3, Below W2.heap.size W2 W3 → Ints W3 (.slice B0 l.list.length d0) l.list ∧ Ints W3 (.slice B1 l.list.length d1) l.list ∧ W3.cell? ⟨wr.heap.size, 6, none⟩ = some (.slice B0 l.list.length d0) ∧ W3.cell? ⟨wr.heap.size + 1, 6, none⟩ = some (.slice B1 l.list.length d1)) :=
        Lib.hid fun W3 hb => ⟨HVb.out.below hb, HVc.out.below hb, kp hb b6, kp hb c6⟩
      clear b6 c6 HVb HVc
      have hbr := Lib.hid (Below.refl W2.heap.size W2)
      go_loopw [8] (fun s w3 => ∃ k : Nat, k ≤ l.list.length ∧ s = .int .i64 k ∧ Hid (Below W2.heap.size W2 w3)) (fun s _ => l.list.length - (intOf s).toNat)
      case atStart => exact ⟨0, Nat.zero_le _, rfl, hbr⟩
      case round =>
        rename_i w3 _
        obtain ⟨k, hk, rfl, hB3⟩ := hrel
        obtain ⟨va, vb, b6, c6⟩ := F.out _ hB3.out
        by_cases hlt2 : k < l.list.length
        · obtain ⟨e0, x, rfl, hx, kx⟩ := va.at_ k hlt2
          obtain ⟨e1, x', rfl, hx', kx'⟩ := vb.at_ k hlt2
          obtain rfl : x = x' := Option.some.inj (hx.symm.trans hx')
          clear hx hx' va vb
          have hk0 : (0 : Int) ≤ (k : Int) := Int.natCast_nonneg _
          have hk1 : (k : Int) < (l.list.length : Int) := by omega
          go_wp2_with fail
          go_quiet (fail)
          go_wp2_with fail
          exact ⟨⟨k + 1, by omega, by go_num, Lib.hid (hB3.out.trans ((bdn _ _).mono hB3.out.size))⟩, by simp [intOf]; omega⟩
        · go_wp2_with fail
          exact ⟨⟨i + 1, by omega, by go_num, Lib.hid (HB.out.trans ((HB2.out.trans (hB3.out.mono HB2.out.size)).mono HB.out.size))⟩, by simp [intOf]; omega⟩
    · go_wp2_with fail
      go_ret
      exact ⟨rfl, HB.out⟩

end Go.Proofs.YtlhgfhmdhmgmpaaGreatDoor
