/- relax's assembler: how many words a line makes. -/
import Derived.Test.YtlhgfhmdhmgmpaaGreatDoorRxA
namespace Go.Proofs.YtlhgfhmdhmgmpaaGreatDoor
open Go.RowKit Go.Proofs.YtlhgfhmdhmgmpaaGreatDoorW.PrintWords

def sizeP (l : Line) (lg : Bool) : Int :=
  if l.op = 0 then 0 else if l.op = 42 then 2 + l.list.length else if isBr l.op = true ∧ lg = true then 3 else if l.op = 40 ∧ lg = true then 2 else 1 + follows l.op

theorem follows_range (n : Int) : -1 ≤ follows n ∧ follows n ≤ 1 := by unfold follows; split <;> (try split) <;> omega

theorem size_any (g lb : Nat) (w : World) (A : Option Addr) (n c c' : Nat) (ls : List Line) (i : Nat) (l : Line) (lg : Bool) (hi : i < n) (_hn : n ≤ 60000)
    (c0 : w.cell? ⟨g, 0, none⟩ = some (.slice A n c)) (c2 : w.cell? ⟨g, 2, none⟩ = some (.slice (some ⟨lb, 0, none⟩) n c')) (hl : Lines w (.slice A n c) ls) (hli : ls[i]? = some l) (hb : w.cell? ⟨lb, i, none⟩ = some (.bool lg)) (hlen : l.list.length ≤ 400) :
    Calls Tryz.prog 82 #[.pointer (some ⟨g, 0, none⟩), .int .i64 i] w fun e w' => e = .returned (.int .i64 (sizeP l lg)) ∧ Below w.heap.size w w' := by
  obtain ⟨ad, l', v, rfl, hli', ⟨k0, k1, k2, k3, k4, k5, k6⟩, hv⟩ := hl.at_ i hi
  obtain rfl : l = l' := Option.some.inj (hli.symm.trans hli')
  clear hli hli' hl
  obtain ⟨AL, cL, rfl, hr⟩ := hv
  clear hr
  have hg := lt_of_cell c0
  have hlb := lt_of_cell hb
  simp only [] at hg hlb
  have hf := follows_range l.op
  go_enter Tryz.func82, Tryz.ntmps82
  go_wp2_with (first | (go_at_call 83; refine (cond_any _ _).mono ?_; rintro e w' ⟨rfl, rfl⟩) | (go_at_call 112; refine (follows_enc _ _).mono ?_; rintro e w' ⟨rfl, rfl⟩))
  all_goals (go_ret; refine ⟨?_, by go_grown⟩; unfold sizeP; first | (simp_all; done) | (simp_all; simp [follows, wrap64]))

end Go.Proofs.YtlhgfhmdhmgmpaaGreatDoor
