/- Numbers in a slice: kept, read. -/
import Derived.Test.YtlhgfhmdhmgmpaaGreatDoorRl
import Derived.Test.YtlhgfhmdhmgmpaaGreatDoorKu
set_option linter.unusedVariables false
namespace Go.Proofs.YtlhgfhmdhmgmpaaGreatDoor
open Go.RowKit Go.Proofs.YtlhgfhmdhmgmpaaGreatDoorW.PrintWords

theorem Ints.below {w w' : World} {v : Value} {xs : List Int} (h : Ints w v xs) (hb : Below w.heap.size w w') : Ints w' v xs := by
  obtain ⟨A, c, e, hr⟩ := h
  exact ⟨A, c, e, Kd.C_below hr hb⟩

theorem Ints.at_ {w : World} {A : Option Addr} {n c : Nat} {xs : List Int} (h : Ints w (.slice A n c) xs) (i : Nat) (hi : i < n) : ∃ ad x, A = some ad ∧ xs[i]? = some x ∧ w.cell? (ad.add i) = some (.int .i64 x) := by
  obtain ⟨A', c', e, hr⟩ := h
  injection e with e1 e2 e3
  subst e1; subst e2
  obtain ⟨ad, rfl, hc⟩ := hr.2.2 (by omega)
  obtain ⟨cs, hs, hk, hcell⟩ := hc i (xs[i]) (List.getElem?_eq_getElem hi)
  have hk' : cs = [Value.int .i64 xs[i]] := hk
  subst hk'
  have := hcell 0 _ rfl
  exact ⟨ad, xs[i], rfl, List.getElem?_eq_getElem hi, by simpa [kInt, Kd.int, Kd.scalar] using this⟩

end Go.Proofs.YtlhgfhmdhmgmpaaGreatDoor
