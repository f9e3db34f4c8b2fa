/- relax's assembler: the first line that is wrong. -/
import Derived.Test.YtlhgfhmdhmgmpaaGreatDoorRxC
import Derived.Test.YtlhgfhmdhmgmpaaGreatDoorRxD
namespace Go.Proofs.YtlhgfhmdhmgmpaaGreatDoor
open Go.RowKit Go.Proofs.YtlhgfhmdhmgmpaaGreatDoorW.PrintWords Go.Maps

/-- The first look: line by line, with the labels that stood ahead. -/
def ref1 (seen : List Int) : Nat → List Line → (Nat × Int) ⊕ List Int
  | _, [] => .inr seen
  | i, l :: r =>
    if l.op < 0 ∨ 48 < l.op then .inl (i, 170) else
    if fitsB l = false then .inl (i, 171) else
    if l.op = 0 then (if l.label ∈ seen then .inl (i, 172) else ref1 (l.label :: seen) (i + 1) r) else ref1 seen (i + 1) r

/-- The labels that a line goes to. -/
def targets (l : Line) : List Int := if goOp l.op then [l.label] else l.list

/-- The second look. -/
def ref2 (seen : List Int) : Nat → List Line → Nat × Int
  | _, [] => (0, 0)
  | i, l :: r => if (targets l).all (fun x => decide (x ∈ seen)) then ref2 seen (i + 1) r else (i, 173)

def refusedP (ls : List Line) : Nat × Int :=
  if 60000 < ls.length then (0, 2) else match ref1 [] 0 ls with
    | .inl e => e
    | .inr seen => ref2 seen 0 ls

theorem IMap.store {w : World} {b n : Nat} {f : Int → Option Int} (h : IMap w b n f) (k v : Int) (hk : (Lit.int .i64 k).wf = true) (hv : (Lit.int .i64 v).wf = true) (hn : n < maxLen) :
    ∃ w', (Instr.mapUpdate 74 (.map (some b)) (.int .i64 k) (.int .i64 v)).run Tryz.prog w = .ok () w' ∧ IMap w' b (n + 1) (fun x => if x = k then some v else f x) ∧ w.grownBy w' (some b) := by
  obtain ⟨D, ho, hD⟩ := h
  obtain ⟨w', hrun, ho', hg⟩ := ho.update keyed Tryz.underlying74 hn (keyOf_int_mk Tryz.underlying3 hk) (plainElem_int Tryz.underlying3 hv)
  have hm := ho.isMap
  refine ⟨w', hrun, ⟨_, ho', fun x hx => ?_⟩, hg⟩
  have hkl : WideAt.IsKeyLit (.int .i64 k) := by simp [WideAt.IsKeyLit]
  by_cases e : x = k
  · subst e
    simp only [if_true]
    exact ⟨has_put_same hm hkl _, atKey_put_same hm hkl _ _⟩
  · have hne : (Lit.int .i64 x) ≠ (Lit.int .i64 k) := by simpa using e
    simp only [if_neg e]
    rw [has_put_other hne, atKey_put_other hne]
    exact hD x hx

theorem IMap.drew {w : World} {b n : Nat} {f : Int → Option Int} (h : IMap w b n f) : IMap w.drew b n f := by
  obtain ⟨D, ⟨es, clock, hb, r⟩, hD⟩ := h
  exact ⟨D, ⟨es, clock, hb, r⟩, hD⟩

theorem IMap.grown {w w' : World} {b n : Nat} {f : Int → Option Int} {row : Option Nat} (h : IMap w b n f) (hg : w.grownBy w' row) (hne : some b ≠ row) : IMap w' b n f := by
  obtain ⟨D, ho, hD⟩ := h
  exact ⟨D, ho.kept hg hne, hD⟩

theorem IMap.lt {w : World} {b n : Nat} {f : Int → Option Int} (h : IMap w b n f) : b < w.heap.size := h.choose_spec.1.lt

theorem IMap.congr {w : World} {b n : Nat} {f f' : Int → Option Int} (h : IMap w b n f) (he : ∀ x, f x = f' x) : IMap w b n f' := by
  have : f = f' := funext he
  exact this ▸ h

theorem Laid.grown {w w' : World} {row : Nat} (h : Laid w) (hg : w.grownBy w' (some row)) (hr : row ≠ 1) : Laid w' :=
  ⟨Nat.lt_of_lt_of_le h.1 hg.size, fun i hi => hg.cell (h.2 i hi) (by intro e; injection e with e; exact hr e.symm)⟩

end Go.Proofs.YtlhgfhmdhmgmpaaGreatDoor
