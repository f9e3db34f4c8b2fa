/- The lexer's laws, plainly: live; two lists alike, the same. -/
import Derived.Test.YtjoboaaambdpoaaDoorPR01x65
import Derived.Test.YtjoboaaambdpoaaDoorPR01x68
import Derived.Test.YtjoboaaambdpoaaDoorPR01x64
import Derived.Test.YtjoboaaambdpoaaDoorLxG
set_option linter.unusedVariables false
set_option linter.unusedSimpArgs false
namespace Go.Proofs.YtjoboaaambdpoaaDoor.PR01
open Go.RowKit Go.Proofs.YtjoboaaambdpoaaDoorW.PrintWords Go.Proofs.YtjoboaaambdpoaaDoorW.PrintLast Go.Proofs.YtjoboaaambdpoaaDoorW.PrintMore

theorem wrap_i64 {x : Int} (h0 : -9223372036854775808 ≤ x) (h1 : x ≤ 9223372036854775807) : wrap64 x = x := by
  unfold wrap64
  omega

theorem rdT (l : List S29) (i : Nat) : rd_T29 l (i : Int) = l.getD i z29 := by unfold rd_T29; simp

theorem live_f : switchbacklaw01_live.f = some true := rfl

/-- A token but for its place. -/
def strip (x : S29) : Int × List UInt8 × Int × Bool := (x.f0, x.f2.data.toList, x.f3, x.f4)

theorem alike_ev (a b : List S29) (h : a.map strip = b.map strip) (hn : a.length ≤ 1000000) (d : Nat) : ∀ i : Nat, a.length - i = d → i ≤ a.length → Ev (fun k => switchbacklaw01_alike.l0 k a b i) true := by
  have hl : a.length = b.length := by have := congrArg List.length h; simpa using this
  induction d with
  | zero =>
    intro i hd hi
    exact Ev.step (f := fun _ => some true) (fun k => by simp only [switchbacklaw01_alike.l0]; rw [if_neg (by omega)]) (Ev.now _)
  | succ d ih =>
    intro i hd hi
    have hlt : i < a.length := by omega
    have hg := congrArg (fun x => x[i]?) h
    simp only [List.getElem?_map, List.getElem?_eq_getElem hlt, List.getElem?_eq_getElem (show i < b.length by omega), Option.map_some, Option.some.injEq] at hg
    have ga : a.getD i z29 = a[i] := by rw [List.getD_eq_getElem?_getD, List.getElem?_eq_getElem hlt]; rfl
    have gb : b.getD i z29 = b[i]'(by omega) := by rw [List.getD_eq_getElem?_getD, List.getElem?_eq_getElem (show i < b.length by omega)]; rfl
    unfold strip at hg
    simp only [Prod.mk.injEq] at hg
    obtain ⟨g0, g2, g3, g4⟩ := hg
    refine Ev.step (f := fun k => switchbacklaw01_alike.j1 k a b i false) (fun k => ?_) (Ev.step (f := fun k => switchbacklaw01_alike.l0 k a b ((i + 1 : Nat) : Int)) (fun k => ?_) (ih (i + 1) (by omega) (by omega)))
    · simp only [switchbacklaw01_alike.l0]
      rw [if_pos (by omega), if_pos (by omega), if_pos (by omega), rdT, rdT, ga, gb, if_pos g0, ByteArray.toList_eq, ByteArray.toList_eq, if_pos g2, if_pos g3, g4]
      simp
    · simp only [switchbacklaw01_alike.j1]
      rw [if_neg (by decide), wrap_i64 (x := (i : Int) + 1) (by omega) (by omega)]
      rfl

theorem alike_f (a b : List S29) (h : a.map strip = b.map strip) (hn : a.length ≤ 1000000) : Ev (fun k => switchbacklaw01_alike.f k a b) true := by
  have hl : a.length = b.length := by have := congrArg List.length h; simpa using this
  refine Ev.congr (f := fun k => switchbacklaw01_alike.l0 k a b ((0 : Nat) : Int)) (fun k => ?_) (alike_ev a b h hn _ 0 rfl (Nat.zero_le _))
  unfold switchbacklaw01_alike.f
  rw [if_pos (by omega)]
  rfl

theorem same_ev (a : List S29) (hn : a.length ≤ 1000000) (d : Nat) : ∀ i : Nat, a.length - i = d → i ≤ a.length → Ev (fun k => switchbacklaw01_Same.l0 k a a i) true := by
  induction d with
  | zero =>
    intro i hd hi
    exact Ev.step (f := fun _ => some true) (fun k => by simp only [switchbacklaw01_Same.l0]; rw [if_neg (by omega)]) (Ev.now _)
  | succ d ih =>
    intro i hd hi
    refine Ev.step (f := fun k => switchbacklaw01_Same.l0 k a a ((i + 1 : Nat) : Int)) (fun k => ?_) (ih (i + 1) (by omega) (by omega))
    simp only [switchbacklaw01_Same.l0]
    rw [if_pos (by omega), if_pos (by omega), if_pos (by omega), if_neg (by simp), wrap_i64 (x := (i : Int) + 1) (by omega) (by omega)]
    rfl

theorem same_f (a : List S29) (hn : a.length ≤ 1000000) : Ev (fun k => switchbacklaw01_Same.f k a a) true := by
  refine Ev.congr (f := fun k => switchbacklaw01_Same.l0 k a a ((0 : Nat) : Int)) (fun k => ?_) (same_ev a hn _ 0 rfl (Nat.zero_le _))
  unfold switchbacklaw01_Same.f
  rw [if_pos rfl]
  rfl

/-- The lexer's three ways. -/
theorem lexR_cases (src : ByteArray) :
    (20000 < src.size ∧ lexR src = ([], 0, 2)) ∨
    (src.size ≤ 20000 ∧ 3999 < (raw src.data.toList).1.length ∧ lexR src = ([], ((src.size - ((raw src.data.toList).1.getD 3999 (0, ⟨0, [], 0, false⟩)).1 : Nat) : Int), 15)) ∨
    (src.size ≤ 20000 ∧ (raw src.data.toList).1.length ≤ 3999 ∧ (raw src.data.toList).2.1 = 0 ∧ lexR src = ((raw src.data.toList).1.map (tokS src.size) ++ [endS src.size], 0, 0)) ∨
    (src.size ≤ 20000 ∧ (raw src.data.toList).1.length ≤ 3999 ∧ (raw src.data.toList).2.1 ≠ 0 ∧ lexR src = ([], ((src.size - (raw src.data.toList).2.2 : Nat) : Int), (raw src.data.toList).2.1)) := by
  unfold lexR
  by_cases h1 : 20000 < src.size
  · exact .inl ⟨h1, if_pos h1⟩
  rw [if_neg h1]
  by_cases h2 : 3999 < (raw src.data.toList).1.length
  · exact .inr (.inl ⟨by omega, h2, if_pos h2⟩)
  rw [if_neg h2]
  by_cases h3 : (raw src.data.toList).2.1 = 0
  · exact .inr (.inr (.inl ⟨by omega, by omega, h3, if_pos h3⟩))
  · exact .inr (.inr (.inr ⟨by omega, by omega, h3, if_neg h3⟩))

def strip0 (t : T) : Int × List UInt8 × Int × Bool := (t.kind, t.text, t.num, t.uns)

theorem strip_ok (n : Nat) (ts : List (Nat × T)) : (ts.map (tokS n) ++ [endS n]).map strip = ts.map (fun p => strip0 p.2) ++ [(0, [], 0, false)] := by
  rw [List.map_append, List.map_map]
  rfl

end Go.Proofs.YtjoboaaambdpoaaDoor.PR01
