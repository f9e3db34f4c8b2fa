/- What the small printed functions of the assembler's laws come to, plainly: Goes, Copy. -/
import Derived.Test.YtamimnaafiphcaaDoorPuX
import Derived.Test.YtamimnaafiphcaaDoorPR1Cx35
import Derived.Test.YtamimnaafiphcaaDoorPR1Cx26
set_option linter.unusedVariables false
set_option linter.unusedSimpArgs false
namespace Go.Proofs.YtamimnaafiphcaaDoor.PR1C
open Go.RowKit Go.Proofs.YtamimnaafiphcaaDoorW.PrintWords Go.Proofs.YtamimnaafiphcaaDoorW.PrintLast Go.Proofs.YtamimnaafiphcaaDoorW.PrintMore

theorem goes_f (a b c d e f : Int) (l : List Int) : switchbackref17_Goes.f a b c d e f l = some (goOp a) := by
  unfold switchbackref17_Goes.f goOp
  rw [branch17_f]
  simp only [Option.bind_some]
  cases brOp a
  · by_cases h : a = 41
    · subst h; rfl
    · have : (a == 41) = false := by simpa using h
      simp [h, this]
  · simp

theorem copy_l0 (l : List S40) (hn : l.length < 1954687338268) (hf : ∀ x ∈ l, x.f6.length < 17592186044416) (d : Nat) : ∀ i : Nat, l.length - i = d → i ≤ l.length → Ev (fun k => switchbacklaw17_Copy.l0 k l l (i : Int)) l := by
  induction d with
  | zero =>
    intro i hd hi
    exact Ev.step (f := fun _ => some l) (fun k => by simp only [switchbacklaw17_Copy.l0]; rw [if_neg (by omega)]) (Ev.now _)
  | succ d ih =>
    intro i hd hi
    have hlt : i < l.length := by omega
    have hx := hf l[i] (List.getElem_mem hlt)
    have e : l.set i (⟨(l.getD i z40).f0, (l.getD i z40).f1, (l.getD i z40).f2, (l.getD i z40).f3, (l.getD i z40).f4, (l.getD i z40).f5, (([] : List Int) ++ (l.getD i z40).f6)⟩ : S40) = l := by
      show l.set i (l.getD i z40) = l
      rw [getD_get _ hlt]
      exact List.set_getElem_self hlt
    refine Ev.step (f := fun k => switchbacklaw17_Copy.l0 k l l ((i + 1 : Nat) : Int)) (fun k => ?_) (ih (i + 1) (by omega) (by omega))
    simp only [switchbacklaw17_Copy.l0]
    rw [if_pos (by omega), if_pos (by omega), if_pos (by omega), rdT, if_pos (by rw [getD_get _ hlt]; simp; omega), wrap_i64 (x := (i : Int) + 1) (by omega) (by omega), Int.toNat_natCast, e]
    rfl

theorem copy_f (l : List S40) (hn : l.length < 1954687338268) (hf : ∀ x ∈ l, x.f6.length < 17592186044416) : Ev (fun k => switchbacklaw17_Copy.f k l) l := by
  unfold switchbacklaw17_Copy.f
  have h1 : ([] : List S40).length + l.length < 1954687338268 := by simp; omega
  simp only [if_pos h1, List.nil_append]
  exact copy_l0 l hn hf l.length 0 (by omega) (by omega)

end Go.Proofs.YtamimnaafiphcaaDoor.PR1C
