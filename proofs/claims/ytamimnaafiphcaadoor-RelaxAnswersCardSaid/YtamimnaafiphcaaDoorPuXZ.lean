/- Texts joined: PuX PuX4 PuX2. -/
import Derived.Test.YtamimnaafiphcaaDoorRxZ3
import Derived.Test.YtamimnaafiphcaaDoorRxZ4
import Derived.Test.YtamimnaafiphcaaDoorPR1DX
import Derived.Test.YtamimnaafiphcaaDoorPR1DZ
set_option linter.unusedVariables false
set_option linter.unusedSimpArgs false
namespace Go.Proofs.YtamimnaafiphcaaDoor.PR1D
open Go.RowKit Go.Proofs.YtamimnaafiphcaaDoorW.PrintWords Go.Proofs.YtamimnaafiphcaaDoorW.PrintLast Go.Proofs.YtamimnaafiphcaaDoorW.PrintMore

theorem wrap_i64 {x : Int} (h0 : -9223372036854775808 ≤ x) (h1 : x ≤ 9223372036854775807) : wrap64 x = x := by
  unfold wrap64
  omega

theorem branch16_f (n : Int) : switchbackref16_Branch.f n = some (isBr n) := by
  unfold switchbackref16_Branch.f isBr within
  by_cases h : n ≥ 30
  · rw [if_pos h, decide_eq_true (show (30 : Int) ≤ n from h), Bool.true_and]
  · rw [if_neg h, decide_eq_false (show ¬ (30 : Int) ≤ n from h), Bool.false_and]

theorem branch17_f (a b c d e f : Int) (l : List Int) : switchbackref17_Branch.f a b c d e f l = some (brOp a) := by
  unfold switchbackref17_Branch.f brOp
  rw [branch16_f]
  simp only [Option.bind_some]
  cases isBr a <;> simp

theorem rdT (l : List S40) (i : Nat) : rd_T40 l (i : Int) = l.getD i z40 := by unfold rd_T40; simp

theorem getD_get {α : Type} {l : List α} {i : Nat} (d : α) (h : i < l.length) : l.getD i d = l[i] := by rw [List.getD_eq_getElem?_getD, List.getElem?_eq_getElem h]; rfl

theorem assemble_f {l : List S40} (hw : wfS l = true) : relax_Assemble.f l = some ((asm (l.map toLine)).words, (asm (l.map toLine)).kinds, (asm (l.map toLine)).places, ((asm (l.map toLine)).rounds : Int), ((asm (l.map toLine)).line : Int), (asm (l.map toLine)).err) := by
  unfold relax_Assemble.f
  rw [if_pos hw]

def ofLine (x : Line) : S40 := ⟨x.op, x.a, x.b, x.imm, x.n, x.label, x.list⟩

theorem of_lines {w : World} {A : Option Addr} {c : Nat} {ls : List Line} (h : Lines w (.slice A ls.length c) ls) : Kd.C k40 w A (ls.map ofLine).length (ls.map ofLine) := by
  obtain ⟨A', c', e, h1, h2, h3⟩ := h
  injection e with e1 e2 e3
  subst e1
  refine ⟨rfl, by simpa using h2, fun hp => ?_⟩
  obtain ⟨ad, e, hc⟩ := h3 (by simpa using hp)
  refine ⟨ad, e, fun i p hi => ?_⟩
  rw [List.getElem?_map, Option.map_eq_some_iff] at hi
  obtain ⟨x, hx, rfl⟩ := hi
  obtain ⟨cs, e1, e2, e3⟩ := hc i x hx
  exact ⟨cs, e1, e2, e3⟩

theorem wf_of {ls : List Line} (h : ∀ l ∈ ls, (Lit.int .i64 l.label).wf = true ∧ ∀ y ∈ l.list, (Lit.int .i64 y).wf = true) : wfS (ls.map ofLine) = true := by
  unfold wfS
  rw [List.all_eq_true]
  intro x hx
  obtain ⟨l, hl, rfl⟩ := List.mem_map.1 hx
  rw [Bool.and_eq_true]
  exact ⟨(h l hl).1, List.all_eq_true.2 fun y hy => (h l hl).2 y hy⟩

theorem isLabel_range {x : Int} (h : isLabel x = true) : 0 ≤ x ∧ x ≤ 100000 := by
  unfold isLabel within at h
  simp only [Bool.and_eq_true, decide_eq_true_eq] at h
  exact h

end Go.Proofs.YtamimnaafiphcaaDoor.PR1D

namespace Go.Proofs.YtamimnaafiphcaaDoor.PR1D
open Go.RowKit Go.Proofs.YtamimnaafiphcaaDoorW.PrintWords Go.Proofs.YtamimnaafiphcaaDoorW.PrintLast Go.Proofs.YtamimnaafiphcaaDoorW.PrintMore

theorem rdAt (l : List S40) (i : Nat) (h : i < l.length) : rd_T40 l (i : Int) = l[i] := by rw [rdT, getD_get _ h]

theorem lab_in {x : Int} (h : isLabel x = true) : 0 ≤ x ∧ x ≤ 100000 := isLabel_range h

end Go.Proofs.YtamimnaafiphcaaDoor.PR1D

set_option linter.unusedVariables false
set_option linter.unusedSimpArgs false
namespace Go.Proofs.YtamimnaafiphcaaDoor.PR1D
open Go.RowKit Go.Proofs.YtamimnaafiphcaaDoorW.PrintWords Go.Proofs.YtamimnaafiphcaaDoorW.PrintLast Go.Proofs.YtamimnaafiphcaaDoorW.PrintMore

theorem goes_f (a b c d e f : Int) (l : List Int) : switchbackref17_Goes.f a b c d e f l = some (goOp a) := by
  unfold switchbackref17_Goes.f goOp
  rw [branch17_f]
  simp only [Option.bind_some]
  cases brOp a
  · by_cases h : a = 41
    · subst h; rfl
    · have : (a == 41) = false := by simpa using h
      simp [h, this]
  · simp

theorem copy_l0 (l : List S40) (hn : l.length < 1954687338268) (hf : ∀ x ∈ l, x.f6.length < 17592186044416) (d : Nat) : ∀ i : Nat, l.length - i = d → i ≤ l.length → Ev (fun k => switchbacklaw17_Copy.l0 k l l (i : Int)) l := by
  induction d with
  | zero =>
    intro i hd hi
    exact Ev.step (f := fun _ => some l) (fun k => by simp only [switchbacklaw17_Copy.l0]; rw [if_neg (by omega)]) (Ev.now _)
  | succ d ih =>
    intro i hd hi
    have hlt : i < l.length := by omega
    have hx := hf l[i] (List.getElem_mem hlt)
    have e : l.set i (⟨(l.getD i z40).f0, (l.getD i z40).f1, (l.getD i z40).f2, (l.getD i z40).f3, (l.getD i z40).f4, (l.getD i z40).f5, (([] : List Int) ++ (l.getD i z40).f6)⟩ : S40) = l := by
      show l.set i (l.getD i z40) = l
      rw [getD_get _ hlt]
      exact List.set_getElem_self hlt
    refine Ev.step (f := fun k => switchbacklaw17_Copy.l0 k l l ((i + 1 : Nat) : Int)) (fun k => ?_) (ih (i + 1) (by omega) (by omega))
    simp only [switchbacklaw17_Copy.l0]
    rw [if_pos (by omega), if_pos (by omega), if_pos (by omega), rdT, if_pos (by rw [getD_get _ hlt]; simp; omega), wrap_i64 (x := (i : Int) + 1) (by omega) (by omega), Int.toNat_natCast, e]
    rfl

theorem copy_f (l : List S40) (hn : l.length < 1954687338268) (hf : ∀ x ∈ l, x.f6.length < 17592186044416) : Ev (fun k => switchbacklaw17_Copy.f k l) l := by
  unfold switchbacklaw17_Copy.f
  have h1 : ([] : List S40).length + l.length < 1954687338268 := by simp; omega
  simp only [if_pos h1, List.nil_append]
  exact copy_l0 l hn hf l.length 0 (by omega) (by omega)

end Go.Proofs.YtamimnaafiphcaaDoor.PR1D
