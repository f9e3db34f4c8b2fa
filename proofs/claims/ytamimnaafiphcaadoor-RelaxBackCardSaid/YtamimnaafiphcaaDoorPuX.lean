/- What the small printed functions of the assembler's laws come to, plainly. -/
import Derived.Test.YtamimnaafiphcaaDoorRxZ3
import Derived.Test.YtamimnaafiphcaaDoorRxZ4
import Derived.Test.YtamimnaafiphcaaDoorPR1CZ
set_option linter.unusedVariables false
set_option linter.unusedSimpArgs false
namespace Go.Proofs.YtamimnaafiphcaaDoor.PR1C
open Go.RowKit Go.Proofs.YtamimnaafiphcaaDoorW.PrintWords Go.Proofs.YtamimnaafiphcaaDoorW.PrintLast Go.Proofs.YtamimnaafiphcaaDoorW.PrintMore

theorem wrap_i64 {x : Int} (h0 : -9223372036854775808 ≤ x) (h1 : x ≤ 9223372036854775807) : wrap64 x = x := by
  unfold wrap64
  omega

theorem branch16_f (n : Int) : switchbackref16_Branch.f n = some (isBr n) := by
  unfold switchbackref16_Branch.f isBr within
  by_cases h : n ≥ 30
  · rw [if_pos h, decide_eq_true (show (30 : Int) ≤ n from h), Bool.true_and]
  · rw [if_neg h, decide_eq_false (show ¬ (30 : Int) ≤ n from h), Bool.false_and]

theorem branch17_f (a b c d e f : Int) (l : List Int) : switchbackref17_Branch.f a b c d e f l = some (brOp a) := by
  unfold switchbackref17_Branch.f brOp
  rw [branch16_f]
  simp only [Option.bind_some]
  cases isBr a <;> simp

theorem wf64 {x : Int} (h : (Lit.int .i64 x).wf = true) : -9223372036854775808 ≤ x ∧ x ≤ 9223372036854775807 := by
  have : IntKind.i64.min ≤ x ∧ x ≤ IntKind.i64.max := by simpa [Lit.wf] using h
  exact this

theorem wf64_mk {x : Int} (h0 : -9223372036854775808 ≤ x) (h1 : x ≤ 9223372036854775807) : (Lit.int .i64 x).wf = true := by
  have : IntKind.i64.min ≤ x ∧ x ≤ IntKind.i64.max := ⟨h0, h1⟩
  simpa [Lit.wf] using this

theorem live_f : Ev (fun _ => switchbacklaw17_live.f) true := Ev.now _

theorem rdT (l : List S40) (i : Nat) : rd_T40 l (i : Int) = l.getD i z40 := by unfold rd_T40; simp

theorem getD_line (l : List S40) (i : Nat) : toLine (l.getD i z40) = (l.map toLine).getD i default := by
  by_cases h : i < l.length
  · simp [List.getD, h]
  · simp [List.getD, show l.length ≤ i by omega]
    rfl

theorem getD_get {α : Type} {l : List α} {i : Nat} (d : α) (h : i < l.length) : l.getD i d = l[i] := by rw [List.getD_eq_getElem?_getD, List.getElem?_eq_getElem h]; rfl

theorem assemble_f {l : List S40} (hw : wfS l = true) : relax_Assemble.f l = some ((asm (l.map toLine)).words, (asm (l.map toLine)).kinds, (asm (l.map toLine)).places, ((asm (l.map toLine)).rounds : Int), ((asm (l.map toLine)).line : Int), (asm (l.map toLine)).err) := by
  unfold relax_Assemble.f
  rw [if_pos hw]

theorem fits_short {l : List S40} (T : Takes (l.map toLine)) : ∀ x ∈ l, x.f6.length ≤ 400 := fun x hx => fits_list (toLine x) (T.fits _ (List.mem_map.2 ⟨x, hx, rfl⟩)).2.2

def ofLine (x : Line) : S40 := ⟨x.op, x.a, x.b, x.imm, x.n, x.label, x.list⟩

theorem of_lines {w : World} {A : Option Addr} {c : Nat} {ls : List Line} (h : Lines w (.slice A ls.length c) ls) : Kd.C k40 w A (ls.map ofLine).length (ls.map ofLine) := by
  obtain ⟨A', c', e, h1, h2, h3⟩ := h
  injection e with e1 e2 e3
  subst e1
  refine ⟨rfl, by simpa using h2, fun hp => ?_⟩
  obtain ⟨ad, e, hc⟩ := h3 (by simpa using hp)
  refine ⟨ad, e, fun i p hi => ?_⟩
  rw [List.getElem?_map, Option.map_eq_some_iff] at hi
  obtain ⟨x, hx, rfl⟩ := hi
  obtain ⟨cs, e1, e2, e3⟩ := hc i x hx
  exact ⟨cs, e1, e2, e3⟩

theorem wf_of {ls : List Line} (h : ∀ l ∈ ls, (Lit.int .i64 l.label).wf = true ∧ ∀ y ∈ l.list, (Lit.int .i64 y).wf = true) : wfS (ls.map ofLine) = true := by
  unfold wfS
  rw [List.all_eq_true]
  intro x hx
  obtain ⟨l, hl, rfl⟩ := List.mem_map.1 hx
  rw [Bool.and_eq_true]
  exact ⟨(h l hl).1, List.all_eq_true.2 fun y hy => (h l hl).2 y hy⟩

theorem isLabel_range {x : Int} (h : isLabel x = true) : 0 ≤ x ∧ x ≤ 100000 := by
  unfold isLabel within at h
  simp only [Bool.and_eq_true, decide_eq_true_eq] at h
  exact h

end Go.Proofs.YtamimnaafiphcaaDoor.PR1C
