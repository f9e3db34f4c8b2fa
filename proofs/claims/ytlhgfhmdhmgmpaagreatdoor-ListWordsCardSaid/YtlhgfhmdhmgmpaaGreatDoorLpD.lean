/- Plainly: a list that is written is read. -/
import Derived.Test.YtlhgfhmdhmgmpaaGreatDoorLpC
set_option linter.unusedVariables false
set_option linter.unusedSimpArgs false
namespace Go.Proofs.YtlhgfhmdhmgmpaaGreatDoor
open Go.RowKit

def chkP (op : Int) : Bool :=
  (!(partsP op).contains (.reg 1) || decide ((bd (formOf op)).1 = (0, 11))) && (!(partsP op).contains (.reg 2) || decide ((bd (formOf op)).2.1 = (0, 11))) && (!(partsP op).contains (.reg 3) || decide ((bd (formOf op)).2.2 = (0, 11)))
  && ((partsP op).contains (.reg 1) || decide ((bd (formOf op)).1 = (0, 0))) && ((partsP op).contains (.reg 2) || decide ((bd (formOf op)).2.1 = (0, 0))) && ((partsP op).contains (.reg 3) || (partsP op).contains .num || brJ op || decide ((bd (formOf op)).2.2 = (0, 0)))

theorem chk_all : (List.range 48).all (fun k => chkP ((k : Int) + 1)) = true := by kernel_rfl

theorem chk_op (op : Int) (h1 : 1 ≤ op) (h2 : op ≤ 48) : chkP op = true := by
  have := List.all_eq_true.1 chk_all (op.toNat - 1) (List.mem_range.2 (by omega))
  rw [show ((op.toNat - 1 : Nat) : Int) + 1 = op by omega] at this
  exact this

structure Ends (l : Line) : Prop where
  okA : okA (formOf l.op) l.a l.b l.imm = true
  br : brJ l.op = true → l.imm = 0
  lab : 0 ≤ l.label ∧ l.label ≤ 100000
  ls : ∀ n ∈ l.list, 0 ≤ n ∧ n ≤ 100000
  n : hN l (partsP l.op) = l.n
  lb : hLb l (partsP l.op) = l.label
  len : hSl l (partsP l.op) = l.list.length
  pl : l.list.length = 0 ↔ l.op ≠ 42

theorem may_ends {l : Line} (h : mayP l = true) (h0 : l.op ≠ 0) : Ends l := by
  unfold mayP at h
  rw [if_neg h0] at h
  unfold fitsP endP inLab at h
  simp only [Bool.and_eq_true, decide_eq_true_eq, Bool.or_eq_true, Bool.not_eq_true', List.all_eq_true, bne_iff_ne] at h
  obtain ⟨⟨⟨⟨⟨a1, a2⟩, a3⟩, a4⟩, a5⟩, ⟨⟨b1, b2⟩, b3⟩, b4⟩ := h
  refine ⟨?_, fun e => ?_, b3, b4, a1, a2, a3, ?_⟩
  · unfold enc at b1
    split at b1
    · exact absurd b1 (by decide)
    · split at b1
      · assumption
      · exact absurd b1 (by decide)
  · rcases b2 with b2 | b2
    · rw [e] at b2; cases b2
    · exact b2
  · by_cases e1 : l.list.length = 0 <;> by_cases e2 : l.op = 42 <;> simp [e1, e2] at a4 ⊢

theorem ends_fields {l : Line} (h : Ends l) (h1 : 1 ≤ l.op) (h2 : l.op ≤ 48) :
    (∀ o, Part.reg o ∈ partsP l.op → 0 ≤ fieldI l o ∧ fieldI l o ≤ 11) ∧ (Part.reg 1 ∉ partsP l.op → l.a = 0) ∧ (Part.reg 2 ∉ partsP l.op → l.b = 0) ∧ (Part.reg 3 ∉ partsP l.op → Part.num ∉ partsP l.op → l.imm = 0) := by
  have hc := chk_op l.op h1 h2
  have hk := h.okA
  have hbr := h.br
  unfold chkP at hc
  unfold okA within at hk
  simp only [Bool.and_eq_true, Bool.or_eq_true, Bool.not_eq_true', decide_eq_true_eq, List.contains_iff_mem, ← Bool.not_eq_true] at hc hk
  obtain ⟨⟨⟨⟨⟨c1, c2⟩, c3⟩, c4⟩, c5⟩, c6⟩ := hc
  obtain ⟨⟨k1, k2⟩, k3⟩ := hk
  refine ⟨fun o ho => ?_, fun hn => ?_, fun hn => ?_, fun hn hm => ?_⟩
  · rcases partsP_reg _ _ ho with rfl | rfl | rfl
    · rcases c1 with c1 | c1
      · exact absurd ho c1
      · rw [c1] at k1; exact k1
    · rcases c2 with c1 | c1
      · exact absurd ho c1
      · rw [c1] at k2; exact k2
    · rcases c3 with c1 | c1
      · exact absurd ho c1
      · rw [c1] at k3; exact k3
  · rcases c4 with c | c
    · exact absurd c hn
    · rw [c] at k1; simp only at k1; omega
  · rcases c5 with c | c
    · exact absurd c hn
    · rw [c] at k2; simp only at k2; omega
  · rcases c6 with ((c | c) | c) | c
    · exact absurd c hn
    · exact absurd c hm
    · exact hbr c
    · rw [c] at k3; simp only at k3; omega

theorem fit_all {l : Line} (hwf : WfL l) (h : Ends l) (h1 : 1 ≤ l.op) (h2 : l.op ≤ 48) : ∀ p ∈ partsP l.op, FitP l p := by
  intro p hp
  cases p with
  | reg o => exact (ends_fields h h1 h2).1 o hp
  | num => exact ⟨hwf.i0, hwf.i1⟩
  | word => exact ⟨hwf.n0, hwf.n1⟩
  | place => exact h.lab
  | places =>
    have h42 := partsP_places _ hp
    refine ⟨fun e => ?_, h.ls⟩
    have := h.pl.1 (by rw [e]; rfl)
    exact this h42

theorem line_ext {l m : Line} (h1 : l.op = m.op) (h2 : l.a = m.a) (h3 : l.b = m.b) (h4 : l.imm = m.imm) (h5 : l.n = m.n) (h6 : l.label = m.label) (h7 : l.list = m.list) : l = m := by
  cases l; cases m; simp only at *; subst h1 h2 h3 h4 h5 h6 h7; rfl

theorem parts_cases (op : Int) : partsP op = [.reg 1, .num] ∨ partsP op = [.reg 1, .word] ∨ partsP op = [.reg 1, .places] ∨ partsP op = [.reg 1] ∨ partsP op = [.reg 1, .reg 2, .num] ∨ partsP op = [.reg 1, .reg 2, .reg 3] ∨ partsP op = [.reg 1, .reg 2, .place] ∨ partsP op = [.place] ∨ partsP op = [] ∨ partsP op = [.num] ∨ partsP op = [.reg 1, .reg 2] := by
  unfold partsP
  repeat' split
  all_goals simp

theorem fold_back {l : Line} (h : Ends l) (h1 : 1 ≤ l.op) (h2 : l.op ≤ 48) : (partsP l.op).foldl (putF l) (newL l.op) = l := by
  obtain ⟨_, z1, z2, z3⟩ := ends_fields h h1 h2
  have hn := h.n
  have hlb := h.lb
  have hlen := h.len
  have hc := parts_cases l.op
  clear h h1 h2
  unfold hN at hn
  unfold hLb at hlb
  unfold hSl at hlen
  generalize partsP l.op = ps at *
  have he : ∀ {α : Type} (xs : List α), 0 = xs.length → [] = xs := fun xs h => (List.length_eq_zero_iff.1 h.symm).symm
  rcases hc with rfl | rfl | rfl | rfl | rfl | rfl | rfl | rfl | rfl | rfl | rfl
  all_goals
    simp only [List.mem_cons, List.not_mem_nil, Part.reg.injEq, reduceCtorEq, or_false, false_or, or_true, true_or, not_true, not_false_eq_true, if_true, if_false, forall_const, false_implies, Nat.reduceEqDiff] at z1 z2 z3 hn hlb hlen
    simp only [List.foldl, putF, setF, fieldI, newL]
    refine line_ext ?_ ?_ ?_ ?_ ?_ ?_ ?_ <;> first | rfl | exact z1.symm | exact z2.symm | exact z3.symm | exact hn | exact hlb | exact he _ hlen

end Go.Proofs.YtlhgfhmdhmgmpaaGreatDoor
