/- The assembler's reference, plainly: what is refused. -/
import Derived.Test.YtamimnaafiphcaaDoorPuY
import Derived.Test.YtamimnaafiphcaaDoorPuXZ
import Derived.Test.YtamimnaafiphcaaDoorRxX
import Derived.Test.YtamimnaafiphcaaDoorPR1Dx33
set_option linter.unusedVariables false
set_option linter.unusedSimpArgs false
namespace Go.Proofs.YtamimnaafiphcaaDoor.PR1D
open Go.RowKit Go.Proofs.YtamimnaafiphcaaDoorW.PrintWords Go.Proofs.YtamimnaafiphcaaDoorW.PrintLast Go.Proofs.YtamimnaafiphcaaDoorW.PrintMore

structure St (st : List Bool) (seen : List Int) : Prop where
  len : st.length = 100001
  at_ : ∀ x : Int, 0 ≤ x → x ≤ 100000 → rdOf false st x = decide (x ∈ seen)

theorem St.set {st : List Bool} {seen : List Int} (h : St st seen) {y : Int} (hy : 0 ≤ y ∧ y ≤ 100000) : St (st.set y.toNat true) (y :: seen) where
  len := by rw [List.length_set]; exact h.len
  at_ := fun x h0 h1 => by
    have hl := h.len
    by_cases e : x = y
    · subst e
      unfold rdOf
      simp [List.getD, show x.toNat < st.length by omega]
    · have hx := h.at_ x h0 h1
      unfold rdOf at hx ⊢
      rw [List.getD_eq_getElem?_getD, List.getElem?_set_ne (by omega), ← List.getD_eq_getElem?_getD, hx]
      simp [e]

section
variable (l : List S40) (hn : l.length ≤ 60000)
include hn

theorem ref_l2 (st : List Bool) (seen : List Int) (hst : St st seen) (i : Nat) (hi : i < l.length) (hf : fitsB (toLine l[i]) = true) (R : Int × Int) (hR : Ev (fun k => switchbackref17_refused.l1 k l st ((i + 1 : Nat) : Int)) R) :
    ∀ (d k : Nat), l[i].f6.length - k = d → k ≤ l[i].f6.length → Ev (fun n => switchbackref17_refused.l2 n l st (i : Int) (k : Int)) (if (l[i].f6.drop k).all (fun x => decide (x ∈ seen)) = true then R else ((i : Int), 173)) := by
  have hal : l[i].f6.all isLabel = true := fits_all hf
  have h400 : l[i].f6.length ≤ 400 := fits_list (toLine l[i]) hf
  intro d
  induction d with
  | zero =>
    intro k hd hk
    obtain rfl : k = l[i].f6.length := by omega
    rw [List.drop_length, List.all_nil, if_pos rfl]
    refine Ev.step (f := fun n => switchbackref17_refused.l1 n l st ((i + 1 : Nat) : Int)) (fun n => ?_) hR
    simp only [switchbackref17_refused.l2]
    rw [if_pos (by omega), if_pos (by omega), rdAt l i hi, if_neg (by omega), wrap_i64 (x := (i : Int) + 1) (by omega) (by omega)]
    rfl
  | succ d ih =>
    intro k hd hk
    have hlt : k < l[i].f6.length := by omega
    have hx := lab_in (List.all_eq_true.1 hal _ (List.getElem_mem hlt))
    have hrd : rd l[i].f6 (k : Int) = l[i].f6[k] := by unfold rd; simp [hlt]
    have hm := hst.at_ _ hx.1 hx.2
    have hl := hst.len
    rw [List.drop_eq_getElem_cons hlt, List.all_cons]
    by_cases hin : l[i].f6[k] ∈ seen
    · rw [decide_eq_true hin] at hm ⊢
      rw [Bool.true_and]
      refine Ev.step (f := fun n => switchbackref17_refused.l2 n l st (i : Int) ((k + 1 : Nat) : Int)) (fun n => ?_) (ih (k + 1) (by omega) (by omega))
      simp only [switchbackref17_refused.l2]
      rw [if_pos (by omega), if_pos (by omega), rdAt l i hi, if_pos (by omega), if_pos (by omega), hrd, if_pos hx.1, if_pos (by omega), if_pos hm, wrap_i64 (x := (k : Int) + 1) (by omega) (by omega)]
      rfl
    · rw [decide_eq_false hin] at hm ⊢
      rw [Bool.false_and, if_neg (by decide)]
      refine Ev.step (f := fun _ => some ((i : Int), 173)) (fun n => ?_) (Ev.now _)
      simp only [switchbackref17_refused.l2]
      rw [if_pos (by omega), if_pos (by omega), rdAt l i hi, if_pos (by omega), if_pos (by omega), hrd, if_pos hx.1, if_pos (by omega), if_neg (by rw [hm]; decide)]

theorem ref_l1 (st : List Bool) (seen : List Int) (hst : St st seen) (hf : ∀ i (h : i < l.length), fitsB (toLine l[i]) = true) :
    ∀ (d i : Nat), l.length - i = d → i ≤ l.length → Ev (fun k => switchbackref17_refused.l1 k l st (i : Int)) (((ref2 seen i ((l.map toLine).drop i)).1 : Int), (ref2 seen i ((l.map toLine).drop i)).2) := by
  intro d
  induction d with
  | zero =>
    intro i hd hi
    obtain rfl : i = l.length := by omega
    rw [List.drop_of_length_le (by rw [List.length_map]; exact Nat.le_refl _)]
    refine Ev.step (f := fun _ => some (0, 0)) (fun n => ?_) (Ev.now _)
    simp only [switchbackref17_refused.l1]
    rw [if_neg (by omega)]
  | succ d ih =>
    intro i hd hi
    have hlt : i < l.length := by omega
    have hfi := hf i hlt
    have hs := hst.len
    rw [List.drop_eq_getElem_cons (by rw [List.length_map]; exact hlt), List.getElem_map]
    have e2 : ref2 seen i (toLine l[i] :: (l.map toLine).drop (i + 1)) = if (targets (toLine l[i])).all (fun x => decide (x ∈ seen)) then ref2 seen (i + 1) ((l.map toLine).drop (i + 1)) else (i, 173) := rfl
    rw [e2]
    have h2 := ref_l2 l hn st seen hst i hlt hfi _ (ih (i + 1) (by omega) (by omega)) l[i].f6.length 0 (by omega) (by omega)
    rw [List.drop_zero] at h2
    have j3 : Ev (fun k => switchbackref17_refused.j3 k l st (i : Int) false) (if l[i].f6.all (fun x => decide (x ∈ seen)) = true then (((ref2 seen (i + 1) ((l.map toLine).drop (i + 1))).1 : Int), (ref2 seen (i + 1) ((l.map toLine).drop (i + 1))).2) else ((i : Int), 173)) := by
      refine Ev.step (f := fun n => switchbackref17_refused.l2 n l st (i : Int) ((0 : Nat) : Int)) (fun n => ?_) h2
      simp only [switchbackref17_refused.j3]
      rw [if_neg (by decide)]
      rfl
    by_cases hg : goOp l[i].f0 = true
    · obtain ⟨hlab, hnil⟩ := fits_goes hfi hg
      replace hlab : isLabel l[i].f5 = true := hlab
      replace hnil : l[i].f6 = [] := hnil
      have hx := lab_in hlab
      have hm := hst.at_ _ hx.1 hx.2
      have ht : targets (toLine l[i]) = [l[i].f5] := by unfold targets; rw [if_pos (show goOp (toLine l[i]).op = true from hg)]; rfl
      rw [ht, List.all_cons, List.all_nil, Bool.and_true]
      rw [hnil, List.all_nil, if_pos rfl] at j3
      by_cases hin : l[i].f5 ∈ seen
      · rw [decide_eq_true hin] at hm ⊢
        rw [if_pos rfl]
        refine Ev.step (fun n => ?_) j3
        simp only [switchbackref17_refused.l1]
        rw [if_pos (by omega), if_pos (by omega), rdAt l i hlt, goes_f]
        simp only [Option.bind_some]
        rw [if_pos hg, if_pos hx.1, if_pos (by omega), hm]
        rfl
      · rw [decide_eq_false hin] at hm ⊢
        rw [if_neg (by decide)]
        refine Ev.step (f := fun n => switchbackref17_refused.j3 n l st (i : Int) true) (fun n => ?_) (Ev.step (f := fun _ => some ((i : Int), 173)) (fun n => by simp only [switchbackref17_refused.j3]; rfl) (Ev.now _))
        simp only [switchbackref17_refused.l1]
        rw [if_pos (by omega), if_pos (by omega), rdAt l i hlt, goes_f]
        simp only [Option.bind_some]
        rw [if_pos hg, if_pos hx.1, if_pos (by omega), hm]
        rfl
    · have ht : targets (toLine l[i]) = l[i].f6 := by unfold targets; rw [if_neg (show ¬ goOp (toLine l[i]).op = true from hg)]; rfl
      rw [ht]
      have e3 : ∀ (b : Bool) (x y : Nat × Int), (((if b = true then x else y).1 : Int), (if b = true then x else y).2) = if b = true then ((x.1 : Int), x.2) else ((y.1 : Int), y.2) := fun b x y => by cases b <;> rfl
      rw [e3]
      refine Ev.step (fun n => ?_) j3
      simp only [switchbackref17_refused.l1]
      rw [if_pos (by omega), if_pos (by omega), rdAt l i hlt, goes_f]
      simp only [Option.bind_some]
      rw [if_neg hg]

theorem ref_l0 : ∀ (d i : Nat) (st : List Bool) (seen : List Int), l.length - i = d → i ≤ l.length → St st seen → (∀ j (h : j < l.length), j < i → fitsB (toLine l[j]) = true) →
    Ev (fun k => switchbackref17_refused.l0 k l st (i : Int)) (match ref1 seen i ((l.map toLine).drop i) with | .inl e => ((e.1 : Int), e.2) | .inr s => (((ref2 s 0 (l.map toLine)).1 : Int), (ref2 s 0 (l.map toLine)).2)) := by
  intro d
  induction d with
  | zero =>
    intro i st seen hd hi hst hf
    obtain rfl : i = l.length := by omega
    rw [List.drop_of_length_le (by rw [List.length_map]; exact Nat.le_refl _)]
    show Ev _ (((ref2 seen 0 (l.map toLine)).1 : Int), (ref2 seen 0 (l.map toLine)).2)
    have h1 := ref_l1 l hn st seen hst (fun j h => hf j h h) l.length 0 (by omega) (by omega)
    rw [List.drop_zero] at h1
    refine Ev.step (f := fun k => switchbackref17_refused.l1 k l st ((0 : Nat) : Int)) (fun n => ?_) h1
    simp only [switchbackref17_refused.l0]
    rw [if_neg (by omega)]
    rfl
  | succ d ih =>
    intro i st seen hd hi hst hf
    have hlt : i < l.length := by omega
    have hs := hst.len
    rw [List.drop_eq_getElem_cons (by rw [List.length_map]; exact hlt), List.getElem_map, ref1]
    show Ev _ (match (if l[i].f0 < 0 ∨ 48 < l[i].f0 then Sum.inl (i, 170) else if fitsB (toLine l[i]) = false then Sum.inl (i, 171) else if l[i].f0 = 0 then (if l[i].f5 ∈ seen then Sum.inl (i, 172) else ref1 (l[i].f5 :: seen) (i + 1) ((l.map toLine).drop (i + 1))) else ref1 seen (i + 1) ((l.map toLine).drop (i + 1))) with | .inl e => ((e.1 : Int), e.2) | .inr s => (((ref2 s 0 (l.map toLine)).1 : Int), (ref2 s 0 (l.map toLine)).2))
    have j1t : Ev (fun k => switchbackref17_refused.j1 k l st (i : Int) true) ((i : Int), 170) :=
      Ev.step (f := fun _ => some ((i : Int), 170)) (fun n => by simp only [switchbackref17_refused.j1]; rfl) (Ev.now _)
    have step0 : ∀ k, switchbackref17_refused.l0 (k + 1) l st (i : Int) = switchbackref17_refused.j1 k l st (i : Int) (decide (l[i].f0 < 0 ∨ 48 < l[i].f0)) := fun k => by
      simp only [switchbackref17_refused.l0]
      rw [if_pos (by omega), if_pos (by omega), rdAt l i hlt]
      by_cases ha : l[i].f0 < 0
      · rw [if_pos ha, decide_eq_true (Or.inl ha)]
      · rw [if_neg ha]
        congr 1
        simp [ha]
    by_cases hop : l[i].f0 < 0 ∨ 48 < l[i].f0
    · rw [if_pos hop]
      refine Ev.step (fun k => ?_) j1t
      rw [step0, decide_eq_true hop]
    · rw [if_neg hop]
      have nx : ∀ (R : Int × Int), Ev (fun k => switchbackref17_refused.j1 k l st (i : Int) false) R → Ev (fun k => switchbackref17_refused.l0 k l st (i : Int)) R := fun R h => Ev.step (fun k => by rw [step0, decide_eq_false hop]) h
      refine nx _ ?_
      have base : ∀ k, switchbackref17_refused.j1 (k + 1) l st (i : Int) false = if fitsB (toLine l[i]) = true then (if l[i].f0 = 0 then (if 0 ≤ l[i].f5 then (if l[i].f5 < (st.length : Int) then (if rdOf false st l[i].f5 = true then some ((i : Int), 172) else switchbackref17_refused.l0 k l (st.set l[i].f5.toNat true) ((i + 1 : Nat) : Int)) else none) else none) else switchbackref17_refused.l0 k l st ((i + 1 : Nat) : Int)) else some ((i : Int), 171) := fun k => by
        simp only [switchbackref17_refused.j1]
        rw [if_neg (by decide), if_pos (by omega), if_pos (by omega), rdAt l i hlt]
        simp only [switchbackref17_May.f, Option.bind_some]
        rw [wrap_i64 (x := (i : Int) + 1) (by omega) (by omega), mayL_fits]
        rfl
      by_cases hfi : fitsB (toLine l[i]) = true
      · have hf' : ∀ j (h : j < l.length), j < i + 1 → fitsB (toLine l[j]) = true := fun j h hj => by
          rcases Nat.lt_or_ge j i with h' | h'
          · exact hf j h h'
          · obtain rfl : j = i := by omega
            exact hfi
        rw [if_neg (by rw [hfi]; decide)]
        by_cases h0 : l[i].f0 = 0
        · obtain ⟨hlab, _⟩ := fits_at hfi h0
          replace hlab : isLabel l[i].f5 = true := hlab
          have hx := lab_in hlab
          have hm := hst.at_ _ hx.1 hx.2
          rw [if_pos h0]
          by_cases hin : l[i].f5 ∈ seen
          · rw [if_pos hin]
            rw [decide_eq_true hin] at hm
            refine Ev.step (f := fun _ => some ((i : Int), 172)) (fun k => ?_) (Ev.now _)
            rw [base, if_pos hfi, if_pos h0, if_pos hx.1, if_pos (by omega), if_pos hm]
          · rw [if_neg hin]
            rw [decide_eq_false hin] at hm
            refine Ev.step (f := fun k => switchbackref17_refused.l0 k l (st.set l[i].f5.toNat true) ((i + 1 : Nat) : Int)) (fun k => ?_) (ih (i + 1) _ _ (by omega) (by omega) (hst.set hx) hf')
            rw [base, if_pos hfi, if_pos h0, if_pos hx.1, if_pos (by omega), if_neg (by rw [hm]; decide)]
        · rw [if_neg h0]
          refine Ev.step (f := fun k => switchbackref17_refused.l0 k l st ((i + 1 : Nat) : Int)) (fun k => ?_) (ih (i + 1) _ _ (by omega) (by omega) hst hf')
          rw [base, if_pos hfi, if_neg h0]
      · have hff : fitsB (toLine l[i]) = false := by simpa using hfi
        rw [if_pos hff]
        refine Ev.step (f := fun _ => some ((i : Int), 171)) (fun k => ?_) (Ev.now _)
        rw [base, if_neg hfi]
end

theorem refused_f (l : List S40) : Ev (fun k => switchbackref17_refused.f k l) (((refusedP (l.map toLine)).1 : Int), (refusedP (l.map toLine)).2) := by
  unfold switchbackref17_refused.f refusedP
  rw [List.length_map]
  by_cases hn : (l.length : Int) > 60000
  · simp only [if_pos hn, if_pos (show 60000 < l.length by omega)]
    exact Ev.now _
  · simp only [if_neg hn, if_neg (show ¬ 60000 < l.length by omega)]
    have h0 := ref_l0 l (by omega) l.length 0 (List.replicate 100001 false) [] rfl (Nat.zero_le _) ⟨by rw [List.length_replicate], fun x h0 h1 => (getD_rep _ _).trans (by simp)⟩ (fun j h hj => absurd hj (by omega))
    rw [List.drop_zero] at h0
    have hc : (100001 : Nat) ≤ 281474976710656 := by decide
    simp only [if_pos hc]
    cases e : ref1 [] 0 (l.map toLine) with
    | inl e' => rw [e] at h0; exact h0
    | inr s => rw [e] at h0; exact h0

end Go.Proofs.YtamimnaafiphcaaDoor.PR1D
