/- The assembler's reference, plainly: what a line makes. -/
import Derived.Test.YtamimnaafiphcaaDoorPuRB
import Derived.Test.YtamimnaafiphcaaDoorPR1Dx38
set_option linter.unusedVariables false
set_option linter.unusedSimpArgs false
namespace Go.Proofs.YtamimnaafiphcaaDoor.PR1D
open Go.RowKit Go.Proofs.YtamimnaafiphcaaDoorW.PrintWords Go.Proofs.YtamimnaafiphcaaDoorW.PrintLast Go.Proofs.YtamimnaafiphcaaDoorW.PrintMore

theorem rd_int (l : List Int) (p : Int) : rd l p = l.getD p.toNat 0 := by unfold rd; rfl

theorem word_f (op a b c : Int) : switchbackref17_word.f op a b c = some (enc op a b c).1 := by
  unfold switchbackref17_word.f switchbackref16_Encode.f
  rw [enc_eq]
  rfl

theorem other_f {op : Int} (h : isBr op = true) : switchbackref17_Other.f op = some (otherOp op) := by
  have hr : 30 ≤ op ∧ op ≤ 39 := by unfold isBr within at h; simpa using h
  have : op = 30 ∨ op = 31 ∨ op = 32 ∨ op = 33 ∨ op = 34 ∨ op = 35 ∨ op = 36 ∨ op = 37 ∨ op = 38 ∨ op = 39 := by omega
  rcases this with rfl | rfl | rfl | rfl | rfl | rfl | rfl | rfl | rfl | rfl <;> rfl

section
variable {l : Line} {lg : Bool} {p : Int} {st : List Int} {F : Int → Option Int} (hfit : fitsB l = true) (hat : At st F) (hF : ∀ x ∈ targets l, ∃ v, F x = some v ∧ 0 ≤ v ∧ v ≤ 100000000)

include hfit hat hF in
theorem made_l0 (h42 : l.op = 42) (w0 : Int) (d : Nat) : ∀ i : Nat, l.list.length - i = d → i ≤ l.list.length →
    Ev (fun k => switchbackref17_made.l0 k st (w0 :: (l.list.length : Int) :: (l.list.take i).map (toW F)) (1 :: 3 :: (l.list.take i).map fun _ => 3) (i : Int) l.op l.a l.b l.imm l.n l.label l.list) (w0 :: (l.list.length : Int) :: l.list.map (toW F), 1 :: 3 :: l.list.map fun _ => 3) := by
  have hal : l.list.all isLabel = true := fits_all hfit
  have h400 := fits_list l hfit
  have hsl := hat.len
  have ht : targets l = l.list := by unfold targets; rw [if_neg (by rw [h42]; decide)]
  induction d with
  | zero =>
    intro i hd hi
    obtain rfl : i = l.list.length := by omega
    rw [List.take_length]
    exact Ev.step (f := fun _ => some (w0 :: (l.list.length : Int) :: l.list.map (toW F), 1 :: 3 :: l.list.map fun _ => 3)) (fun k => by simp only [switchbackref17_made.l0]; rw [if_neg (by omega)]) (Ev.now _)
  | succ d ih =>
    intro i hd hi
    have hlt : i < l.list.length := by omega
    have hx := isLabel_range (List.all_eq_true.1 hal _ (List.getElem_mem hlt))
    obtain ⟨v, hv, v0, v1⟩ := hF l.list[i] (by rw [ht]; exact List.getElem_mem hlt)
    have hrd : rd l.list (i : Int) = l.list[i] := by rw [rd_int, Int.toNat_natCast, getD_get _ hlt]
    have hst := hat.at_ _ hx.1 hx.2
    rw [hv, Option.getD_some] at hst
    have htv : toW F l.list[i] = v := by unfold toW; rw [hv]; rfl
    have ht1 : l.list.take (i + 1) = l.list.take i ++ [l.list[i]] := by rw [List.take_add_one, List.getElem?_eq_getElem hlt]; rfl
    refine Ev.step (fun k => ?_) (ih (i + 1) (by omega) (by omega))
    simp only [switchbackref17_made.l0]
    rw [if_pos (by omega), if_pos (by omega), hrd, if_pos hx.1, if_pos (by omega), if_pos (by simp; omega), if_pos (by simp; omega), hst, wrap_i64 (x := (i : Int) + 1) (by omega) (by omega), Int.emod_eq_of_lt v0 (by omega), ht1, List.map_append, List.map_append]
    simp only [List.map_cons, List.map_nil, htv]
    rfl

include hfit hat hF in
theorem made_f (hp0 : 0 ≤ p) (hp1 : p ≤ 100000000) : Ev (fun k => switchbackref17_made.f k l.op l.a l.b l.imm l.n l.label l.list lg p st) (lineW F lg p l, lineK lg l) := by
  have hsl := hat.len
  unfold switchbackref17_made.f
  rw [branch16_f, goes_f]
  simp only [Option.bind_some]
  -- what it goes tgt
  have start : ∀ R, (∀ tgt, (goOp l.op = true → tgt = toW F l.label ∧ 0 ≤ tgt ∧ tgt ≤ 100000000) → Ev (fun k => switchbackref17_made.j0 k lg p st (isBr l.op) tgt l.op l.a l.b l.imm l.n l.label l.list) R) →
      Ev (fun k => if goOp l.op = true then (if 0 ≤ l.label then (if l.label < (st.length : Int) then switchbackref17_made.j0 k lg p st (isBr l.op) (rd st l.label) l.op l.a l.b l.imm l.n l.label l.list else none) else none) else switchbackref17_made.j0 k lg p st (isBr l.op) 0 l.op l.a l.b l.imm l.n l.label l.list) R := fun R h => by
    by_cases hg : goOp l.op = true
    · have hx := isLabel_range (fits_goes hfit hg).1
      obtain ⟨v, hv, v0, v1⟩ := hF l.label (by unfold targets; rw [if_pos hg]; exact List.mem_singleton.2 rfl)
      have hst := hat.at_ _ hx.1 hx.2
      rw [hv, Option.getD_some] at hst
      simp only [if_pos hg, if_pos hx.1, if_pos (show l.label < (st.length : Int) by omega), hst]
      exact h v fun _ => ⟨by unfold toW; rw [hv]; rfl, v0, v1⟩
    · simp only [if_neg hg]
      exact h 0 fun e => absurd e hg
  refine start _ fun tgt hto => ?_
  by_cases h0 : l.op = 0
  · have e1 : lineW F lg p l = [] := by unfold lineW; rw [if_pos h0]
    have e2 : lineK lg l = [] := by unfold lineK; rw [if_pos h0]
    rw [e1, e2]
    exact Ev.step (f := fun _ => some (([] : List Int), ([] : List Int))) (fun k => by simp only [switchbackref17_made.j0]; rw [if_pos h0]) (Ev.now _)
  obtain ⟨hmay, himm⟩ := fits_may hfit h0
  -- into j1
  have into1 : ∀ R, Ev (fun k => switchbackref17_made.j1 k lg p st (isBr l.op) tgt (isBr l.op && lg) l.op l.a l.b l.imm l.n l.label l.list) R → Ev (fun k => switchbackref17_made.j0 k lg p st (isBr l.op) tgt l.op l.a l.b l.imm l.n l.label l.list) R := fun R h => by
    refine Ev.step (fun k => ?_) h
    simp only [switchbackref17_made.j0]
    rw [if_neg h0]
    cases isBr l.op <;> rfl
  refine into1 _ ?_
  have into2 : (isBr l.op && lg) = false → ∀ R, Ev (fun k => switchbackref17_made.j2 k p st (isBr l.op) tgt (decide (l.op = 40 ∧ lg = true) || l.op == 41) l.op l.a l.b l.imm l.n l.label l.list) R → Ev (fun k => switchbackref17_made.j1 k lg p st (isBr l.op) tgt (isBr l.op && lg) l.op l.a l.b l.imm l.n l.label l.list) R := fun hx R h => by
    rw [hx]
    refine Ev.step (fun k => ?_) h
    simp only [switchbackref17_made.j1]
    rw [if_neg (by decide)]
    by_cases h40 : l.op = 40
    · rw [if_pos h40]
      cases lg
      · rw [if_neg (by decide)]; simp [h40]
      · rw [if_pos rfl]; simp [h40]
    · rw [if_neg h40]; simp [h40]
  have into3 : (decide (l.op = 40 ∧ lg = true) || l.op == 41) = false → ∀ R, Ev (fun k => switchbackref17_made.j3 k p st tgt (brOp l.op) l.op l.a l.b l.imm l.n l.label l.list) R → Ev (fun k => switchbackref17_made.j2 k p st (isBr l.op) tgt (decide (l.op = 40 ∧ lg = true) || l.op == 41) l.op l.a l.b l.imm l.n l.label l.list) R := fun hx R h => by
    rw [hx]
    refine Ev.step (fun k => ?_) h
    simp only [switchbackref17_made.j2]
    rw [if_neg (by decide)]
    unfold brOp
    cases isBr l.op <;> rfl
  have jml : Ev (fun k => switchbackref17_made.j2 k p st (isBr l.op) tgt true l.op l.a l.b l.imm l.n l.label l.list) ([(enc 41 0 0 0).1, tgt % 4294967296], [1, 2]) := by
    refine Ev.step (f := fun _ => some ([(enc 41 0 0 0).1, tgt % 4294967296], [1, 2])) (fun k => ?_) (Ev.now _)
    simp only [switchbackref17_made.j2]
    rw [if_pos trivial, word_f]
    rfl
  by_cases hb : brOp l.op = true
  · have hr := brOp_range hb
    obtain ⟨t1, t2, t3⟩ := hto (brOp_go hb)
    have hmod : tgt % 4294967296 = tgt := Int.emod_eq_of_lt t2 (by omega)
    have h41 : (l.op == 41) = false := by simp; omega
    cases lg with
    | false =>
      have e1 : lineW F false p l = [(enc l.op l.a l.b (toW F l.label - p - 1)).1] := by unfold lineW; rw [if_neg h0, if_pos ⟨hb, rfl⟩]
      have e2 : lineK false l = [1] := by unfold lineK; rw [if_neg h0, if_pos ⟨hb, rfl⟩]
      rw [e1, e2]
      refine into2 (by simp) _ (into3 (by rw [h41]; simp) _ ?_)
      refine Ev.step (f := fun _ => some ([(enc l.op l.a l.b (toW F l.label - p - 1)).1], [1])) (fun k => ?_) (Ev.now _)
      simp only [switchbackref17_made.j3]
      rw [if_pos hb, word_f, wrap_i64 (x := tgt - p) (by omega) (by omega), wrap_i64 (by omega) (by omega), t1]
      rfl
    | true =>
      by_cases hi : isBr l.op = true
      · have e1 : lineW F true p l = [(enc (otherOp l.op) l.a l.b 2).1] ++ [(enc 41 0 0 0).1, toW F l.label] := by unfold lineW; rw [if_neg h0, if_neg (by simp), if_pos hb, if_pos hi]
        have e2 : lineK true l = [1] ++ [1, 2] := by unfold lineK; rw [if_neg h0, if_neg (by simp), if_pos hb, if_pos hi]
        rw [e1, e2, hi]
        refine Ev.step (f := fun _ => some ([(enc (otherOp l.op) l.a l.b 2).1, (enc 41 0 0 0).1, tgt % 4294967296], [1, 1, 2])) (fun k => ?_) (by rw [hmod, t1]; exact Ev.now _)
        simp only [switchbackref17_made.j1]
        rw [if_pos (by decide), other_f hi]
        simp only [Option.bind_some, word_f]
      · have h40 : l.op = 40 := by
          unfold brOp at hb
          rw [Bool.or_eq_true] at hb
          rcases hb with hb | hb
          · exact absurd hb hi
          · simpa using hb
        have e1 : lineW F true p l = [] ++ [(enc 41 0 0 0).1, toW F l.label] := by unfold lineW; rw [if_neg h0, if_neg (by simp), if_pos hb, if_neg hi]
        have e2 : lineK true l = [] ++ [1, 2] := by unfold lineK; rw [if_neg h0, if_neg (by simp), if_pos hb, if_neg hi]
        have hi' : isBr l.op = false := by simpa using hi
        rw [e1, e2]
        refine into2 (by rw [hi']; rfl) _ ?_
        rw [show (decide (l.op = 40 ∧ true = true) || l.op == 41) = true by simp [h40]]
        rw [hmod] at jml
        rw [← t1]
        exact jml
  · have hi : isBr l.op = false := by
      cases h : isBr l.op
      · rfl
      · exact absurd (by unfold brOp; rw [h]; rfl) hb
    have h40 : ¬ l.op = 40 := fun h => hb (by rw [h]; decide)
    have hb2 : ¬ (brOp l.op = true ∧ lg = false) := fun h => hb h.1
    refine into2 (by rw [hi]; rfl) _ ?_
    by_cases h41 : l.op = 41
    · have hg : goOp l.op = true := by rw [h41]; decide
      obtain ⟨t1, t2, t3⟩ := hto hg
      have hmod : tgt % 4294967296 = tgt := Int.emod_eq_of_lt t2 (by omega)
      have ez : l.a = 0 ∧ l.b = 0 ∧ l.imm = 0 := by
        rw [h41] at hmay
        unfold mayR at hmay
        simp only [show ¬ (41 : Int) = 1 by decide, if_false, show ¬ ((41 : Int) = 2 ∨ (41 : Int) = 42 ∨ (41 : Int) = 45 ∨ (41 : Int) = 46 ∨ (41 : Int) = 47) by decide, show ¬ ((41 : Int) = 3 ∨ (41 : Int) = 24 ∨ (41 : Int) = 25 ∨ (41 : Int) = 26 ∨ (41 : Int) = 29) by decide, show ¬ ((41 : Int) = 4 ∨ (41 : Int) = 27 ∨ (41 : Int) = 28) by decide, show ¬ (5 ≤ (41 : Int) ∧ (41 : Int) ≤ 23) by decide, show isBr 41 = false by decide, Bool.false_eq_true, show ¬ (41 : Int) = 40 by decide, true_or, if_true, Bool.and_eq_true, beq_iff_eq] at hmay
        exact ⟨hmay.1.1, hmay.1.2, hmay.2⟩
      have e1 : lineW F lg p l = [(enc 41 0 0 0).1, toW F l.label] := by unfold lineW; rw [if_neg h0, if_neg hb2, if_neg hb, if_pos hg, h41, ez.1, ez.2.1, ez.2.2]
      have e2 : lineK lg l = [1, 2] := by unfold lineK; rw [if_neg h0, if_neg hb2, if_neg hb, if_pos hg]
      rw [e1, e2, show (decide (l.op = 40 ∧ lg = true) || l.op == 41) = true by simp [h41]]
      rw [hmod] at jml
      rw [← t1]
      exact jml
    · refine into3 (by simp [h40, h41]) _ ?_
      have hbf : brOp l.op = false := by simpa using hb
      rw [hbf]
      by_cases h43 : l.op = 43
      · have hg : goOp l.op = true := by rw [h43]; decide
        obtain ⟨t1, t2, t3⟩ := hto hg
        have hmod : tgt % 4294967296 = tgt := Int.emod_eq_of_lt t2 (by omega)
        have ez : l.a = 0 ∧ l.b = 0 ∧ l.imm = 0 := by
          rw [h43] at hmay
          unfold mayR at hmay
          simp only [show ¬ (43 : Int) = 1 by decide, if_false, show ¬ ((43 : Int) = 2 ∨ (43 : Int) = 42 ∨ (43 : Int) = 45 ∨ (43 : Int) = 46 ∨ (43 : Int) = 47) by decide, show ¬ ((43 : Int) = 3 ∨ (43 : Int) = 24 ∨ (43 : Int) = 25 ∨ (43 : Int) = 26 ∨ (43 : Int) = 29) by decide, show ¬ ((43 : Int) = 4 ∨ (43 : Int) = 27 ∨ (43 : Int) = 28) by decide, show ¬ (5 ≤ (43 : Int) ∧ (43 : Int) ≤ 23) by decide, show isBr 43 = false by decide, Bool.false_eq_true, show ¬ (43 : Int) = 40 by decide, true_or, or_true, if_true, Bool.and_eq_true, beq_iff_eq] at hmay
          exact ⟨hmay.1.1, hmay.1.2, hmay.2⟩
        have e1 : lineW F lg p l = [(enc 43 0 0 0).1, toW F l.label] := by unfold lineW; rw [if_neg h0, if_neg hb2, if_neg hb, if_pos hg, h43, ez.1, ez.2.1, ez.2.2]
        have e2 : lineK lg l = [1, 2] := by unfold lineK; rw [if_neg h0, if_neg hb2, if_neg hb, if_pos hg]
        rw [e1, e2]
        refine Ev.step (f := fun _ => some ([(enc 43 0 0 0).1, tgt % 4294967296], [1, 2])) (fun k => ?_) (by rw [hmod, t1]; exact Ev.now _)
        simp only [switchbackref17_made.j3]
        rw [if_neg (by decide), if_pos h43, word_f]
        rfl
      · have hg : ¬ goOp l.op = true := fun h => by
          have h2 := goOp_in h
          have h3 : ¬ (30 ≤ l.op ∧ l.op ≤ 39) := fun hh => by rw [show isBr l.op = true from within_t hh.1 hh.2] at hi; cases hi
          omega
        by_cases h2 : l.op = 2
        · have ez : l.b = 0 ∧ l.imm = 0 := by
            rw [h2] at hmay
            unfold mayR at hmay
            simp only [show ¬ (2 : Int) = 1 by decide, if_false, true_or, if_true, Bool.and_eq_true, beq_iff_eq] at hmay
            exact ⟨hmay.1.2, hmay.2⟩
          have e1 : lineW F lg p l = [(enc 2 l.a 0 0).1, l.n] := by unfold lineW; rw [if_neg h0, if_neg hb2, if_neg hb, if_neg hg, if_pos h2, h2, ez.1, ez.2]
          have e2 : lineK lg l = [1, 2] := by unfold lineK; rw [if_neg h0, if_neg hb2, if_neg hb, if_neg hg, if_pos h2]
          rw [e1, e2]
          refine Ev.step (f := fun _ => some ([(enc 2 l.a 0 0).1, l.n], [1, 2])) (fun k => ?_) (Ev.now _)
          simp only [switchbackref17_made.j3]
          rw [if_neg (by decide), if_neg h43, if_pos h2, word_f]
          rfl
        · by_cases h42 : l.op = 42
          · have h400 := fits_list l hfit
            have ez : l.b = 0 ∧ l.imm = 0 := by
              rw [h42] at hmay
              unfold mayR at hmay
              simp only [show ¬ (42 : Int) = 1 by decide, if_false, true_or, or_true, if_true, Bool.and_eq_true, beq_iff_eq] at hmay
              exact ⟨hmay.1.2, hmay.2⟩
            have e1 : lineW F lg p l = (enc 42 l.a 0 0).1 :: (l.list.length : Int) :: l.list.map (toW F) := by unfold lineW; rw [if_neg h0, if_neg hb2, if_neg hb, if_neg hg, if_neg h2, if_pos h42, h42, ez.1, ez.2]
            have e2 : lineK lg l = 1 :: 3 :: l.list.map fun _ => 3 := by unfold lineK; rw [if_neg h0, if_neg hb2, if_neg hb, if_neg hg, if_neg h2, if_pos h42]
            rw [e1, e2]
            refine Ev.step (fun k => ?_) (made_l0 hfit hat hF h42 (enc 42 l.a 0 0).1 l.list.length 0 (by omega) (by omega))
            simp only [switchbackref17_made.j3]
            rw [if_neg (by decide), if_neg h43, if_neg h2, if_pos h42, word_f]
            simp only [Option.bind_some]
            rw [Int.emod_eq_of_lt (by omega) (by omega)]
            rfl
          · have e1 : lineW F lg p l = [(enc l.op l.a l.b l.imm).1] := by unfold lineW; rw [if_neg h0, if_neg hb2, if_neg hb, if_neg hg, if_neg h2, if_neg h42]
            have e2 : lineK lg l = [1] := by unfold lineK; rw [if_neg h0, if_neg hb2, if_neg hb, if_neg hg, if_neg h2, if_neg h42]
            rw [e1, e2]
            refine Ev.step (f := fun _ => some ([(enc l.op l.a l.b l.imm).1], [1])) (fun k => ?_) (Ev.now _)
            simp only [switchbackref17_made.j3]
            rw [if_neg (by decide), if_neg h43, if_neg h2, if_neg h42, word_f]
            rfl
end

end Go.Proofs.YtamimnaafiphcaaDoor.PR1D
