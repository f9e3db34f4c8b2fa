/- The law RelaxBack, plainly: a line's words are read back as that line; its contract. -/
import Derived.Test.YtamimnaafiphcaaDoorPuRBk
import Derived.Test.YtamimnaafiphcaaDoorPR1Cx34
set_option linter.unusedVariables false
set_option linter.unusedSimpArgs false
namespace Go.Proofs.YtamimnaafiphcaaDoor.PR1C
open Go.RowKit Go.Proofs.YtamimnaafiphcaaDoorW.PrintWords Go.Proofs.YtamimnaafiphcaaDoorW.PrintLast Go.Proofs.YtamimnaafiphcaaDoorW.PrintMore

theorem and4 {a b c d x y z u : Int} (h1 : a = x) (h2 : b = y) (h3 : c = z) (h4 : d = u) : (a == x && (b == y && (c == z && (d == u)))) = true := by subst h1; subst h2; subst h3; subst h4; simp

section
variable (l : List S40) (hw : wfS l = true) (T : Takes (l.map toLine)) (long : List Bool) (W K : List Int) (R : Int)

include hw T in
theorem line_tab (i : Nat) (hi : i < l.length) (p : Int) (hp1 : p ≤ 100000000) (hfit : fitsB (toLine l[i]) = true) (h42 : l[i].f0 = 42) (br : Bool) (tgt : Int) (goes : Bool)
    (hS : Stands W K p (lineW (fl (l.map toLine) long) (long.getD i false) p (toLine l[i])) (lineK (long.getD i false) (toLine l[i]))) (e1 : lineW (fl (l.map toLine) long) (long.getD i false) p (toLine l[i]) = word 42 l[i].f1 l[i].f2 l[i].f3 :: (l[i].f6.length : Int) :: l[i].f6.map (toW (fl (l.map toLine) long)))
    (e2 : lineK (long.getD i false) (toLine l[i]) = 1 :: 3 :: l[i].f6.map fun _ => 3) (d : Nat) : ∀ j : Nat, l[i].f6.length - j = d → j ≤ l[i].f6.length →
    Ev (fun k => lineG.l0 k l p true (j : Int) W K ((List.range l.length).map (pl (l.map toLine) long)) R l[i].f0 l[i].f1 l[i].f2 l[i].f3 l[i].f4 l[i].f5 l[i].f6 l[i].f0 l[i].f1 l[i].f2 l[i].f3 l[i].f0 l[i].f1 l[i].f2 l[i].f3) (2 + (l[i].f6.length : Int), true) := by
  have h400 : l[i].f6.length ≤ 400 := fits_list (toLine l[i]) hfit
  have p0 := hS.pos
  have ht : targets (toLine l[i]) = l[i].f6 := by unfold targets; rw [if_neg (by show ¬ goOp l[i].f0 = true; rw [h42]; decide)]; rfl
  induction d with
  | zero =>
    intro j hd hj
    obtain rfl : j = l[i].f6.length := by omega
    have hj3 : Ev (fun k => lineG.j3 k l p true (l[i].f6.length : Int) false W K ((List.range l.length).map (pl (l.map toLine) long)) R l[i].f0 l[i].f1 l[i].f2 l[i].f3 l[i].f4 l[i].f5 l[i].f6 l[i].f0 l[i].f1 l[i].f2 l[i].f3 l[i].f0 l[i].f1 l[i].f2 l[i].f3) (2 + (l[i].f6.length : Int), true) := by
      refine Ev.step (f := fun _ => some (2 + (l[i].f6.length : Int), true)) (fun k => ?_) (Ev.now _)
      simp only [lineG.j3]
      rw [if_neg (by decide), if_pos (and4 rfl rfl rfl rfl), wrap_i64 (x := 2 + (l[i].f6.length : Int)) (by omega) (by omega)]
    refine Ev.step (fun k => ?_) hj3
    simp only [lineG.l0]
    rw [if_neg (by omega)]
  | succ d ih =>
    intro j hd hj
    have hlt : j < l[i].f6.length := by omega
    obtain ⟨v, hv, ⟨v0, v1⟩, hat⟩ := at_f l hw T long l[i].f6[j] (T.goal _ (List.mem_map.2 ⟨l[i], List.getElem_mem hi, rfl⟩) _ (by rw [ht]; exact List.getElem_mem hlt)) W K R
    have hlen : (lineW (fl (l.map toLine) long) (long.getD i false) p (toLine l[i])).length = l[i].f6.length + 2 := by rw [e1]; simp
    have hda := hS.data (P := (List.range l.length).map (pl (l.map toLine) long)) (R := R) (j + 2) (by omega) (kind := 3) (n := v) v0 (by omega) (by
      rw [e1]
      show (l[i].f6.map (toW (fl (l.map toLine) long))).getD j 0 = v
      rw [getD_get _ (by rw [List.length_map]; exact hlt), List.getElem_map]
      unfold toW
      rw [hv]
      rfl) (by
      rw [e2]
      show (l[i].f6.map fun _ => (3 : Int)).getD j 0 = 3
      rw [getD_get _ (by rw [List.length_map]; exact hlt), List.getElem_map])
    have hrd : rd l[i].f6 (j : Int) = l[i].f6[j] := by rw [rd_int, Int.toNat_natCast, getD_get _ hlt]
    have hpj : wrap64 (wrap64 (p + 2) + (j : Int)) = p + ((j + 2 : Nat) : Int) := by rw [wrap_i64 (x := p + 2) (by omega) (by omega), wrap_i64 (by omega) (by omega)]; omega
    have hj3 : Ev (fun k => lineG.j3 k l p true (j : Int) true W K ((List.range l.length).map (pl (l.map toLine) long)) R l[i].f0 l[i].f1 l[i].f2 l[i].f3 l[i].f4 l[i].f5 l[i].f6 l[i].f0 l[i].f1 l[i].f2 l[i].f3 l[i].f0 l[i].f1 l[i].f2 l[i].f3) (2 + (l[i].f6.length : Int), true) := by
      refine Ev.step (f := fun k => (switchbacklaw17_at.f k l W K ((List.range l.length).map (pl (l.map toLine) long)) R l[i].f6[j]).bind fun t => (switchbacklaw17_data.f W K ((List.range l.length).map (pl (l.map toLine) long)) R (p + ((j + 2 : Nat) : Int)) 3 t).bind fun t2 => lineG.l0 k l p t2 ((j + 1 : Nat) : Int) W K ((List.range l.length).map (pl (l.map toLine) long)) R l[i].f0 l[i].f1 l[i].f2 l[i].f3 l[i].f4 l[i].f5 l[i].f6 l[i].f0 l[i].f1 l[i].f2 l[i].f3 l[i].f0 l[i].f1 l[i].f2 l[i].f3) (fun k => ?_) (Ev.bind hat ?_)
      · simp only [lineG.j3]
        rw [if_pos trivial, if_pos (by omega), if_pos (by omega), hrd, hpj, wrap_i64 (x := (j : Int) + 1) (by omega) (by omega)]
        rfl
      · rw [hda]
        exact ih (j + 1) (by omega) (by omega)
    refine Ev.step (fun k => ?_) hj3
    simp only [lineG.l0]
    rw [if_pos (by omega)]

include hw T in
theorem line_g (i : Nat) (hi : i < l.length) (p : Int) (hp1 : p ≤ 100000000) (hnear : brOp l[i].f0 = true → long.getD i false = false → near (toW (fl (l.map toLine) long) l[i].f5 - p - 1) = true)
    (hS : Stands W K p (lineW (fl (l.map toLine) long) (long.getD i false) p (toLine l[i])) (lineK (long.getD i false) (toLine l[i]))) :
    Ev (fun k => lineG.f k l W K ((List.range l.length).map (pl (l.map toLine) long)) R (i : Int) p) (sizeP (toLine l[i]) (long.getD i false), true) := by
  have hfit := (T.fits _ (List.mem_map.2 ⟨l[i], List.getElem_mem hi, rfl⟩)).2.2
  have hsize := line_size (fl (l.map toLine) long) (long.getD i false) p (toLine l[i])
  have p0 := hS.pos
  unfold lineG.f
  simp only [if_pos (show (0 : Int) ≤ (i : Int) by omega), if_pos (show (i : Int) < (l.length : Int) by omega), rdAt l i hi]
  by_cases h0 : l[i].f0 = 0
  · simp only [if_pos h0]
    have e : sizeP (toLine l[i]) (long.getD i false) = 0 := by unfold sizeP; rw [if_pos (show (toLine l[i]).op = 0 from h0)]
    rw [e]
    exact Ev.now _
  simp only [if_neg h0]
  have h0' : (toLine l[i]).op ≠ 0 := h0
  obtain ⟨hmay, himm⟩ := fits_may hfit h0'
  replace hmay : mayR l[i].f0 l[i].f1 l[i].f2 l[i].f3 = true := hmay
  replace himm : goOp l[i].f0 = true → l[i].f3 = 0 := himm
  have hP : ∀ (o a b c : Int), Ev (fun k => switchbacklaw17_code.f k W K ((List.range l.length).map (pl (l.map toLine) long)) R p) (o, a, b, c, true) → (∀ tgt, (goOp l[i].f0 = true → tgt = toW (fl (l.map toLine) long) l[i].f5 ∧ 0 ≤ tgt ∧ tgt ≤ 100000000) →
      Ev (fun k => lineG.j0 k l p (brOp l[i].f0) tgt (goOp l[i].f0) W K ((List.range l.length).map (pl (l.map toLine) long)) R l[i].f0 l[i].f1 l[i].f2 l[i].f3 l[i].f4 l[i].f5 l[i].f6 o a b c l[i].f0 l[i].f1 l[i].f2 l[i].f3) (sizeP (toLine l[i]) (long.getD i false), true)) →
      Ev (fun k => (switchbacklaw17_code.f k W K ((List.range l.length).map (pl (l.map toLine) long)) R p).bind fun bt => (if bt.2.2.2.2 = true then ((switchbackref17_Branch.f l[i].f0 l[i].f1 l[i].f2 l[i].f3 l[i].f4 l[i].f5 l[i].f6).bind fun t209 => ((switchbackref17_Goes.f l[i].f0 l[i].f1 l[i].f2 l[i].f3 l[i].f4 l[i].f5 l[i].f6).bind fun t210 => (if t210 = true then ((switchbacklaw17_at.f k l W K ((List.range l.length).map (pl (l.map toLine) long)) R l[i].f5).bind fun t211 => lineG.j0 k l p t209 t211 t210 W K ((List.range l.length).map (pl (l.map toLine) long)) R l[i].f0 l[i].f1 l[i].f2 l[i].f3 l[i].f4 l[i].f5 l[i].f6 bt.1 bt.2.1 bt.2.2.1 bt.2.2.2.1 l[i].f0 l[i].f1 l[i].f2 l[i].f3) else lineG.j0 k l p t209 (-1) t210 W K ((List.range l.length).map (pl (l.map toLine) long)) R l[i].f0 l[i].f1 l[i].f2 l[i].f3 l[i].f4 l[i].f5 l[i].f6 bt.1 bt.2.1 bt.2.2.1 bt.2.2.2.1 l[i].f0 l[i].f1 l[i].f2 l[i].f3))) else some (0, false))) (sizeP (toLine l[i]) (long.getD i false), true) := fun o a b c hc hj => by
    refine Ev.bind hc ?_
    simp only [if_true, branch17_f, goes_f, Option.bind_some]
    by_cases hg : goOp l[i].f0 = true
    · simp only [if_pos hg]
      obtain ⟨v, hv, ⟨v0, v1⟩, hat⟩ := at_f l hw T long l[i].f5 (T.goal _ (List.mem_map.2 ⟨l[i], List.getElem_mem hi, rfl⟩) _ (by unfold targets; rw [if_pos (show goOp (toLine l[i]).op = true from hg)]; exact List.mem_singleton.2 rfl)) W K R
      refine Ev.bind hat ?_
      have := hj v fun _ => ⟨by unfold toW; rw [hv]; rfl, v0, v1⟩
      exact this
    · simp only [if_neg hg]
      exact hj (-1) fun h => absurd h hg
  -- which form the line has
  by_cases hb : brOp l[i].f0 = true
  · have hr := brOp_range hb
    have hg := brOp_go hb
    have h3 := himm hg
    cases hlg : long.getD i false with
    | false =>
      have hn := hnear hb hlg
      have hm2 : mayR l[i].f0 l[i].f1 l[i].f2 (toW (fl (l.map toLine) long) l[i].f5 - p - 1) = true := may_near (by rw [← h3]; exact hmay) hb hn
      have e1 : lineW (fl (l.map toLine) long) (long.getD i false) p (toLine l[i]) = [word l[i].f0 l[i].f1 l[i].f2 (toW (fl (l.map toLine) long) l[i].f5 - p - 1)] := by
        unfold lineW
        rw [if_neg h0', if_pos ⟨hb, hlg⟩]
        have := enc_of hm2
        show [(enc l[i].f0 l[i].f1 l[i].f2 (toW (fl (l.map toLine) long) l[i].f5 - p - 1)).1] = _
        rw [this]
      have e2 : lineK (long.getD i false) (toLine l[i]) = [1] := by unfold lineK; rw [if_neg h0', if_pos ⟨hb, hlg⟩]
      have hc := hS.code (P := (List.range l.length).map (pl (l.map toLine) long)) (R := R) 0 (by rw [e1]; exact Nat.one_pos) hm2 (by rw [e1]; rfl) (by rw [e2]; rfl)
      rw [e1] at hsize
      rw [hlg] at hsize hP
      have hs1 : sizeP (toLine l[i]) false = 1 := hsize.symm
      rw [show p + ((0 : Nat) : Int) = p by omega] at hc
      rw [hs1] at hP ⊢
      refine hP _ _ _ _ hc fun tgt htg => ?_
      obtain ⟨t1, t2, t3⟩ := htg hg
      rw [hb, ← t1]
      rw [← t1] at hn
      have hj1 : Ev (fun k => lineG.j1 k l p true tgt (goOp l[i].f0) true W K ((List.range l.length).map (pl (l.map toLine) long)) R l[i].f0 l[i].f1 l[i].f2 l[i].f3 l[i].f4 l[i].f5 l[i].f6 l[i].f0 l[i].f1 l[i].f2 (tgt - p - 1) l[i].f0 l[i].f1 l[i].f2 l[i].f3) (1, true) := by
        refine Ev.step (f := fun _ => some (1, true)) (fun k => ?_) (Ev.now _)
        simp only [lineG.j1]
        rw [if_pos trivial, if_pos (and4 rfl rfl rfl (by rw [wrap_i64 (x := tgt - p) (by omega) (by omega), wrap_i64 (by omega) (by omega)])), near_f, hn]
        rfl
      refine Ev.step (fun k => ?_) hj1
      simp only [lineG.j0]
      rw [if_pos trivial]
      simp
    | true =>
      by_cases hi2 : isBr l[i].f0 = true
      · have hmo := may_other (show mayR l[i].f0 l[i].f1 l[i].f2 2 = true from may_near (by rw [← h3]; exact hmay) hb (by decide)) hi2
        have e1 : lineW (fl (l.map toLine) long) (long.getD i false) p (toLine l[i]) = [word (otherOp l[i].f0) l[i].f1 l[i].f2 2, word 41 0 0 0, toW (fl (l.map toLine) long) l[i].f5] := by
          unfold lineW
          rw [if_neg h0', if_neg (by rw [hlg]; simp), if_pos (show brOp (toLine l[i]).op = true from hb), if_pos (show isBr (toLine l[i]).op = true from hi2)]
          have := enc_of hmo
          show [(enc (otherOp l[i].f0) l[i].f1 l[i].f2 2).1] ++ [(enc 41 0 0 0).1, toW (fl (l.map toLine) long) l[i].f5] = _
          rw [this, enc41]
          rfl
        have e2 : lineK (long.getD i false) (toLine l[i]) = [1, 1, 2] := by unfold lineK; rw [if_neg h0', if_neg (by rw [hlg]; simp), if_pos (show brOp (toLine l[i]).op = true from hb), if_pos (show isBr (toLine l[i]).op = true from hi2)]; rfl
        have hc := hS.code (P := (List.range l.length).map (pl (l.map toLine) long)) (R := R) 0 (by rw [e1]; simp) hmo (by rw [e1]; rfl) (by rw [e2]; rfl)
        have hc1 := hS.code (P := (List.range l.length).map (pl (l.map toLine) long)) (R := R) 1 (by rw [e1]; simp) may41 (by rw [e1]; rfl) (by rw [e2]; rfl)
        rw [hlg] at hP
        rw [e1, hlg] at hsize
        have hs1 : sizeP (toLine l[i]) true = 3 := hsize.symm
        rw [show p + ((0 : Nat) : Int) = p by omega] at hc
        rw [hs1] at hP ⊢
        refine hP _ _ _ _ hc fun tgt htg => ?_
        obtain ⟨t1, t2, t3⟩ := htg hg
        have hda := hS.data (P := (List.range l.length).map (pl (l.map toLine) long)) (R := R) 2 (by rw [e1]; simp) (kind := 2) (n := tgt) t2 (by omega) (by rw [e1, t1]; rfl) (by rw [e2]; rfl)
        rw [hb]
        have hj1 : Ev (fun k => lineG.j1 k l p true tgt (goOp l[i].f0) false W K ((List.range l.length).map (pl (l.map toLine) long)) R l[i].f0 l[i].f1 l[i].f2 l[i].f3 l[i].f4 l[i].f5 l[i].f6 (otherOp l[i].f0) l[i].f1 l[i].f2 2 l[i].f0 l[i].f1 l[i].f2 l[i].f3) (3, true) := by
          refine Ev.step (f := fun k => (switchbacklaw17_code.f k W K ((List.range l.length).map (pl (l.map toLine) long)) R (p + ((1 : Nat) : Int))).bind fun bt214 => ((switchbackref17_Other.f l[i].f0).bind fun t220 => (if (otherOp l[i].f0 == t220 && (l[i].f1 == l[i].f1 && (l[i].f2 == l[i].f2 && ((2 : Int) == 2)))) = true then (if bt214.2.2.2.2 = true then (if (bt214.1 == 41 && (bt214.2.1 == 0 && (bt214.2.2.1 == 0 && (bt214.2.2.2.1 == 0)))) = true then ((switchbacklaw17_data.f W K ((List.range l.length).map (pl (l.map toLine) long)) R (wrap64 (p + 2)) 2 tgt).bind fun t221 => (some (3, t221))) else (some (3, false))) else (some (3, false))) else (some (3, false))))) (fun k => ?_) (Ev.bind hc1 ?_)
          · simp only [lineG.j1]
            rw [if_neg (by decide), if_neg (show ¬ l[i].f0 = 40 from fun h => by rw [h] at hi2; exact absurd hi2 (by decide)), if_pos trivial, wrap_i64 (x := p + 1) (by omega) (by omega)]
            rfl
          · rw [other_f hi2]
            simp only [Option.bind_some]
            rw [if_pos (and4 rfl rfl rfl rfl)]
            simp only [if_true]
            rw [if_pos (and4 rfl rfl rfl rfl), wrap_i64 (x := p + 2) (by omega) (by omega), show p + 2 = p + ((2 : Nat) : Int) by omega, hda]
            exact Ev.now _
        refine Ev.step (fun k => ?_) hj1
        simp only [lineG.j0]
        rw [if_pos trivial]
        congr 1
        simp [other_ne]
      · have h40 : l[i].f0 = 40 := by
          unfold brOp at hb
          rw [Bool.or_eq_true] at hb
          rcases hb with hb | hb
          · exact absurd hb hi2
          · simpa using hb
        have e1 : lineW (fl (l.map toLine) long) (long.getD i false) p (toLine l[i]) = [word 41 0 0 0, toW (fl (l.map toLine) long) l[i].f5] := by
          unfold lineW
          rw [if_neg h0', if_neg (by rw [hlg]; simp), if_pos (show brOp (toLine l[i]).op = true from hb), if_neg (show ¬ isBr (toLine l[i]).op = true from hi2), enc41]
          rfl
        have e2 : lineK (long.getD i false) (toLine l[i]) = [1, 2] := by unfold lineK; rw [if_neg h0', if_neg (by rw [hlg]; simp), if_pos (show brOp (toLine l[i]).op = true from hb), if_neg (show ¬ isBr (toLine l[i]).op = true from hi2)]; rfl
        have hc := hS.code (P := (List.range l.length).map (pl (l.map toLine) long)) (R := R) 0 (by rw [e1]; simp) may41 (by rw [e1]; rfl) (by rw [e2]; rfl)
        rw [hlg] at hP
        rw [e1, hlg] at hsize
        have hs1 : sizeP (toLine l[i]) true = 2 := hsize.symm
        rw [show p + ((0 : Nat) : Int) = p by omega] at hc
        rw [hs1] at hP ⊢
        refine hP _ _ _ _ hc fun tgt htg => ?_
        obtain ⟨t1, t2, t3⟩ := htg hg
        have hda := hS.data (P := (List.range l.length).map (pl (l.map toLine) long)) (R := R) 1 (by rw [e1]; simp) (kind := 2) (n := tgt) t2 (by omega) (by rw [e1, t1]; rfl) (by rw [e2]; rfl)
        rw [hb]
        have hj1 : Ev (fun k => lineG.j1 k l p true tgt (goOp l[i].f0) false W K ((List.range l.length).map (pl (l.map toLine) long)) R l[i].f0 l[i].f1 l[i].f2 l[i].f3 l[i].f4 l[i].f5 l[i].f6 41 0 0 0 l[i].f0 l[i].f1 l[i].f2 l[i].f3) (2, true) := by
          refine Ev.step (f := fun _ => some (2, true)) (fun k => ?_) (Ev.now _)
          simp only [lineG.j1]
          rw [if_neg (by decide), if_pos h40, if_pos (and4 rfl rfl rfl rfl), wrap_i64 (x := p + 1) (by omega) (by omega), show p + 1 = p + ((1 : Nat) : Int) by omega, hda]
          rfl
        refine Ev.step (fun k => ?_) hj1
        simp only [lineG.j0]
        rw [if_pos trivial]
        congr 1
        simp [h40]
  · have hbf : brOp l[i].f0 = false := by simpa using hb
    have hb2 : ¬ (brOp (toLine l[i]).op = true ∧ long.getD i false = false) := fun h => hb h.1
    have hb' : ¬ brOp (toLine l[i]).op = true := hb
    have hn40 : ¬ l[i].f0 = 40 := fun h => hb (by rw [h]; decide)
    have into1 : ∀ tgt goes, Ev (fun k => lineG.j1 k l p false tgt goes false W K ((List.range l.length).map (pl (l.map toLine) long)) R l[i].f0 l[i].f1 l[i].f2 l[i].f3 l[i].f4 l[i].f5 l[i].f6 l[i].f0 l[i].f1 l[i].f2 l[i].f3 l[i].f0 l[i].f1 l[i].f2 l[i].f3) (sizeP (toLine l[i]) (long.getD i false), true) →
        Ev (fun k => lineG.j0 k l p false tgt goes W K ((List.range l.length).map (pl (l.map toLine) long)) R l[i].f0 l[i].f1 l[i].f2 l[i].f3 l[i].f4 l[i].f5 l[i].f6 l[i].f0 l[i].f1 l[i].f2 l[i].f3 l[i].f0 l[i].f1 l[i].f2 l[i].f3) (sizeP (toLine l[i]) (long.getD i false), true) := fun tgt goes h => by
      refine Ev.step (fun k => ?_) h
      simp only [lineG.j0]
      rw [if_neg (by decide)]
    have henc : (enc (toLine l[i]).op (toLine l[i]).a (toLine l[i]).b (toLine l[i]).imm).1 = word l[i].f0 l[i].f1 l[i].f2 l[i].f3 := by
      have := enc_of hmay
      show (enc l[i].f0 l[i].f1 l[i].f2 l[i].f3).1 = _
      rw [this]
    by_cases hg : goOp l[i].f0 = true
    · have e1 : lineW (fl (l.map toLine) long) (long.getD i false) p (toLine l[i]) = [word l[i].f0 l[i].f1 l[i].f2 l[i].f3, toW (fl (l.map toLine) long) l[i].f5] := by
        unfold lineW
        rw [if_neg h0', if_neg hb2, if_neg hb', if_pos (show goOp (toLine l[i]).op = true from hg), henc]
        rfl
      have e2 : lineK (long.getD i false) (toLine l[i]) = [1, 2] := by unfold lineK; rw [if_neg h0', if_neg hb2, if_neg hb', if_pos (show goOp (toLine l[i]).op = true from hg)]
      have hc := hS.code (P := (List.range l.length).map (pl (l.map toLine) long)) (R := R) 0 (by rw [e1]; simp) hmay (by rw [e1]; rfl) (by rw [e2]; rfl)
      rw [e1] at hsize
      have hs1 : sizeP (toLine l[i]) (long.getD i false) = 2 := hsize.symm
      rw [show p + ((0 : Nat) : Int) = p by omega] at hc
      refine hP _ _ _ _ hc fun tgt htg => ?_
      obtain ⟨t1, t2, t3⟩ := htg hg
      have hda := hS.data (P := (List.range l.length).map (pl (l.map toLine) long)) (R := R) 1 (by rw [e1]; simp) (kind := 2) (n := tgt) t2 (by omega) (by rw [e1, t1]; rfl) (by rw [e2]; rfl)
      rw [hbf]
      refine into1 tgt _ ?_
      rw [hs1]
      refine Ev.step (f := fun _ => some (2, true)) (fun k => ?_) (Ev.now _)
      simp only [lineG.j1]
      rw [if_neg (by decide), if_neg hn40, if_neg (by decide), if_pos hg, if_pos (and4 rfl rfl rfl rfl), wrap_i64 (x := p + 1) (by omega) (by omega), show p + 1 = p + ((1 : Nat) : Int) by omega, hda]
      rfl
    · have hg' : ¬ goOp (toLine l[i]).op = true := hg
      have hgf : goOp l[i].f0 = false := by simpa using hg
      by_cases h2 : l[i].f0 = 2
      · have e1 : lineW (fl (l.map toLine) long) (long.getD i false) p (toLine l[i]) = [word l[i].f0 l[i].f1 l[i].f2 l[i].f3, l[i].f4] := by
          unfold lineW
          rw [if_neg h0', if_neg hb2, if_neg hb', if_neg hg', if_pos (show (toLine l[i]).op = 2 from h2), henc]
          rfl
        have e2 : lineK (long.getD i false) (toLine l[i]) = [1, 2] := by unfold lineK; rw [if_neg h0', if_neg hb2, if_neg hb', if_neg hg', if_pos (show (toLine l[i]).op = 2 from h2)]
        have hc := hS.code (P := (List.range l.length).map (pl (l.map toLine) long)) (R := R) 0 (by rw [e1]; simp) hmay (by rw [e1]; rfl) (by rw [e2]; rfl)
        have hroom := hS.room
        have hlens := hS.lens
        have hw1 := hS.w 1 (by rw [e1]; simp)
        have hk1 := hS.k 1 (by rw [e1]; simp)
        rw [e1] at hsize hroom hw1
        rw [e2] at hk1
        replace hw1 : W.getD (p.toNat + 1) 0 = l[i].f4 := hw1
        replace hk1 : K.getD (p.toNat + 1) 0 = 2 := hk1
        replace hroom : p + 2 ≤ (W.length : Int) := hroom
        have hs1 : sizeP (toLine l[i]) (long.getD i false) = 2 := hsize.symm
        have et : (p + 1).toNat = p.toNat + 1 := by omega
        rw [show p + ((0 : Nat) : Int) = p by omega] at hc
        refine hP _ _ _ _ hc fun tgt htg => ?_
        rw [hbf]
        refine into1 tgt _ ?_
        rw [hs1]
        refine Ev.step (f := fun _ => some (2, true)) (fun k => ?_) (Ev.now _)
        simp only [lineG.j1]
        rw [if_neg (by decide), if_neg hn40, if_neg (by decide), if_neg hg, if_pos h2, if_pos (and4 rfl rfl rfl rfl), wrap_i64 (x := p + 1) (by omega) (by omega), if_pos (by omega), if_pos (by omega), if_pos (by omega), rd_int, rd_int, et, hk1, hw1, if_pos rfl]
        simp
      · by_cases h42 : l[i].f0 = 42
        · have e1 : lineW (fl (l.map toLine) long) (long.getD i false) p (toLine l[i]) = word l[i].f0 l[i].f1 l[i].f2 l[i].f3 :: (l[i].f6.length : Int) :: l[i].f6.map (toW (fl (l.map toLine) long)) := by
            unfold lineW
            rw [if_neg h0', if_neg hb2, if_neg hb', if_neg hg', if_neg (show ¬ (toLine l[i]).op = 2 from h2), if_pos (show (toLine l[i]).op = 42 from h42), henc]
            rfl
          have e2 : lineK (long.getD i false) (toLine l[i]) = 1 :: 3 :: l[i].f6.map fun _ => 3 := by unfold lineK; rw [if_neg h0', if_neg hb2, if_neg hb', if_neg hg', if_neg (show ¬ (toLine l[i]).op = 2 from h2), if_pos (show (toLine l[i]).op = 42 from h42)]; rfl
          have h400 : l[i].f6.length ≤ 400 := fits_list (toLine l[i]) hfit
          have hlen : (lineW (fl (l.map toLine) long) (long.getD i false) p (toLine l[i])).length = l[i].f6.length + 2 := by rw [e1]; simp
          have hc := hS.code (P := (List.range l.length).map (pl (l.map toLine) long)) (R := R) 0 (by omega) hmay (by rw [e1]; rfl) (by rw [e2]; rfl)
          have hda := hS.data (P := (List.range l.length).map (pl (l.map toLine) long)) (R := R) 1 (by omega) (kind := 3) (n := (l[i].f6.length : Int)) (by omega) (by omega) (by rw [e1]; rfl) (by rw [e2]; rfl)
          have hs1 : sizeP (toLine l[i]) (long.getD i false) = 2 + (l[i].f6.length : Int) := by rw [← hsize, hlen]; omega
          rw [show p + ((0 : Nat) : Int) = p by omega] at hc
          refine hP _ _ _ _ hc fun tgt htg => ?_
          rw [hbf]
          refine into1 tgt _ ?_
          rw [hs1]
          refine Ev.step (fun k => ?_) (line_tab l hw T long W K R i hi p hp1 hfit h42 false tgt false hS (by rw [e1, h42]) e2 l[i].f6.length 0 (by omega) (by omega))
          simp only [lineG.j1]
          rw [if_neg (by decide), if_neg hn40, if_neg (by decide), if_neg hg, if_neg h2, if_pos h42, wrap_i64 (x := p + 1) (by omega) (by omega), show p + 1 = p + ((1 : Nat) : Int) by omega, hda]
          rfl
        · have e1 : lineW (fl (l.map toLine) long) (long.getD i false) p (toLine l[i]) = [word l[i].f0 l[i].f1 l[i].f2 l[i].f3] := by
            unfold lineW
            rw [if_neg h0', if_neg hb2, if_neg hb', if_neg hg', if_neg (show ¬ (toLine l[i]).op = 2 from h2), if_neg (show ¬ (toLine l[i]).op = 42 from h42), henc]
          have e2 : lineK (long.getD i false) (toLine l[i]) = [1] := by unfold lineK; rw [if_neg h0', if_neg hb2, if_neg hb', if_neg hg', if_neg (show ¬ (toLine l[i]).op = 2 from h2), if_neg (show ¬ (toLine l[i]).op = 42 from h42)]
          have hc := hS.code (P := (List.range l.length).map (pl (l.map toLine) long)) (R := R) 0 (by rw [e1]; simp) hmay (by rw [e1]; rfl) (by rw [e2]; rfl)
          rw [e1] at hsize
          have hs1 : sizeP (toLine l[i]) (long.getD i false) = 1 := hsize.symm
          rw [show p + ((0 : Nat) : Int) = p by omega] at hc
          refine hP _ _ _ _ hc fun tgt htg => ?_
          rw [hbf]
          refine into1 tgt _ ?_
          rw [hs1]
          refine Ev.step (f := fun _ => some (1, true)) (fun k => ?_) (Ev.now _)
          simp only [lineG.j1]
          rw [if_neg (by decide), if_neg hn40, if_neg (by decide), if_neg hg, if_neg h2, if_neg h42]
          rw [and4 rfl rfl rfl rfl]
end

theorem asm_no (ls : List Line) (h : (asm ls).err ≠ 0) : (asm ls).words = [] ∧ (asm ls).kinds = [] ∧ (asm ls).places = [] := by
  unfold asm at h ⊢
  by_cases h1 : (refusedP ls).2 ≠ 0
  · rw [if_pos h1]; exact ⟨rfl, rfl, rfl⟩
  · rw [if_neg h1] at h ⊢
    by_cases h2 : 65536 < pl ls (fin ls).1 ls.length
    · rw [if_pos h2]; exact ⟨rfl, rfl, rfl⟩
    · rw [if_neg h2] at h; exact absurd rfl h

theorem back_l0 (l : List S40) (hw : wfS l = true) (T : Takes (l.map toLine)) (hbig : pl (l.map toLine) (fin (l.map toLine)).1 l.length ≤ 65536) (R : Int) (d : Nat) : ∀ i : Nat, l.length - i = d → i ≤ l.length →
    Ev (fun k => switchbacklaw17_RelaxBack.l0 k l (pl (l.map toLine) (fin (l.map toLine)).1 i) (i : Int) (wordsOf (l.map toLine) (fin (l.map toLine)).1 l.length) (kindsOf (l.map toLine) (fin (l.map toLine)).1 l.length) ((List.range l.length).map (pl (l.map toLine) (fin (l.map toLine)).1)) R) true := by
  have hsm := T.small
  rw [List.length_map] at hsm
  have hsz : Sized (l.map toLine) := ⟨T.small, fun m hm => fits_list m (T.fits m hm).2.2, fun m hm => by
    obtain ⟨y, hy, rfl⟩ := List.mem_map.1 hm
    exact (wfS_all hw _ (List.mem_map.2 ⟨y, hy, rfl⟩)).1⟩
  induction d with
  | zero =>
    intro i hd hi
    obtain rfl : i = l.length := by omega
    refine Ev.step (f := fun _ => some true) (fun k => ?_) (Ev.now _)
    simp only [switchbacklaw17_RelaxBack.l0]
    rw [if_neg (by omega), ← words_pl]
    simp only [switchbacklaw17_live.f, Option.bind_some, if_true]
    simp
  | succ d ih =>
    intro i hd hi
    have hlt : i < l.length := by omega
    have hg : (l.map toLine).getD i default = toLine l[i] := by simp [List.getD, hlt]
    have hp := pl_range (l.map toLine) (fin (l.map toLine)).1 hsz i
    have hp1 := pl_range (l.map toLine) (fin (l.map toLine)).1 hsz (i + 1)
    have hlm : i < (l.map toLine).length := by rw [List.length_map]; exact hlt
    have hS : Stands (wordsOf (l.map toLine) (fin (l.map toLine)).1 l.length) (kindsOf (l.map toLine) (fin (l.map toLine)).1 l.length) (pl (l.map toLine) (fin (l.map toLine)).1 i)
        (lineW (fl (l.map toLine) (fin (l.map toLine)).1) ((fin (l.map toLine)).1.getD i false) (pl (l.map toLine) (fin (l.map toLine)).1 i) (toLine l[i])) (lineK ((fin (l.map toLine)).1.getD i false) (toLine l[i])) := by
      have hw1 := fun t ht => words_at (long := (fin (l.map toLine)).1) hlm (t := t) ht 0
      have hk1 := fun t ht => kinds_at (long := (fin (l.map toLine)).1) hlm (t := t) ht 0
      rw [List.length_map, hg] at hw1 hk1
      refine ⟨hp.1, words_kinds _ _ _, ?_, fun t ht => (hw1 t ht).1, fun t ht => hk1 t (by rw [← line_lens (fl (l.map toLine) (fin (l.map toLine)).1) _ (pl (l.map toLine) (fin (l.map toLine)).1 i)]; exact ht)⟩
      obtain ⟨r, e⟩ := words_split (l.map toLine) (fin (l.map toLine)).1 i (l.length - (i + 1))
      rw [show i + 1 + (l.length - (i + 1)) = l.length by omega, hg] at e
      rw [e, List.length_append, List.length_append, ← words_pl]
      omega
    have hl := line_g l hw T (fin (l.map toLine)).1 _ _ R i hlt _ (by omega) (fun hb hs => by
      have := fin_near T (i := i) (by rw [hg]; exact hb) hs
      rw [hg] at this
      exact this) hS
    have e1 : pl (l.map toLine) (fin (l.map toLine)).1 i + sizeP (toLine l[i]) ((fin (l.map toLine)).1.getD i false) = pl (l.map toLine) (fin (l.map toLine)).1 (i + 1) := by rw [← hg]; rfl
    have hline : Ev (fun k => switchbacklaw17_line.f k l (wordsOf (l.map toLine) (fin (l.map toLine)).1 l.length) (kindsOf (l.map toLine) (fin (l.map toLine)).1 l.length) ((List.range l.length).map (pl (l.map toLine) (fin (l.map toLine)).1)) R (i : Int) (pl (l.map toLine) (fin (l.map toLine)).1 i)) (sizeP (toLine l[i]) ((fin (l.map toLine)).1.getD i false), true) := by
      unfold switchbacklaw17_line.f
      refine Ev.bind hl ?_
      simp only [if_true]
      exact Ev.now _
    refine Ev.step (f := fun k => (switchbacklaw17_line.f k l (wordsOf (l.map toLine) (fin (l.map toLine)).1 l.length) (kindsOf (l.map toLine) (fin (l.map toLine)).1 l.length) ((List.range l.length).map (pl (l.map toLine) (fin (l.map toLine)).1)) R (i : Int) (pl (l.map toLine) (fin (l.map toLine)).1 i)).bind fun bt => (if bt.2 = true then switchbacklaw17_RelaxBack.l0 k l (wrap64 (pl (l.map toLine) (fin (l.map toLine)).1 i + bt.1)) ((i + 1 : Nat) : Int) (wordsOf (l.map toLine) (fin (l.map toLine)).1 l.length) (kindsOf (l.map toLine) (fin (l.map toLine)).1 l.length) ((List.range l.length).map (pl (l.map toLine) (fin (l.map toLine)).1)) R else some false)) (fun k => ?_) (Ev.bind hline ?_)
    · simp only [switchbacklaw17_RelaxBack.l0]
      rw [if_pos (by omega), if_pos (by omega), if_pos (by rw [List.length_map, List.length_range]; omega), rd_int, Int.toNat_natCast, if_pos (by simp [List.getD, hlt]), wrap_i64 (x := (i : Int) + 1) (by omega) (by omega)]
      rfl
    · simp only [if_true]
      rw [e1, wrap_i64 (by omega) (by omega)]
      exact ih (i + 1) (by omega) (by omega)

theorem back_f (l : List S40) (hw : wfS l = true) : Ev (fun k => switchbacklaw17_RelaxBack.f k l) true := by
  unfold switchbacklaw17_RelaxBack.f
  rw [assemble_f hw]
  simp only [Option.bind_some]
  by_cases he : (asm (l.map toLine)).err = 0
  · obtain ⟨T, hp, e⟩ := asm_ok' he
    rw [List.length_map] at hp e
    have hw1 : (asm (l.map toLine)).words = wordsOf (l.map toLine) (fin (l.map toLine)).1 l.length := by rw [e]
    have hk1 : (asm (l.map toLine)).kinds = kindsOf (l.map toLine) (fin (l.map toLine)).1 l.length := by rw [e]
    have hp1 : (asm (l.map toLine)).places = (List.range l.length).map (pl (l.map toLine) (fin (l.map toLine)).1) := by rw [e]
    simp only [if_pos he]
    rw [hw1, hk1, hp1]
    have hwk := words_kinds (l.map toLine) (fin (l.map toLine)).1 l.length
    have hwp := words_pl (l.map toLine) (fin (l.map toLine)).1 l.length
    simp only [if_pos (show ((kindsOf (l.map toLine) (fin (l.map toLine)).1 l.length).length : Int) = ((wordsOf (l.map toLine) (fin (l.map toLine)).1 l.length).length : Int) by omega), if_pos (show ((((List.range l.length).map (pl (l.map toLine) (fin (l.map toLine)).1)).length : Nat) : Int) = (l.length : Int) by rw [List.length_map, List.length_range])]
    rw [decide_eq_false (by omega)]
    refine Ev.step (fun k => ?_) (back_l0 l hw T hp ((asm (l.map toLine)).rounds : Int) l.length 0 (by omega) (by omega))
    simp only [switchbacklaw17_RelaxBack.j0]
    rw [if_neg (by decide)]
    rfl
  · obtain ⟨e1, e2, e3⟩ := asm_no _ he
    simp only [if_neg he]
    rw [e1, e2, e3]
    exact Ev.now _

end Go.Proofs.YtamimnaafiphcaaDoor.PR1C
