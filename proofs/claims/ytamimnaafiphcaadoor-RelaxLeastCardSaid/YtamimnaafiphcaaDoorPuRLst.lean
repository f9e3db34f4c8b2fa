/- The law RelaxLeast, plainly; its contract. -/
import Derived.Test.YtamimnaafiphcaaDoorPuY
import Derived.Test.YtamimnaafiphcaaDoorRxX
import Derived.Test.YtamimnaafiphcaaDoorPR1Cx40
set_option linter.unusedVariables false
set_option linter.unusedSimpArgs false
namespace Go.Proofs.YtamimnaafiphcaaDoor.PR1C
open Go.RowKit Go.Proofs.YtamimnaafiphcaaDoorW.PrintWords Go.Proofs.YtamimnaafiphcaaDoorW.PrintLast Go.Proofs.YtamimnaafiphcaaDoorW.PrintMore

theorem near_f (n : Int) : switchbackref17_Near.f n = some (near n) := by
  unfold switchbackref17_Near.f near within
  by_cases h : n ≥ -128
  · rw [if_pos h, decide_eq_true (show (-128 : Int) ≤ n from h), Bool.true_and]
  · rw [if_neg h, decide_eq_false (show ¬ (-128 : Int) ≤ n from h), Bool.false_and]

theorem getD_repl {α : Type} {n i : Nat} {v d : α} (h : i < n) : (List.replicate n v).getD i d = v := by rw [List.getD_eq_getElem?_getD, List.getElem?_replicate, if_pos h]; rfl

theorem rd_int (l : List Int) (p : Int) : rd l p = l.getD p.toNat 0 := by unfold rd; rfl

theorem code_at {W K P : List Int} {R p : Int} {op a b c : Int} (hm : mayR op a b c = true) (h0 : 0 ≤ p) (h1 : p < (W.length : Int)) (hWK : W.length = K.length) (hk : K.getD p.toNat 0 = 1) (hw : W.getD p.toNat 0 = word op a b c) :
    Ev (fun k => switchbacklaw17_code.f k W K P R p) (op, a, b, c, true) := by
  have hr := word_range hm
  have hj : Ev (fun k => switchbacklaw17_code.j0 k p false W K P R) (op, a, b, c, true) := by
    refine Ev.step (f := fun _ => some (op, a, b, c, true)) (fun k => ?_) (Ev.now _)
    simp only [switchbacklaw17_code.j0]
    rw [if_neg (by decide), if_pos h0, if_pos h1, rd_int, hw]
    unfold enc_Decode.f
    rw [if_pos ⟨hr.1, hr.2.1⟩, dec_word hm]
    rfl
  unfold switchbacklaw17_code.f
  simp only [if_neg (show ¬ p < 0 by omega), if_neg (show ¬ p ≥ (W.length : Int) by omega), if_pos h0, if_pos (show p < (K.length : Int) by omega), rd_int, hk]
  exact hj

section
variable (l : List S40) (hw : wfS l = true) (he : (asm (l.map toLine)).err = 0)
include hw he

theorem least_code (i : Nat) (hi : i < l.length) (hb : brOp l[i].f0 = true) (hs : (fin (l.map toLine)).1.getD i false = false) (P : List Int) (R : Int) :
    ∃ a b c, Ev (fun k => switchbacklaw17_code.f k (asm (l.map toLine)).words (asm (l.map toLine)).kinds P R (pl (l.map toLine) (fin (l.map toLine)).1 i)) (l[i].f0, a, b, c, true) := by
  obtain ⟨T, hp, e⟩ := asm_ok' he
  have hg : (l.map toLine).getD i default = toLine l[i] := by simp [List.getD, hi]
  have hlt : i < (l.map toLine).length := by simpa using hi
  have hfit := (T.fits _ (List.mem_map.2 ⟨l[i], List.getElem_mem hi, rfl⟩)).2.2
  have hop : ((l.map toLine).getD i default).op = l[i].f0 := by rw [hg]; rfl
  have hb' : brOp ((l.map toLine).getD i default).op = true := by rw [hop]; exact hb
  have hr := brOp_range hb
  have hn := fin_near T hb' hs
  obtain ⟨m1, m2⟩ := fits_may hfit (show (toLine l[i]).op ≠ 0 by show l[i].f0 ≠ 0; omega)
  rw [m2 (brOp_go hb)] at m1
  have hm : mayR l[i].f0 l[i].f1 l[i].f2 _ = true := may_near m1 hb hn
  have hlW : lineW (fl (l.map toLine) (fin (l.map toLine)).1) ((fin (l.map toLine)).1.getD i false) (pl (l.map toLine) (fin (l.map toLine)).1 i) ((l.map toLine).getD i default) = [word l[i].f0 l[i].f1 l[i].f2 (at_ (l.map toLine) (fin (l.map toLine)).1 ((l.map toLine).getD i default).label - pl (l.map toLine) (fin (l.map toLine)).1 i - 1)] := by
    unfold lineW
    rw [if_neg (by rw [hop]; omega), if_pos ⟨hb', hs⟩]
    rw [show at_ (l.map toLine) (fin (l.map toLine)).1 = toW (fl (l.map toLine) (fin (l.map toLine)).1) from rfl] at hm ⊢
    have := enc_of hm
    rw [hg] at this ⊢
    show [(enc l[i].f0 l[i].f1 l[i].f2 _).1] = _
    rw [this]
  have hlK : lineK ((fin (l.map toLine)).1.getD i false) ((l.map toLine).getD i default) = [1] := by
    unfold lineK
    rw [if_neg (by rw [hop]; omega), if_pos ⟨hb', hs⟩]
  have hsz : Sized (l.map toLine) := ⟨T.small, fun m hm => fits_list m (T.fits m hm).2.2, fun m hm => by
      obtain ⟨x, hx, rfl⟩ := List.mem_map.1 hm
      exact (wfS_all hw _ (List.mem_map.2 ⟨x, hx, rfl⟩)).1⟩
  have h0 := (pl_range (l.map toLine) (fin (l.map toLine)).1 hsz i).1
  obtain ⟨w1, w2⟩ := words_at (long := (fin (l.map toLine)).1) hlt (t := 0) (by rw [hlW]; exact Nat.one_pos) 0
  have k1 := kinds_at (long := (fin (l.map toLine)).1) hlt (t := 0) (by rw [hlK]; exact Nat.one_pos) 0
  rw [hlW, Nat.add_zero] at w1
  rw [hlK, Nat.add_zero] at k1
  rw [Nat.add_zero] at w2
  refine ⟨_, _, _, code_at hm h0 ?_ ?_ ?_ ?_⟩
  · rw [e]; show _ < ((wordsOf _ _ _).length : Int); omega
  · rw [e]; exact words_kinds _ _ _
  · rw [e]; exact k1
  · rw [e]; exact w1

theorem least_l2 (u : List Bool) (hu : u.length = l.length) (hsub : Sub (l.map toLine) (fin (l.map toLine)).1 u) (d : Nat) : ∀ i : Nat, l.length - i = d → i ≤ l.length →
    Ev (fun k => switchbacklaw17_RelaxLeast.l2 k l u (i : Int) (asm (l.map toLine)).words (asm (l.map toLine)).kinds (asm (l.map toLine)).places ((asm (l.map toLine)).rounds : Int)) true := by
  obtain ⟨T, hp, e⟩ := asm_ok' he
  have hsm := T.small
  rw [List.length_map] at hsm
  induction d with
  | zero =>
    intro i hd hi
    refine Ev.step (f := fun k => (switchbacklaw17_live.f).bind fun t => some t) (fun k => ?_) (Ev.bind live_f (Ev.now _))
    simp only [switchbacklaw17_RelaxLeast.l2]
    rw [if_neg (by omega)]
  | succ d ih =>
    intro i hd hi
    have hlt : i < l.length := by omega
    have ih' := ih (i + 1) (by omega) (by omega)
    have hj6 : Ev (fun k => switchbacklaw17_RelaxLeast.j6 k l u (i : Int) true (asm (l.map toLine)).words (asm (l.map toLine)).kinds (asm (l.map toLine)).places ((asm (l.map toLine)).rounds : Int)) true := by
      refine Ev.step (fun k => ?_) ih'
      simp only [switchbacklaw17_RelaxLeast.j6]
      rw [if_pos trivial, wrap_i64 (x := (i : Int) + 1) (by omega) (by omega)]
      rfl
    have base : ∀ k, switchbacklaw17_RelaxLeast.l2 (k + 1) l u (i : Int) (asm (l.map toLine)).words (asm (l.map toLine)).kinds (asm (l.map toLine)).places ((asm (l.map toLine)).rounds : Int) =
        if brOp l[i].f0 = true then switchbacklaw17_RelaxLeast.j6 k l u (i : Int) (u.getD i false) (asm (l.map toLine)).words (asm (l.map toLine)).kinds (asm (l.map toLine)).places ((asm (l.map toLine)).rounds : Int) else switchbacklaw17_RelaxLeast.j6 k l u (i : Int) true (asm (l.map toLine)).words (asm (l.map toLine)).kinds (asm (l.map toLine)).places ((asm (l.map toLine)).rounds : Int) := fun k => by
      simp only [switchbacklaw17_RelaxLeast.l2]
      rw [if_pos (by omega), if_pos (by omega), rdAt l i hlt, branch17_f]
      simp only [Option.bind_some]
      rw [if_pos (show (i : Int) < (u.length : Int) by omega), show rdOf false u (i : Int) = u.getD i false by unfold rdOf; simp]
    by_cases hb : brOp l[i].f0 = true
    · cases hui : u.getD i false with
      | true => exact Ev.step (fun k => by rw [base, if_pos hb, hui]) hj6
      | false =>
        have hs : (fin (l.map toLine)).1.getD i false = false := by
          cases h : (fin (l.map toLine)).1.getD i false
          · rfl
          · have := hsub i (by rw [show (l.map toLine).getD i default = toLine l[i] by simp [List.getD, hlt]]; exact hb) h
            rw [hui] at this
            cases this
        obtain ⟨a, b, c, hc⟩ := least_code l hw he i hlt hb hs (asm (l.map toLine)).places ((asm (l.map toLine)).rounds : Int)
        have hpl : (asm (l.map toLine)).places.getD i 0 = pl (l.map toLine) (fin (l.map toLine)).1 i := by rw [e]; simp [List.getD, hlt]
        have hplen : (asm (l.map toLine)).places.length = l.length := by rw [e]; simp
        have hj : Ev (fun k => switchbacklaw17_RelaxLeast.j6 k l u (i : Int) false (asm (l.map toLine)).words (asm (l.map toLine)).kinds (asm (l.map toLine)).places ((asm (l.map toLine)).rounds : Int)) true := by
          refine Ev.step (f := fun k => (switchbacklaw17_code.f k (asm (l.map toLine)).words (asm (l.map toLine)).kinds (asm (l.map toLine)).places ((asm (l.map toLine)).rounds : Int) (pl (l.map toLine) (fin (l.map toLine)).1 i)).bind fun bt => if bt.2.2.2.2 = true then (if (i : Int) < (l.length : Int) then (if bt.1 = l[i].f0 then switchbacklaw17_RelaxLeast.l2 k l u ((i + 1 : Nat) : Int) (asm (l.map toLine)).words (asm (l.map toLine)).kinds (asm (l.map toLine)).places ((asm (l.map toLine)).rounds : Int) else some false) else none) else some false) (fun k => ?_) (Ev.bind hc ?_)
          · simp only [switchbacklaw17_RelaxLeast.j6]
            rw [if_neg (by decide), if_pos (by omega), if_pos (by omega), rd_int, Int.toNat_natCast, hpl, rdAt l i hlt, wrap_i64 (x := (i : Int) + 1) (by omega) (by omega)]
            rfl
          · simp only [if_true, if_pos (show (i : Int) < (l.length : Int) by omega)]
            exact ih'
        exact Ev.step (fun k => by rw [base, if_pos hb, hui]) hj
    · exact Ev.step (fun k => by rw [base, if_neg hb]) hj6

theorem least_l1 (u : List Bool) (hu : u.length = l.length) (st : List Int) (hst : At st (fl (l.map toLine) u)) (d : Nat) : ∀ i : Nat, l.length - i = d → i ≤ l.length → (∀ j, j < i → need (l.map toLine) u j = true → u.getD j false = true) →
    Ev (fun k => switchbacklaw17_RelaxLeast.l1 k l u ((List.range l.length).map (pl (l.map toLine) u)) st (i : Int) (asm (l.map toLine)).words (asm (l.map toLine)).kinds (asm (l.map toLine)).places ((asm (l.map toLine)).rounds : Int)) true := by
  obtain ⟨T, hp, e⟩ := asm_ok' he
  have hsm := T.small
  rw [List.length_map] at hsm
  have hsz : Sized (l.map toLine) := ⟨T.small, fun m hm => fits_list m (T.fits m hm).2.2, fun m hm => by
      obtain ⟨x, hx, rfl⟩ := List.mem_map.1 hm
      exact (wfS_all hw _ (List.mem_map.2 ⟨x, hx, rfl⟩)).1⟩
  induction d with
  | zero =>
    intro i hd hi hn
    obtain rfl : i = l.length := by omega
    have hsub : Sub (l.map toLine) (fin (l.map toLine)).1 u := fin_sub T fun j hj => hn j (by have := getD_br (need_iff.1 hj).1; simpa using this) hj
    refine Ev.step (fun k => ?_) (least_l2 l hw he u hu hsub l.length 0 (by omega) (by omega))
    simp only [switchbacklaw17_RelaxLeast.l1]
    rw [if_neg (by omega)]
    rfl
  | succ d ih =>
    intro i hd hi hn
    have hlt : i < l.length := by omega
    have hg : (l.map toLine).getD i default = toLine l[i] := by simp [List.getD, hlt]
    have hfit := (T.fits _ (List.mem_map.2 ⟨l[i], List.getElem_mem hlt, rfl⟩)).2.2
    have hnext : (need (l.map toLine) u i = true → u.getD i false = true) → Ev (fun k => switchbacklaw17_RelaxLeast.j4 k l u ((List.range l.length).map (pl (l.map toLine) u)) st (i : Int) false (asm (l.map toLine)).words (asm (l.map toLine)).kinds (asm (l.map toLine)).places ((asm (l.map toLine)).rounds : Int)) true := fun h => by
      refine Ev.step (fun k => ?_) (ih (i + 1) (by omega) (by omega) fun j hj => by
        by_cases ej : j = i
        · subst ej; exact h
        · exact hn j (by omega))
      simp only [switchbacklaw17_RelaxLeast.j4]
      rw [if_neg (by decide), wrap_i64 (x := (i : Int) + 1) (by omega) (by omega)]
      rfl
    have hlive : Ev (fun k => switchbacklaw17_RelaxLeast.j4 k l u ((List.range l.length).map (pl (l.map toLine) u)) st (i : Int) true (asm (l.map toLine)).words (asm (l.map toLine)).kinds (asm (l.map toLine)).places ((asm (l.map toLine)).rounds : Int)) true := by
      refine Ev.step (f := fun k => (switchbacklaw17_live.f).bind fun t => some t) (fun k => ?_) (Ev.bind live_f (Ev.now _))
      simp only [switchbacklaw17_RelaxLeast.j4]
      rw [if_pos trivial]
    by_cases hb : brOp l[i].f0 = true
    · have hb' : brOp ((l.map toLine).getD i default).op = true := by rw [hg]; exact hb
      have hlab := isLabel_range (fits_goes hfit (brOp_go hb)).1
      replace hlab : 0 ≤ l[i].f5 ∧ l[i].f5 ≤ 100000 := hlab
      have hin : l[i].f5 ∈ labs (l.map toLine) := by have := br_lab T hb'; rw [hg] at this; exact this
      obtain ⟨j, hj, hat⟩ := lab_idx hin
      have hst5 := hst.at_ l[i].f5 hlab.1 hlab.2
      rw [hat u, Option.getD_some] at hst5
      have hrj := pl_range (l.map toLine) u hsz j
      have hri := pl_range (l.map toLine) u hsz i
      rw [List.length_map] at hj
      have hpi : ((List.range l.length).map (pl (l.map toLine) u)).getD i 0 = pl (l.map toLine) u i := by simp [List.getD, hlt]
      have hstl := hst.len
      have hnd : need (l.map toLine) u i = !near (pl (l.map toLine) u j - pl (l.map toLine) u i - 1) := by
        unfold need at_ toW
        rw [hg]
        show (brOp l[i].f0 && !near ((fl (l.map toLine) u l[i].f5).getD 0 - pl (l.map toLine) u i - 1)) = _
        rw [hat u, hb]
        rfl
      have base : ∀ k, switchbacklaw17_RelaxLeast.l1 (k + 1) l u ((List.range l.length).map (pl (l.map toLine) u)) st (i : Int) (asm (l.map toLine)).words (asm (l.map toLine)).kinds (asm (l.map toLine)).places ((asm (l.map toLine)).rounds : Int) =
          if u.getD i false = true then switchbacklaw17_RelaxLeast.j4 k l u ((List.range l.length).map (pl (l.map toLine) u)) st (i : Int) false (asm (l.map toLine)).words (asm (l.map toLine)).kinds (asm (l.map toLine)).places ((asm (l.map toLine)).rounds : Int)
          else switchbacklaw17_RelaxLeast.j4 k l u ((List.range l.length).map (pl (l.map toLine) u)) st (i : Int) (need (l.map toLine) u i) (asm (l.map toLine)).words (asm (l.map toLine)).kinds (asm (l.map toLine)).places ((asm (l.map toLine)).rounds : Int) := fun k => by
        simp only [switchbacklaw17_RelaxLeast.l1]
        rw [if_pos (by omega), if_pos (by omega), rdAt l i hlt, branch17_f]
        simp only [Option.bind_some]
        rw [if_pos hb, if_pos (show (i : Int) < (u.length : Int) by omega), show rdOf false u (i : Int) = u.getD i false by unfold rdOf; simp]
        cases hq : u.getD i false with
        | true => rw [if_pos rfl, if_pos rfl]
        | false =>
          rw [if_neg (show ¬ (false = true) by decide), if_neg (show ¬ (false = true) by decide), if_pos hlab.1, if_pos (by omega), if_pos (by rw [List.length_map, List.length_range]; omega), hst5, rd_int, Int.toNat_natCast, hpi, wrap_i64 (x := pl (l.map toLine) u j - pl (l.map toLine) u i) (by omega) (by omega), wrap_i64 (by omega) (by omega), near_f, hnd]
          rfl
      cases hui : u.getD i false with
      | true => exact Ev.step (fun k => by rw [base, hui, if_pos rfl]) (hnext fun _ => hui)
      | false =>
        cases hnn : need (l.map toLine) u i with
        | true => exact Ev.step (fun k => by rw [base, hui, if_neg (by decide), hnn]) hlive
        | false => exact Ev.step (fun k => by rw [base, hui, if_neg (by decide), hnn]) (hnext fun h => by rw [hnn] at h; cases h)
    · refine Ev.step (fun k => ?_) (hnext fun h => by
        have := (need_iff.1 h).1
        rw [hg] at this
        exact absurd this hb)
      simp only [switchbacklaw17_RelaxLeast.l1]
      rw [if_pos (by omega), if_pos (by omega), rdAt l i hlt, branch17_f]
      simp only [Option.bind_some]
      rw [if_neg hb]

theorem least_j2 (u : List Bool) (hu : u.length = l.length) :
    Ev (fun k => switchbacklaw17_RelaxLeast.j2 k l u (asm (l.map toLine)).words (asm (l.map toLine)).kinds (asm (l.map toLine)).places ((asm (l.map toLine)).rounds : Int)) true := by
  obtain ⟨T, hp, e⟩ := asm_ok' he
  have hsm := T.small
  rw [List.length_map] at hsm
  have hf : ∀ i (h : i < l.length), fitsB (toLine l[i]) = true := fun i h => (T.fits _ (List.mem_map.2 ⟨l[i], List.getElem_mem h, rfl⟩)).2.2
  have hstart : ∀ a' : List Int, a'.length = 100001 → (∀ x, x < 100001 → a'.getD x 0 = -1) → At a' (mp (l.map toLine) u (fun _ => none) 0) := fun a' h1 h2 => ⟨h1, fun x h0 h3 => by
    show rd a' x = -1
    rw [rd_int]
    exact h2 _ (by omega)⟩
  have hp1 : ∃ a', At a' (fl (l.map toLine) u) ∧ Ev (fun k => switchbackref17_Places.f k l u) ((List.range l.length).map (pl (l.map toLine) u), pl (l.map toLine) u l.length, a') := by
    obtain ⟨a', h1, h2⟩ := places_l1 l hw hsm hf u hu l.length 0 (List.replicate 100001 (-1)) (by omega) (by omega) (hstart _ List.length_replicate fun x hx => getD_repl hx)
    refine ⟨a', h1, ?_⟩
    unfold switchbackref17_Places.f
    simp only [if_pos (show 100001 ≤ 35184372088832 by decide)]
    refine places_l0 l u _ 100001 0 (List.replicate 100001 0) (by omega) (by omega) List.length_replicate (fun x hx => absurd hx (Nat.not_lt_zero _)) fun a2 h3 h4 => ?_
    have ea : a2 = List.replicate 100001 (-1) := getD_ext 0 (by rw [List.length_replicate, h3]) fun x hx => by rw [h4 x (by omega), getD_repl (by omega)]
    rw [ea]
    exact h2
  obtain ⟨st, h1, h2⟩ := hp1
  refine Ev.step (f := fun k => (switchbackref17_Places.f k l u).bind fun bt => switchbacklaw17_RelaxLeast.l1 k l u bt.1 bt.2.2 0 (asm (l.map toLine)).words (asm (l.map toLine)).kinds (asm (l.map toLine)).places ((asm (l.map toLine)).rounds : Int)) (fun k => ?_) (Ev.bind h2 ?_)
  · simp only [switchbacklaw17_RelaxLeast.j2]
  · exact least_l1 l hw he u hu st h1 l.length 0 (by omega) (by omega) fun j hj => absurd hj (Nat.not_lt_zero _)

theorem least_l0 (ch : List Bool) (d : Nat) : ∀ (i : Nat) (u : List Bool), l.length - i = d → i ≤ l.length → u.length = l.length →
    Ev (fun k => switchbacklaw17_RelaxLeast.l0 k l ch u (i : Int) (asm (l.map toLine)).words (asm (l.map toLine)).kinds (asm (l.map toLine)).places ((asm (l.map toLine)).rounds : Int)) true := by
  obtain ⟨T, hp, e⟩ := asm_ok' he
  have hsm := T.small
  rw [List.length_map] at hsm
  induction d with
  | zero =>
    intro i u hd hi hu
    refine Ev.step (fun k => ?_) (least_j2 l hw he u hu)
    simp only [switchbacklaw17_RelaxLeast.l0]
    rw [if_neg (by omega)]
  | succ d ih =>
    intro i u hd hi hu
    by_cases hc : i < ch.length
    · refine Ev.step (fun k => ?_) (ih (i + 1) (u.set i (rdOf false ch (i : Int))) (by omega) (by omega) (by rw [List.length_set]; exact hu))
      simp only [switchbacklaw17_RelaxLeast.l0]
      rw [if_pos (by omega), if_pos (by omega), if_pos (by omega), if_pos (by omega), Int.toNat_natCast, wrap_i64 (x := (i : Int) + 1) (by omega) (by omega)]
      rfl
    · refine Ev.step (fun k => ?_) (least_j2 l hw he u hu)
      simp only [switchbacklaw17_RelaxLeast.l0]
      rw [if_pos (by omega), if_neg (by omega)]
end

theorem asm_no_places (ls : List Line) (h : (asm ls).err ≠ 0) : (asm ls).places = [] := by
  unfold asm at h ⊢
  by_cases h1 : (refusedP ls).2 ≠ 0
  · rw [if_pos h1]
  · rw [if_neg h1] at h ⊢
    by_cases h2 : 65536 < pl ls (fin ls).1 ls.length
    · rw [if_pos h2]
    · rw [if_neg h2] at h; exact absurd rfl h

theorem least_f (l : List S40) (hw : wfS l = true) (ch : List Bool) : Ev (fun k => switchbacklaw17_RelaxLeast.f k l ch) true := by
  unfold switchbacklaw17_RelaxLeast.f
  rw [assemble_f hw]
  simp only [Option.bind_some]
  by_cases he : (asm (l.map toLine)).err = 0
  · obtain ⟨T, hp, e⟩ := asm_ok' he
    have hsm := T.small
    rw [List.length_map] at hsm
    have hpl : (asm (l.map toLine)).places.length = l.length := by rw [e]; simp
    simp only [if_pos he, hpl]
    refine Ev.step (f := fun k => switchbacklaw17_RelaxLeast.l0 k l ch (List.replicate l.length false) ((0 : Nat) : Int) (asm (l.map toLine)).words (asm (l.map toLine)).kinds (asm (l.map toLine)).places ((asm (l.map toLine)).rounds : Int)) (fun k => ?_) (least_l0 l hw he ch l.length 0 _ (by omega) (by omega) (by simp))
    simp only [switchbacklaw17_RelaxLeast.j0]
    rw [if_neg (by simp), if_pos (by omega), Int.toNat_natCast, if_pos (by omega)]
    rfl
  · simp only [if_neg he]
    refine Ev.step (f := fun k => (switchbacklaw17_live.f).bind fun t => if t = true then some (((asm (l.map toLine)).places.length : Int) == 0) else some false) (fun k => by simp only [switchbacklaw17_RelaxLeast.j0]; rw [if_pos trivial]) (Ev.bind live_f ?_)
    rw [asm_no_places _ he]
    exact Ev.now _

open Go.ChangeShapes Go.WideShapes in
theorem open_bools {H : Type} {enc : TypeId × Value → H} {W : World} {base : Nat} {spare : Nat → Bool} {held : Bool} {fuel : Nat} {cs : List Value} {x : DataW H × List MemPlace} (h : DataW.trod enc Tryd.prog W base spare held fuel 46 cs = some x) :
    ∃ (xs : List Bool) (A : Option Addr) (c : Nat), cs = [.slice A xs.length c] ∧ Kd.C Kd.bool W A xs.length xs ∧ True ∧ xs.length ≤ c := by
  rcases Deep.open_slice1 Tryd.underlying46 (by kernel_rfl) h with ⟨rfl, _⟩ | ⟨a, len, cap, m, n, V, D, Pl, rfl, hb, hl, hm, hmm, rfl, hx⟩
  · exact ⟨[], none, 0, rfl, Kd.C_nil Kd.bool W, trivial, Nat.le_refl _⟩
  · have hml : len ≤ m := by rw [hmm]; split <;> omega
    have hv : ∀ i, i < len → ∃ z, V i = .bool z := fun i hi => by
      obtain ⟨z, e, _⟩ := DataW.trod_bool Tryd.underlying4 (hx i (by omega)).2
      exact ⟨z, by simpa using e⟩
    obtain ⟨f, hf⟩ : ∃ f : Nat → Bool, ∀ i, i < len → V i = .bool (f i) :=
      ⟨fun i => if hi : i < len then (hv i hi).choose else false, fun i hi => by simp only [hi, dif_pos]; exact (hv i hi).choose_spec⟩
    refine ⟨(List.range len).map f, some a, cap, by simp, ?_, trivial, by simpa using hl⟩
    refine ⟨rfl, by simp; unfold maxLen at hm; omega, fun _ => ⟨a, rfl, fun j p hj => ⟨[.bool p], rfl, rfl, fun i u hu => ?_⟩⟩⟩
    have hj' : j < len := by have := (List.getElem?_eq_some_iff.1 hj).1; simpa using this
    have hp : p = f j := by simp [hj'] at hj; exact hj.symm
    have hi : i = 0 := by have := (List.getElem?_eq_some_iff.1 hu).1; simpa using this
    subst hi
    cases hu
    rw [show j * Kd.bool.sz + 0 = j from by show j * 1 + 0 = j; omega, hp, ← hf j hj']
    exact (hx j (by omega)).1

theorem least_row (ls : List Line) (A : Option Addr) (c : Nat) (l1 : List Bool) (A1 : Option Addr) (c1 : Nat) (w : World) (hL : Laid w) (hl : Lines w (.slice A ls.length c) ls) (hwf : ∀ l ∈ ls, (Lit.int .i64 l.label).wf = true ∧ ∀ y ∈ l.list, (Lit.int .i64 y).wf = true) (hc : ls.length ≤ c)
    (h1 : Kd.C Kd.bool w A1 l1.length l1) (k1 : l1.length ≤ c1) :
    Calls Tryd.prog 8 #[.slice A ls.length c, .slice A1 l1.length c1] w fun e w' => e = .returned (.bool true) ∧ Below w.heap.size w w' := by
  obtain ⟨k, h⟩ := (least_f (ls.map ofLine) (wf_of hwf) l1).rounds
  have := switchbacklaw17_RelaxLeast.calls k A c (ls.map ofLine) A1 c1 l1 true w (of_lines hl) (by simpa using hc) h1 k1 ⟨hL⟩ h
  rwa [List.length_map] at this

end Go.Proofs.YtamimnaafiphcaaDoor.PR1C
