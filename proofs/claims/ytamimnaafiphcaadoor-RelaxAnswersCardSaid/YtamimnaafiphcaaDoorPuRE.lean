/- The assembler's reference, plainly: it answers as the assembler does. -/
import Derived.Test.YtamimnaafiphcaaDoorPuRD
import Derived.Test.YtamimnaafiphcaaDoorPR1Dd39
set_option linter.unusedVariables false
set_option linter.unusedSimpArgs false
namespace Go.Proofs.YtamimnaafiphcaaDoor.PR1D
open Go.RowKit Go.Proofs.YtamimnaafiphcaaDoorW.PrintWords Go.Proofs.YtamimnaafiphcaaDoorW.PrintLast Go.Proofs.YtamimnaafiphcaaDoorW.PrintMore

theorem near_f (n : Int) : switchbackref17_Near.f n = some (near n) := by
  unfold switchbackref17_Near.f near within
  by_cases h : n ≥ -128
  · rw [if_pos h, decide_eq_true (show (-128 : Int) ≤ n from h), Bool.true_and]
  · rw [if_neg h, decide_eq_false (show ¬ (-128 : Int) ≤ n from h), Bool.false_and]

theorem getD_repl {α : Type} {n i : Nat} {v d : α} (h : i < n) : (List.replicate n v).getD i d = v := by rw [List.getD_eq_getElem?_getD, List.getElem?_replicate, if_pos h]; rfl

/-- What comes of the last round. -/
def res (L : List Line) (F : List Bool × Nat) : List Int × List Int × List Int × Int × Int × Int :=
  if 65536 < pl L F.1 L.length then ([], [], [], 0, 0, 174) else (wordsOf L F.1 L.length, kindsOf L F.1 L.length, (List.range L.length).map (pl L F.1), (F.2 : Int), 0, 0)

section
variable (l : List S40) (hw : wfS l = true) (T : Takes (l.map toLine))
include hw T

theorem ref_sized : Sized (l.map toLine) := ⟨T.small, fun m hm => fits_list m (T.fits m hm).2.2, fun m hm => by
  obtain ⟨x, hx, rfl⟩ := List.mem_map.1 hm
  exact (wfS_all hw _ (List.mem_map.2 ⟨x, hx, rfl⟩)).1⟩

theorem asm_l2 (long : List Bool) (hl : long.length = l.length) (st : List Int) (hst : At st (fl (l.map toLine) long)) (r : Int) (d : Nat) : ∀ i : Nat, l.length - i = d → i ≤ l.length →
    Ev (fun k => switchbackref17_Assemble.l2 k l long ((List.range l.length).map (pl (l.map toLine) long)) st (i : Int) (wordsOf (l.map toLine) long i) (kindsOf (l.map toLine) long i) ((List.range l.length).map (pl (l.map toLine) long)) r)
      (wordsOf (l.map toLine) long l.length, kindsOf (l.map toLine) long l.length, (List.range l.length).map (pl (l.map toLine) long), r, 0, 0) := by
  have hsm := T.small
  rw [List.length_map] at hsm
  have hsz := ref_sized l hw T
  induction d with
  | zero =>
    intro i hd hi
    obtain rfl : i = l.length := by omega
    exact Ev.step (f := fun _ => some (wordsOf (l.map toLine) long l.length, kindsOf (l.map toLine) long l.length, (List.range l.length).map (pl (l.map toLine) long), r, 0, 0)) (fun k => by simp only [switchbackref17_Assemble.l2]; rw [if_neg (by omega)]) (Ev.now _)
  | succ d ih =>
    intro i hd hi
    have hlt : i < l.length := by omega
    have hg : (l.map toLine).getD i default = toLine l[i] := by simp [List.getD, hlt]
    have hfit := (T.fits _ (List.mem_map.2 ⟨l[i], List.getElem_mem hlt, rfl⟩)).2.2
    have hp := pl_range (l.map toLine) long hsz i
    have hm := made_f (l := toLine l[i]) (lg := long.getD i false) (p := pl (l.map toLine) long i) hfit hst (fun x hx => by
      obtain ⟨j, hj, hat⟩ := lab_idx (T.goal _ (List.mem_map.2 ⟨l[i], List.getElem_mem hlt, rfl⟩) x hx)
      have := pl_range (l.map toLine) long hsz j
      rw [List.length_map] at hj
      exact ⟨_, hat long, this.1, by omega⟩) hp.1 (by omega)
    have hpi : rd ((List.range l.length).map (pl (l.map toLine) long)) (i : Int) = pl (l.map toLine) long i := by rw [rd_int, Int.toNat_natCast]; simp [List.getD, hlt]
    have hwl := wordsOf_len (l.map toLine) long hsz i
    have hkl := kindsOf_len (l.map toLine) long hsz i
    have hw1 := lineW_len (fl (l.map toLine) long) (long.getD i false) (pl (l.map toLine) long i) (toLine l[i]) (fits_list _ hfit)
    have hk1 := lineK_len (long.getD i false) (toLine l[i]) (fits_list _ hfit)
    have ih' := ih (i + 1) (by omega) (by omega)
    rw [wordsOf_succ, kindsOf_succ, hg] at ih'
    refine Ev.step (f := fun k => (switchbackref17_made.f k (toLine l[i]).op (toLine l[i]).a (toLine l[i]).b (toLine l[i]).imm (toLine l[i]).n (toLine l[i]).label (toLine l[i]).list (long.getD i false) (pl (l.map toLine) long i) st).bind fun bt => if (wordsOf (l.map toLine) long i).length + bt.1.length < 35184372088832 then (if (kindsOf (l.map toLine) long i).length + bt.2.length < 17592186044416 then switchbackref17_Assemble.l2 k l long ((List.range l.length).map (pl (l.map toLine) long)) st ((i + 1 : Nat) : Int) (wordsOf (l.map toLine) long i ++ bt.1) (kindsOf (l.map toLine) long i ++ bt.2) ((List.range l.length).map (pl (l.map toLine) long)) r else none) else none) (fun k => ?_) (Ev.bind hm ?_)
    · simp only [switchbackref17_Assemble.l2]
      rw [if_pos (by omega), if_pos (by omega), if_pos (by omega), if_pos (by rw [List.length_map, List.length_range]; omega), rdAt l i hlt, hpi, show rdOf false long (i : Int) = long.getD i false by unfold rdOf; simp, wrap_i64 (x := (i : Int) + 1) (by omega) (by omega)]
      rfl
    · simp only [if_pos (show (wordsOf (l.map toLine) long i).length + (lineW (fl (l.map toLine) long) (long.getD i false) (pl (l.map toLine) long i) (toLine l[i])).length < 35184372088832 by omega), if_pos (show (kindsOf (l.map toLine) long i).length + (lineK (long.getD i false) (toLine l[i])).length < 17592186044416 by omega)]
      exact ih'

theorem asm_l1 (long : List Bool) (hl : long.length = l.length) (st : List Int) (hst : At st (fl (l.map toLine) long)) (r : Int) (R : List Int × List Int × List Int × Int × Int × Int)
    (hend : Ev (fun k => if grK (l.map toLine) long l.length = true then switchbackref17_Assemble.l0 k l (stK (l.map toLine) long l.length) ([] : List Int) ([] : List Int) r else if pl (l.map toLine) long l.length > 65536 then some (([] : List Int), ([] : List Int), ([] : List Int), 0, 0, 174) else switchbackref17_Assemble.l2 k l (stK (l.map toLine) long l.length) ((List.range l.length).map (pl (l.map toLine) long)) st 0 ([] : List Int) ([] : List Int) ((List.range l.length).map (pl (l.map toLine) long)) r) R) (d : Nat) : ∀ i : Nat, l.length - i = d → i ≤ l.length →
    Ev (fun k => switchbackref17_Assemble.l1 k l (stK (l.map toLine) long i) ((List.range l.length).map (pl (l.map toLine) long)) (pl (l.map toLine) long l.length) st (grK (l.map toLine) long i) (i : Int) ([] : List Int) ([] : List Int) r) R := by
  have hsm := T.small
  rw [List.length_map] at hsm
  have hsz := ref_sized l hw T
  induction d with
  | zero =>
    intro i hd hi
    obtain rfl : i = l.length := by omega
    refine Ev.step (fun k => ?_) hend
    simp only [switchbackref17_Assemble.l1]
    rw [if_neg (by omega)]
  | succ d ih =>
    intro i hd hi
    have hlt : i < l.length := by omega
    have hll : i < long.length := by omega
    have hg : (l.map toLine).getD i default = toLine l[i] := by simp [List.getD, hlt]
    have hfit := (T.fits _ (List.mem_map.2 ⟨l[i], List.getElem_mem hlt, rfl⟩)).2.2
    have hsk := stK_len (l.map toLine) long i
    have ih' := ih (i + 1) (by omega) (by omega)
    have hyes : need (l.map toLine) long i = true → long.getD i false = false → Ev (fun k => switchbackref17_Assemble.j2 k l (stK (l.map toLine) long i) ((List.range l.length).map (pl (l.map toLine) long)) (pl (l.map toLine) long l.length) st (grK (l.map toLine) long i) (i : Int) true ([] : List Int) ([] : List Int) r) R := fun h1 h2 => by
      rw [← stK_yes (l.map toLine) long i hll h1, grK_succ, h1, h2] at ih'
      simp only [Bool.not_false, Bool.true_and, Bool.or_true] at ih'
      refine Ev.step (fun k => ?_) ih'
      simp only [switchbackref17_Assemble.j2]
      rw [if_pos trivial, if_pos (by omega), if_pos (by omega), Int.toNat_natCast, wrap_i64 (x := (i : Int) + 1) (by omega) (by omega)]
      rfl
    have hno : (long.getD i false || need (l.map toLine) long i) = long.getD i false → Ev (fun k => switchbackref17_Assemble.j2 k l (stK (l.map toLine) long i) ((List.range l.length).map (pl (l.map toLine) long)) (pl (l.map toLine) long l.length) st (grK (l.map toLine) long i) (i : Int) false ([] : List Int) ([] : List Int) r) R := fun h1 => by
      have h3 : (!long.getD i false && need (l.map toLine) long i) = false := by
        cases h4 : long.getD i false
        · rw [h4] at h1; simpa using h1
        · rfl
      rw [← stK_no (l.map toLine) long i hll h1, grK_succ, h3, Bool.or_false] at ih'
      refine Ev.step (fun k => ?_) ih'
      simp only [switchbackref17_Assemble.j2]
      rw [if_neg (by decide), wrap_i64 (x := (i : Int) + 1) (by omega) (by omega)]
      rfl
    have hrs : rdOf false (stK (l.map toLine) long i) (i : Int) = long.getD i false := by unfold rdOf; rw [Int.toNat_natCast]; exact stK_get _ _ _ hll
    by_cases hb : brOp l[i].f0 = true
    · have hb' : brOp ((l.map toLine).getD i default).op = true := by rw [hg]; exact hb
      have hlab := isLabel_range (fits_goes hfit (brOp_go hb)).1
      replace hlab : 0 ≤ l[i].f5 ∧ l[i].f5 ≤ 100000 := hlab
      have hin : l[i].f5 ∈ labs (l.map toLine) := by have := br_lab T hb'; rw [hg] at this; exact this
      obtain ⟨j, hj, hat⟩ := lab_idx hin
      have hst5 := hst.at_ l[i].f5 hlab.1 hlab.2
      rw [hat long, Option.getD_some] at hst5
      have hrj := pl_range (l.map toLine) long hsz j
      have hri := pl_range (l.map toLine) long hsz i
      rw [List.length_map] at hj
      have hpi : rd ((List.range l.length).map (pl (l.map toLine) long)) (i : Int) = pl (l.map toLine) long i := by rw [rd_int, Int.toNat_natCast]; simp [List.getD, hlt]
      have hstl := hst.len
      have hnd : need (l.map toLine) long i = !near (pl (l.map toLine) long j - pl (l.map toLine) long i - 1) := by
        unfold need at_ toW
        rw [hg]
        show (brOp l[i].f0 && !near ((fl (l.map toLine) long l[i].f5).getD 0 - pl (l.map toLine) long i - 1)) = _
        rw [hat long, hb]
        rfl
      cases hq : long.getD i false with
      | true =>
        refine Ev.step (fun k => ?_) (hno (by rw [hq]; rfl))
        simp only [switchbackref17_Assemble.l1]
        rw [if_pos (by omega), if_pos (by omega), rdAt l i hlt, branch17_f]
        simp only [Option.bind_some]
        rw [if_pos hb, if_pos (by omega), hrs, hq, if_pos rfl]
      | false =>
        have base : ∀ k, switchbackref17_Assemble.l1 (k + 1) l (stK (l.map toLine) long i) ((List.range l.length).map (pl (l.map toLine) long)) (pl (l.map toLine) long l.length) st (grK (l.map toLine) long i) (i : Int) ([] : List Int) ([] : List Int) r = switchbackref17_Assemble.j2 k l (stK (l.map toLine) long i) ((List.range l.length).map (pl (l.map toLine) long)) (pl (l.map toLine) long l.length) st (grK (l.map toLine) long i) (i : Int) (need (l.map toLine) long i) ([] : List Int) ([] : List Int) r := fun k => by
          simp only [switchbackref17_Assemble.l1]
          rw [if_pos (by omega), if_pos (by omega), rdAt l i hlt, branch17_f]
          simp only [Option.bind_some]
          rw [if_pos hb, if_pos (by omega), hrs, hq, if_neg (show ¬ (false = true) by decide), if_pos hlab.1, if_pos (by omega), if_pos (by rw [List.length_map, List.length_range]; omega), hst5, hpi, wrap_i64 (x := pl (l.map toLine) long j - pl (l.map toLine) long i) (by omega) (by omega), wrap_i64 (by omega) (by omega), near_f, hnd]
          rfl
        cases hnn : need (l.map toLine) long i with
        | true => exact Ev.step (fun k => by rw [base, hnn]) (hyes hnn hq)
        | false => exact Ev.step (fun k => by rw [base, hnn]) (hno (by rw [hq, hnn]; rfl))
    · refine Ev.step (fun k => ?_) (hno (by
        have : need (l.map toLine) long i = false := by
          cases h : need (l.map toLine) long i
          · rfl
          · have := (need_iff.1 h).1
            rw [hg] at this
            exact absurd this hb
        rw [this, Bool.or_false]))
      simp only [switchbackref17_Assemble.l1]
      rw [if_pos (by omega), if_pos (by omega), rdAt l i hlt, branch17_f]
      simp only [Option.bind_some]
      rw [if_neg hb]

theorem places_f (long : List Bool) (hl : long.length = l.length) : ∃ st, At st (fl (l.map toLine) long) ∧ Ev (fun k => switchbackref17_Places.f k l long) ((List.range l.length).map (pl (l.map toLine) long), pl (l.map toLine) long l.length, st) := by
  have hsm := T.small
  rw [List.length_map] at hsm
  have hf : ∀ i (h : i < l.length), fitsB (toLine l[i]) = true := fun i h => (T.fits _ (List.mem_map.2 ⟨l[i], List.getElem_mem h, rfl⟩)).2.2
  have hstart : ∀ a' : List Int, a'.length = 100001 → (∀ x, x < 100001 → a'.getD x 0 = -1) → At a' (mp (l.map toLine) long (fun _ => none) 0) := fun a' h1 h2 => ⟨h1, fun x h0 h3 => by
    show rd a' x = -1
    rw [rd_int]
    exact h2 _ (by omega)⟩
  obtain ⟨a', h1, h2⟩ := places_l1 l hw hsm hf long hl l.length 0 (List.replicate 100001 (-1)) (by omega) (by omega) (hstart _ List.length_replicate fun x hx => getD_repl hx)
  refine ⟨a', h1, ?_⟩
  unfold switchbackref17_Places.f
  simp only [if_pos (show 100001 ≤ 35184372088832 by decide)]
  refine places_l0 l long _ 100001 0 (List.replicate 100001 0) (by omega) (by omega) List.length_replicate (fun x hx => absurd hx (Nat.not_lt_zero _)) fun a2 h3 h4 => ?_
  have ea : a2 = List.replicate 100001 (-1) := getD_ext 0 (by rw [List.length_replicate, h3]) fun x hx => by rw [h4 x (by omega), getD_repl (by omega)]
  rw [ea]
  exact h2

theorem asm_l0 : ∀ (m : Nat) (long : List Bool) (r : Nat), long.count false = m → long.length = l.length → r + long.count false ≤ 100000 →
    Ev (fun k => switchbackref17_Assemble.l0 k l long ([] : List Int) ([] : List Int) (r : Int)) (res (l.map toLine) (rounds (l.map toLine) long r)) := by
  have hsm := T.small
  rw [List.length_map] at hsm
  intro m
  induction m using Nat.strongRecOn with
  | ind m ih =>
    intro long r hm hl hr
    obtain ⟨st, hst, hp⟩ := places_f l hw T long hl
    refine Ev.step (f := fun k => (switchbackref17_Places.f k l long).bind fun bt => switchbackref17_Assemble.l1 k l long bt.1 bt.2.1 bt.2.2 false 0 ([] : List Int) ([] : List Int) ((r + 1 : Nat) : Int)) (fun k => ?_) (Ev.bind hp ?_)
    · simp only [switchbackref17_Assemble.l0]
      rw [wrap_i64 (x := (r : Int) + 1) (by omega) (by omega)]
      rfl
    have h1 := asm_l1 l hw T long hl st hst ((r + 1 : Nat) : Int) (res (l.map toLine) (rounds (l.map toLine) long r)) ?_ l.length 0 (by omega) (by omega)
    · rw [stK_zero, show grK (l.map toLine) long 0 = false from rfl] at h1
      exact h1
    · rw [rounds.eq_1 (l.map toLine) long r, stK_all (l.map toLine) long l.length hl]
      by_cases hs : step (l.map toLine) long = long
      · rw [dif_pos hs, (grK_step (l.map toLine) long l.length hl).2 hs, hs]
        simp only [Bool.false_eq_true, if_false]
        unfold res
        rw [List.length_map]
        by_cases hbig : 65536 < pl (l.map toLine) long l.length
        · simp only [if_pos (show pl (l.map toLine) long l.length > 65536 from hbig)]
          exact Ev.now _
        · simp only [if_neg (show ¬ pl (l.map toLine) long l.length > 65536 from hbig)]
          exact asm_l2 l hw T long hl st hst _ l.length 0 (by omega) (by omega)
      · have hgr : grK (l.map toLine) long l.length = true := by
          cases h : grK (l.map toLine) long l.length
          · exact absurd ((grK_step (l.map toLine) long l.length hl).1 h) hs
          · rfl
        rw [dif_neg hs, hgr]
        simp only [if_true]
        have hlt := step_lt (l.map toLine) long hs
        exact ih _ (by omega) _ (r + 1) rfl (by rw [step_len]; exact hl) (by omega)
end

theorem assemble_ref (l : List S40) (hw : wfS l = true) : Ev (fun k => switchbackref17_Assemble.f k l) ((asm (l.map toLine)).words, (asm (l.map toLine)).kinds, (asm (l.map toLine)).places, ((asm (l.map toLine)).rounds : Int), ((asm (l.map toLine)).line : Int), (asm (l.map toLine)).err) := by
  unfold switchbackref17_Assemble.f
  refine Ev.bind (refused_f l) ?_
  by_cases he : (refusedP (l.map toLine)).2 = 0
  · have T := takes_of he
    have hsm := T.small
    rw [List.length_map] at hsm
    simp only [if_pos he, if_pos (show (0 : Int) ≤ (l.length : Int) by omega), Int.toNat_natCast, if_pos (show l.length ≤ 281474976710656 by omega)]
    have h := asm_l0 l hw T _ (List.replicate l.length false) 0 rfl (by simp) (by have := List.count_le_length (a := false) (l := List.replicate l.length false); rw [List.length_replicate] at this; omega)
    have e : res (l.map toLine) (rounds (l.map toLine) (List.replicate l.length false) 0) = ((asm (l.map toLine)).words, (asm (l.map toLine)).kinds, (asm (l.map toLine)).places, ((asm (l.map toLine)).rounds : Int), ((asm (l.map toLine)).line : Int), (asm (l.map toLine)).err) := by
      have ef : rounds (l.map toLine) (List.replicate l.length false) 0 = fin (l.map toLine) := by unfold fin; rw [List.length_map]
      rw [ef]
      unfold res asm
      rw [if_neg (show ¬ (refusedP (l.map toLine)).2 ≠ 0 from fun h => h he)]
      by_cases hb : 65536 < pl (l.map toLine) (fin (l.map toLine)).1 (l.map toLine).length
      · rw [if_pos hb, if_pos hb]; rfl
      · rw [if_neg hb, if_neg hb]; rfl
    rw [e] at h
    exact h
  · have e : asm (l.map toLine) = ⟨[], [], [], 0, (refusedP (l.map toLine)).1, (refusedP (l.map toLine)).2⟩ := by unfold asm; rw [if_pos he]
    rw [e]
    simp only [if_neg he]
    exact Ev.now _

end Go.Proofs.YtamimnaafiphcaaDoor.PR1D
