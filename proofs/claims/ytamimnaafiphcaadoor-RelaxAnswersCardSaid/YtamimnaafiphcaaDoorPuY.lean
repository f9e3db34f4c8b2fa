/- The assembler's reference, plainly: sizes and places. -/
import Derived.Test.YtamimnaafiphcaaDoorPuXZ
import Derived.Test.YtamimnaafiphcaaDoorPR1DZ
set_option linter.unusedVariables false
set_option linter.unusedSimpArgs false
namespace Go.Proofs.YtamimnaafiphcaaDoor.PR1D
open Go.RowKit Go.Proofs.YtamimnaafiphcaaDoorW.PrintWords Go.Proofs.YtamimnaafiphcaaDoorW.PrintLast Go.Proofs.YtamimnaafiphcaaDoorW.PrintMore

theorem size_f (a b c d e f : Int) (g : List Int) (lg : Bool) (h400 : g.length ≤ 400) : Ev (fun k => switchbackref17_Size.f k a b c d e f g lg) (sizeP ⟨a, b, c, d, e, f, g⟩ lg) := by
  unfold switchbackref17_Size.f sizeP follows
  simp only []
  rw [branch16_f]
  simp only [Option.bind_some]
  by_cases h0 : a = 0
  · simp only [if_pos h0]
    exact Ev.now _
  simp only [if_neg h0]
  have j1 : ∀ x : Bool, Ev (fun k => switchbackref17_Size.j1 k x a b c d e f g) (if x = true then 2 else if a = 42 then 2 + (g.length : Int) else 1) := fun x => by
    refine Ev.step (f := fun _ => some (if x = true then 2 else if a = 42 then 2 + (g.length : Int) else 1)) (fun k => ?_) (Ev.now _)
    simp only [switchbackref17_Size.j1]
    rw [wrap_i64 (x := 2 + (g.length : Int)) (by omega) (by omega)]
    by_cases hx : x = true
    · rw [if_pos hx, if_pos hx]
    · rw [if_neg hx, if_neg hx]
      by_cases h42 : a = 42
      · rw [if_pos h42, if_pos h42]
      · rw [if_neg h42, if_neg h42]
  have j0 : ∀ x : Bool, Ev (fun k => switchbackref17_Size.j0 k lg x a b c d e f g) (if x = true then 3 else if a = 40 ∧ lg = true ∨ a = 41 ∨ a = 43 ∨ a = 2 then 2 else if a = 42 then 2 + (g.length : Int) else 1) := fun x => by
    by_cases hx : x = true
    · rw [if_pos hx]
      exact Ev.step (f := fun _ => some 3) (fun k => by simp only [switchbackref17_Size.j0]; rw [if_pos hx]) (Ev.now _)
    · rw [if_neg hx]
      have key := j1 (decide (a = 40 ∧ lg = true ∨ a = 41 ∨ a = 43 ∨ a = 2))
      simp only [decide_eq_true_eq] at key
      refine Ev.step (fun k => ?_) key
      simp only [switchbackref17_Size.j0]
      rw [if_neg hx]
      by_cases h40 : a = 40
      · subst h40
        cases lg <;> simp
      · by_cases h41 : a = 41
        · subst h41; simp
        · by_cases h43 : a = 43
          · subst h43; simp
          · simp only [if_neg h40, if_neg h41, if_neg h43]
            congr 1
            by_cases h2 : a = 2
            · subst h2; simp
            · simp [h40, h41, h43, h2]
  by_cases hb : isBr a = true
  · have hr : 30 ≤ a ∧ a ≤ 39 := by unfold isBr within at hb; simpa using hb
    simp only [if_pos hb]
    have := j0 lg
    rw [if_neg (show ¬ a = 42 by omega)] at this ⊢
    cases lg with
    | true => rw [if_pos rfl] at this; rw [if_pos ⟨hb, rfl⟩]; exact this
    | false =>
      rw [if_neg (by decide), if_neg (by simp; omega)] at this
      rw [if_neg (by simp), if_neg (by simp), if_neg (by omega), if_neg (by omega)]
      exact this
  · simp only [if_neg hb]
    have := j0 false
    rw [if_neg (by decide)] at this
    by_cases h42 : a = 42
    · subst h42
      rw [if_neg (by simp), if_pos rfl] at this
      rw [if_pos rfl]
      exact this
    · rw [if_neg h42] at this ⊢
      rw [if_neg (by rintro ⟨h, _⟩; exact hb h)]
      by_cases h40 : a = 40 ∧ lg = true
      · rw [if_pos (Or.inl h40)] at this
        rw [if_pos h40]; exact this
      · rw [if_neg h40]
        by_cases h2 : a = 2 ∨ a = 41 ∨ a = 43
        · rw [if_pos (by omega)] at this
          rw [if_pos h2]; exact this
        · rw [if_neg (by rintro (h | h); exact h40 h; omega)] at this
          rw [if_neg h2, if_neg h42]
          exact this

structure At (at' : List Int) (f : Int → Option Int) : Prop where
  len : at'.length = 100001
  at_ : ∀ x : Int, 0 ≤ x → x ≤ 100000 → rd at' x = (f x).getD (-1)

theorem At.set {a : List Int} {f : Int → Option Int} (h : At a f) {y v : Int} (hy : 0 ≤ y ∧ y ≤ 100000) : At (a.set y.toNat v) (fun x => if x = y then some v else f x) where
  len := by rw [List.length_set]; exact h.len
  at_ := fun x h0 h1 => by
    have hl := h.len
    by_cases e : x = y
    · subst e
      unfold rd
      simp [List.getD, show x.toNat < a.length by omega]
    · have hx := h.at_ x h0 h1
      unfold rd at hx ⊢
      rw [List.getD_eq_getElem?_getD, List.getElem?_set_ne (by omega), ← List.getD_eq_getElem?_getD, hx]
      simp [e]

theorem sized_of (l : List S40) (hw : wfS l = true) (hn : l.length ≤ 60000) (hf : ∀ i (h : i < l.length), fitsB (toLine l[i]) = true) : Sized (l.map toLine) :=
  ⟨by rw [List.length_map]; exact hn, fun x hx => by
    obtain ⟨i, hi, rfl⟩ := List.mem_iff_getElem.1 hx
    rw [List.getElem_map]
    exact fits_list _ (hf i (by rw [List.length_map] at hi; exact hi)), fun x hx => (wfS_all hw x hx).1⟩

section
variable (l : List S40) (hw : wfS l = true) (hn : l.length ≤ 60000) (hf : ∀ i (h : i < l.length), fitsB (toLine l[i]) = true) (long : List Bool) (hl : long.length = l.length)
include hw hn hf hl

theorem places_l1 : ∀ (d i : Nat) (a : List Int), l.length - i = d → i ≤ l.length → At a (mp (l.map toLine) long (fun _ => none) i) →
    ∃ a', At a' (fl (l.map toLine) long) ∧ Ev (fun k => switchbackref17_Places.l1 k l long a ((List.range i).map (pl (l.map toLine) long)) (pl (l.map toLine) long i) (i : Int)) ((List.range l.length).map (pl (l.map toLine) long), pl (l.map toLine) long l.length, a') := by
  have hsz : Sized (l.map toLine) := sized_of l hw hn hf
  intro d
  induction d with
  | zero =>
    intro i a hd hi ha
    obtain rfl : i = l.length := by omega
    refine ⟨a, ?_, Ev.step (f := fun _ => some ((List.range l.length).map (pl (l.map toLine) long), pl (l.map toLine) long l.length, a)) (fun k => ?_) (Ev.now _)⟩
    · unfold fl; rw [List.length_map]; exact ha
    · simp only [switchbackref17_Places.l1]
      rw [if_neg (by omega)]
  | succ d ih =>
    intro i a hd hi ha
    have hlt : i < l.length := by omega
    have hpr := pl_range (l.map toLine) long hsz i
    have hpr1 := pl_range (l.map toLine) long hsz (i + 1)
    have hg : (l.map toLine).getD i default = toLine l[i] := by simp [List.getD, hlt]
    have hlg : rdOf false long (i : Int) = long.getD i false := by unfold rdOf; simp
    have hsp := size_f l[i].f0 l[i].f1 l[i].f2 l[i].f3 l[i].f4 l[i].f5 l[i].f6 (long.getD i false) (fits_list (toLine l[i]) (hf i hlt))
    have e1 : pl (l.map toLine) long (i + 1) = pl (l.map toLine) long i + sizeP (toLine l[i]) (long.getD i false) := by rw [← hg]; rfl
    have hout : (List.range i).map (pl (l.map toLine) long) ++ [pl (l.map toLine) long i] = (List.range (i + 1)).map (pl (l.map toLine) long) := by rw [List.range_succ, List.map_append]; rfl
    have j2 : ∀ a2, At a2 (mp (l.map toLine) long (fun _ => none) (i + 1)) → ∃ a', At a' (fl (l.map toLine) long) ∧ Ev (fun k => switchbackref17_Places.j2 k l long a2 ((List.range (i + 1)).map (pl (l.map toLine) long)) (pl (l.map toLine) long i) (i : Int)) ((List.range l.length).map (pl (l.map toLine) long), pl (l.map toLine) long l.length, a') := fun a2 h2 => by
      obtain ⟨a', h3, h4⟩ := ih (i + 1) a2 (by omega) (by omega) h2
      refine ⟨a', h3, ?_⟩
      refine Ev.step (f := fun k => (switchbackref17_Size.f k l[i].f0 l[i].f1 l[i].f2 l[i].f3 l[i].f4 l[i].f5 l[i].f6 (long.getD i false)).bind fun t => switchbackref17_Places.l1 k l long a2 ((List.range (i + 1)).map (pl (l.map toLine) long)) (wrap64 (pl (l.map toLine) long i + t)) (wrap64 ((i : Int) + 1))) (fun k => ?_) (Ev.bind hsp ?_)
      · simp only [switchbackref17_Places.j2]
        rw [if_pos (by omega), if_pos (by omega), if_pos (by omega), rdAt l i hlt, hlg]
      · have e2 : sizeP ⟨l[i].f0, l[i].f1, l[i].f2, l[i].f3, l[i].f4, l[i].f5, l[i].f6⟩ (long.getD i false) = sizeP (toLine l[i]) (long.getD i false) := rfl
        rw [e2, ← e1, wrap_i64 (x := (i : Int) + 1) (by omega) (by omega), wrap_i64 (by omega) (by omega)]
        exact h4
    have base : ∀ k, switchbackref17_Places.l1 (k + 1) l long a ((List.range i).map (pl (l.map toLine) long)) (pl (l.map toLine) long i) (i : Int) = if l[i].f0 = 0 then (if 0 ≤ l[i].f5 then (if l[i].f5 < (a.length : Int) then switchbackref17_Places.j2 k l long (a.set l[i].f5.toNat (pl (l.map toLine) long i)) ((List.range (i + 1)).map (pl (l.map toLine) long)) (pl (l.map toLine) long i) (i : Int) else none) else none) else switchbackref17_Places.j2 k l long a ((List.range (i + 1)).map (pl (l.map toLine) long)) (pl (l.map toLine) long i) (i : Int) := fun k => by
      simp only [switchbackref17_Places.l1]
      rw [if_pos (by omega), if_pos (by rw [List.length_map, List.length_range]; omega), hout]
      simp only [Option.bind_some]
      rw [if_pos (by omega), rdAt l i hlt]
    have emp : mp (l.map toLine) long (fun _ => none) (i + 1) = if l[i].f0 = 0 then (fun x => if x = l[i].f5 then some (pl (l.map toLine) long i) else mp (l.map toLine) long (fun _ => none) i x) else mp (l.map toLine) long (fun _ => none) i := by
      show (if ((l.map toLine).getD i default).op = 0 then _ else _) = _
      rw [hg]
      rfl
    by_cases h0 : l[i].f0 = 0
    · obtain ⟨hlab, _⟩ := fits_at (hf i hlt) h0
      have hx := lab_in (show isLabel l[i].f5 = true from hlab)
      have hal := ha.len
      rw [if_pos h0] at emp
      obtain ⟨a', h3, h4⟩ := j2 (a.set l[i].f5.toNat (pl (l.map toLine) long i)) (by rw [emp]; exact ha.set hx)
      exact ⟨a', h3, Ev.step (fun k => by rw [base, if_pos h0, if_pos hx.1, if_pos (by omega)]) h4⟩
    · rw [if_neg h0] at emp
      obtain ⟨a', h3, h4⟩ := j2 a (by rw [emp]; exact ha)
      exact ⟨a', h3, Ev.step (fun k => by rw [base, if_neg h0]) h4⟩
end

theorem places_l0 (l : List S40) (long : List Bool) (r : List Int × Int × List Int) : ∀ (d i : Nat) (a : List Int), 100001 - i = d → i ≤ 100001 → a.length = 100001 → (∀ x, x < i → a.getD x 0 = -1) →
    (∀ a' : List Int, a'.length = 100001 → (∀ x, x < 100001 → a'.getD x 0 = -1) → Ev (fun k => switchbackref17_Places.l1 k l long a' ([] : List Int) 0 0) r) → Ev (fun k => switchbackref17_Places.l0 k l long a (i : Int)) r := by
  intro d
  induction d with
  | zero =>
    intro i a hd hi hl ha h
    refine Ev.step (f := fun k => switchbackref17_Places.l1 k l long a ([] : List Int) 0 0) (fun k => ?_) (h a hl (fun x hx => ha x (by omega)))
    simp only [switchbackref17_Places.l0]
    rw [if_neg (by omega)]
  | succ d ih =>
    intro i a hd hi hl ha h
    refine Ev.step (f := fun k => switchbackref17_Places.l0 k l long (a.set i (-1)) ((i + 1 : Nat) : Int)) (fun k => ?_) (ih (i + 1) (a.set i (-1)) (by omega) (by omega) (by rw [List.length_set]; exact hl) (fun x hx => ?_) h)
    · simp only [switchbackref17_Places.l0]
      rw [if_pos (by omega), if_pos (by omega), if_pos (by omega), wrap_i64 (x := (i : Int) + 1) (by omega) (by omega), Int.toNat_natCast]
      rfl
    · by_cases e : i = x
      · subst e
        simp [List.getD, show i < a.length by omega]
      · have := ha x (by omega)
        rw [List.getD_eq_getElem?_getD] at this ⊢
        rw [List.getElem?_set_ne e]
        exact this

end Go.Proofs.YtamimnaafiphcaaDoor.PR1D
