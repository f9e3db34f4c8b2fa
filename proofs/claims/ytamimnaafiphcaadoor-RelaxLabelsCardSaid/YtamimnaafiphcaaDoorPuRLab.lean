/- The law RelaxLabels, plainly; its contract. -/
import Derived.Test.YtamimnaafiphcaaDoorPuX2
import Derived.Test.YtamimnaafiphcaaDoorPR1Cx37
set_option linter.unusedVariables false
set_option linter.unusedSimpArgs false
namespace Go.Proofs.YtamimnaafiphcaaDoor.PR1C
open Go.RowKit Go.Proofs.YtamimnaafiphcaaDoorW.PrintWords Go.Proofs.YtamimnaafiphcaaDoorW.PrintLast Go.Proofs.YtamimnaafiphcaaDoorW.PrintMore

/-- All labels of a list are marked. -/
structure Used (u : List Bool) (ls : List Line) : Prop where
  len : u.length = 100001
  has : ∀ x ∈ labs ls, u.getD x.toNat false = true

theorem Used.set {u : List Bool} {ls : List Line} (h : Used u ls) (n : Nat) : Used (u.set n true) ls where
  len := by rw [List.length_set]; exact h.len
  has := fun x hx => by
    have := h.has x hx
    rw [List.getD_eq_getElem?_getD, List.getElem?_set]
    by_cases e : n = x.toNat
    · rw [if_pos e]
      have hl : n < u.length := by
        rw [e]
        apply Classical.byContradiction
        intro hn
        rw [List.getD_eq_getElem?_getD, List.getElem?_eq_none (by omega)] at this
        cases this
      rw [if_pos hl]
      rfl
    · rw [if_neg e, ← List.getD_eq_getElem?_getD]
      exact this

theorem Used.more {u : List Bool} {ls ls' : List Line} (h : Used u ls) (x : Int) (h0 : 0 ≤ x) (h1 : x ≤ 100000) (hs : ∀ y ∈ labs ls', y = x ∨ y ∈ labs ls) : Used (u.set x.toNat true) ls' where
  len := by rw [List.length_set]; exact h.len
  has := fun y hy => by
    rcases hs y hy with rfl | hy
    · have hl := h.len
      rw [List.getD_eq_getElem?_getD, List.getElem?_set_self (by omega)]
      rfl
    · exact (h.set x.toNat).has y hy

section
variable (l : List S40) (T : Takes (l.map toLine))
include T

theorem lab_l0 (where_ : List Int) (P : List Int) (F : Nat → List Bool → Option Bool) (W K : List Int) (R : Int)
    (hF : ∀ k u, F k u = (switchbacklaw17_Copy.f k l).bind fun t => switchbacklaw17_RelaxLabels.l1 k where_ u t 100000 0 W K P R)
    (hend : ∀ u, Used u (l.map toLine) → Ev (fun k => F k u) true) (d : Nat) : ∀ (i : Nat) (u : List Bool), l.length - i = d → i ≤ l.length → Used u ((l.map toLine).take i) → Ev (fun k => switchbacklaw17_RelaxLabels.l0 k l where_ u (i : Int) W K P R) true := by
  induction d with
  | zero =>
    intro i u hd hi hu
    obtain rfl : i = l.length := by omega
    refine Ev.step (f := fun k => F k u) (fun k => ?_) (hend u (by rwa [List.take_of_length_le (by simp)] at hu))
    simp only [switchbacklaw17_RelaxLabels.l0]
    rw [if_neg (by omega), hF]
  | succ d ih =>
    intro i u hd hi hu
    have hlt : i < l.length := by omega
    have hsm := T.small
    rw [List.length_map] at hsm
    have htk : (l.map toLine).take (i + 1) = (l.map toLine).take i ++ [toLine l[i]] := by
      rw [List.take_add_one, List.getElem?_map, List.getElem?_eq_getElem hlt]
      rfl
    have hfit := (T.fits _ (List.mem_map.2 ⟨l[i], List.getElem_mem hlt, rfl⟩)).2.2
    by_cases h0 : l[i].f0 = 0
    · have hr := isLabel_range (fits_at hfit h0).1
      replace hr : 0 ≤ l[i].f5 ∧ l[i].f5 ≤ 100000 := hr
      refine Ev.step (f := fun k => switchbacklaw17_RelaxLabels.l0 k l where_ (u.set (l[i].f5).toNat true) ((i + 1 : Nat) : Int) W K P R) (fun k => ?_) (ih (i + 1) _ (by omega) (by omega) (hu.more _ hr.1 hr.2 fun y hy => ?_))
      · have hul := hu.len
        simp only [switchbacklaw17_RelaxLabels.l0]
        rw [if_pos (by omega), if_pos (by omega), rdT, getD_get _ hlt, if_pos h0, if_pos hr.1, if_pos (by omega), wrap_i64 (x := (i : Int) + 1) (by omega) (by omega)]
        rfl
      · rw [htk, labs_append, List.mem_append] at hy
        rcases hy with hy | hy
        · exact .inr hy
        · rw [labs_cons_yes (by exact h0)] at hy
          rcases List.mem_cons.1 hy with rfl | hy
          · exact .inl rfl
          · simp [labs] at hy
    · refine Ev.step (f := fun k => switchbacklaw17_RelaxLabels.l0 k l where_ u ((i + 1 : Nat) : Int) W K P R) (fun k => ?_) (ih (i + 1) _ (by omega) (by omega) ⟨hu.len, fun y hy => ?_⟩)
      · simp only [switchbacklaw17_RelaxLabels.l0]
        rw [if_pos (by omega), if_pos (by omega), rdT, getD_get _ hlt, if_neg h0, wrap_i64 (x := (i : Int) + 1) (by omega) (by omega)]
        rfl
      · rw [htk, labs_append, List.mem_append] at hy
        rcases hy with hy | hy
        · exact hu.has y hy
        · rw [labs_cons_no (by exact h0)] at hy
          simp [labs] at hy
end

/-- What stays as it was. -/
structure Good (W K : List Int) (R : Nat) (more : List S40) : Prop where
  wf : wfS more = true
  small : more.length ≤ 60000
  short : ∀ x ∈ more, x.f6.length ≤ 400
  err : (asm (more.map toLine)).err = 0
  line : (asm (more.map toLine)).line = 0
  words : (asm (more.map toLine)).words = W
  kinds : (asm (more.map toLine)).kinds = K
  rounds : (asm (more.map toLine)).rounds = R
  places : (asm (more.map toLine)).places.length = more.length

theorem rd_nat (l : List Int) (i : Nat) : rd l (i : Int) = l.getD i 0 := by unfold rd; simp

theorem lab_ins (W K : List Int) (R : Nat) (more : List S40) (G : Good W K R more) (u : List Bool) (hu : Used u (more.map toLine)) (n : Nat) (hn : n ≤ 100000) (hfree : u.getD n false = false) (h6 : more.length < 60000) (t : Nat) (ht : t ≤ more.length) :
    Good W K R (more.take t ++ [(⟨0, 0, 0, 0, 0, (n : Int), ([] : List Int)⟩ : S40)] ++ more.drop t) ∧ Used (u.set n true) ((more.take t ++ [(⟨0, 0, 0, 0, 0, (n : Int), ([] : List Int)⟩ : S40)] ++ more.drop t).map toLine) := by
  have hx : (n : Int) ∉ labs (more.map toLine) := fun hm => by
    have := hu.has _ hm
    rw [Int.toNat_natCast, hfree] at this
    cases this
  have e : (more.take t ++ [(⟨0, 0, 0, 0, 0, (n : Int), ([] : List Int)⟩ : S40)] ++ more.drop t).map toLine = insA t (labL n) (more.map toLine) := by
    unfold insA
    rw [List.map_append, List.map_append, List.map_take, List.map_drop]
    rfl
  obtain ⟨a1, a2, a3, a4, a5, a6⟩ := asm_insert (t := t) G.err (by simpa using ht) (by simpa using h6) hx (by omega) (by omega)
  rw [← e] at a1 a2 a3 a4 a5 a6
  refine ⟨⟨?_, by simp; omega, fun x hx => ?_, a1, a2, a3.trans G.words, a4.trans G.kinds, a5.trans G.rounds, by rw [a6, List.length_map]⟩, ?_⟩
  · unfold wfS
    rw [List.all_eq_true]
    intro x hx
    have hw := List.all_eq_true.1 G.wf
    rw [List.mem_append, List.mem_append, List.mem_singleton] at hx
    rcases hx with (hx | hx) | hx
    · exact hw x (List.mem_of_mem_take hx)
    · rw [hx, Bool.and_eq_true]
      exact ⟨wf64_mk (by show (_ : Int) ≤ (n : Int); omega) (by show (n : Int) ≤ _; omega), rfl⟩
    · exact hw x (List.mem_of_mem_drop hx)
  · rw [List.mem_append, List.mem_append, List.mem_singleton] at hx
    rcases hx with (hx | hx) | hx
    · exact G.short x (List.mem_of_mem_take hx)
    · rw [hx]; exact Nat.zero_le _
    · exact G.short x (List.mem_of_mem_drop hx)
  · rw [e]
    have := hu.more (ls' := insA t (labL n) (more.map toLine)) (n : Int) (by omega) (by omega) fun y hy => by
      rcases List.mem_cons.1 ((labs_ins (more.map toLine) t (n : Int)).mem_iff.1 hy) with h | h
      · exact .inl h
      · exact .inr h
    rwa [Int.toNat_natCast] at this

section
variable (W K P : List Int) (R : Nat) (hWK : W.length = K.length) (hW : W.length ≤ 100000000)
include hWK hW

theorem lab_l3 (more : List S40) (P' : List Int) (hP : P'.length = more.length) (d : Nat) : ∀ i : Nat, W.length - i = d → i ≤ W.length → Ev (fun k => switchbacklaw17_RelaxLabels.l3 k more (i : Int) W K P R W K P' R) true := by
  induction d with
  | zero =>
    intro i hd hi
    refine Ev.step (f := fun k => (switchbacklaw17_live.f).bind fun t => if t = true then some ((P'.length : Int) == (more.length : Int)) else some false) (fun k => by simp only [switchbacklaw17_RelaxLabels.l3]; rw [if_neg (by omega)]) (Ev.bind live_f ?_)
    simp only [if_true, hP, BEq.rfl]
    exact Ev.now _
  | succ d ih =>
    intro i hd hi
    refine Ev.step (f := fun k => switchbacklaw17_RelaxLabels.l3 k more ((i + 1 : Nat) : Int) W K P R W K P' R) (fun k => ?_) (ih (i + 1) (by omega) (by omega))
    simp only [switchbacklaw17_RelaxLabels.l3]
    rw [if_pos (by omega), if_pos (by omega), if_pos (by omega), if_pos trivial, if_pos (by omega), if_pos (by omega), if_pos trivial, wrap_i64 (x := (i : Int) + 1) (by omega) (by omega)]
    rfl

theorem lab_j5 (more : List S40) (G : Good W K R more) : Ev (fun k => switchbacklaw17_RelaxLabels.j5 k more W K P R) true := by
  refine Ev.step (f := fun k => switchbacklaw17_RelaxLabels.j6 k more false W K P R W K (asm (more.map toLine)).places R) (fun k => ?_) ?_
  · simp only [switchbacklaw17_RelaxLabels.j5]
    rw [assemble_f G.wf]
    simp only [Option.bind_some]
    rw [G.err, G.line, G.words, G.kinds, G.rounds]
    simp
  · refine Ev.step (f := fun k => switchbacklaw17_RelaxLabels.l3 k more 0 W K P R W K (asm (more.map toLine)).places R) (fun k => ?_) (lab_l3 W K P R hWK hW more _ G.places _ 0 rfl (Nat.zero_le _))
    simp only [switchbacklaw17_RelaxLabels.j6]
    rw [if_neg (by decide)]

theorem lab_j4 (where_ : List Int) (hwh : ∀ x ∈ where_, -9223372036854775808 ≤ x ∧ x ≤ 9223372036854775807) (i : Nat) (hi : i < where_.length) (hi20 : i < 20) (more : List S40) (G : Good W K R more) (u : List Bool) (hu : Used u (more.map toLine)) (h6 : more.length < 60000)
    (ih : ∀ (more' : List S40) (u' : List Bool) (n' : Nat), n' ≤ 100000 → Good W K R more' → Used u' (more'.map toLine) → Ev (fun k => switchbacklaw17_RelaxLabels.l1 k where_ u' more' (n' : Int) ((i + 1 : Nat) : Int) W K P R) true)
    (n : Nat) (hn : n ≤ 100000) (hfree : n = 0 ∨ u.getD n false = false) : Ev (fun k => switchbacklaw17_RelaxLabels.j4 k where_ u more (n : Int) (i : Int) W K P R) true := by
  by_cases h0 : n = 0
  · subst h0
    refine Ev.step (f := fun k => switchbacklaw17_RelaxLabels.j5 k more W K P R) (fun k => ?_) (lab_j5 W K P R hWK hW more G)
    simp only [switchbacklaw17_RelaxLabels.j4]
    rw [if_pos (by rfl)]
  · have hf := hfree.resolve_left h0
    have hx := hwh where_[i] (List.getElem_mem hi)
    obtain ⟨t, hp, t0, t1⟩ := pick_f (a := where_[i]) (n := (more.length : Int) + 1) hx.1 hx.2 (by omega)
    obtain ⟨t, rfl⟩ : ∃ m : Nat, t = m := ⟨t.toNat, by omega⟩
    obtain ⟨G', hu'⟩ := lab_ins W K R more G u hu n hn hf h6 t (by omega)
    have hul := hu.len
    refine Ev.step (fun k => ?_) (ih _ _ n hn G' hu')
    simp only [switchbacklaw17_RelaxLabels.j4]
    rw [if_neg (by omega), if_pos (by omega), if_pos (by omega), if_pos (by omega), if_pos (by omega), rd_nat, getD_get _ hi, wrap_i64 (x := (more.length : Int) + 1) (by omega) (by omega), hp]
    simp only [Option.bind_some]
    rw [if_pos (by omega), if_pos (by omega), if_pos (by simp; omega), if_pos (by simp; omega), if_pos (by simp; omega), wrap_i64 (x := (i : Int) + 1) (by omega) (by omega)]
    rfl

theorem lab_l2 (where_ : List Int) (hwh : ∀ x ∈ where_, -9223372036854775808 ≤ x ∧ x ≤ 9223372036854775807) (i : Nat) (hi : i < where_.length) (hi20 : i < 20) (more : List S40) (G : Good W K R more) (u : List Bool) (hu : Used u (more.map toLine)) (h6 : more.length < 60000)
    (ih : ∀ (more' : List S40) (u' : List Bool) (n' : Nat), n' ≤ 100000 → Good W K R more' → Used u' (more'.map toLine) → Ev (fun k => switchbacklaw17_RelaxLabels.l1 k where_ u' more' (n' : Int) ((i + 1 : Nat) : Int) W K P R) true)
    (n : Nat) : n ≤ 100000 → Ev (fun k => switchbacklaw17_RelaxLabels.l2 k where_ u more (n : Int) (i : Int) W K P R) true := by
  have hul := hu.len
  induction n with
  | zero =>
    intro hn
    refine Ev.step (fun k => ?_) (lab_j4 W K P R hWK hW where_ hwh i hi hi20 more G u hu h6 ih 0 (Nat.zero_le _) (.inl rfl))
    simp only [switchbacklaw17_RelaxLabels.l2]
    rw [if_neg (by omega)]
  | succ n ihn =>
    intro hn
    cases hf : u.getD (n + 1) false with
    | true =>
      refine Ev.step (fun k => ?_) (ihn (by omega))
      simp only [switchbacklaw17_RelaxLabels.l2]
      rw [if_pos (by omega), if_pos (by omega), if_pos (by omega), if_pos (by unfold rdOf; rw [Int.toNat_natCast]; exact hf), wrap_i64 (by omega) (by omega), show (((n + 1 : Nat) : Int) - 1) = (n : Int) by omega]
    | false =>
      refine Ev.step (fun k => ?_) (lab_j4 W K P R hWK hW where_ hwh i hi hi20 more G u hu h6 ih (n + 1) hn (.inr hf))
      simp only [switchbacklaw17_RelaxLabels.l2]
      rw [if_pos (by omega), if_pos (by omega), if_pos (by omega), if_neg (by unfold rdOf; rw [Int.toNat_natCast, hf]; decide)]

theorem lab_l1 (where_ : List Int) (hwh : ∀ x ∈ where_, -9223372036854775808 ≤ x ∧ x ≤ 9223372036854775807) (d : Nat) : ∀ (i : Nat) (more : List S40) (u : List Bool) (n : Nat), 20 - i = d → n ≤ 100000 → Good W K R more → Used u (more.map toLine) →
    Ev (fun k => switchbacklaw17_RelaxLabels.l1 k where_ u more (n : Int) (i : Int) W K P R) true := by
  induction d with
  | zero =>
    intro i more u n hd hn G hu
    have hj : Ev (fun k => switchbacklaw17_RelaxLabels.j2 k where_ u more (n : Int) (i : Int) false W K P R) true :=
      Ev.step (fun k => by simp only [switchbacklaw17_RelaxLabels.j2]; rw [if_neg (by decide)]) (lab_j5 W K P R hWK hW more G)
    refine Ev.step (fun k => ?_) hj
    simp only [switchbacklaw17_RelaxLabels.l1]
    by_cases h1 : (i : Int) < (where_.length : Int)
    · rw [if_pos h1, if_neg (by omega)]
    · rw [if_neg h1]
  | succ d ih =>
    intro i more u n hd hn G hu
    by_cases h1 : i < where_.length
    · by_cases h6 : more.length < 60000
      · have hj : Ev (fun k => switchbacklaw17_RelaxLabels.j2 k where_ u more (n : Int) (i : Int) true W K P R) true :=
          Ev.step (fun k => by simp only [switchbacklaw17_RelaxLabels.j2]; rw [if_pos trivial]) (lab_l2 W K P R hWK hW where_ hwh i h1 (by omega) more G u hu h6 (fun more' u' n' hn' G' hu' => ih (i + 1) more' u' n' (by omega) hn' G' hu') n hn)
        refine Ev.step (fun k => ?_) hj
        simp only [switchbacklaw17_RelaxLabels.l1]
        rw [if_pos (by omega), if_pos (by omega), decide_eq_true (by omega)]
      · have hj : Ev (fun k => switchbacklaw17_RelaxLabels.j2 k where_ u more (n : Int) (i : Int) false W K P R) true :=
          Ev.step (fun k => by simp only [switchbacklaw17_RelaxLabels.j2]; rw [if_neg (by decide)]) (lab_j5 W K P R hWK hW more G)
        refine Ev.step (fun k => ?_) hj
        simp only [switchbacklaw17_RelaxLabels.l1]
        rw [if_pos (by omega), if_pos (by omega), decide_eq_false (by omega)]
    · have hj : Ev (fun k => switchbacklaw17_RelaxLabels.j2 k where_ u more (n : Int) (i : Int) false W K P R) true :=
        Ev.step (fun k => by simp only [switchbacklaw17_RelaxLabels.j2]; rw [if_neg (by decide)]) (lab_j5 W K P R hWK hW more G)
      refine Ev.step (fun k => ?_) hj
      simp only [switchbacklaw17_RelaxLabels.l1]
      rw [if_neg (by omega)]
end

theorem labels_f (l : List S40) (hw : wfS l = true) (where_ : List Int) (hwh : ∀ x ∈ where_, -9223372036854775808 ≤ x ∧ x ≤ 9223372036854775807) : Ev (fun k => switchbacklaw17_RelaxLabels.f k l where_) true := by
  unfold switchbacklaw17_RelaxLabels.f
  rw [assemble_f hw]
  simp only [Option.bind_some]
  by_cases he : (asm (l.map toLine)).err = 0
  · obtain ⟨T, hp, e⟩ := asm_ok' he
    have hsz : Sized (l.map toLine) := ⟨T.small, fun m hm => fits_list m (T.fits m hm).2.2, fun m hm => by
      obtain ⟨x, hx, rfl⟩ := List.mem_map.1 hm
      have := List.all_eq_true.1 hw x hx
      rw [Bool.and_eq_true] at this
      exact this.1⟩
    have hwl : (asm (l.map toLine)).words.length = (asm (l.map toLine)).kinds.length := by rw [e]; exact words_kinds _ _ _
    have hwn : (asm (l.map toLine)).words.length ≤ 100000000 := by
      rw [e]
      have h1 := wordsOf_len (l.map toLine) (fin (l.map toLine)).1 hsz (l.map toLine).length
      have h2 := T.small
      show (wordsOf _ _ _).length ≤ _
      omega
    simp only [if_pos he, if_pos (show 100001 ≤ 281474976710656 by decide)]
    have hsm := T.small
    rw [List.length_map] at hsm
    have hu0 : Used (List.replicate 100001 false) ((l.map toLine).take 0) := ⟨List.length_replicate, fun x hx => by simp [labs] at hx⟩
    refine lab_l0 l T where_ (asm (l.map toLine)).places _ (asm (l.map toLine)).words (asm (l.map toLine)).kinds ((asm (l.map toLine)).rounds : Int) (fun k u => rfl) (fun u hu => ?_) l.length 0 _ (by omega) (by omega) hu0
    refine Ev.bind (copy_f l (by omega) fun x hx => by have := fits_short T x hx; omega) ?_
    exact lab_l1 _ _ _ _ hwl hwn where_ hwh 20 0 l u 100000 rfl (Nat.le_refl _) ⟨hw, hsm, fits_short T, he, by rw [e], rfl, rfl, rfl, by rw [e]; simp⟩ hu
  · simp only [if_neg he]
    exact Ev.bind live_f (Ev.now _)

theorem labels_row (ls : List Line) (A : Option Addr) (c : Nat) (l1 : List Int) (A1 : Option Addr) (c1 : Nat) (w : World) (hL : Laid w) (hl : Lines w (.slice A ls.length c) ls) (hwf : ∀ l ∈ ls, (Lit.int .i64 l.label).wf = true ∧ ∀ y ∈ l.list, (Lit.int .i64 y).wf = true) (hc : ls.length ≤ c)
    (h1 : Kd.C (Kd.int .i64) w A1 l1.length l1) (w1 : ∀ y ∈ l1, (Lit.int .i64 y).wf = true) (k1 : l1.length ≤ c1) :
    Calls Tryd.prog 6 #[.slice A ls.length c, .slice A1 l1.length c1] w fun e w' => e = .returned (.bool true) ∧ Below w.heap.size w w' := by
  obtain ⟨k, h⟩ := (labels_f (ls.map ofLine) (wf_of hwf) l1 (fun x hx => wf64 (w1 x hx))).rounds
  have := switchbacklaw17_RelaxLabels.calls k A c (ls.map ofLine) A1 c1 l1 true w (of_lines hl) (by simpa using hc) h1 k1 ⟨hL⟩ h
  rwa [List.length_map] at this

end Go.Proofs.YtamimnaafiphcaaDoor.PR1C
