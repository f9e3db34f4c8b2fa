/- The assembler's rounds, plainly: a line of one word less makes no branch long. -/
import Derived.Test.YtamimnaafiphcaaDoorRxX
set_option linter.unusedVariables false
set_option linter.unusedSectionVars false
set_option linter.unusedSimpArgs false
namespace Go.Proofs.YtamimnaafiphcaaDoor
open Go.RowKit

/-- A line of one word that goes nowhere. -/
structure Plain (p : Line) : Prop where
  lab : p.op ≠ 0
  br : goOp p.op = false
  tab : p.op ≠ 42
  lit : p.op ≠ 2
  lo : 0 ≤ p.op
  hi : p.op ≤ 48

theorem Plain.nbr {p : Line} (h : Plain p) : brOp p.op = false := by
  cases hb : brOp p.op
  · rfl
  · have := brOp_go hb; rw [h.br] at this; cases this

theorem Plain.size {p : Line} (h : Plain p) (b : Bool) : sizeP p b = 1 := by
  have hn := h.nbr
  have hg := h.br
  unfold brOp at hn
  rw [Bool.or_eq_false_iff] at hn
  have h40 : ¬ p.op = 40 := by simpa using hn.2
  have h41 : ¬ p.op = 41 := by
    intro e
    unfold goOp at hg
    rw [e] at hg
    exact absurd hg (by decide)
  have h43 : ¬ p.op = 43 := by
    intro e
    unfold goOp at hg
    rw [e] at hg
    exact absurd hg (by decide)
  have hf : follows p.op = 0 := by
    have h0 := h.lab
    have h1 := h.tab
    have h2 := h.lit
    have h3 := h.lo
    have h4 := h.hi
    unfold follows
    repeat' split
    all_goals first | rfl | omega
  unfold sizeP
  rw [if_neg h.lab, if_neg h.tab, if_neg (by rw [hn.1]; simp), if_neg (fun e => h40 e.1), hf]
  rfl

section
variable {less : List Line} {t : Nat} {p : Line} (ht : t ≤ less.length) (hp : Plain p) {c : List Bool} (hc : c.length = less.length)
include ht hp hc

theorem pl_del_le : ∀ i, i ≤ t → pl (insA t p less) (insA t false c) i = pl less c i
  | 0, _ => rfl
  | i + 1, h => by
    show pl (insA t p less) (insA t false c) i + sizeP ((insA t p less).getD i default) ((insA t false c).getD i false) = pl less c i + sizeP (less.getD i default) (c.getD i false)
    rw [pl_del_le i (by omega), insA_lt ht (by omega), insA_lt (by omega) (by omega)]

theorem pl_del_gt : ∀ i, t ≤ i → pl (insA t p less) (insA t false c) (i + 1) = pl less c i + 1 := by
  intro i
  induction i with
  | zero =>
    intro h
    have h0 : t = 0 := by omega
    subst h0
    show pl (insA 0 p less) (insA 0 false c) 0 + sizeP ((insA 0 p less).getD 0 default) ((insA 0 false c).getD 0 false) = pl less c 0 + 1
    rw [insA_at ht, hp.size]
    rfl
  | succ i ih =>
    intro h
    by_cases he : t = i + 1
    · subst he
      show pl (insA (i + 1) p less) (insA (i + 1) false c) (i + 1) + sizeP ((insA (i + 1) p less).getD (i + 1) default) ((insA (i + 1) false c).getD (i + 1) false) = pl less c (i + 1) + 1
      rw [insA_at ht, hp.size, pl_del_le ht hp hc (i + 1) (Nat.le_refl _)]
    · show pl (insA t p less) (insA t false c) (i + 1) + sizeP ((insA t p less).getD (i + 1) default) ((insA t false c).getD (i + 1) false) = pl less c i + sizeP (less.getD i default) (c.getD i false) + 1
      rw [ih (by omega), insA_gt ht (by omega), insA_gt (by omega) (by omega)]
      omega
end

theorem lab_uniq {ls : List Line} (h : (labs ls).Nodup) {i j : Nat} (hi : i < ls.length) (hj : j < ls.length) (oi : (ls.getD i default).op = 0) (oj : (ls.getD j default).op = 0) (e : (ls.getD i default).label = (ls.getD j default).label) : i = j := by
  have h1 : List.Pairwise (fun a b : Line => a.op = 0 → b.op = 0 → a.label ≠ b.label) ls := by
    unfold labs at h
    have h2 := List.pairwise_map.1 h
    have h3 := List.pairwise_filter.1 h2
    exact h3.imp (fun hab ha hb => hab (by simpa using ha) (by simpa using hb))
  have gi : ls.getD i default = ls[i] := by rw [List.getD_eq_getElem?_getD, List.getElem?_eq_getElem hi]; rfl
  have gj : ls.getD j default = ls[j] := by rw [List.getD_eq_getElem?_getD, List.getElem?_eq_getElem hj]; rfl
  rw [gi] at oi e
  rw [gj] at oj e
  rcases Nat.lt_trichotomy i j with h | h | h
  · exact absurd e (List.pairwise_iff_getElem.1 h1 i j hi hj h oi oj)
  · exact h
  · exact absurd e.symm (List.pairwise_iff_getElem.1 h1 j i hj hi h oj oi)

/-- Where a line stands with one more ahead of it or behind it. -/
def sh (t k : Nat) : Nat := if k < t then k else k + 1

theorem insA_sh {α : Type} {l : List α} {t : Nat} {a d : α} (ht : t ≤ l.length) (k : Nat) : (insA t a l).getD (sh t k) d = l.getD k d := by
  unfold sh
  split
  · exact insA_lt ht (by omega)
  · exact insA_gt ht (by omega)

section
variable {less : List Line} {t : Nat} {p : Line} (ht : t ≤ less.length) (hp : Plain p) (T : Takes (insA t p less))
include ht hp T

theorem labs_del : labs (insA t p less) = labs less := by
  unfold insA
  rw [labs_append, labs_append, show labs [p] = [] by unfold labs; simp [hp.lab], List.append_nil, ← labs_append, List.take_append_drop]

theorem takes_del : Takes less where
  small := by have := T.small; rw [insA_len ht] at this; omega
  fits := fun l hl => T.fits l (mem_ins.2 (.inr hl))
  nodup := by rw [← labs_del ht hp T]; exact T.nodup
  goal := fun l hl x hx => by rw [← labs_del ht hp T]; exact T.goal l (mem_ins.2 (.inr hl)) x hx

theorem at_del {x : Int} (hx : x ∈ labs less) : ∃ j, j < less.length ∧ (∀ c, at_ less c x = pl less c j) ∧ ∀ C, at_ (insA t p less) C x = pl (insA t p less) C (sh t j) := by
  obtain ⟨l, hl, h0, h1⟩ := labs_mem.1 hx
  obtain ⟨j0, hj0, e⟩ := List.getElem_of_mem hl
  have e2 : less.getD j0 default = l := by rw [List.getD_eq_getElem?_getD, List.getElem?_eq_getElem hj0]; exact e
  obtain ⟨j, hj, hjl, hjat⟩ := mp_idx less x less.length ⟨j0, hj0, by rw [e2]; exact h0, by rw [e2]; exact h1⟩
  have hlen := insA_len (a := p) ht
  have hsj : sh t j < (insA t p less).length := by rw [hlen]; unfold sh; split <;> omega
  have e3 : (insA t p less).getD (sh t j) default = less.getD j default := insA_sh ht j
  obtain ⟨j2, hj2, hj2l, hj2at⟩ := mp_idx (insA t p less) x (insA t p less).length ⟨sh t j, hsj, by rw [e3]; exact hjl.1, by rw [e3]; exact hjl.2⟩
  have hu : j2 = sh t j := lab_uniq T.nodup hj2 hsj hj2l.1 (by rw [e3]; exact hjl.1) (by rw [hj2l.2, e3, hjl.2])
  subst hu
  exact ⟨j, hj, fun c => by unfold at_ toW fl; rw [hjat c]; rfl, fun C => by unfold at_ toW fl; rw [hj2at C]; rfl⟩

theorem need_del {c : List Bool} (hc : c.length = less.length) {k : Nat} (hn : need less c k = true) : need (insA t p less) (insA t false c) (sh t k) = true := by
  rw [need_iff] at hn ⊢
  have hk := getD_br hn.1
  have T' := takes_del ht hp T
  have hs : ∀ l ∈ less, l.list.length ≤ 400 := fun l hl => fits_list l (T'.fits l hl).2.2
  rw [insA_sh ht k]
  refine ⟨hn.1, ?_⟩
  obtain ⟨j, hj, ha, hA⟩ := at_del ht hp T (br_lab T' hn.1)
  have h2 := hn.2
  rw [ha] at h2
  rw [hA]
  have P : ∀ i, pl (insA t p less) (insA t false c) (sh t i) = pl less c i + if i < t then 0 else 1 := by
    intro i
    unfold sh
    split
    · rw [pl_del_le ht hp hc i (by omega)]; omega
    · rw [pl_del_gt ht hp hc i (by omega)]
  rw [P, P]
  have hsz : 1 ≤ sizeP (less.getD k default) (c.getD k false) := by
    have hb := brOp_range hn.1
    have hf := follows_range (less.getD k default).op
    have hbr := hn.1
    unfold brOp at hbr
    unfold sizeP
    have : 0 ≤ follows (less.getD k default).op := by
      unfold follows
      repeat' split
      all_goals omega
    repeat' split
    all_goals omega
  cases hcse : near (pl less c j + (if j < t then (0 : Int) else 1) - (pl less c k + if k < t then (0 : Int) else 1) - 1)
  · rfl
  · rw [near_iff] at hcse
    have : near (pl less c j - pl less c k - 1) = true := by
      rw [near_iff]
      rcases Nat.lt_or_ge k j with hkj | hkj
      · obtain ⟨d, rfl⟩ : ∃ d, j = (k + 1) + d := ⟨j - (k + 1), by omega⟩
        have h3 := pl_up hs c (k + 1) d
        have h4 : pl less c (k + 1) = pl less c k + sizeP (less.getD k default) (c.getD k false) := rfl
        split at hcse <;> split at hcse <;> omega
      · obtain ⟨d, rfl⟩ : ∃ d, k = j + d := ⟨k - j, by omega⟩
        have h3 := pl_up hs c j d
        split at hcse <;> split at hcse <;> omega
    rw [h2] at this
    cases this
end

/-- A plain line less: the list is taken, it has fewer words, and no branch is long that was short. -/
theorem asm_del {less : List Line} {t : Nat} {p : Line} (ht : t ≤ less.length) (hp : Plain p) (h : (asm (insA t p less)).err = 0) :
    Takes less ∧ (asm less).err = 0 ∧ (asm less).places.length = less.length ∧ (asm less).words.length < (asm (insA t p less)).words.length ∧
    ∀ k, brOp (less.getD k default).op = true → (fin less).1.getD k false = true → (fin (insA t p less)).1.getD (sh t k) false = true := by
  obtain ⟨T, hw, ha⟩ := asm_ok' h
  have T' := takes_del ht hp T
  obtain ⟨hlen, hfix⟩ := fin_fix T
  rw [insA_len ht] at hlen hw
  obtain ⟨C, hC⟩ : ∃ C, C = (fin (insA t p less)).1 := ⟨_, rfl⟩
  rw [← hC] at hlen hfix hw ha ⊢
  obtain ⟨c, hc⟩ : ∃ c, c = C.eraseIdx t := ⟨_, rfl⟩
  have hcl : c.length = less.length := by rw [hc, List.length_eraseIdx]; split <;> omega
  have hcg : ∀ k, c.getD k false = C.getD (sh t k) false := by
    intro k
    rw [hc]
    unfold sh
    rw [List.getD_eq_getElem?_getD, List.getD_eq_getElem?_getD, List.getElem?_eraseIdx]
    split <;> rfl
  -- in the long list, what is at t has no say
  have hpl : ∀ i, pl (insA t p less) C i = pl (insA t p less) (insA t false c) i := by
    intro i
    induction i with
    | zero => rfl
    | succ i ih =>
      show pl (insA t p less) C i + sizeP ((insA t p less).getD i default) (C.getD i false) = pl (insA t p less) (insA t false c) i + sizeP ((insA t p less).getD i default) ((insA t false c).getD i false)
      rw [ih]
      congr 1
      rcases Nat.lt_trichotomy i t with h | h | h
      · have := hcg i
        rw [show sh t i = i from if_pos h] at this
        rw [insA_lt (l := c) (by omega) h, this]
      · subst h
        rw [insA_at ht, hp.size, hp.size]
      · obtain ⟨m, rfl⟩ : ∃ m, i = m + 1 := ⟨i - 1, by omega⟩
        have := hcg m
        rw [show sh t m = m + 1 from if_neg (by omega)] at this
        rw [insA_gt (l := c) (by omega) (by omega), this]
  have hat : ∀ x, x ∈ labs less → at_ (insA t p less) C x = at_ (insA t p less) (insA t false c) x := by
    intro x hx
    obtain ⟨j, hj, -, hA⟩ := at_del ht hp T hx
    rw [hA, hA, hpl]
  have hneed : ∀ k, need less c k = true → c.getD k false = true := by
    intro k hn
    have h1 := need_del ht hp T hcl hn
    have hbr := (need_iff.1 hn).1
    have h2 : need (insA t p less) C (sh t k) = true := by
      rw [need_iff] at h1 ⊢
      rw [insA_sh ht k] at h1 ⊢
      rw [hat _ (br_lab T' hbr), hpl]
      exact h1
    have h3 := step_getD (insA t p less) C (by rw [hlen, insA_len ht]) (sh t k)
    rw [hfix, h2, Bool.or_true] at h3
    rw [hcg]
    exact h3
  have hsub := fin_sub T' hneed
  have hm := pl_mono hsub 0 less.length
  have hz : pl (insA t p less) (insA t false c) (less.length + 1) = pl less c less.length + 1 := pl_del_gt ht hp hcl less.length ht
  rw [hpl, hz] at hw
  have hz0 : ∀ d, pl less d 0 = 0 := fun d => rfl
  rw [hz0, hz0, Nat.zero_add] at hm
  have hb := asm_mk T' (by omega)
  refine ⟨T', by rw [hb], by rw [hb]; simp, ?_, fun k hbr hk => by rw [← hcg]; exact hsub k hbr hk⟩
  rw [hb, ha]
  have w1 := words_pl less (fin less).1 less.length
  have w2 := words_pl (insA t p less) C (insA t p less).length
  rw [insA_len ht, hpl, hz] at w2
  simp only
  rw [insA_len ht]
  omega

end Go.Proofs.YtamimnaafiphcaaDoor
