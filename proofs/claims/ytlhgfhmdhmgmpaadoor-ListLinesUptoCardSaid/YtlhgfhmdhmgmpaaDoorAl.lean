/- Lists of lines in parts, and put together onto a row of one's own: the cells, one behind the other. -/
import Derived.Test.YtlhgfhmdhmgmpaaDoorRl
import Derived.Maps.AppendAt
import Derived.Laws.OwnMore
import Derived.DataElems
set_option linter.unusedVariables false
set_option linter.unusedSimpArgs false
namespace Go.Proofs.YtlhgfhmdhmgmpaaDoor
open Go.RowKit Go.Proofs.YtlhgfhmdhmgmpaaDoorW.PrintWords

theorem al_append {α : Type} {R : α → List Value → Prop} {size : Nat} {ps qs : List α} {cs ds : List Value} (h : Reps R size ps cs) (h' : Reps R size qs ds) : Reps R size (ps ++ qs) (cs ++ ds) := by
  refine ⟨by rw [List.length_append, List.length_append, h.1, h'.1, Nat.add_mul], fun j p hj => ?_⟩
  rcases Nat.lt_or_ge j ps.length with hl | hl
  · rw [List.getElem?_append_left hl] at hj
    have h1 : j * size + size ≤ cs.length := by rw [h.1, ← Nat.succ_mul]; exact Nat.mul_le_mul_right _ hl
    rw [List.drop_append_of_le_length (by omega), List.take_append_of_le_length (by rw [List.length_drop]; omega)]
    exact h.2 j p hj
  · rw [List.getElem?_append_right hl] at hj
    obtain ⟨d, rfl⟩ : ∃ d, j = ps.length + d := ⟨j - ps.length, by omega⟩
    rw [Nat.add_sub_cancel_left] at hj
    have e : List.drop ((ps.length + d) * size) (cs ++ ds) = List.drop (d * size) ds := by
      rw [List.drop_append, List.drop_eq_nil_of_le (by rw [h.1, Nat.add_mul]; omega), List.nil_append, h.1, Nat.add_mul, Nat.add_sub_cancel_left]
    rw [e]
    exact h'.2 d p hj

/-- The cells of lines, one behind the other. -/
theorem al_flat {w : World} {ad : Addr} : ∀ (ls : List Line) (o : Nat), (∀ i l, ls[i]? = some l → ∃ cs, cs.length = 7 ∧ kLine.K w l cs ∧ ∀ j u, cs[j]? = some u → w.cell? (ad.add ((o + i) * 7 + j)) = some u) →
    ∃ xs, Reps (kLine.K w) 7 ls xs ∧ ∀ j u, xs[j]? = some u → w.cell? (ad.add (o * 7 + j)) = some u
  | [], o, _ => ⟨[], Reps.none _ _, fun j u hu => by simp at hu⟩
  | l :: ls, o, h => by
    obtain ⟨cs, h1, h2, h3⟩ := h 0 l rfl
    obtain ⟨xs, k1, k2⟩ := al_flat ls (o + 1) fun i m hi => by
      obtain ⟨cs, c1, c2, c3⟩ := h (i + 1) m hi
      refine ⟨cs, c1, c2, fun j u hu => ?_⟩
      rw [show (o + 1 + i) * 7 + j = (o + (i + 1)) * 7 + j by omega]
      exact c3 j u hu
    have hone : Reps (kLine.K w) 7 [l] cs := by
      have := (Reps.none (kLine.K w) 7).snoc h2 h1
      simpa using this
    refine ⟨cs ++ xs, al_append hone k1, fun j u hu => ?_⟩
    rcases Nat.lt_or_ge j cs.length with hj | hj
    · rw [List.getElem?_append_left hj] at hu
      have := h3 j u hu
      rwa [Nat.add_zero] at this
    · rw [List.getElem?_append_right hj] at hu
      have := k2 _ u hu
      rwa [show (o + 1) * 7 + (j - cs.length) = o * 7 + j by omega] at this

theorem Lines.flat {w : World} {ad : Addr} {n c : Nat} {ls : List Line} (h : Lines w (.slice (some ad) n c) ls) : ∃ xs, Reps (kLine.K w) 7 ls xs ∧ ∀ j u, xs[j]? = some u → w.cell? (ad.add j) = some u := by
  obtain ⟨A, c', e, hr⟩ := h
  injection e with e1 e2 e3
  subst e1
  rcases Nat.eq_zero_or_pos ls.length with h0 | h0
  · rw [List.length_eq_zero_iff] at h0
    subst h0
    exact ⟨[], Reps.none _ _, fun j u hu => by simp at hu⟩
  · obtain ⟨ad', e, hc⟩ := hr.2.2 h0
    cases e
    obtain ⟨xs, h1, h2⟩ := al_flat (w := w) (ad := ad) ls 0 fun i l hi => by
      obtain ⟨cs, c1, c2, c3⟩ := hc i l hi
      refine ⟨cs, c1, c2, fun j u hu => ?_⟩
      rw [Nat.zero_add]
      exact c3 j u hu
    refine ⟨xs, h1, fun j u hu => ?_⟩
    have := h2 j u hu
    rwa [Nat.zero_mul, Nat.zero_add] at this

theorem al_one {w : World} {ls : List Line} {xs : List Value} (h : Reps (kLine.K w) 7 ls xs) : ∀ u ∈ xs, u.oneCell' = true := by
  intro u hu
  obtain ⟨j, hj⟩ := List.getElem?_of_mem hu
  have hlt := (List.getElem?_eq_some_iff.1 hj).1
  rw [h.1] at hlt
  have hd : j / 7 < ls.length := by omega
  have hk := h.2 (j / 7) _ (List.getElem?_eq_getElem hd)
  refine kLine.K_one hk u (List.mem_of_getElem? (i := j % 7) ?_)
  rw [List.getElem?_take, if_pos (by omega), List.getElem?_drop, show j / 7 * 7 + j % 7 = j by omega]
  exact hj

theorem al_take {α : Type} {R : α → List Value → Prop} {ps : List α} {cs : List Value} (h : Reps R 7 ps cs) (m : Nat) : Reps R 7 (ps.take m) (cs.take (m * 7)) := by
  refine ⟨by rw [List.length_take, List.length_take, h.1]; omega, fun j p hj => ?_⟩
  rw [List.getElem?_take] at hj
  split at hj
  · rw [List.drop_take, List.take_take, show min 7 (m * 7 - j * 7) = 7 by omega]
    exact h.2 j p hj
  · cases hj

theorem al_drop {α : Type} {R : α → List Value → Prop} {ps : List α} {cs : List Value} (h : Reps R 7 ps cs) (m : Nat) : Reps R 7 (ps.drop m) (cs.drop (m * 7)) := by
  refine ⟨by rw [List.length_drop, List.length_drop, h.1]; omega, fun j p hj => ?_⟩
  rw [List.getElem?_drop] at hj
  rw [List.drop_drop, show m * 7 + j * 7 = (m + j) * 7 by omega]
  exact h.2 (m + j) p hj

theorem al_below {w w' : World} {ls : List Line} {xs : List Value} (h : Reps (kLine.K w) 7 ls xs) (hb : Below w.heap.size w w') : Reps (kLine.K w') 7 ls xs := h.imp_ fun _ _ hp => kLine.K_below hb hp

theorem Lines.own {w : World} {B e n : Nat} {v : Value} {xs : List Value} {ls : List Line} (o : w.ownsRow B e 7 v n xs) (h : Reps (kLine.K w) 7 ls xs) (hn : ls.length = n) : Lines w v ls := by
  subst hn
  obtain ⟨A, c, rfl, hr⟩ := own_reads_row o h rfl
  exact ⟨A, c, rfl, hr⟩

/-- At a plain list: append of lines (none, or some) onto an own row. -/
theorem al_list {P : Program} {w : World} {ops : Array Oper} {rest : List Oper} {o : Oper} {a : Act} {Q : Exit → Act → World → Prop} (t e : TypeId) (z : Value) (bytes : Nat)
    (ht : P.underlying t = some (.slice e)) (hinfo : (P.info? e).map (fun i => (i.zero, i.size, i.bytes)) = some (some z, 7, bytes)) (hby : bytes ≤ 100) (hz : z.cells.size = 7) (hgd : o.guard = none) (s x : Operand)
    (ho : o.op = .call { callee := .builtin .append, args := #[s, x], argTypes := #[t, t] })
    (B : Nat) (v : Value) (n : Nat) (xs : List Value) (hs : a.eval s = v) (hown : w.ownsRow B e 7 v n xs)
    (ad : Addr) (m c : Nat) (ls : List Line) (news : List Value) (hx : a.eval x = .slice (some ad) m c) (hl : ls.length = m) (hr : Reps (kLine.K w) 7 ls news) (hnews : ∀ j u, news[j]? = some u → w.cell? (ad.add j) = some u)
    (hle : n + m ≤ 1000000) (hB : B ≤ w.heap.size)
    (h : ∀ v' w', w'.ownsRow B e 7 v' (n + m) (xs ++ news) → w.grownBy w' v.ownBlock → (v'.ownBlock = v.ownBlock ∨ v'.ownBlock = some w.heap.size) → wpList P ops Q rest (a.put o.dst v') w') :
    wpList P ops Q (o :: rest) a w := by
  obtain ⟨i, hi, hii⟩ := Option.map_eq_some_iff.1 hinfo
  simp only [Prod.mk.injEq] at hii
  obtain ⟨h1, h2, h3⟩ := hii
  refine wpList_append_own_at w hgd s x t ho B e i z 7 bytes ht hi h1 h2 h3 hz (by decide) v n xs hs hown ad m c news hx (by rw [hr.1, hl]) hnews (al_one hr) (by unfold maxLen; omega) (by have := Nat.mul_le_mul hle hby; omega) hB ?_
  intro v' w' k1 k2 k3 k4
  exact h v' w' k1 k2 k4

end Go.Proofs.YtlhgfhmdhmgmpaaDoor
