/- The law LexTells, plainly: the document's lexer is the program's; its contract. -/
import Derived.Test.YtjoboaaambdpoaaDoorPR01x63
import Derived.Test.YtjoboaaambdpoaaDoorPR01x66
set_option linter.unusedVariables false
set_option linter.unusedSimpArgs false
namespace Go.Proofs.YtjoboaaambdpoaaDoor.PR01
open Go.RowKit Go.Proofs.YtjoboaaambdpoaaDoorW.PrintWords Go.Proofs.YtjoboaaambdpoaaDoorW.PrintLast Go.Proofs.YtjoboaaambdpoaaDoorW.PrintMore

theorem mk_cut (src : ByteArray) (i n : Nat) : cut src i (n : Int) = ⟨((src.data.toList.drop i).take n).toArray⟩ := by
  rw [← cut_take]

theorem no32 (l : List UInt8) : 32 ∉ l.take (runL l) := by
  intro h
  obtain ⟨i, hi, he⟩ := List.getElem_of_mem h
  rw [List.length_take] at hi
  rw [List.getElem_take] at he
  have := runL_lt l i (by omega)
  unfold gt at this
  rw [List.getD_eq_getElem?_getD, List.getElem?_eq_getElem (by omega)] at this
  simp only [Option.getD_some] at this
  rw [he] at this
  exact absurd this (by decide)

/-- The document's token by the program's step. -/
theorem tokR_raw (src : ByteArray) (i : Nat) (hi : i < src.size) :
    (∀ n t, tokL (src.data.toList.drop i) = .tok n t → tokR src i = (t.kind, (i : Int), ⟨t.text.toArray⟩, t.num, t.uns, (i : Int) + n, 0)) ∧
    (∀ e, tokL (src.data.toList.drop i) = .bad e → (tokR src i).2.2.2.2.2.2 = e) := by
  have hl : (src.data.toList.drop i).length = src.size - i := drop_len src i
  have hne : src.data.toList.drop i ≠ [] := fun h => by rw [h] at hl; simp at hl; omega
  have hcut := fun n : Nat => mk_cut src i n
  unfold tokR
  have hwd := no32 (src.data.toList.drop i)
  generalize src.data.toList.drop i = l at hl hne hcut hwd ⊢
  unfold tokL
  by_cases hL : isL (gt l 0) = true
  · have hpos := runL_pos l (.inl hL)
    have hle := runL_le l
    have htn : l.take (runL l) ≠ [] := fun h => by
      have := congrArg List.length h
      rw [List.length_take] at this
      have h0 : min (runL l) l.length = 0 := this
      omega
    rw [if_pos hL, if_pos hL]
    by_cases h31 : 31 < runL l
    · rw [if_pos h31, if_pos h31]
      exact ⟨fun n t h => (by cases h), fun e h => (by cases h; rfl)⟩
    · rw [if_neg h31, if_neg h31]
      refine ⟨fun n t h => ?_, fun e h => (by cases h)⟩
      cases h
      rw [isWord_iff _ htn hwd, hcut]
  rw [if_neg hL, if_neg hL]
  by_cases hD : isD (gt l 0) = true
  · have hpos := runL_pos l (.inr hD)
    have hle := runL_le l
    have htn : l.take (runL l) ≠ [] := fun h => by
      have := congrArg List.length h
      rw [List.length_take] at this
      have h0 : min (runL l) l.length = 0 := this
      omega
    rw [if_pos hD, if_pos hD, numR_eq _ htn]
    by_cases hn : (numP (l.take (runL l))).2.2 = true
    · rw [if_pos hn, if_pos hn]
      refine ⟨fun n t h => ?_, fun e h => (by cases h)⟩
      cases h
      rw [if_pos hn]
    · rw [if_neg hn, if_neg hn]
      exact ⟨fun n t h => (by cases h), fun e h => (by cases h; rfl)⟩
  rw [if_neg hD, if_neg hD]
  by_cases hq : gt l 0 = 39
  · rw [if_pos hq, if_pos hq]
    unfold charO
    by_cases hc : (charL l).2 = 0
    · rw [if_pos hc, if_pos hc]
      exact ⟨fun n t h => (by cases h), fun e h => (by cases h; rfl)⟩
    · rw [if_neg hc, if_neg hc]
      have hc2 := charL_n l hne
      refine ⟨fun n t h => ?_, fun e h => (by cases h)⟩
      cases h
      have h0 : ¬ ((i : Int) + (charL l).2 < 0) := by omega
      simp only [if_neg h0]
      rw [show (((charL l).2.toNat : Nat) : Int) = (charL l).2 by omega]
  rw [if_neg hq, if_neg hq]
  have hsn := signL_n l hne
  by_cases hs : signL l = 0
  · rw [if_pos hs, if_pos hs]
    exact ⟨fun n t h => (by cases h), fun e h => (by cases h; rfl)⟩
  · rw [if_neg hs, if_neg hs]
    refine ⟨fun n t h => ?_, fun e h => (by cases h)⟩
    cases h
    obtain ⟨n, hn⟩ : ∃ n : Nat, signL l = n := ⟨(signL l).toNat, by omega⟩
    rw [hn, Int.toNat_natCast, hcut]

section
variable (src : ByteArray) (hs : src.size ≤ 20000)
include hs

theorem ref_ev : ∀ (d i : Nat) (acc : List (Nat × T)), src.size - i ≤ d → i ≤ src.size → acc.length ≤ 3999 → raw src.data.toList = (acc ++ (raw (src.data.toList.drop i)).1, (raw (src.data.toList.drop i)).2) →
    Ev (fun k => switchbackref01_Lex.l0 k src (acc.map (tokS src.size)) i) (lexR src) := by
  have done : ∀ (i : Nat) (acc : List (Nat × T)), i = src.size → acc.length ≤ 3999 → raw src.data.toList = (acc ++ (raw (src.data.toList.drop i)).1, (raw (src.data.toList.drop i)).2) → Ev (fun k => switchbackref01_Lex.l0 k src (acc.map (tokS src.size)) i) (lexR src) := by
    intro i acc hi ha hr
    subst hi
    rw [List.drop_eq_nil_of_le (by rw [dlen]; exact Nat.le_refl _), show raw [] = ([], 0, 0) from rfl, List.append_nil] at hr
    rw [lexR_end hs ha hr]
    refine Ev.step (f := fun _ => some (acc.map (tokS src.size) ++ [endS src.size], 0, 0)) (fun k => ?_) (Ev.now _)
    simp only [switchbackref01_Lex.l0]
    rw [if_neg (by omega), if_pos (by rw [List.length_map]; omega)]
    rfl
  intro d
  induction d with
  | zero => intro i acc hd hi ha hr; exact done i acc (by omega) ha hr
  | succ d ih =>
    intro i acc hd hi ha hr
    by_cases hie : i = src.size
    · exact done i acc hie ha hr
    have hlt : i < src.size := by omega
    have hl : (src.data.toList.drop i).length = src.size - i := drop_len src i
    have hne : src.data.toList.drop i ≠ [] := fun h => by rw [h] at hl; simp at hl; omega
    have hb0 : Go.Proofs.YtjoboaaambdpoaaDoorW.PrintWords.bt src (i : Int) = gt (src.data.toList.drop i) 0 := bz_g0 src i
    have hcm := comment_f src (by omega) i hlt
    have htk := tokR_raw src i hlt
    have hst := stepL_eq hne
    have go : ∀ n : Nat, 1 ≤ n → stepL (src.data.toList.drop i) = .skip n → Ev (fun k => switchbackref01_Lex.l0 k src (acc.map (tokS src.size)) ((i + n : Nat) : Int)) (lexR src) := by
      intro n h1 h
      have hn := stepL_skip h
      rw [raw_skip h, List.drop_drop] at hr
      exact ih (i + n) acc (by omega) (by omega) ha hr
    have f0 : ∀ k, switchbackref01_Lex.l0 (k + 1) src (acc.map (tokS src.size)) i = if blank (gt (src.data.toList.drop i) 0) = true then switchbackref01_Lex.l0 k src (acc.map (tokS src.size)) ((i + 1 : Nat) : Int) else (switchbackref01_comment.f k src i).bind fun t => if t = -2 then some ([], (i : Int), 13) else if t ≥ 0 then switchbackref01_Lex.l0 k src (acc.map (tokS src.size)) t else if (tokR src i).2.2.2.2.2.2 = 0 then (if (acc.length : Int) ≥ 3999 then some ([], (i : Int), 15) else switchbackref01_Lex.l0 k src (acc.map (tokS src.size) ++ [(⟨(tokR src i).1, (tokR src i).2.1, (tokR src i).2.2.1, (tokR src i).2.2.2.1, (tokR src i).2.2.2.2.1⟩ : S29)]) (tokR src i).2.2.2.2.2.1) else some ([], (i : Int), (tokR src i).2.2.2.2.2.2) := by
      intro k
      have htf : switchbackref01_token.f src (i : Int) = some (tokR src i) := by
        unfold switchbackref01_token.f
        rw [if_pos ⟨by omega, by rw [Int.toNat_natCast]; omega, by omega⟩, Int.toNat_natCast]
      simp only [switchbackref01_Lex.l0, hb0, blank_f, Option.bind_some, htf, List.length_map]
      rw [if_pos (by omega), if_pos (by omega), wrap_i64 (x := (i : Int) + 1) (by omega) (by omega)]
      simp only [if_pos (show acc.length < 3518437208883 by omega)]
      rfl
    by_cases h1 : blank (gt (src.data.toList.drop i) 0) = true
    · rw [if_pos h1] at hst
      refine Ev.step (fun k => ?_) (go 1 (Nat.le_refl _) hst)
      rw [f0, if_pos h1]
    rw [if_neg h1] at hst
    refine Ev.step (f := fun k => (switchbackref01_comment.f k src i).bind fun t => if t = -2 then some ([], (i : Int), 13) else if t ≥ 0 then switchbackref01_Lex.l0 k src (acc.map (tokS src.size)) t else if (tokR src i).2.2.2.2.2.2 = 0 then (if (acc.length : Int) ≥ 3999 then some ([], (i : Int), 15) else switchbackref01_Lex.l0 k src (acc.map (tokS src.size) ++ [(⟨(tokR src i).1, (tokR src i).2.1, (tokR src i).2.2.1, (tokR src i).2.2.2.1, (tokR src i).2.2.2.2.1⟩ : S29)]) (tokR src i).2.2.2.2.2.1) else some ([], (i : Int), (tokR src i).2.2.2.2.2.2)) (fun k => by rw [f0, if_neg h1]) ?_
    refine Ev.bind (f := fun k t => if t = -2 then some ([], (i : Int), 13) else if t ≥ 0 then switchbackref01_Lex.l0 k src (acc.map (tokS src.size)) t else if (tokR src i).2.2.2.2.2.2 = 0 then (if (acc.length : Int) ≥ 3999 then some ([], (i : Int), 15) else switchbackref01_Lex.l0 k src (acc.map (tokS src.size) ++ [(⟨(tokR src i).1, (tokR src i).2.1, (tokR src i).2.2.1, (tokR src i).2.2.2.1, (tokR src i).2.2.2.2.1⟩ : S29)]) (tokR src i).2.2.2.2.2.1) else some ([], (i : Int), (tokR src i).2.2.2.2.2.2)) hcm ?_
    unfold comP
    generalize hge : src.data.toList.drop i = l at *
    by_cases h2 : gt l 0 = 47 ∧ gt l 1 = 47
    · rw [if_pos h2] at hst
      simp only [if_pos h2]
      by_cases h3 : 0 ≤ Lib.indexByte l 10
      · rw [if_pos h3] at hst
        have hn := stepL_skip hst
        simp only [if_pos h3, if_neg (show ¬ (i : Int) + Lib.indexByte l 10 = -2 by omega), if_pos (show (i : Int) + Lib.indexByte l 10 ≥ 0 by omega)]
        have := go _ hn.1 hst
        rwa [show ((i + (Lib.indexByte l 10).toNat : Nat) : Int) = (i : Int) + Lib.indexByte l 10 by omega] at this
      · rw [if_neg h3] at hst
        have hn := stepL_skip hst
        simp only [if_neg h3, if_neg (show ¬ (i : Int) + (l.length : Int) = -2 by omega), if_pos (show (i : Int) + (l.length : Int) ≥ 0 by omega)]
        exact go _ hn.1 hst
    rw [if_neg h2] at hst
    simp only [if_neg h2]
    by_cases h3 : gt l 0 = 47 ∧ gt l 1 = 42
    · rw [if_pos h3] at hst
      simp only [if_pos h3]
      by_cases h4 : Lib.index (l.drop 2) [42, 47] < 0
      · rw [if_pos h4] at hst
        simp only [if_pos h4, if_true]
        rw [raw_opn hst, hl, List.append_nil] at hr
        rw [lexR_err hs ha (by decide) hi hr]
        exact Ev.now _
      · rw [if_neg h4] at hst
        have hn := stepL_skip hst
        simp only [if_neg h4, if_neg (show ¬ (i : Int) + Lib.index (l.drop 2) [42, 47] + 4 = -2 by omega), if_pos (show (i : Int) + Lib.index (l.drop 2) [42, 47] + 4 ≥ 0 by omega)]
        have := go _ hn.1 hst
        rwa [show ((i + ((Lib.index (l.drop 2) [42, 47]).toNat + 4) : Nat) : Int) = (i : Int) + Lib.index (l.drop 2) [42, 47] + 4 by omega] at this
    rw [if_neg h3] at hst
    simp only [if_neg h3, if_neg (show ¬ (-1 : Int) = -2 by decide), if_neg (show ¬ (-1 : Int) ≥ 0 by decide)]
    rcases tokL_form l with ⟨n, t, e⟩ | ⟨x, e, hx⟩
    · have hR := htk.1 n t e
      rw [e] at hst
      have hn := stepL_tok hst
      simp only [hR, if_true]
      rw [raw_tok hst, hl] at hr
      by_cases hm : acc.length = 3999
      · simp only [if_pos (show (acc.length : Int) ≥ 3999 by omega)]
        rw [lexR_many hs hm hi hr]
        exact Ev.now _
      · simp only [if_neg (show ¬ (acc.length : Int) ≥ 3999 by omega)]
        have := ih (i + n) (acc ++ [(src.size - i, t)]) (by omega) (by omega) (by rw [List.length_append]; show acc.length + 1 ≤ 3999; omega) (by
          rw [hr, ← List.drop_drop, hge, List.append_assoc]
          rfl)
        rw [List.map_append, List.map_singleton, show tokS src.size (src.size - i, t) = ⟨t.kind, (i : Int), ⟨t.text.toArray⟩, t.num, t.uns⟩ by unfold tokS; rw [show src.size - (src.size - i) = i by omega]] at this
        exact this
    · have hR := htk.2 x e
      have hx0 : x ≠ 0 := by rcases hx with h | h | h | h <;> rw [h] <;> decide
      rw [e] at hst
      simp only [hR, if_neg hx0]
      rw [raw_bad hst, hl, List.append_nil] at hr
      rw [lexR_err hs ha hx0 hi hr]
      exact Ev.now _
end

theorem ref_f (src : ByteArray) : Ev (fun k => switchbackref01_Lex.f k src) (lexR src) := by
  unfold switchbackref01_Lex.f
  by_cases h : (src.size : Int) > 20000
  · simp only [if_pos h]
    rw [show lexR src = ([], 0, 2) by unfold lexR; rw [if_pos (by omega)]]
    exact Ev.now _
  · simp only [if_neg h]
    exact ref_ev src (by omega) src.size 0 [] (by omega) (Nat.zero_le _) (Nat.zero_le _) rfl

theorem tells_l0 (src : ByteArray) (d : Nat) : ∀ (i : Nat) (x : List S29), x.length - i = d → i ≤ x.length → x.length ≤ 4000 → Ev (fun k => switchbacklaw01_LexTells.l0 k src x (lexR src).1 (lexR src).2.1 (lexR src).2.2 i) true := by
  induction d with
  | zero =>
    intro i x hd hi hx
    have step : Ev (fun k => (switchbacklaw01_Same.f k (lexR src).1 (lexR src).1).bind fun t => if t = true then some true else some false) true := Ev.bind (same_f (lexR src).1 (by
      rcases lexR_cases src with ⟨-, h⟩ | ⟨-, -, h⟩ | ⟨-, h1, -, h⟩ | ⟨-, -, -, h⟩ <;> rw [h]
      · exact Nat.zero_le _
      · exact Nat.zero_le _
      · simp only [List.length_append, List.length_map, List.length_singleton]
        omega
      · exact Nat.zero_le _)) (Ev.now _)
    refine Ev.step (fun k => ?_) step
    simp only [switchbacklaw01_LexTells.l0, live_f]
    rw [if_neg (by omega)]
    unfold lex_Lex.f
    simp only [Option.bind_some, if_true]
  | succ d ih =>
    intro i x hd hi hx
    have := ih (i + 1) (x.set i (⟨9, 0, (⟨#[]⟩ : ByteArray), 0, false⟩ : S29)) (by rw [List.length_set]; omega) (by rw [List.length_set]; omega) (by rw [List.length_set]; exact hx)
    refine Ev.step (fun k => ?_) this
    simp only [switchbacklaw01_LexTells.l0]
    rw [if_pos (by omega), if_pos (by omega), Int.toNat_natCast, wrap_i64 (x := (i : Int) + 1) (by omega) (by omega)]
    rfl

theorem lexR_len4 (src : ByteArray) : (lexR src).1.length ≤ 4000 := by
  rcases lexR_cases src with ⟨-, h⟩ | ⟨-, -, h⟩ | ⟨-, h1, -, h⟩ | ⟨-, -, -, h⟩ <;> rw [h]
  · exact Nat.zero_le _
  · exact Nat.zero_le _
  · simp only [List.length_append, List.length_map, List.length_singleton]
    omega
  · exact Nat.zero_le _

theorem tells_f (src : ByteArray) : Ev (fun k => switchbacklaw01_LexTells.f k src) true := by
  have h0 := tells_l0 src _ 0 (lexR src).1 rfl (Nat.zero_le _) (lexR_len4 src)
  have hj : Ev (fun k => switchbacklaw01_LexTells.j0 k src (lexR src).1 (lexR src).1 (lexR src).2.1 (lexR src).2.2 false) true := by
    refine Ev.step (fun k => ?_) h0
    simp only [switchbacklaw01_LexTells.j0]
    rw [if_neg (by decide)]
    rfl
  unfold switchbacklaw01_LexTells.f lex_Lex.f
  simp only [Option.bind_some]
  refine Ev.bind (f := fun k p => (switchbacklaw01_Same.f k (lexR src).1 p.1).bind fun t232 => (if t232 = true then (if (lexR src).2.1 = p.2.1 then (switchbacklaw01_LexTells.j0 k src (lexR src).1 p.1 p.2.1 p.2.2 ((lexR src).2.2 != p.2.2)) else (switchbacklaw01_LexTells.j0 k src (lexR src).1 p.1 p.2.1 p.2.2 true)) else (switchbacklaw01_LexTells.j0 k src (lexR src).1 p.1 p.2.1 p.2.2 true))) (ref_f src) ?_
  refine Ev.bind (f := fun k t232 => (if t232 = true then (if (lexR src).2.1 = (lexR src).2.1 then (switchbacklaw01_LexTells.j0 k src (lexR src).1 (lexR src).1 (lexR src).2.1 (lexR src).2.2 ((lexR src).2.2 != (lexR src).2.2)) else (switchbacklaw01_LexTells.j0 k src (lexR src).1 (lexR src).1 (lexR src).2.1 (lexR src).2.2 true)) else (switchbacklaw01_LexTells.j0 k src (lexR src).1 (lexR src).1 (lexR src).2.1 (lexR src).2.2 true))) (same_f (lexR src).1 (by have := lexR_len4 src; omega)) ?_
  simp only [if_true, bne_self_eq_false]
  exact hj

theorem tells_row (a0 : ByteArray) (W : World) (hL : Laid W) :
    Calls Tryd.prog 3 #[.string a0] W fun e W' => e = .returned (.bool true) ∧ Below W.heap.size W W' := by
  obtain ⟨k, hk⟩ := (tells_f a0).rounds
  exact switchbacklaw01_LexTells.calls k a0 true W (Aside0.mk hL) hk

end Go.Proofs.YtjoboaaambdpoaaDoor.PR01
