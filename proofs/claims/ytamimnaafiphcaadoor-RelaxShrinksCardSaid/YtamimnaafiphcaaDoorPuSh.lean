/- RelaxShrinks' small functions, plainly. -/
import Derived.Test.YtamimnaafiphcaaDoorRxDl
import Derived.Test.YtamimnaafiphcaaDoorRyB
import Derived.Test.YtamimnaafiphcaaDoorEncP
import Derived.Test.YtamimnaafiphcaaDoorPR1Sx21
import Derived.Test.YtamimnaafiphcaaDoorPR1Sx26
import Derived.Test.YtamimnaafiphcaaDoorPR1Sx27
import Derived.Test.YtamimnaafiphcaaDoorPR1Sx30
import Derived.Test.YtamimnaafiphcaaDoorPR1Sx24
set_option linter.unusedVariables false
set_option linter.unusedSimpArgs false
namespace Go.Proofs.YtamimnaafiphcaaDoor.PR1S
open Go.RowKit Go.Proofs.YtamimnaafiphcaaDoorW.PrintWords Go.Proofs.YtamimnaafiphcaaDoorW.PrintLast Go.Proofs.YtamimnaafiphcaaDoorW.PrintMore

theorem s_branch (a b c d e f : Int) (l : List Int) : switchbackref17_Branch.f a b c d e f l = some (brOp a) := by
  have h16 : switchbackref16_Branch.f a = some (isBr a) := by
    unfold switchbackref16_Branch.f isBr within
    by_cases h : a ≥ 30
    · rw [if_pos h, decide_eq_true (show (30 : Int) ≤ a from h), Bool.true_and]
    · rw [if_neg h, decide_eq_false (show ¬ (30 : Int) ≤ a from h), Bool.false_and]
  unfold switchbackref17_Branch.f brOp
  rw [h16]
  simp only [Option.bind_some]
  cases isBr a <;> simp

theorem s_goes (a b c d e f : Int) (l : List Int) : switchbackref17_Goes.f a b c d e f l = some (goOp a) := by
  unfold switchbackref17_Goes.f goOp
  rw [s_branch]
  simp only [Option.bind_some]
  cases brOp a
  · by_cases h1 : a = 41
    · subst h1; simp
    · by_cases h2 : a = 43
      · subst h2; simp
      · simp [h1, h2]
  · simp

theorem s_pick (c : Int) (n : Nat) (hn : 0 < n) (h0 : -9223372036854775808 ≤ c) (h1 : c ≤ 9223372036854775807) : ∃ i : Nat, i < n ∧ switchbacklaw17_pick.f c (n : Int) = some (i : Int) := by
  have key : ∀ x : Int, 0 ≤ x → ∃ i : Nat, i < n ∧ some (Int.tmod x (n : Int)) = some (i : Int) := fun x hx => by
    obtain ⟨k, rfl⟩ : ∃ k : Nat, x = k := ⟨x.toNat, by omega⟩
    exact ⟨k % n, Nat.mod_lt _ hn, by rw [← Int.ofNat_tmod]⟩
  unfold switchbacklaw17_pick.f
  simp only [if_neg (show ¬ (n : Int) = 0 by omega)]
  by_cases hc : c < 0
  · rw [if_pos hc]
    refine key _ ?_
    unfold wrap64
    omega
  · rw [if_neg hc]
    exact key c (by omega)

theorem s_rd (l : List Int) (p : Int) : rd l p = l.getD p.toNat 0 := by unfold rd; rfl

theorem s_code {W K P : List Int} {R p : Int} {op a b c : Int} (hm : mayR op a b c = true) (h0 : 0 ≤ p) (h1 : p < (W.length : Int)) (hWK : W.length = K.length) (hk : K.getD p.toNat 0 = 1) (hw : W.getD p.toNat 0 = word op a b c) :
    Ev (fun k => switchbacklaw17_code.f k W K P R p) (op, a, b, c, true) := by
  have hr := word_range hm
  have hj : Ev (fun k => switchbacklaw17_code.j0 k p false W K P R) (op, a, b, c, true) := by
    refine Ev.step (f := fun _ => some (op, a, b, c, true)) (fun k => ?_) (Ev.now _)
    simp only [switchbacklaw17_code.j0]
    rw [if_neg (by decide), if_pos h0, if_pos h1, s_rd, hw]
    unfold enc_Decode.f
    rw [if_pos ⟨hr.1, hr.2.1⟩, dec_word hm]
    rfl
  unfold switchbacklaw17_code.f
  simp only [if_neg (show ¬ p < 0 by omega), if_neg (show ¬ p ≥ (W.length : Int) by omega), if_pos h0, if_pos (show p < (K.length : Int) by omega), s_rd, hk]
  exact hj

def ofLine (x : Line) : S40 := ⟨x.op, x.a, x.b, x.imm, x.n, x.label, x.list⟩

theorem of_lines {w : World} {A : Option Addr} {c : Nat} {ls : List Line} (h : Lines w (.slice A ls.length c) ls) : Kd.C k40 w A (ls.map ofLine).length (ls.map ofLine) := by
  obtain ⟨A', c', e, h1, h2, h3⟩ := h
  injection e with e1 e2 e3
  subst e1
  refine ⟨rfl, by simpa using h2, fun hp => ?_⟩
  obtain ⟨ad, e, hc⟩ := h3 (by simpa using hp)
  refine ⟨ad, e, fun i p hi => ?_⟩
  rw [List.getElem?_map, Option.map_eq_some_iff] at hi
  obtain ⟨x, hx, rfl⟩ := hi
  obtain ⟨cs, e1, e2, e3⟩ := hc i x hx
  exact ⟨cs, e1, e2, e3⟩

section
variable {ls : List Line} (he : (asm ls).err = 0) (hwf : ∀ l ∈ ls, (Lit.int .i64 l.label).wf = true)
include he hwf

/-- The word at a branch's place: its own if it is short, another if it is long. -/
theorem s_word {i : Nat} (hi : i < ls.length) (hb : brOp (ls.getD i default).op = true) (P : List Int) (R : Int) :
    ∃ op a b c, (op != (ls.getD i default).op) = (fin ls).1.getD i false ∧ Ev (fun k => switchbacklaw17_code.f k (asm ls).words (asm ls).kinds P R (pl ls (fin ls).1 i)) (op, a, b, c, true) := by
  obtain ⟨T, hp, e⟩ := asm_ok' he
  have hmem : ls.getD i default ∈ ls := by
    rw [List.getD_eq_getElem?_getD, List.getElem?_eq_getElem hi]
    exact List.getElem_mem hi
  have hfit := (T.fits _ hmem).2.2
  have hr := brOp_range hb
  obtain ⟨m1, m2⟩ := fits_may hfit (show (ls.getD i default).op ≠ 0 by omega)
  rw [m2 (brOp_go hb)] at m1
  have hsz : Sized ls := ⟨T.small, fun m hm => fits_list m (T.fits m hm).2.2, fun m hm => hwf m hm⟩
  have h0 := (pl_range ls (fin ls).1 hsz i).1
  -- what stands at the place
  have fin_ : ∀ op a b c W K, mayR op a b c = true → lineW (fl ls (fin ls).1) ((fin ls).1.getD i false) (pl ls (fin ls).1 i) (ls.getD i default) = word op a b c :: W → lineK ((fin ls).1.getD i false) (ls.getD i default) = 1 :: K →
      Ev (fun k => switchbacklaw17_code.f k (asm ls).words (asm ls).kinds P R (pl ls (fin ls).1 i)) (op, a, b, c, true) := by
    intro op a b c W K hm hW hK
    obtain ⟨w1, w2⟩ := words_at (long := (fin ls).1) hi (t := 0) (by rw [hW]; simp) 0
    have k1 := kinds_at (long := (fin ls).1) hi (t := 0) (by rw [hK]; simp) 0
    rw [hW, Nat.add_zero] at w1
    rw [hK, Nat.add_zero] at k1
    rw [Nat.add_zero] at w2
    refine s_code hm h0 ?_ ?_ ?_ ?_
    · rw [e]; show _ < ((wordsOf _ _ _).length : Int); omega
    · rw [e]; exact words_kinds _ _ _
    · rw [e]; exact k1
    · rw [e]; exact w1
  cases hs : (fin ls).1.getD i false with
  | false =>
    have hn := fin_near T hb hs
    have hm : mayR (ls.getD i default).op (ls.getD i default).a (ls.getD i default).b _ = true := may_near m1 hb hn
    refine ⟨(ls.getD i default).op, _, _, _, by simp, fin_ _ _ _ _ [] [] hm ?_ ?_⟩
    · rw [hs]
      unfold lineW
      rw [if_neg (by omega), if_pos ⟨hb, rfl⟩]
      rw [show at_ ls (fin ls).1 = toW (fl ls (fin ls).1) from rfl] at hm ⊢
      rw [enc_of hm]
    · rw [hs]
      unfold lineK
      rw [if_neg (by omega), if_pos ⟨hb, rfl⟩]
  | true =>
    have h41 : mayR 41 0 0 0 = true := by decide
    by_cases hi2 : isBr (ls.getD i default).op = true
    · have hmo := may_other (show mayR (ls.getD i default).op (ls.getD i default).a (ls.getD i default).b 2 = true from may_near m1 hb (by decide)) hi2
      refine ⟨otherOp (ls.getD i default).op, _, _, _, ?_, fin_ _ _ _ _ [word 41 0 0 0, toW (fl ls (fin ls).1) (ls.getD i default).label] [1, 2] hmo ?_ ?_⟩
      · rw [bne_iff_ne]
        unfold otherOp
        split <;> omega
      · rw [hs]
        unfold lineW
        rw [if_neg (by omega), if_neg (by simp), if_pos hb, if_pos hi2, enc_of hmo, enc_of h41]
        rfl
      · rw [hs]
        unfold lineK
        rw [if_neg (by omega), if_neg (by simp), if_pos hb, if_pos hi2]
        rfl
    · have h40 : (ls.getD i default).op = 40 := by
        have hb2 := hb
        unfold brOp at hb2
        rw [Bool.or_eq_true] at hb2
        rcases hb2 with h | h
        · exact absurd h hi2
        · simpa using h
      refine ⟨41, _, _, _, ?_, fin_ _ _ _ _ [toW (fl ls (fin ls).1) (ls.getD i default).label] [2] h41 ?_ ?_⟩
      · rw [h40]; rfl
      · rw [hs]
        unfold lineW
        rw [if_neg (by omega), if_neg (by simp), if_pos hb, if_neg hi2, enc_of h41]
        rfl
      · rw [hs]
        unfold lineK
        rw [if_neg (by omega), if_neg (by simp), if_pos hb, if_neg hi2]
        rfl

/-- long, of a branch of a list that was taken. -/
theorem s_long {i : Nat} (hi : i < ls.length) (hb : brOp (ls.getD i default).op = true) :
    Ev (fun k => switchbacklaw17_long.f k (ls.map ofLine) (asm ls).words (asm ls).kinds (asm ls).places ((asm ls).rounds : Int) (i : Int)) ((fin ls).1.getD i false) := by
  obtain ⟨op, a, b, c, h1, h2⟩ := s_word he hwf hi hb (asm ls).places ((asm ls).rounds : Int)
  obtain ⟨T, hp, e⟩ := asm_ok' he
  have hpl : (asm ls).places.getD i 0 = pl ls (fin ls).1 i := by rw [e]; simp [List.getD, hi]
  have hplen : (asm ls).places.length = ls.length := by rw [e]; simp
  have hop : (rd_T40 (ls.map ofLine) (i : Int)).f0 = (ls.getD i default).op := by
    unfold rd_T40
    rw [Int.toNat_natCast, List.getD_eq_getElem?_getD, List.getElem?_map, List.getD_eq_getElem?_getD, List.getElem?_eq_getElem hi]
    rfl
  unfold switchbacklaw17_long.f
  simp only [if_pos (show (0 : Int) ≤ (i : Int) by omega), if_pos (show (i : Int) < ((asm ls).places.length : Int) by omega), s_rd, Int.toNat_natCast, hpl]
  refine Ev.bind h2 ?_
  simp only [if_true, if_pos (show (i : Int) < ((ls.map ofLine).length : Int) by rw [List.length_map]; omega), hop, h1]
  exact Ev.now _
end

end Go.Proofs.YtamimnaafiphcaaDoor.PR1S
