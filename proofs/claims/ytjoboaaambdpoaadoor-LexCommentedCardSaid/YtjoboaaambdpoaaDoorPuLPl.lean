/- The law LexPlaces, plainly; its contract. -/
import Derived.Test.YtjoboaaambdpoaaDoorPuLBl
import Derived.Test.YtjoboaaambdpoaaDoorPR01x67
set_option linter.unusedVariables false
set_option linter.unusedSimpArgs false
namespace Go.Proofs.YtjoboaaambdpoaaDoor.PR01
open Go.RowKit Go.Proofs.YtjoboaaambdpoaaDoorW.PrintWords Go.Proofs.YtjoboaaambdpoaaDoorW.PrintLast Go.Proofs.YtjoboaaambdpoaaDoorW.PrintMore

abbrev dT : Nat × T := (0, ⟨0, [], 0, false⟩)

theorem Desc.at_ : ∀ (ts : List (Nat × T)) (b : Nat), Desc b ts → ∀ i, i < ts.length → 0 < (ts.getD i dT).1 ∧ (ts.getD i dT).1 ≤ b ∧ 1 ≤ (ts.getD i dT).2.kind ∧ (ts.getD i dT).2.kind ≤ 4
  | [], _, _, i, h => by simp at h
  | p :: ts, b, hd, 0, _ => ⟨hd.1, hd.2.1, hd.2.2.1⟩
  | p :: ts, b, hd, i + 1, h => by
    have := Desc.at_ ts _ hd.2.2.2 i (by simpa using h)
    have h1 := hd.2.1
    exact ⟨this.1, by show (ts.getD i dT).1 ≤ b; omega, this.2.2⟩

theorem Desc.lt : ∀ (ts : List (Nat × T)) (b : Nat), Desc b ts → ∀ i, i + 1 < ts.length → (ts.getD (i + 1) dT).1 < (ts.getD i dT).1
  | [], _, _, i, h => by simp at h
  | p :: ts, b, hd, 0, h => by
    have := Desc.at_ ts _ hd.2.2.2 0 (by simpa using h)
    have h1 := hd.1
    show (ts.getD 0 dT).1 < p.1
    omega
  | p :: ts, b, hd, i + 1, h => Desc.lt ts _ hd.2.2.2 i (by simpa using h)

theorem okL_lt (n : Nat) (ts : List (Nat × T)) (i : Nat) (h : i < ts.length) : (ts.map (tokS n) ++ [endS n]).getD i z29 = tokS n (ts.getD i dT) := by
  rw [List.getD_eq_getElem?_getD, List.getElem?_append_left (by simpa using h), List.getElem?_map, List.getD_eq_getElem?_getD, List.getElem?_eq_getElem h]
  rfl

theorem okL_eq (n : Nat) (ts : List (Nat × T)) : (ts.map (tokS n) ++ [endS n]).getD ts.length z29 = endS n := by
  rw [List.getD_eq_getElem?_getD, List.getElem?_append_right (by simp)]
  simp

section
variable (src : ByteArray) (ts : List (Nat × T)) (hd : Desc src.size ts) (hl : ts.length ≤ 3999) (hs : src.size ≤ 20000)
include hd hl hs

theorem places_ev (d : Nat) : ∀ i : Nat, ts.length + 1 - i = d → i ≤ ts.length + 1 → Ev (fun k => switchbacklaw01_LexPlaces.l0 k src (ts.map (tokS src.size) ++ [endS src.size]) 0 i) true := by
  have hn : (ts.map (tokS src.size) ++ [endS src.size]).length = ts.length + 1 := by simp
  induction d with
  | zero =>
    intro i hd' hi
    refine Ev.step (f := fun _ => some true) (fun k => ?_) (Ev.now _)
    simp only [switchbacklaw01_LexPlaces.l0, live_f]
    rw [if_neg (by omega), if_pos trivial, if_pos (by omega), wrap_i64 (by omega) (by omega), if_pos (by omega), if_pos (by omega), show (((ts.map (tokS src.size) ++ [endS src.size]).length : Int) - 1) = ((ts.length : Nat) : Int) by omega, rdT, okL_eq, if_pos (show (endS src.size).f1 = (src.size : Int) from rfl)]
    rfl
  | succ d ih =>
    intro i hd' hi
    have step : Ev (fun k => switchbacklaw01_LexPlaces.j1 k src (ts.map (tokS src.size) ++ [endS src.size]) 0 i false) true := by
      refine Ev.step (f := fun k => switchbacklaw01_LexPlaces.l0 k src (ts.map (tokS src.size) ++ [endS src.size]) 0 ((i + 1 : Nat) : Int)) (fun k => ?_) (ih (i + 1) (by omega) (by omega))
      simp only [switchbacklaw01_LexPlaces.j1]
      rw [if_neg (by decide), wrap_i64 (x := (i : Int) + 1) (by omega) (by omega)]
      rfl
    refine Ev.step (fun k => ?_) step
    simp only [switchbacklaw01_LexPlaces.l0]
    rw [if_pos (by omega), if_pos (by omega), wrap_i64 (x := ((ts.map (tokS src.size) ++ [endS src.size]).length : Int) - 1) (by omega) (by omega), rdT]
    by_cases hi2 : i < ts.length
    · have ha := Desc.at_ ts _ hd i hi2
      rw [okL_lt _ _ _ hi2]
      have hk : ((tokS src.size (ts.getD i dT)).f0 == 0) = false := by
        rw [beq_eq_false_iff_ne]
        show (ts.getD i dT).2.kind ≠ 0
        omega
      have hq : ((i : Int) == ((ts.map (tokS src.size) ++ [endS src.size]).length : Int) - 1) = false := by
        rw [beq_eq_false_iff_ne]
        omega
      rw [hk, hq, if_neg (by decide)]
      have hneg : decide ((tokS src.size (ts.getD i dT)).f1 < 0) = false := decide_eq_false (by show ¬ ((src.size - (ts.getD i dT).1 : Nat) : Int) < 0; omega)
      by_cases h0 : (i : Int) > 0
      · rw [if_pos h0, wrap_i64 (x := (i : Int) - 1) (by omega) (by omega), if_pos (by omega), if_pos (by omega), show (i : Int) - 1 = ((i - 1 : Nat) : Int) by omega, rdT, okL_lt _ _ _ (by omega)]
        have hp := Desc.lt ts _ hd (i - 1) (by omega)
        have hpa := Desc.at_ ts _ hd (i - 1) (by omega)
        rw [show i - 1 + 1 = i by omega] at hp
        rw [if_neg (by show ¬ ((src.size - (ts.getD (i - 1) dT).1 : Nat) : Int) ≥ ((src.size - (ts.getD i dT).1 : Nat) : Int); omega), hneg]
      · rw [if_neg h0, hneg]
    · have hie : i = ts.length := by omega
      subst hie
      rw [okL_eq]
      have hq : ((ts.length : Int) == ((ts.map (tokS src.size) ++ [endS src.size]).length : Int) - 1) = true := by
        rw [beq_iff_eq]
        omega
      rw [show ((endS src.size).f0 == 0) = true from rfl, hq, if_neg (by decide)]
      have hneg : decide ((endS src.size).f1 < 0) = false := decide_eq_false (by show ¬ (src.size : Int) < 0; omega)
      by_cases h0 : (ts.length : Int) > 0
      · rw [if_pos h0, wrap_i64 (x := (ts.length : Int) - 1) (by omega) (by omega), if_pos (by omega), if_pos (by omega), show (ts.length : Int) - 1 = ((ts.length - 1 : Nat) : Int) by omega, rdT, okL_lt _ _ _ (by omega)]
        have hpa := Desc.at_ ts _ hd (ts.length - 1) (by omega)
        rw [if_neg (by show ¬ ((src.size - (ts.getD (ts.length - 1) dT).1 : Nat) : Int) ≥ (src.size : Int); omega), hneg]
      · rw [if_neg h0, hneg]
end

theorem data_len (src : ByteArray) : src.data.toList.length = src.size := Array.length_toList

theorem places_no (src : ByteArray) (p e : Int) (he : e ≠ 0) (h0 : 0 ≤ p) (h1 : p ≤ (src.size : Int)) (h : lexR src = ([], p, e)) : Ev (fun k => switchbacklaw01_LexPlaces.f k src) true := by
  refine Ev.congr (f := fun _ => some true) (fun k => ?_) (Ev.now _)
  unfold switchbacklaw01_LexPlaces.f lex_Lex.f
  simp only [Option.bind_some, live_f, h]
  rw [if_neg he, if_pos (show ((([] : List S29).length : Nat) : Int) = 0 from rfl), if_pos h0, if_pos h1]

theorem places_f (src : ByteArray) : Ev (fun k => switchbacklaw01_LexPlaces.f k src) true := by
  obtain ⟨hd, he⟩ := raw_desc src.data.toList.length src.data.toList (Nat.le_refl _)
  rw [data_len] at hd he
  rcases lexR_cases src with ⟨h1, h⟩ | ⟨h1, h2, h⟩ | ⟨h1, h2, h3, h⟩ | ⟨h1, h2, h3, h⟩
  · exact places_no src 0 2 (by decide) (by decide) (by omega) h
  · exact places_no src _ 15 (by decide) (Int.natCast_nonneg _) (by omega) h
  · refine Ev.congr (f := fun k => switchbacklaw01_LexPlaces.l0 k src ((raw src.data.toList).1.map (tokS src.size) ++ [endS src.size]) 0 ((0 : Nat) : Int)) (fun k => ?_) (places_ev src (raw src.data.toList).1 hd h2 h1 _ 0 rfl (Nat.zero_le _))
    unfold switchbacklaw01_LexPlaces.f lex_Lex.f
    simp only [Option.bind_some, h]
    rfl
  · exact places_no src _ _ h3 (Int.natCast_nonneg _) (by omega) h

theorem places_row (a0 : ByteArray) (W : World) (hL : Laid W) :
    Calls Tryd.prog 4 #[.string a0] W fun e W' => e = .returned (.bool true) ∧ Below W.heap.size W W' := by
  obtain ⟨k, hk⟩ := (places_f a0).rounds
  exact switchbacklaw01_LexPlaces.calls k a0 true W (Aside0.mk hL) hk

end Go.Proofs.YtjoboaaambdpoaaDoor.PR01
