/- The law LexParted, plainly; its contract. Printed by gen_pulpa.py. -/
import Derived.Test.YtjoboaaambdpoaaDoorPuLPl
import Derived.Test.YtjoboaaambdpoaaDoorPuLGl
import Derived.Test.YtjoboaaambdpoaaDoorPR01x69
set_option linter.unusedVariables false
set_option linter.unusedSimpArgs false
namespace Go.Proofs.YtjoboaaambdpoaaDoor.PR01
open Go.RowKit Go.Proofs.YtjoboaaambdpoaaDoorW.PrintWords Go.Proofs.YtjoboaaambdpoaaDoorW.PrintLast Go.Proofs.YtjoboaaambdpoaaDoorW.PrintMore

namespace parted
theorem okL_f1 (n : Nat) (ts : List (Nat × T)) (i : Nat) (h : i ≤ ts.length) : ((ts.map (tokS n) ++ [endS n]).getD i z29).f1 = ((n - nxt (ts.drop i) : Nat) : Int) := by
  by_cases hi : i < ts.length
  · rw [okL_lt _ _ _ hi, List.drop_eq_getElem_cons hi]
    show ((n - (ts.getD i dT).1 : Nat) : Int) = ((n - ts[i].1 : Nat) : Int)
    rw [List.getD_eq_getElem?_getD, List.getElem?_eq_getElem hi]
    rfl
  · have : i = ts.length := by omega
    subst this
    rw [okL_eq, List.drop_length]
    rfl

theorem sep_ok (x : List UInt8) : raw (10 :: [] ++ x) = raw x := by
  exact raw_nl x

theorem nxt_desc : ∀ (ts : List (Nat × T)) (b : Nat), Desc b ts → nxt ts ≤ b
  | [], _, _ => Nat.zero_le _
  | p :: ts, b, h => h.2.1

theorem desc_drop : ∀ (ts : List (Nat × T)) (b : Nat), Desc b ts → ∀ i, Desc b (ts.drop i)
  | ts, b, h, 0 => h
  | [], b, h, i + 1 => trivial
  | p :: ts, b, h, i + 1 => desc_drop ts b (Desc.mono (by have := h.2.1; omega) h.2.2.2) i

section
variable (src : ByteArray) (ts : List (Nat × T)) (hts : ts = (raw src.data.toList).1) (h0 : (raw src.data.toList).2.1 = 0) (hl : ts.length ≤ 3999) (hs : src.size ≤ 20000)
include hts h0 hl hs

theorem part_ev (d : Nat) : ∀ (i : Nat) (x : ByteArray), ts.length - i = d → i ≤ ts.length → x.data.toList ++ pieces src.data.toList (10 :: []) (ts.drop i) = pieces src.data.toList (10 :: []) ts → x.size ≤ i * 20006 → Ev (fun k => switchbacklaw01_LexParted.l0 k src (ts.map (tokS src.size) ++ [endS src.size]) x i) true := by
  have hn : (ts.map (tokS src.size) ++ [endS src.size]).length = ts.length + 1 := by simp
  have hd : Desc src.size ts := by
    have := (raw_desc src.data.toList.length src.data.toList (Nat.le_refl _)).1
    rw [data_len] at this
    rw [hts]
    exact this
  induction d with
  | zero =>
    intro i x hd' hi hx hz
    have hie : i = ts.length := by omega
    subst hie
    rw [List.drop_length] at hx
    rw [show pieces src.data.toList (10 :: []) [] = [] from rfl, List.append_nil] at hx
    obtain ⟨p1, p2⟩ := raw_pieces src.data.toList [] sep_ok src.data.toList.length src.data.toList (Nat.le_refl _) (by rw [Nat.sub_self]; rfl) (Nat.le_refl _) h0
    rw [← hts, ← hx] at p1 p2
    by_cases hb : (x.size : Int) > 20000
    · refine Ev.step (f := fun _ => some true) (fun k => ?_) (Ev.now _)
      simp only [switchbacklaw01_LexParted.l0, live_f]
      rw [wrap_i64 (x := (ts.length : Int) + 1) (by omega) (by omega), if_neg (by omega), if_pos hb]
      rfl
    · have hlen : (raw x.data.toList).1.length = ts.length := by have := congrArg List.length p2; simpa using this
      have c4 : lexR x = ((raw x.data.toList).1.map (tokS x.size) ++ [endS x.size], 0, 0) := by
        unfold lexR
        rw [if_neg (by omega), if_neg (by omega), if_pos p1]
      have hst : (ts.map (tokS src.size) ++ [endS src.size]).map strip = (lexR x).1.map strip := by
        rw [c4, strip_ok, strip_ok]
        have := congrArg (List.map strip0) p2
        simp only [List.map_map] at this
        rw [show (fun p : Nat × T => strip0 p.2) = strip0 ∘ (fun p => p.2) from rfl, this]
      have step : Ev (fun k => (switchbacklaw01_alike.f k (ts.map (tokS src.size) ++ [endS src.size]) (lexR x).1).bind fun t => if t = true then (some true) else some false) true := Ev.bind (alike_f _ _ hst (by omega)) (Ev.now _)
      refine Ev.step (fun k => ?_) step
      simp only [switchbacklaw01_LexParted.l0, live_f]
      rw [wrap_i64 (x := (ts.length : Int) + 1) (by omega) (by omega), if_neg (by omega), if_neg hb]
      unfold lex_Lex.f
      simp only [Option.bind_some]
      rw [if_pos (by rw [c4])]
  | succ d ih =>
    intro i x hd' hi hx hz
    have hlt : i < ts.length := by omega
    have hdr : ts.drop i = ts[i] :: ts.drop (i + 1) := List.drop_eq_getElem_cons hlt
    have hdd := desc_drop ts _ hd i
    rw [hdr] at hdd
    have hm := hdd.2.1
    have hnx := nxt_desc _ _ hdd.2.2.2
    obtain ⟨m, hme⟩ : ∃ m, m = ts[i].1 := ⟨_, rfl⟩
    obtain ⟨q, hqe⟩ : ∃ q, q = nxt (ts.drop (i + 1)) := ⟨_, rfl⟩
    rw [← hme] at hm hnx
    rw [← hqe] at hnx
    have f1i : ((ts.map (tokS src.size) ++ [endS src.size]).getD i z29).f1 = ((src.size - m : Nat) : Int) := by
      rw [okL_f1 _ _ _ hi, hdr, hme]
      rfl
    have f1j : ((ts.map (tokS src.size) ++ [endS src.size]).getD (i + 1) z29).f1 = ((src.size - q : Nat) : Int) := by
      rw [okL_f1 _ _ _ (by omega), hqe]
    obtain ⟨e, hee⟩ : ∃ e, e = src.extract (src.size - m) (src.size - q) := ⟨_, rfl⟩
    have hed : e.data.toList = (src.data.toList.drop (src.data.toList.length - m)).take (m - q) := by
      rw [hee, ByteArray.data_extract, Array.toList_extract, data_len]
      show (src.data.toList.drop (src.size - m)).take (src.size - q - (src.size - m)) = _
      rw [show src.size - q - (src.size - m) = m - q by omega]
    have hes : e.size ≤ 20000 := by rw [hee, ByteArray.size_extract]; omega
    have hxs : (x ++ e).size = x.size + e.size := ByteArray.size_append
    have hi2 : i * 20006 ≤ 3999 * 20006 := Nat.mul_le_mul_right _ (by omega)
    refine Ev.step (f := fun k => switchbacklaw01_LexParted.l0 k src (ts.map (tokS src.size) ++ [endS src.size]) ((x ++ e) ++ (⟨#[10]⟩ : ByteArray)) ((i + 1 : Nat) : Int)) (fun k => ?_) (ih (i + 1) _ (by omega) (by omega) ?_ ?_)
    · simp only [switchbacklaw01_LexParted.l0]
      rw [wrap_i64 (x := (i : Int) + 1) (by omega) (by omega), if_pos (by omega), if_pos (by omega), if_pos (by omega), if_pos (by omega)]
      rw [show ((i : Int) + 1) = ((i + 1 : Nat) : Int) by omega, rdT, rdT, f1i, f1j, Int.toNat_natCast, Int.toNat_natCast, ← hee]
      rw [if_pos (by omega), if_pos (by omega), if_pos (by omega), if_pos (by omega), if_pos (by omega)]
    · rw [ByteArray.data_append, Array.toList_append, ByteArray.data_append, Array.toList_append, ← hx, hdr]
      show _ = x.data.toList ++ ((src.data.toList.drop (src.data.toList.length - ts[i].1)).take (ts[i].1 - nxt (ts.drop (i + 1))) ++ (10 :: [] ++ pieces src.data.toList (10 :: []) (ts.drop (i + 1))))
      rw [← hme, ← hqe, ← hed]
      simp only [List.append_assoc]
    · rw [ByteArray.size_append, hxs, show (⟨#[10]⟩ : ByteArray).size = 1 from rfl]
      omega
end

theorem no (src : ByteArray) (he : (lexR src).2.2 ≠ 0) : Ev (fun k => switchbacklaw01_LexParted.f k src) true := by
  refine Ev.congr (f := fun k => switchbacklaw01_LexParted.j0 k src (lexR src).1 (lexR src).2.2 true) (fun k => ?_) (Ev.step (f := fun _ => some true) (fun k => ?_) (Ev.now _))
  · unfold switchbacklaw01_LexParted.f lex_Lex.f
    simp only [Option.bind_some, if_neg he]
  · simp only [switchbacklaw01_LexParted.j0, live_f]
    rw [if_pos trivial, if_neg he]
    rfl

theorem f_ev (src : ByteArray) : Ev (fun k => switchbacklaw01_LexParted.f k src) true := by
  by_cases he : (lexR src).2.2 = 0
  · obtain ⟨a1, a2, a3, a4⟩ := lexR_ok src he
    have hp := part_ev src (raw src.data.toList).1 rfl a3 a2 a1 _ 0 ⟨#[]⟩ rfl (Nat.zero_le _) (by rw [List.drop_zero]; rfl) (Nat.zero_le _)
    refine Ev.congr (f := fun k => switchbacklaw01_LexParted.j0 k src (lexR src).1 (lexR src).2.2 false) (fun k => ?_) (Ev.step (fun k => ?_) hp)
    · unfold switchbacklaw01_LexParted.f lex_Lex.f
      have hz : (((lexR src).1.length : Int) == 0) = false := by
        rw [beq_eq_false_iff_ne, a4]
        simp
        omega
      simp only [Option.bind_some, if_pos he, hz]
    · simp only [switchbacklaw01_LexParted.j0, a4]
      rw [if_neg (by decide)]
      rfl
  · exact no src he
end parted

theorem parted_row (a0 : ByteArray) (W : World) (hL : Laid W) :
    Calls Tryd.prog 5 #[.string a0] W fun e W' => e = .returned (.bool true) ∧ Below W.heap.size W W' := by
  obtain ⟨k, hk⟩ := (parted.f_ev a0).rounds
  exact switchbacklaw01_LexParted.calls k a0 true W (Aside0.mk hL) hk

end Go.Proofs.YtjoboaaambdpoaaDoor.PR01
