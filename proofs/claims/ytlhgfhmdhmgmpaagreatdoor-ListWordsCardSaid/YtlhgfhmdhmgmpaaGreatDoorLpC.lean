/- Plainly: a line that is written is read. -/
import Derived.Test.YtlhgfhmdhmgmpaaGreatDoorLpB
set_option linter.unusedVariables false
set_option linter.unusedSimpArgs false
namespace Go.Proofs.YtlhgfhmdhmgmpaaGreatDoor
open Go.RowKit

def wsP (l : Line) : Part → List (List UInt8)
  | .places => l.list.map fun n => 76 :: Lib.itoa n
  | p => [partT l p]

def putF (l : Line) (x : Line) : Part → Line
  | .reg o => setF x o (fieldI l o)
  | .num => { x with imm := l.imm }
  | .word => { x with n := l.n }
  | .place => { x with label := l.label }
  | .places => { x with list := l.list }

def FitP (l : Line) : Part → Prop
  | .reg o => 0 ≤ fieldI l o ∧ fieldI l o ≤ 11
  | .num => -9223372036854775808 ≤ l.imm ∧ l.imm ≤ 9223372036854775807
  | .word => 0 ≤ l.n ∧ l.n ≤ 4294967295
  | .place => 0 ≤ l.label ∧ l.label ≤ 100000
  | .places => l.list ≠ [] ∧ ∀ n ∈ l.list, 0 ≤ n ∧ n ≤ 100000

def PlLast : List Part → Prop
  | [] => True
  | p :: r => (p = .places → r = []) ∧ PlLast r

theorem partsP_last (op : Int) : PlLast (partsP op) := by
  unfold partsP
  repeat' split
  all_goals simp [PlLast]

theorem labs_back : ∀ (ns : List Int), (∀ n ∈ ns, 0 ≤ n ∧ n ≤ 100000) → labsP ((ns.map fun n => 76 :: Lib.itoa n).map baL) = some ns
  | [], _ => rfl
  | n :: ns, h => by
    have hn := h n (by simp)
    rw [List.map_cons, List.map_cons, labsP, baL_list, signed_itoa 76 n hn.1 (by omega), if_pos rfl, labs_back ns (fun m hm => h m (by simp [hm]))]
    rfl

theorem take_back (l x : Line) (p : Part) (rest : List (List UInt8)) (h : FitP l p) (hr : p = .places → rest = []) :
    takeP x p ((wsP l p ++ rest).map baL) = some (putF l x p, rest.map baL) := by
  cases p with
  | reg o =>
    rw [show (wsP l (.reg o) ++ rest).map baL = baL (82 :: Lib.itoa (fieldI l o)) :: rest.map baL from rfl, takeP, baL_list, signed_itoa 82 _ h.1 (by have := h.2; omega), if_pos rfl]
    rfl
  | num =>
    rw [show (wsP l .num ++ rest).map baL = baL (Lib.itoa l.imm) :: rest.map baL from rfl, takeP, baL_list, value_itoa _ h.1 h.2, if_pos rfl]
    rfl
  | word =>
    have h1 := h.1
    have h2 := h.2
    rw [show (wsP l .word ++ rest).map baL = baL (Lib.itoa l.n) :: rest.map baL from rfl, takeP, baL_list, value_itoa _ (by omega) (by omega), if_pos (by simp; omega)]
    rfl
  | place =>
    rw [show (wsP l .place ++ rest).map baL = baL (76 :: Lib.itoa l.label) :: rest.map baL from rfl, takeP, baL_list, signed_itoa 76 _ h.1 (by have := h.2; omega), if_pos rfl]
    rfl
  | places =>
    rw [hr rfl, List.append_nil]
    show (labsP ((l.list.map fun n => 76 :: Lib.itoa n).map baL)).map _ = _
    rw [labs_back l.list h.2]
    rfl

theorem takes_back (l : Line) : ∀ (ps : List Part) (x : Line), PlLast ps → (∀ p ∈ ps, FitP l p) → takeF x ps ((ps.flatMap (wsP l)).map baL) = some (ps.foldl (putF l) x, [])
  | [], x, _, _ => rfl
  | p :: ps, x, hl, h => by
    have hl1 : p = .places → ps.flatMap (wsP l) = [] := fun e => by rw [hl.1 e]; rfl
    rw [List.flatMap_cons, takeF, take_back l x p _ (h p (by simp)) hl1, Option.bind_some, takes_back l ps _ hl.2 (fun q hq => h q (by simp [hq]))]
    rfl

/-! ### the words of a line's text -/
theorem joinTail_app (a b : List (List UInt8)) : Lib.joinTail [32] (a ++ b) = Lib.joinTail [32] a ++ Lib.joinTail [32] b := by
  unfold Lib.joinTail; simp

theorem joinTail_join (ys : List (List UInt8)) (h : ys ≠ []) : Lib.joinTail [32] [Lib.join ys [32]] = Lib.joinTail [32] ys := by
  obtain ⟨y, r, rfl⟩ := List.exists_cons_of_ne_nil h
  rw [Lib.join_cons]
  unfold Lib.joinTail
  simp

theorem parts_join (l : Line) : ∀ (ps : List Part), (∀ p ∈ ps, FitP l p) → Lib.joinTail [32] (ps.map (partT l)) = Lib.joinTail [32] (ps.flatMap (wsP l))
  | [], _ => rfl
  | p :: ps, h => by
    have e1 : (p :: ps).map (partT l) = [partT l p] ++ ps.map (partT l) := rfl
    rw [e1, List.flatMap_cons, joinTail_app, joinTail_app, parts_join l ps (fun q hq => h q (by simp [hq]))]
    congr 1
    cases p with
    | places =>
      have := (h .places (by simp)).1
      exact joinTail_join _ (by simpa using this)
    | _ => rfl

theorem wsP_word (l : Line) (p : Part) : ∀ x ∈ wsP l p, WordB x := by
  intro x hx
  have k : ∀ (c : UInt8) n, c = 76 ∨ c = 82 → WordB (c :: Lib.itoa n) := fun c n hc => (word_itoa n).cons (by rcases hc with rfl | rfl <;> decide)
  cases p with
  | reg o => rw [List.mem_singleton.1 hx]; exact k 82 _ (.inr rfl)
  | num => rw [List.mem_singleton.1 hx]; exact word_itoa _
  | word => rw [List.mem_singleton.1 hx]; exact word_itoa _
  | place => rw [List.mem_singleton.1 hx]; exact k 76 _ (.inl rfl)
  | places =>
    obtain ⟨n, _, rfl⟩ := List.mem_map.1 hx
    exact k 76 _ (.inl rfl)

def nameOk (x : List UInt8) : Bool := !x.isEmpty && x.all (fun c => decide (c ≠ 32) && decide (c ≠ 9) && decide (c ≠ 10) && decide (c ≠ 59)) && !Lib.hasSuffix x [58]
theorem names_ok : opNames.all nameOk = true := by kernel_rfl
theorem names_op : (List.range 48).all (fun k => decide (opOf (baL (opNames.getD k [])) = (k : Int) + 1)) = true := by kernel_rfl

theorem name_word (k : Nat) (hk : k < 48) : WordB (opNames.getD k []) ∧ Lib.hasSuffix (opNames.getD k []) [58] = false := by
  have hk' : k < opNames.length := by rw [opNames_len]; exact hk
  have := List.all_eq_true.1 names_ok (opNames.getD k []) (by rw [List.getD_eq_getElem?_getD, List.getElem?_eq_getElem hk']; exact List.getElem_mem hk')
  unfold nameOk at this
  simp only [Bool.and_eq_true, Bool.not_eq_true', List.all_eq_true, decide_eq_true_eq] at this
  refine ⟨⟨fun e => ?_, fun c hc => ?_⟩, this.2⟩
  · rw [e] at this
    simp at this
  · have := this.1.2 c hc
    exact ⟨this.1.1.1, this.1.1.2, this.1.2, this.2⟩

theorem name_op (k : Nat) (hk : k < 48) : opOf (baL (opNames.getD k [])) = (k : Int) + 1 :=
  of_decide_eq_true (List.all_eq_true.1 names_op k (List.mem_range.2 hk))

theorem text_words (l : Line) (h1 : 1 ≤ l.op) (h2 : l.op ≤ 48) (h : ∀ p ∈ partsP l.op, FitP l p) :
    textP l = Lib.join (opNames.getD (l.op.toNat - 1) [] :: (partsP l.op).flatMap (wsP l)) [32] ∧ ∀ x ∈ opNames.getD (l.op.toNat - 1) [] :: (partsP l.op).flatMap (wsP l), WordB x := by
  constructor
  · unfold textP
    rw [if_neg (by omega), Lib.join_cons, Lib.join_cons, parts_join l _ h]
  · intro x hx
    rcases List.mem_cons.1 hx with rfl | hx
    · exact (name_word _ (by omega)).1
    · obtain ⟨p, _, hp⟩ := List.mem_flatMap.1 hx
      exact wsP_word l p x hp

end Go.Proofs.YtlhgfhmdhmgmpaaGreatDoor
