/- THE LAW RelaxAll: whatever the input, the call returns true and the input reads as it did; under no condition but the row's own: the listed variable holds what the program's text lays. -/
import Derived.Test.YtamimnaafiphcaaDoorRxQ
import Derived.Test.YtamimnaafiphcaaDoorEncP
import Derived.Test.YtamimnaafiphcaaDoorRxA
import Derived.WalkKit
import Derived.OpenShut
import Derived.Deep.Slices
import Derived.ChangeArms
import Derived.Test.YtamimnaafiphcaaDoorRxT
import Derived.Test.YtamimnaafiphcaaDoorPR1Ax30
import Derived.Test.YtamimnaafiphcaaDoorCards
import Derived.Test.YtamimnaafiphcaaDoorTie
import Derived.ProofKit
import Derived.Deep.DeepHandedRow
import Derived.Lib.LaidTab
import Derived.Lib.SmallJoins
import Derived.ChangeOld
import Derived.Carry
import Derived.ShutString
set_option linter.unusedVariables false
set_option linter.unusedSimpArgs false
set_option linter.unusedVariables false
set_option linter.unusedSimpArgs false
namespace Go.Proofs.YtamimnaafiphcaaDoor
open Go.RowKit

/-- The labels that stand in a list. -/
def labs (ls : List Line) : List Int := (ls.filter fun l => decide (l.op = 0)).map (·.label)

theorem labs_mem {ls : List Line} {x : Int} : x ∈ labs ls ↔ ∃ l ∈ ls, l.op = 0 ∧ l.label = x := by
  unfold labs
  simp only [List.mem_map, List.mem_filter, decide_eq_true_eq]
  constructor
  · rintro ⟨l, ⟨h1, h2⟩, h3⟩; exact ⟨l, h1, h2, h3⟩
  · rintro ⟨l, h1, h2, h3⟩; exact ⟨l, ⟨h1, h2⟩, h3⟩

theorem ref1_takes : ∀ (ls : List Line) (seen : List Int) (i : Nat), (∀ l ∈ ls, 0 ≤ l.op ∧ l.op ≤ 48 ∧ fitsB l = true) → (labs ls).Nodup → (∀ x ∈ labs ls, x ∉ seen) → ∃ s, ref1 seen i ls = .inr s
  | [], seen, i, _, _, _ => ⟨seen, rfl⟩
  | l :: r, seen, i, h1, h2, h3 => by
    obtain ⟨a, b, c⟩ := h1 l (List.mem_cons_self ..)
    have h1' := fun m hm => h1 m (List.mem_cons_of_mem l hm)
    rw [ref1, if_neg (by omega), if_neg (by rw [c]; decide)]
    by_cases h0 : l.op = 0
    · have e : labs (l :: r) = l.label :: labs r := by unfold labs; simp [h0]
      rw [e] at h2 h3
      obtain ⟨d, h2⟩ := List.nodup_cons.1 h2
      rw [if_pos h0, if_neg (h3 _ (List.mem_cons_self ..))]
      refine ref1_takes r _ (i + 1) h1' h2 fun x hx => ?_
      intro hm
      rcases List.mem_cons.1 hm with rfl | hm
      · exact d hx
      · exact h3 x (List.mem_cons_of_mem _ hx) hm
    · have e : labs (l :: r) = labs r := by unfold labs; simp [h0]
      rw [e] at h2 h3
      rw [if_neg h0]
      exact ref1_takes r seen (i + 1) h1' h2 h3

theorem ref2_takes : ∀ (ls : List Line) (seen : List Int) (i : Nat), (∀ l ∈ ls, ∀ x ∈ targets l, x ∈ seen) → ref2 seen i ls = (0, 0)
  | [], _, _, _ => rfl
  | l :: r, seen, i, h => by
    rw [ref2, if_pos (List.all_eq_true.2 fun x hx => decide_eq_true (h l (List.mem_cons_self ..) x hx))]
    exact ref2_takes r seen (i + 1) fun m hm => h m (List.mem_cons_of_mem l hm)

theorem sizeP_small (l : Line) (lg : Bool) (h : l.list.length ≤ 2) : sizeP l lg ≤ 4 := by
  have := follows_range l.op
  unfold sizeP
  repeat' split
  all_goals omega

theorem pl_small (ls : List Line) (long : List Bool) (h : ∀ l ∈ ls, l.list.length ≤ 2) : ∀ k, pl ls long k ≤ 4 * k
  | 0 => by show (0 : Int) ≤ _; omega
  | k + 1 => by
    have h1 := pl_small ls long h k
    have h2 := sizeP_small (ls.getD k default) (long.getD k false) (by
      by_cases hk : k < ls.length
      · rw [List.getD_eq_getElem?_getD, List.getElem?_eq_getElem hk]
        exact h _ (List.getElem_mem hk)
      · rw [List.getD_eq_getElem?_getD, List.getElem?_eq_none (by omega)]
        exact Nat.zero_le _)
    show pl ls long k + _ ≤ _
    omega

theorem lineW_one (f : Int → Option Int) (lg : Bool) (p : Int) (l : Line) (h : l.op ≠ 0) : 1 ≤ (lineW f lg p l).length := by
  unfold lineW
  rw [if_neg h]
  repeat' split
  all_goals simp

theorem words_many (ls : List Line) (long : List Bool) : ∀ k, k ≤ ls.length → ((ls.take k).filter fun l => decide (l.op ≠ 0)).length ≤ (wordsOf ls long k).length
  | 0, _ => Nat.zero_le _
  | k + 1, hk => by
    have ih := words_many ls long k (by omega)
    have e : ls.getD k default = ls[k] := by rw [List.getD_eq_getElem?_getD, List.getElem?_eq_getElem (show k < ls.length by omega)]; rfl
    have e1 : ls.take (k + 1) = ls.take k ++ [ls[k]] := by rw [List.take_add_one, List.getElem?_eq_getElem (show k < ls.length by omega)]; rfl
    rw [wordsOf_succ, List.length_append, e1, List.filter_append, List.length_append, e]
    have e2 : ([ls[k]].filter fun l => decide (l.op ≠ 0)).length ≤ (lineW (fl ls long) (long.getD k false) (pl ls long k) ls[k]).length := by
      by_cases h0 : ls[k].op = 0
      · rw [List.filter_cons_of_neg (by simp [h0])]
        exact Nat.zero_le _
      · rw [List.filter_cons_of_pos (by simp [h0])]
        exact lineW_one _ _ _ _ h0
    omega

theorem asm_takes (ls : List Line) (h4 : ls.length ≤ 2050) (h1 : ∀ l ∈ ls, (0 ≤ l.op ∧ l.op ≤ 48 ∧ fitsB l = true) ∧ l.list.length ≤ 2 ∧ ∀ x ∈ targets l, x ∈ labs ls) (h2 : (labs ls).Nodup) :
    (asm ls).err = 0 ∧ (asm ls).line = 0 ∧ (asm ls).places.length = ls.length ∧ (ls.filter fun l => decide (l.op ≠ 0)).length ≤ (asm ls).words.length := by
  have hr : refusedP ls = (0, 0) := by
    obtain ⟨s, hs⟩ := ref1_takes ls [] 0 (fun l hl => (h1 l hl).1) h2 (fun x _ hx => by cases hx)
    obtain ⟨_, hm⟩ := ref1_ok ls [] s 0 hs
    unfold refusedP
    rw [if_neg (by omega), hs]
    exact ref2_takes ls s 0 fun l hl x hx => (hm x).2 (Or.inr (labs_mem.1 ((h1 l hl).2.2 x hx)))
  have hp := pl_small ls (fin ls).1 (fun l hl => (h1 l hl).2.1) ls.length
  unfold asm
  rw [hr, if_neg (by decide), if_neg (by omega)]
  refine ⟨rfl, rfl, by simp, ?_⟩
  have := words_many ls (fin ls).1 ls.length (Nat.le_refl _)
  rwa [List.take_length] at this

theorem goOp_range {n : Int} (h : goOp n = true) : (30 ≤ n ∧ n ≤ 41 ∨ n = 43) := by
  unfold goOp brOp isBr within at h
  simp only [Bool.or_eq_true, Bool.and_eq_true, decide_eq_true_eq, beq_iff_eq] at h
  omega

/-- A line that goes somewhere, plainly. -/
theorem fits_go (op x : Int) (h : goOp op = true) (hx : 0 ≤ x ∧ x ≤ 100000) : fitsB ⟨op, 0, 0, 0, 0, x, []⟩ = true := by
  have hr := goOp_range h
  have hm : mayR op 0 0 0 = true := by
    unfold mayR
    rw [if_neg (by omega), if_neg (by omega), if_neg (by omega), if_neg (by omega), if_neg (by omega)]
    by_cases hb : isBr op = true
    · rw [if_pos hb]; decide
    · rw [if_neg hb]
      have : op = 40 ∨ op = 41 ∨ op = 43 := by
        unfold isBr within at hb
        simp only [Bool.and_eq_true, decide_eq_true_eq] at hb
        omega
      rcases this with rfl | rfl | rfl <;> decide
  unfold fitsB x4 x6 x8
  simp only []
  rw [if_neg (by omega), h, show (enc op 0 0 0).2 = 0 from by rw [enc_of hm]]
  have hl : isLabel x = true := within_t hx.1 hx.2
  have h42 : (op == 42) = false := by simp; omega
  rw [hl, h42]
  simp

theorem fits_tab (a x y : Int) (ha : 0 ≤ a ∧ a ≤ 11) (hx : 0 ≤ x ∧ x ≤ 100000) (hy : 0 ≤ y ∧ y ≤ 100000) : fitsB ⟨42, a, 0, 0, 0, 0, [x, y]⟩ = true := by
  have hm : mayR 42 a 0 0 = true := by
    unfold mayR
    rw [if_neg (by decide), if_pos (by decide)]
    unfold reg
    rw [within_t ha.1 ha.2]
    rfl
  have e : enc 42 a 0 0 = _ := enc_of hm
  unfold fitsB x4 x6 x8
  simp only []
  rw [e]
  have h1 : isLabel x = true := within_t hx.1 hx.2
  have h2 : isLabel y = true := within_t hy.1 hy.2
  rw [if_neg (by decide)]
  simp [h1, h2, show goOp 42 = false from by decide, show isLabel 0 = true from by decide]

theorem fits_ins (op a b c : Int) (h0 : 1 ≤ op) (h48 : op ≤ 48) (hg : goOp op = false) (h42 : op ≠ 42) (hm : mayR op a b c = true) : fitsB ⟨op, a, b, c, 0, 0, []⟩ = true := by
  unfold fitsB x4 x6 x8
  simp only []
  rw [if_neg (by omega), hg, enc_of hm]
  have : (op == 42) = false := by simpa using h42
  rw [this]
  simp [show isLabel 0 = true from by decide]

theorem fits_lab (x : Int) (hx : 0 ≤ x ∧ x ≤ 100000) : fitsB ⟨0, 0, 0, 0, 0, x, []⟩ = true := by
  unfold fitsB
  rw [if_pos rfl]
  simp [show isLabel x = true from within_t hx.1 hx.2]

end Go.Proofs.YtamimnaafiphcaaDoor

set_option linter.unusedVariables false
set_option linter.unusedSimpArgs false
namespace Go.Proofs.YtamimnaafiphcaaDoor
open Go.RowKit Go.Proofs.YtamimnaafiphcaaDoorW.PrintWords Go.ChangeShapes Go.WideShapes

variable {H : Type} {enc : TypeId × Value → H} {W : World} {base : Nat} {spare : Nat → Bool} {held : Bool}

theorem open_nums {k : IntKind} {t u : TypeId} (ht : Tryd.prog.underlying t = some (.slice u)) (hu : Tryd.prog.underlying u = some (.int k)) (hc : Tryd.prog.cellsOf u = 1) {fuel : Nat} {cs : List Value} {x : DataW H × List MemPlace} (h : DataW.trod enc Tryd.prog W base spare held fuel t cs = some x) :
    ∃ (xs : List Int) (A : Option Addr) (c : Nat), cs = [.slice A xs.length c] ∧ Kd.C (Kd.int k) W A xs.length xs ∧ (∀ y ∈ xs, (Lit.int k y).wf = true) ∧ xs.length ≤ c := by
  rcases Deep.open_slice1 ht hc h with ⟨rfl, _⟩ | ⟨a, len, cap, m, n, V, D, Pl, rfl, hb, hl, hm, hmm, rfl, hx⟩
  · exact ⟨[], none, 0, rfl, Kd.C_nil (Kd.int k) W, by simp, Nat.le_refl _⟩
  · have hml : len ≤ m := by rw [hmm]; split <;> omega
    have hv : ∀ i, i < len → ∃ z, V i = .int k z ∧ (Lit.int k z).wf = true := fun i hi => by
      obtain ⟨z, e, _, hw⟩ := DataW.trod_int hu (hx i (by omega)).2
      exact ⟨z, by simpa using e, hw⟩
    obtain ⟨f, hf⟩ : ∃ f : Nat → Int, ∀ i, i < len → V i = .int k (f i) ∧ (Lit.int k (f i)).wf = true :=
      ⟨fun i => if hi : i < len then (hv i hi).choose else 0, fun i hi => by simp only [hi, dif_pos]; exact (hv i hi).choose_spec⟩
    refine ⟨(List.range len).map f, some a, cap, by simp, ?_, fun y hy => ?_, by simpa using hl⟩
    · refine ⟨rfl, by simp; unfold maxLen at hm; omega, fun _ => ⟨a, rfl, fun j p hj => ⟨[.int k p], rfl, rfl, fun i u hu => ?_⟩⟩⟩
      have hj' : j < len := by have := (List.getElem?_eq_some_iff.1 hj).1; simpa using this
      have hp : p = f j := by simp [hj'] at hj; exact hj.symm
      have hi : i = 0 := by have := (List.getElem?_eq_some_iff.1 hu).1; simpa using this
      subst hi
      cases hu
      rw [show j * (Kd.int k).sz + 0 = j from by show j * 1 + 0 = j; omega, hp, ← (hf j hj').1]
      exact (hx j (by omega)).1
    · obtain ⟨i, hi, rfl⟩ := List.mem_map.1 hy
      exact (hf i (List.mem_range.1 hi)).2

theorem open_ints {fuel : Nat} {cs : List Value} {x : DataW H × List MemPlace} (h : DataW.trod enc Tryd.prog W base spare held fuel 25 cs = some x) :
    ∃ (xs : List Int) (A : Option Addr) (c : Nat), cs = [.slice A xs.length c] ∧ Kd.C (Kd.int .i64) W A xs.length xs ∧ (∀ y ∈ xs, (Lit.int .i64 y).wf = true) ∧ xs.length ≤ c :=
  open_nums Tryd.underlying25 Tryd.underlying3 (by kernel_rfl) h

theorem open_u32s {fuel : Nat} {cs : List Value} {x : DataW H × List MemPlace} (h : DataW.trod enc Tryd.prog W base spare held fuel 24 cs = some x) :
    ∃ (xs : List Int) (A : Option Addr) (c : Nat), cs = [.slice A xs.length c] ∧ Kd.C (Kd.int .u32) W A xs.length xs ∧ (∀ y ∈ xs, (Lit.int .u32 y).wf = true) ∧ xs.length ≤ c :=
  open_nums Tryd.underlying24 Tryd.underlying38 (by kernel_rfl) h

end Go.Proofs.YtamimnaafiphcaaDoor

set_option linter.unusedVariables false
set_option linter.unusedSimpArgs false
namespace Go.Proofs.YtamimnaafiphcaaDoor.PR1A
open Go.RowKit Go.Proofs.YtamimnaafiphcaaDoorW.PrintWords Go.Proofs.YtamimnaafiphcaaDoorW.PrintLast Go.Proofs.YtamimnaafiphcaaDoorW.PrintMore

theorem wrap_i64 {x : Int} (h0 : -9223372036854775808 ≤ x) (h1 : x ≤ 9223372036854775807) : wrap64 x = x := by
  unfold wrap64
  omega

theorem branch16_f (n : Int) : switchbackref16_Branch.f n = some (isBr n) := by
  unfold switchbackref16_Branch.f isBr within
  by_cases h : n ≥ 30
  · rw [if_pos h, decide_eq_true (show (30 : Int) ≤ n from h), Bool.true_and]
  · rw [if_neg h, decide_eq_false (show ¬ (30 : Int) ≤ n from h), Bool.false_and]

theorem branch17_f (a b c d e f : Int) (l : List Int) : switchbackref17_Branch.f a b c d e f l = some (brOp a) := by
  unfold switchbackref17_Branch.f brOp
  rw [branch16_f]
  simp only [Option.bind_some]
  cases isBr a <;> simp

theorem goes_f (a b c d e f : Int) (l : List Int) : switchbackref17_Goes.f a b c d e f l = some (goOp a) := by
  unfold switchbackref17_Goes.f goOp
  rw [branch17_f]
  simp only [Option.bind_some]
  cases brOp a
  · by_cases h : a = 41
    · subst h; rfl
    · have : (a == 41) = false := by simpa using h
      simp [h, this]
  · simp

theorem pick_f {a n : Int} (h0 : -9223372036854775808 ≤ a) (h1 : a ≤ 9223372036854775807) (hn : 1 ≤ n) : ∃ t, switchbacklaw17_pick.f a n = some t ∧ 0 ≤ t ∧ t < n := by
  unfold switchbacklaw17_pick.f
  by_cases h : a < 0
  · rw [if_pos h, if_neg (by omega)]
    rw [wrap_i64 (x := a + 1) (by omega) (by omega), wrap_i64 (by omega) (by omega)]
    exact ⟨_, rfl, Int.tmod_nonneg _ (by omega), Int.tmod_lt_of_pos _ (by omega)⟩
  · rw [if_neg h, if_neg (by omega)]
    exact ⟨_, rfl, Int.tmod_nonneg _ (by omega), Int.tmod_lt_of_pos _ (by omega)⟩

theorem wf64 {x : Int} (h : (Lit.int .i64 x).wf = true) : -9223372036854775808 ≤ x ∧ x ≤ 9223372036854775807 := by
  have : IntKind.i64.min ≤ x ∧ x ≤ IntKind.i64.max := by simpa [Lit.wf] using h
  exact this

theorem wf64_mk {x : Int} (h0 : -9223372036854775808 ≤ x) (h1 : x ≤ 9223372036854775807) : (Lit.int .i64 x).wf = true := by
  have : IntKind.i64.min ≤ x ∧ x ≤ IntKind.i64.max := ⟨h0, h1⟩
  simpa [Lit.wf] using this

theorem live_f : Ev (fun k => switchbacklaw17_live.f k) true := by
  refine Ev.of (k := 20) (fun k => switchbacklaw17_live.mono k) ?_
  have e : relax_Assemble.f ([(⟨0, 0, 0, 0, 0, 7, ([] : List Int)⟩ : S40), (⟨44, 0, 0, 0, 0, 0, ([] : List Int)⟩ : S40), (⟨40, 0, 0, 0, 0, 7, ([] : List Int)⟩ : S40)] : List (S40)) = some ([738197504, 671154174], [1, 1], [0, 0, 1], 1, 0, 0) := by
    unfold relax_Assemble.f
    rw [if_pos (by decide)]
    have h : List.map toLine [(⟨0, 0, 0, 0, 0, 7, ([] : List Int)⟩ : S40), (⟨44, 0, 0, 0, 0, 0, ([] : List Int)⟩ : S40), (⟨40, 0, 0, 0, 0, 7, ([] : List Int)⟩ : S40)] = liveLs := rfl
    rw [h, asm_live]
    rfl
  unfold switchbacklaw17_live.f
  rw [e]
  show (if (0 : Int) = 0 then (if (0 : Int) = 0 then ((switchbacklaw17_Same.f 20 [738197504, 671154174] [1, 1] [0, 0, 1] 1 [738197504, 671154174] [1, 1] [0, 0, 1] 1).bind fun t => some t) else some false) else some false) = some true
  rw [if_pos rfl, if_pos rfl]
  kernel_rfl

/-- A line that RelaxAll makes. -/
def Good (lab : Nat) (x : S40) : Prop :=
  ((0 ≤ x.f0 ∧ x.f0 ≤ 48 ∧ fitsB (toLine x) = true) ∧ x.f6.length ≤ 2 ∧ ∀ y ∈ targets (toLine x), 0 ≤ y ∧ y < lab) ∧ (Lit.int .i64 x.f5).wf = true ∧ ∀ y ∈ x.f6, (Lit.int .i64 y).wf = true

structure Inv (lab : Nat) (ls : List S40) (m n : Nat) : Prop where
  good : ∀ x ∈ ls, Good lab x
  labs : labs (ls.map toLine) = (List.range m).map fun i : Nat => (i : Int)
  many : ((ls.map toLine).filter fun l => decide (l.op ≠ 0)).length = n
  len : ls.length = m + n

theorem Inv.add {lab m n : Nat} {ls : List S40} (h : Inv lab ls m n) {x : S40} (hx : Good lab x) (h0 : x.f0 ≠ 0) : Inv lab (ls ++ [x]) m (n + 1) where
  good := fun y hy => by
    rcases List.mem_append.1 hy with hy | hy
    · exact h.good y hy
    · rw [List.mem_singleton.1 hy]; exact hx
  labs := by
    rw [← h.labs]
    unfold Proofs.YtamimnaafiphcaaDoor.labs
    rw [List.map_append, List.filter_append, List.map_append, show (List.map toLine [x]).filter (fun l => decide (l.op = 0)) = [] from by simp [toLine, h0]]
    simp
  many := by
    rw [← h.many, List.map_append, List.filter_append, List.length_append, show (List.map toLine [x]).filter (fun l => decide (l.op ≠ 0)) = [toLine x] from by simp [toLine, h0]]
    rfl
  len := by rw [List.length_append, h.len]; simp; omega

theorem Inv.lab {lab m n : Nat} {ls : List S40} (h : Inv lab ls m n) (hm : m < lab) (hl : lab ≤ 50) : Inv lab (ls ++ [⟨0, 0, 0, 0, 0, (m : Int), ([] : List Int)⟩]) (m + 1) n where
  good := fun y hy => by
    rcases List.mem_append.1 hy with hy | hy
    · exact h.good y hy
    · rw [List.mem_singleton.1 hy]
      exact ⟨⟨⟨Int.le_refl _, (show (0 : Int) ≤ 48 by decide), fits_lab (m : Int) (by omega)⟩, Nat.zero_le _, fun y hy => by
        have ht : targets (toLine ⟨0, 0, 0, 0, 0, (m : Int), ([] : List Int)⟩) = [] := rfl
        rw [ht] at hy; cases hy⟩, wf64_mk (show (-9223372036854775808 : Int) ≤ (m : Int) by omega) (show (m : Int) ≤ 9223372036854775807 by omega), fun y hy => by cases hy⟩
  labs := by
    have := h.labs
    unfold Proofs.YtamimnaafiphcaaDoor.labs at this ⊢
    rw [List.map_append, List.filter_append, List.map_append, this, List.range_succ, List.map_append]
    simp [toLine]
  many := by
    rw [← h.many, List.map_append, List.filter_append, List.length_append]
    simp [toLine]
  len := by rw [List.length_append, h.len]; simp; omega

section
variable (raw : List Int) (lab : Nat) (hl1 : 1 ≤ lab) (hl2 : lab ≤ 50)
include hl1 hl2

theorem all_end (ls : List S40) (h : Inv lab ls lab (min raw.length 2000)) (x11 : Int) (hx : ¬ x11 < (lab : Int)) : Ev (fun k => switchbacklaw17_RelaxAll.l1 k raw lab ls x11) true := by
  have hw : wfS ls = true := by
    unfold wfS
    rw [List.all_eq_true]
    intro x hx
    obtain ⟨_, h1, h2⟩ := h.good x hx
    rw [Bool.and_eq_true]
    exact ⟨h1, List.all_eq_true.2 h2⟩
  obtain ⟨t1, t2, t3, t4⟩ := asm_takes (ls.map toLine) (by rw [List.length_map, h.len]; omega) (fun l hl => by
    obtain ⟨x, hx, rfl⟩ := List.mem_map.1 hl
    obtain ⟨⟨a, b, c⟩, _⟩ := h.good x hx
    refine ⟨a, b, fun y hy => ?_⟩
    obtain ⟨y0, y1⟩ := c y hy
    rw [h.labs, List.mem_map]
    exact ⟨y.toNat, List.mem_range.2 (by omega), by omega⟩) (by
      rw [h.labs, List.nodup_iff_pairwise_ne, List.pairwise_map]
      exact (List.nodup_iff_pairwise_ne.1 List.nodup_range).imp fun hab e => hab (by omega))
  rw [h.many] at t4
  rw [List.length_map] at t3
  have e : relax_Assemble.f ls = some ((asm (ls.map toLine)).words, (asm (ls.map toLine)).kinds, (asm (ls.map toLine)).places, ((asm (ls.map toLine)).rounds : Int), ((asm (ls.map toLine)).line : Int), (asm (ls.map toLine)).err) := by
    unfold relax_Assemble.f
    rw [if_pos hw]
  refine Ev.step (f := fun k => (switchbacklaw17_live.f k).bind fun t => if t = true then some true else some false) (fun k => ?_) (Ev.bind live_f (by simp only [if_true]; exact Ev.now _))
  simp only [switchbacklaw17_RelaxAll.l1]
  rw [if_neg hx, e]
  simp only [Option.bind_some]
  rw [t1, t2]
  have hw2 : ((asm (ls.map toLine)).words.length : Int) ≥ mn (raw.length : Int) 2000 := by
    unfold mn
    split <;> omega
  rw [decide_eq_true hw2, if_pos (show ((asm (ls.map toLine)).places.length : Int) = (ls.length : Int) by rw [t3])]
  simp

theorem all_l1 : ∀ (d i : Nat) (ls : List S40), lab - i = d → Inv lab ls (min i lab) (min raw.length 2000) → Ev (fun k => switchbacklaw17_RelaxAll.l1 k raw lab ls (i : Int)) true := by
  intro d
  induction d with
  | zero =>
    intro i ls hd h
    rw [show min i lab = lab by omega] at h
    exact all_end raw lab hl1 hl2 ls h i (by omega)
  | succ d ih =>
    intro i ls hd h
    rw [show min i lab = i by omega] at h
    refine Ev.step (f := fun k => switchbacklaw17_RelaxAll.l1 k raw lab (ls ++ [⟨0, 0, 0, 0, 0, (i : Int), ([] : List Int)⟩]) ((i + 1 : Nat) : Int)) (fun k => ?_) (ih (i + 1) _ (by omega) (by rw [show min (i + 1) lab = i + 1 by omega]; exact h.lab (by omega) hl2))
    simp only [switchbacklaw17_RelaxAll.l1]
    have hlen := h.len
    rw [if_pos (by omega), if_pos (by omega), wrap_i64 (x := (i : Int) + 1) (by omega) (by omega)]
    rfl

theorem all_j2 (i : Nat) (hi : i < min raw.length 2000) (ls : List S40) (h : Inv lab ls (min i lab) i) (a b c d e f : Int) (g : List Int) (hx : Good lab ⟨a, b, c, d, e, f, g⟩) (h0 : a ≠ 0)
    (ih : ∀ ls', Inv lab ls' (min (i + 1) lab) (i + 1) → Ev (fun k => switchbacklaw17_RelaxAll.l0 k raw lab ls' ((i + 1 : Nat) : Int)) true) : Ev (fun k => switchbacklaw17_RelaxAll.j2 k raw lab ls (i : Int) a b c d e f g) true := by
  have h1 := h.add hx h0
  have hlen := h.len
  by_cases hil : i < lab
  · rw [show min i lab = i by omega] at h1
    have h2 := h1.lab hil hl2
    refine Ev.step (f := fun k => switchbacklaw17_RelaxAll.l0 k raw lab (ls ++ [⟨a, b, c, d, e, f, g⟩] ++ [⟨0, 0, 0, 0, 0, (i : Int), ([] : List Int)⟩]) ((i + 1 : Nat) : Int)) (fun k => ?_) (ih _ (by rw [show min (i + 1) lab = i + 1 by omega]; exact h2))
    simp only [switchbacklaw17_RelaxAll.j2]
    rw [if_pos (by omega)]
    simp only [Option.bind_some]
    rw [if_pos (by omega), if_pos (by rw [List.length_append]; simp; omega), wrap_i64 (x := (i : Int) + 1) (by omega) (by omega)]
    rfl
  · rw [show min i lab = lab by omega] at h1
    refine Ev.step (f := fun k => switchbacklaw17_RelaxAll.l0 k raw lab (ls ++ [⟨a, b, c, d, e, f, g⟩]) ((i + 1 : Nat) : Int)) (fun k => ?_) (ih _ (by rw [show min (i + 1) lab = lab by omega]; exact h1))
    simp only [switchbacklaw17_RelaxAll.j2]
    rw [if_pos (by omega)]
    simp only [Option.bind_some]
    rw [if_neg (by omega), wrap_i64 (x := (i : Int) + 1) (by omega) (by omega)]
    rfl

theorem all_j1 (hraw : ∀ x ∈ raw, -9223372036854775808 ≤ x ∧ x ≤ 9223372036854775807) (i : Nat) (hi : i < min raw.length 2000) (ls : List S40) (h : Inv lab ls (min i lab) i)
    (ih : ∀ ls', Inv lab ls' (min (i + 1) lab) (i + 1) → Ev (fun k => switchbacklaw17_RelaxAll.l0 k raw lab ls' ((i + 1 : Nat) : Int)) true) : Ev (fun k => switchbacklaw17_RelaxAll.j1 k raw lab ls (i : Int) true) true := by
  have hlt : i < raw.length := by omega
  have hm := hraw raw[i] (List.getElem_mem hlt)
  obtain ⟨n, hn, n0, n1⟩ := pick_f (a := raw[i]) (n := 1073741824) hm.1 hm.2 (by decide)
  have hrd : rd raw (i : Int) = raw[i] := by unfold rd; simp [hlt]
  have o1 : wrap64 (1 + Int.tmod n 48) = 1 + n % 48 := by
    rw [Int.tmod_eq_emod_of_nonneg n0, wrap_i64 (by omega) (by omega)]
  have q1 : wrap64 (Int.tdiv n 48) = n / 48 := by
    rw [Int.tdiv_eq_ediv_of_nonneg n0, wrap_i64 (by omega) (by omega)]
  have q2 : wrap64 (Int.tdiv n 576) = n / 576 := by
    rw [Int.tdiv_eq_ediv_of_nonneg n0, wrap_i64 (by omega) (by omega)]
  have q3 : wrap64 (Int.tdiv n 6912) = n / 6912 := by
    rw [Int.tdiv_eq_ediv_of_nonneg n0, wrap_i64 (by omega) (by omega)]
  have hop : 1 ≤ 1 + n % 48 ∧ 1 + n % 48 ≤ 48 := by omega
  have hA : 0 ≤ Int.tmod (n / 48) 12 ∧ Int.tmod (n / 48) 12 < 12 := ⟨Int.tmod_nonneg _ (by omega), Int.tmod_lt_of_pos _ (by omega)⟩
  have hX : 0 ≤ Int.tmod (n / 48) lab ∧ Int.tmod (n / 48) lab < lab := ⟨Int.tmod_nonneg _ (by omega), Int.tmod_lt_of_pos _ (by omega)⟩
  have hY : 0 ≤ Int.tmod (n / 576) lab ∧ Int.tmod (n / 576) lab < lab := ⟨Int.tmod_nonneg _ (by omega), Int.tmod_lt_of_pos _ (by omega)⟩
  have ev : ∀ (F : Nat → Option Bool), (∀ k, switchbacklaw17_RelaxAll.j1 (k + 1) raw lab ls (i : Int) true = F k) → Ev F true → Ev (fun k => switchbacklaw17_RelaxAll.j1 k raw lab ls (i : Int) true) true := fun F hF h => Ev.step hF h
  have l0 : ((lab : Nat) : Int) ≠ 0 := by omega
  have base : ∀ k, switchbacklaw17_RelaxAll.j1 (k + 1) raw lab ls (i : Int) true =
      (if goOp (1 + n % 48) = true then switchbacklaw17_RelaxAll.j2 k raw lab ls i (1 + n % 48) 0 0 0 0 (Int.tmod (n / 48) lab) ([] : List Int) else
      if 1 + n % 48 = 42 then switchbacklaw17_RelaxAll.j2 k raw lab ls i (1 + n % 48) (Int.tmod (n / 48) 12) 0 0 0 0 ([Int.tmod (n / 576) lab, 0] : List Int) else
      if mayR (1 + n % 48) (Int.tmod (n / 48) 12) (Int.tmod (n / 576) 12) (Int.tmod (n / 6912) 12) = true then switchbacklaw17_RelaxAll.j2 k raw lab ls i (1 + n % 48) (Int.tmod (n / 48) 12) (Int.tmod (n / 576) 12) (Int.tmod (n / 6912) 12) 0 0 ([] : List Int) else
      switchbacklaw17_RelaxAll.j2 k raw lab ls i 44 0 0 0 0 0 ([] : List Int)) := fun k => by
    simp only [switchbacklaw17_RelaxAll.j1, if_true]
    rw [if_pos (show (0 : Int) ≤ (i : Int) by omega), if_pos (show (i : Int) < (raw.length : Int) by omega), hrd, hn]
    simp only [Option.bind_some, goes_f, switchbackref16_May.f, o1, q1, q2, q3]
    simp only [if_neg l0]
  generalize Int.tmod (n / 48) 12 = A at hA base
  generalize Int.tmod (n / 576) 12 = B at base
  generalize Int.tmod (n / 6912) 12 = C at base
  generalize Int.tmod (n / 48) lab = X at hX base
  generalize Int.tmod (n / 576) lab = Y at hY base
  generalize 1 + n % 48 = op at hop base
  by_cases hg : goOp op = true
  · refine ev _ (fun k => (base k).trans (if_pos hg)) (all_j2 raw lab hl1 hl2 i hi ls h _ _ _ _ _ _ _ ⟨⟨⟨by show 0 ≤ op; omega, hop.2, fits_go op X hg (by omega)⟩, Nat.zero_le _, fun y hy => ?_⟩, wf64_mk (show _ ≤ X by omega) (show X ≤ _ by omega), fun y hy => by cases hy⟩ (by omega) ih)
    unfold targets toLine at hy
    rw [if_pos hg] at hy
    rw [List.mem_singleton.1 hy]
    exact hX
  · by_cases h42 : op = 42
    · subst h42
      refine ev _ (fun k => ((base k).trans (if_neg hg)).trans (if_pos rfl)) (all_j2 raw lab hl1 hl2 i hi ls h _ _ _ _ _ _ _ ⟨⟨⟨(show (0 : Int) ≤ 42 by decide), (show (42 : Int) ≤ 48 by decide), fits_tab A Y 0 (by omega) (by omega) (by decide)⟩, Nat.le_refl _, fun y hy => ?_⟩, (show (Lit.int .i64 0).wf = true by decide), fun y hy => ?_⟩ (by decide) ih)
      · unfold targets toLine at hy
        rw [if_neg hg] at hy
        rcases List.mem_cons.1 hy with rfl | hy
        · exact hY
        · rw [List.mem_singleton.1 hy]; omega
      · rcases List.mem_cons.1 hy with rfl | hy
        · exact wf64_mk (by omega) (by omega)
        · rw [List.mem_singleton.1 hy]; decide
    · have hg' : goOp op = false := by simpa using hg
      by_cases hm : mayR op A B C = true
      · refine ev _ (fun k => (((base k).trans (if_neg hg)).trans (if_neg h42)).trans (if_pos hm)) (all_j2 raw lab hl1 hl2 i hi ls h _ _ _ _ _ _ _ ⟨⟨⟨by show 0 ≤ op; omega, hop.2, fits_ins op A B C hop.1 hop.2 hg' h42 hm⟩, Nat.zero_le _, fun y hy => ?_⟩, (show (Lit.int .i64 0).wf = true by decide), fun y hy => by cases hy⟩ (by omega) ih)
        unfold targets toLine at hy
        rw [if_neg hg] at hy
        cases hy
      · refine ev _ (fun k => (((base k).trans (if_neg hg)).trans (if_neg h42)).trans (if_neg hm)) (all_j2 raw lab hl1 hl2 i hi ls h _ _ _ _ _ _ _ ⟨⟨⟨(show (0 : Int) ≤ 44 by decide), (show (44 : Int) ≤ 48 by decide), fits_ins 44 0 0 0 (by decide) (by decide) (by decide) (by decide) (by decide)⟩, Nat.zero_le _, fun y hy => ?_⟩, (show (Lit.int .i64 0).wf = true by decide), fun y hy => by cases hy⟩ (by decide) ih)
        unfold targets toLine at hy
        rw [if_neg (by decide)] at hy
        cases hy

theorem all_l0 (hraw : ∀ x ∈ raw, -9223372036854775808 ≤ x ∧ x ≤ 9223372036854775807) : ∀ (d i : Nat) (ls : List S40), min raw.length 2000 - i = d → i ≤ min raw.length 2000 → Inv lab ls (min i lab) i → Ev (fun k => switchbacklaw17_RelaxAll.l0 k raw lab ls (i : Int)) true := by
  intro d
  induction d with
  | zero =>
    intro i ls hd hi h
    obtain rfl : i = min raw.length 2000 := by omega
    have hj : Ev (fun k => switchbacklaw17_RelaxAll.j1 k raw lab ls ((min raw.length 2000 : Nat) : Int) false) true := by
      refine Ev.step (f := fun k => switchbacklaw17_RelaxAll.l1 k raw lab ls (raw.length : Int)) (fun k => by simp only [switchbacklaw17_RelaxAll.j1]; rw [if_neg (by decide)]) (all_l1 raw lab hl1 hl2 _ raw.length ls rfl ?_)
      rw [show min (min raw.length 2000) lab = min raw.length lab by omega] at h
      exact h
    refine Ev.step (fun k => ?_) hj
    simp only [switchbacklaw17_RelaxAll.l0]
    by_cases hc : ((min raw.length 2000 : Nat) : Int) < (raw.length : Int)
    · rw [if_pos hc, decide_eq_false (show ¬ ((min raw.length 2000 : Nat) : Int) < 2000 by omega)]
    · rw [if_neg hc]
  | succ d ih =>
    intro i ls hd hi h
    refine Ev.step (f := fun k => switchbacklaw17_RelaxAll.j1 k raw lab ls (i : Int) true) (fun k => ?_) (all_j1 raw lab hl1 hl2 hraw i (by omega) ls h fun ls' h' => ih (i + 1) ls' (by omega) (by omega) h')
    simp only [switchbacklaw17_RelaxAll.l0]
    rw [if_pos (by omega), decide_eq_true (show (i : Int) < 2000 by omega)]
end

theorem all_f (raw : List Int) (a : Int) (hraw : ∀ x ∈ raw, -9223372036854775808 ≤ x ∧ x ≤ 9223372036854775807) (ha : -9223372036854775808 ≤ a ∧ a ≤ 9223372036854775807) : Ev (fun k => switchbacklaw17_RelaxAll.f k raw a) true := by
  obtain ⟨t, ht, t0, t1⟩ := pick_f (a := a) (n := 50) ha.1 ha.2 (by decide)
  unfold switchbacklaw17_RelaxAll.f
  rw [ht]
  simp only [Option.bind_some]
  rw [wrap_i64 (x := 1 + t) (by omega) (by omega), show 1 + t = ((1 + t).toNat : Int) by omega]
  exact all_l0 raw (1 + t).toNat (by omega) (by omega) hraw _ 0 [] rfl (Nat.zero_le _) ⟨fun x hx => (by cases hx), by simp [labs], rfl, by simp⟩

theorem all_row {A0 : Option Addr} {c0 : Nat} (l0 : List Int) (a : Int) (w : World) (hL : Laid w) (h0 : Kd.C (Kd.int .i64) w A0 l0.length l0) (w0 : ∀ y ∈ l0, (Lit.int .i64 y).wf = true) (k0 : l0.length ≤ c0) (wa : (Lit.int .i64 a).wf = true) :
    Calls Tryd.prog 5 #[.slice A0 l0.length c0, .int .i64 a] w fun e w' => e = .returned (.bool true) ∧ Below w.heap.size w w' := by
  obtain ⟨k, h⟩ := (all_f l0 a (fun x hx => wf64 (w0 x hx)) (wf64 wa)).rounds
  exact switchbacklaw17_RelaxAll.calls k A0 c0 l0 a true w h0 k0 ⟨hL⟩ h

end Go.Proofs.YtamimnaafiphcaaDoor.PR1A

namespace Go.Proofs.YtamimnaafiphcaaDoor.relaxAll
open Go.ChangeShapes Go.WideShapes Go.ChangeAt Go.RowKit Go.Joins
open Go.ChangeMaps (open_string)
theorem own : ownKnob Tryd.prog.godebug = none := by kernel_rfl
theorem laidOut : laidOutB Tryd.prog = true := by kernel_rfl
theorem gTab : Tryd.prog.globalNamed "switchback/enc.forms" = some 0 := by kernel_rfl
theorem gTabType : (Tryd.prog.globals[0]?).map (·.type) = some 133 := by kernel_rfl
theorem cellsTab : Tryd.prog.cellsOf 133 = 49 := by kernel_rfl
theorem cellsByte : Tryd.prog.cellsOf 5 = 1 := by kernel_rfl
theorem table {W : World} (h : laidMetH Tryd.prog Rows.relaxAllRow.laid W) : Lib.TabIs Tryd.prog W "switchback/enc.forms" .u8 tbl :=
  Lib.tabIs_of_head (rest := []) gTab gTabType Tryd.underlying133 Tryd.underlying5 cellsByte cellsTab h
theorem laid_of {W : World} (h : laidMetH Tryd.prog Rows.relaxAllRow.laid W) : Laid W := by
  have hc : ∀ i, i < 49 → W.cell? ⟨0, i, none⟩ = some (.int .u8 (tbl.getD i 9)) := fun i hi => by
    rw [(table h).cell gTab i hi]
    have : ∀ i, i < 49 → tbl.getD i 0 = tbl.getD i 9 := by decide
    rw [this i hi]
  exact ⟨lt_of_cell (hc 0 (by decide)), hc⟩
set_option maxRecDepth 100000 in
theorem contract (H : Type) (enc : TypeId × Value → H) (W : World) (base : Nat) (args : Array Value) (ds gs : List (DataW H)) (before : List MemPlace)
    (hval : ∀ (j : Nat) t v, Tryd.f5.params[j]? = some t → args[j]? = some v → Value.okWide Tryd.prog W .any base t v)
    (hW : DataW.Whole enc Tryd.prog Tryd.f5.params.toList Rows.relaxAllSpec.vars false W args.toList ds gs before) (hL : laidMetH Tryd.prog Rows.relaxAllRow.laid W) :
    Calls Tryd.prog 5 args W fun e W' => ∃ v, e = .returned v ∧ Rows.relaxAllSpec.post enc Tryd.prog Tryd.f5 false true false false W args v W' := by
  have hW' := hW
  obtain ⟨p, q, hA0, hV, rfl, hfz, hnd⟩ := hW
  have hA : DataW.TrodAll enc Tryd.prog W 0 (fun _ => true) true Tryd.f5.params.toList args.toList ds p := hA0
  rw [Tryd.params5] at hA hval
  obtain ⟨v0, vs0, d0, ds0, p0, q0, hargs, rfl, rfl, h0, r0⟩ := trodAll_cons hA
  obtain ⟨v1, vs1, d1, ds1, p1, q1, rfl, rfl, rfl, h1, r1⟩ := trodAll_cons r0
  obtain ⟨rfl, rfl, rfl⟩ := trodAll_nil r1
  obtain rfl : args = #[v0, v1] := by cases args; simp_all
  obtain ⟨rfl, rfl⟩ := trodVars_none hV
  clear hA0
  have k0 := h0
  have lt0 : ∀ x ∈ p0, x.block < W.heap.size := by obtain ⟨m, hm⟩ := k0; exact DataW.trod_lt m _ _ _ hm
  obtain ⟨A0, n0, c0, rfl⟩ := okWide_slice Tryd.underlying25 (hval 0 25 v0 rfl rfl)
  obtain ⟨fu0, hfu0⟩ := h0
  obtain ⟨ls0, A'0, c'0, e0, hl0, hw0, hc0⟩ := open_ints hfu0
  replace e0 : [Value.slice A0 n0 c0] = [Value.slice A'0 ls0.length c'0] := e0
  injection e0 with e0 _
  injection e0 with ea0 eb0 ec0
  subst ea0; subst eb0; subst ec0
  have k1 := h1
  have lt1 : ∀ x ∈ p1, x.block < W.heap.size := by obtain ⟨m, hm⟩ := k1; exact DataW.trod_lt m _ _ _ hm
  obtain ⟨a1, rfl, rfl, rfl, w1⟩ := open_int Tryd.underlying3 (hval 1 3 v1 rfl rfl) h1
  refine (PR1A.all_row ls0 a1 W (laid_of hL) hl0 hw0 hc0 w1).mono fun e W' ⟨he, bel⟩ => ?_
  subst he
  exact ⟨_, rfl, _, _, _, [], _, [], hW', trodAll_mk1 (shut_bool Tryd.underlying4 _), (trodAll_cons_mk (Below.trod laidOut (by kernel_rfl) (of_decide_eq_true (by kernel_rfl)) k0 bel lt0) (trodAll_cons_mk (Below.trod laidOut (by kernel_rfl) (of_decide_eq_true (by kernel_rfl)) k1 bel lt1) trodAll_mk0)), rfl, bel.frame _, fun h => by cases h⟩
noncomputable def laidWorld (os : Os) : World :=
  { World.holding Tryd.prog os ⟨#[], #[], []⟩ with heap := (World.holding Tryd.prog os ⟨#[], #[], []⟩).heap.modify 0 fun
      | .cells _ t frozen => .cells #[.int .u8 9, .int .u8 1, .int .u8 2, .int .u8 3, .int .u8 4, .int .u8 5, .int .u8 5, .int .u8 5, .int .u8 5, .int .u8 5, .int .u8 5, .int .u8 5, .int .u8 5, .int .u8 5, .int .u8 5, .int .u8 5, .int .u8 5, .int .u8 5, .int .u8 5, .int .u8 5, .int .u8 5, .int .u8 5, .int .u8 5, .int .u8 5, .int .u8 3, .int .u8 3, .int .u8 3, .int .u8 4, .int .u8 4, .int .u8 3, .int .u8 6, .int .u8 6, .int .u8 6, .int .u8 6, .int .u8 6, .int .u8 6, .int .u8 6, .int .u8 6, .int .u8 6, .int .u8 6, .int .u8 7, .int .u8 0, .int .u8 2, .int .u8 0, .int .u8 0, .int .u8 2, .int .u8 2, .int .u8 2, .int .u8 8] t frozen
      | o => o }
theorem laid_met (os : Os) : laidMet Tryd.prog Rows.relaxAllRow.laid ((laidWorld os).forCall (fun _ _ => 0) ⟨#[], #[.slice none 0 0, .int .i64 0], []⟩).memory :=
  laidMet_of_run' 8 (by kernel_rfl) (by kernel_rfl)
theorem reads (os : Os) {H : Type} (enc : TypeId × Value → H) : ∃ places, DataW.whole enc Tryd.prog ((laidWorld os).forCall (fun _ _ => 0) ⟨#[], #[.slice none 0 0, .int .i64 0], []⟩).memory Tryd.f5.params.toList Rows.relaxAllSpec.vars false (#[.slice none 0 0, .int .i64 0] : Array Value).toList 8 = some ([.nil, .lit (.int .i64 0)], [], places) :=
  ⟨[], by kernel_rfl⟩
set_option maxRecDepth 100000 in
theorem lifted (os : Os) (started : os.Started) (H : Type) (enc : TypeId × Value → H) (F : Stop.Interp) :
    ReturnsInHanded {} Tryd.checked os 5 .any ((OpenSpec.ofChange Rows.relaxAllSpec).preRow enc Tryd.prog Tryd.f5 Rows.relaxAllRow.domain false Rows.relaxAllRow.laid) (((OpenSpec.ofChange Rows.relaxAllSpec).at F).post enc Tryd.prog Tryd.f5 false true false false) := by
  obtain ⟨places, hx⟩ := reads os enc
  refine returnsInHanded_of_row (C := Tryd.checked) (s := OpenSpec.ofChange Rows.relaxAllSpec) own started (by kernel_rfl) Tryd.func5
    (witness_row_at (enc := enc) (C := Tryd.checked) false (laidWorld os) #[.slice none 0 0, .int .i64 0] rfl (by kernel_rfl) (by kernel_rfl) (by kernel_rfl)
      (OpenSpec.preRow_of_cond 8 hx (by kernel_rfl) (fun k hk => by cases hk) (by kernel_rfl) (laid_met os))) ?_
  intro W base args ds gs before hval hW _ _ _ hL _ _
  exact contract H enc W base args ds gs before hval hW hL
theorem said : Rows.RelaxAllSaid :=
  OpenClaim.holds_of_cond 5 Tryd.f5 rfl rfl rfl rfl rfl rfl rfl ⟨rfl, rfl, rfl, rfl, rfl⟩ rfl rfl rfl rfl rfl (by kernel_rfl) Tryd.func5 (by kernel_rfl)
    (of_decide_eq_true (by kernel_rfl)) (by unfold Func.isWrapper; first | (rw [if_pos (by decide +kernel)]; kernel_rfl) | (rw [if_neg (by decide +kernel)]; exact ⟨rfl, rfl⟩))
    (fun os started H enc _ F => by rw [OpenClaim.pre_eq_preRow]; exact lifted os started H enc F)
theorem plain (f : FuncId) (fn : Func) (hf : Tryd.pinned.checked.prog.funcNamed "switchback/switchbacklaw17.RelaxAll" = some f) (hfn : Tryd.pinned.checked.prog.funcs[f]? = some fn) :
    true = Tryd.pinned.checked.prog.looks [] ∧ ∀ (j : Nat) t, fn.params[j]? = some t → Tryd.pinned.checked.prog.wantsStandIn t = false := by
  obtain rfl : f = 5 := Option.some.inj ((show Tryd.prog.funcNamed "switchback/switchbacklaw17.RelaxAll" = some 5 by kernel_rfl).symm.trans hf) |>.symm
  obtain rfl : fn = Tryd.f5 := (Option.some.inj (Tryd.func5.symm.trans hfn)).symm
  refine ⟨by kernel_rfl, fun j t ht => ?_⟩
  rw [Tryd.params5] at ht
  have h : t ∈ [25, 3] := by simpa using Array.mem_of_getElem? ht
  have s0 : Tryd.prog.wantsStandIn 25 = false := by kernel_rfl
  have s1 : Tryd.prog.wantsStandIn 3 = false := by kernel_rfl
  simp only [List.mem_cons, List.not_mem_nil, or_false] at h
  rcases h with rfl | rfl
  · exact s0
  · exact s1
/-- The card. -/
theorem card : Rows.RelaxAllCardSaid :=
  Claim7.holds_tied_plain_at .later [] _ _ _ _ said (fun _ h => by cases h) (by kernel_rfl) (fun _ h => by cases h) relaxAll_row_tie rfl ⟨rfl, rfl⟩ (by kernel_rfl) rfl plain (by kernel_rfl)
#print axioms card
end Go.Proofs.YtamimnaafiphcaaDoor.relaxAll
