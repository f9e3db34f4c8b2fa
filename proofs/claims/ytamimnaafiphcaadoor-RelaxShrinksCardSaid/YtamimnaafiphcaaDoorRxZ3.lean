/- Texts joined: RxP RxQ RxL RxS RxT RxU RxV RxW. -/
import Derived.Test.YtamimnaafiphcaaDoorRxZ2
import Derived.ScopeJumps
import Derived.Laws.MakeOwn
import Derived.Test.YtamimnaafiphcaaDoorEncP
namespace Go.Proofs.YtamimnaafiphcaaDoor
open Go.RowKit

def isLab (ls : List Line) (x : Int) : Prop := ∃ l ∈ ls, l.op = 0 ∧ l.label = x

/-- The labels' places under a choice. -/
def fl (ls : List Line) (long : List Bool) : Int → Option Int := mp ls long (fun _ => none) ls.length

def at_ (ls : List Line) (long : List Bool) (x : Int) : Int := toW (fl ls long) x

def need (ls : List Line) (long : List Bool) (i : Nat) : Bool :=
  brOp (ls.getD i default).op && !near (at_ ls long (ls.getD i default).label - pl ls long i - 1)

/-- A round, as far as line k. -/
def stK (ls : List Line) (long : List Bool) (k : Nat) : List Bool := long.mapIdx fun i b => b || (decide (i < k) && need ls long i)
def grK (ls : List Line) (long : List Bool) (k : Nat) : Bool := (List.range k).any fun i => !long.getD i false && need ls long i
def step (ls : List Line) (long : List Bool) : List Bool := long.mapIdx fun i b => b || need ls long i

theorem mp_or (ls : List Line) (long : List Bool) (f : Int → Option Int) (k : Nat) (x : Int) : mp ls long f k x = (mp ls long (fun _ => none) k x).or (f x) := by
  induction k with
  | zero => rfl
  | succ k ih =>
    simp only [mp]
    by_cases h : (ls.getD k default).op = 0
    · rw [if_pos h, if_pos h]
      by_cases h2 : x = (ls.getD k default).label
      · simp [h2]
      · simp only [h2, if_false]
        exact ih
    · rw [if_neg h, if_neg h]
      exact ih

theorem mp_lab (ls : List Line) (long : List Bool) (k : Nat) (x : Int) : (mp ls long (fun _ => none) k x).isSome = true ↔ ∃ j, j < k ∧ (ls.getD j default).op = 0 ∧ (ls.getD j default).label = x := by
  induction k with
  | zero => simp [mp]
  | succ k ih =>
    simp only [mp]
    by_cases h : (ls.getD k default).op = 0
    · rw [if_pos h]
      by_cases h2 : x = (ls.getD k default).label
      · simp only [h2, if_true]
        exact ⟨fun _ => ⟨k, Nat.lt_succ_self _, h, rfl⟩, fun _ => rfl⟩
      · simp only [h2, if_false]
        rw [ih]
        constructor
        · rintro ⟨j, hj, a, b⟩
          exact ⟨j, by omega, a, b⟩
        · rintro ⟨j, hj, a, b⟩
          refine ⟨j, ?_, a, b⟩
          rcases Nat.lt_or_ge j k with h' | h'
          · exact h'
          · exact absurd (by rw [show j = k by omega] at b; exact b.symm) h2
    · rw [if_neg h, ih]
      constructor
      · rintro ⟨j, hj, a, b⟩
        exact ⟨j, by omega, a, b⟩
      · rintro ⟨j, hj, a, b⟩
        refine ⟨j, ?_, a, b⟩
        rcases Nat.lt_or_ge j k with h' | h'
        · exact h'
        · exact absurd (by rw [show j = k by omega] at a; exact a) h

theorem fl_lab (ls : List Line) (long : List Bool) (x : Int) : (fl ls long x).isSome = true ↔ isLab ls x := by
  unfold fl
  rw [mp_lab]
  constructor
  · rintro ⟨j, hj, a, b⟩
    refine ⟨ls.getD j default, ?_, a, b⟩
    rw [List.getD_eq_getElem?_getD, List.getElem?_eq_getElem hj]
    exact List.getElem_mem hj
  · rintro ⟨l, hl, a, b⟩
    obtain ⟨j, hj, e⟩ := List.getElem_of_mem hl
    have e2 : ls.getD j default = l := by rw [List.getD_eq_getElem?_getD, List.getElem?_eq_getElem hj]; exact e
    exact ⟨j, hj, by rw [e2]; exact a, by rw [e2]; exact b⟩

theorem mp_fl (ls : List Line) (long : List Bool) (f : Int → Option Int) (hf : ∀ x, (f x).isSome = true → isLab ls x) : mp ls long f ls.length = fl ls long := by
  funext x
  rw [mp_or]
  show (fl ls long x).or (f x) = fl ls long x
  cases h : fl ls long x with
  | some v => rfl
  | none =>
    cases h2 : f x with
    | none => rfl
    | some v =>
      have := (fl_lab ls long x).2 (hf x (by rw [h2]; rfl))
      rw [h] at this
      cases this

theorem mp_range (ls : List Line) (long : List Bool) (h : Sized ls) (k : Nat) (x v : Int) (hv : mp ls long (fun _ => none) k x = some v) : 0 ≤ v ∧ v ≤ 402 * k := by
  induction k with
  | zero => cases hv
  | succ k ih =>
    simp only [mp] at hv
    have hp := pl_range ls long h k
    by_cases h1 : (ls.getD k default).op = 0
    · rw [if_pos h1] at hv
      by_cases h2 : x = (ls.getD k default).label
      · simp only [h2, if_true] at hv
        cases hv
        omega
      · simp only [h2, if_false] at hv
        have := ih hv
        omega
    · rw [if_neg h1] at hv
      have := ih hv
      omega

theorem at_range (ls : List Line) (long : List Bool) (h : Sized ls) (x : Int) : 0 ≤ at_ ls long x ∧ at_ ls long x ≤ 100000000 := by
  unfold at_ toW
  cases hv : fl ls long x with
  | none => exact ⟨Int.le_refl _, by decide⟩
  | some v =>
    have := mp_range ls long h ls.length x v hv
    have := h.small
    show 0 ≤ v ∧ v ≤ 100000000
    omega

theorem step_len (ls : List Line) (long : List Bool) : (step ls long).length = long.length := by simp [step]
theorem stK_len (ls : List Line) (long : List Bool) (k : Nat) : (stK ls long k).length = long.length := by simp [stK]

theorem stK_zero (ls : List Line) (long : List Bool) : stK ls long 0 = long := by
  apply List.ext_getElem
  · simp [stK]
  · intro i h1 h2
    simp [stK]

theorem stK_all (ls : List Line) (long : List Bool) (n : Nat) (h : long.length = n) : stK ls long n = step ls long := by
  apply List.ext_getElem
  · simp [stK, step]
  · intro i h1 h2
    have : i < n := by rw [stK_len] at h1; omega
    simp [stK, step, this]

theorem stK_get (ls : List Line) (long : List Bool) (k : Nat) (hk : k < long.length) : (stK ls long k).getD k false = long.getD k false := by
  simp [stK, List.getD, hk]

theorem stK_yes (ls : List Line) (long : List Bool) (k : Nat) (_hk : k < long.length) (h : need ls long k = true) : (stK ls long k).set k true = stK ls long (k + 1) := by
  apply List.ext_getElem
  · simp [stK]
  · intro i h1 h2
    rw [List.getElem_set]
    by_cases e : k = i
    · subst e
      simp [stK, h]
    · rw [if_neg e]
      have : (i < k + 1) ↔ (i < k) := by omega
      simp [stK, this]

theorem stK_no (ls : List Line) (long : List Bool) (k : Nat) (hk : k < long.length) (h : (long.getD k false || need ls long k) = long.getD k false) : stK ls long k = stK ls long (k + 1) := by
  apply List.ext_getElem
  · simp [stK]
  · intro i h1 h2
    by_cases e : k = i
    · subst e
      simp only [stK, List.getElem_mapIdx]
      have hx : long.getD k false = long[k] := by simp [List.getD, hk]
      rw [hx] at h
      simp [h]
    · have : (i < k + 1) ↔ (i < k) := by omega
      simp [stK, this]

theorem grK_succ (ls : List Line) (long : List Bool) (k : Nat) : grK ls long (k + 1) = (grK ls long k || (!long.getD k false && need ls long k)) := by
  unfold grK
  rw [List.range_succ, List.any_append]
  simp

theorem grK_step (ls : List Line) (long : List Bool) (n : Nat) (h : long.length = n) : grK ls long n = false ↔ step ls long = long := by
  unfold grK
  rw [List.any_eq_false]
  constructor
  · intro hx
    apply List.ext_getElem (step_len ls long)
    intro i h1 h2
    have := hx i (List.mem_range.2 (by omega))
    have hx2 : long.getD i false = long[i] := by simp [List.getD, h2]
    rw [hx2] at this
    simp only [step, List.getElem_mapIdx]
    cases h3 : long[i] <;> simp_all
  · intro hx i hi
    have hi' := List.mem_range.1 hi
    have hx2 : long.getD i false = long[i] := by simp [List.getD, show i < long.length by omega]
    have hx3 : (step ls long)[i]'(by rw [step_len]; omega) = long[i] := by simp [hx]
    simp only [step, List.getElem_mapIdx] at hx3
    rw [hx2]
    cases h3 : long[i] <;> simp_all

theorem cnt_lt (a b : List Bool) (hl : a.length = b.length) (h : ∀ i (h1 : i < a.length) (h2 : i < b.length), a[i] = true → b[i] = true) (hne : b ≠ a) : b.count false < a.count false := by
  induction a generalizing b with
  | nil =>
    cases b with
    | nil => exact absurd rfl hne
    | cons => cases hl
  | cons x a ih =>
    cases b with
    | nil => cases hl
    | cons y b =>
      have hl' : a.length = b.length := by simpa using hl
      have h0 := h 0 (by simp) (by simp)
      have hs : ∀ i (h1 : i < a.length) (h2 : i < b.length), a[i] = true → b[i] = true := fun i h1 h2 hh => by
        have := h (i + 1) (by simpa using h1) (by simpa using h2)
        simpa using this (by simpa using hh)
      have hle : b.count false ≤ a.count false := by
        by_cases e : b = a
        · rw [e]; exact Nat.le_refl _
        · exact Nat.le_of_lt (ih b hl' hs e)
      cases x <;> cases y
      · have := ih b hl' hs (fun e => hne (by rw [e]))
        simp; omega
      · simp; omega
      · simp at h0
      · have := ih b hl' hs (fun e => hne (by rw [e]))
        simp; omega

theorem step_lt (ls : List Line) (long : List Bool) (h : step ls long ≠ long) : (step ls long).count false < long.count false :=
  cnt_lt long (step ls long) (step_len ls long).symm (fun i h1 h2 hh => by simp [step, hh]) h

/-- All rounds: what is long in the end, and how many there were. -/
def rounds (ls : List Line) (long : List Bool) (r : Nat) : List Bool × Nat :=
  if h : step ls long = long then (long, r + 1) else rounds ls (step ls long) (r + 1)
termination_by long.count false
decreasing_by exact step_lt ls long h

end Go.Proofs.YtamimnaafiphcaaDoor

namespace Go.Proofs.YtamimnaafiphcaaDoor
open Go.RowKit

theorem fits_list (l : Line) (h : fitsB l = true) : l.list.length ≤ 400 := by
  unfold fitsB at h
  by_cases h0 : l.op = 0
  · simp [h0] at h
    simp_all
  · simp [h0, x8] at h
    simp_all

theorem ref1_ok (ls : List Line) (seen s : List Int) (i : Nat) (h : ref1 seen i ls = .inr s) :
    (∀ l ∈ ls, 0 ≤ l.op ∧ l.op ≤ 48 ∧ fitsB l = true) ∧ ∀ x, x ∈ s ↔ x ∈ seen ∨ isLab ls x := by
  induction ls generalizing seen i with
  | nil =>
    simp only [ref1, Sum.inr.injEq] at h
    subst h
    exact ⟨by simp, fun x => by simp [isLab]⟩
  | cons l r ih =>
    simp only [ref1] at h
    by_cases h1 : l.op < 0 ∨ 48 < l.op
    · rw [if_pos h1] at h; cases h
    rw [if_neg h1] at h
    by_cases h2 : fitsB l = false
    · rw [if_pos h2] at h; cases h
    rw [if_neg h2] at h
    have hl : 0 ≤ l.op ∧ l.op ≤ 48 ∧ fitsB l = true := ⟨by omega, by omega, by simpa using h2⟩
    by_cases h3 : l.op = 0
    · rw [if_pos h3] at h
      by_cases h4 : l.label ∈ seen
      · rw [if_pos h4] at h; cases h
      rw [if_neg h4] at h
      obtain ⟨a, b⟩ := ih _ _ h
      refine ⟨fun m hm => ?_, fun x => ?_⟩
      · rcases List.mem_cons.1 hm with rfl | hm
        · exact hl
        · exact a m hm
      · rw [b x]
        constructor
        · rintro (hx | ⟨m, hm, e1, e2⟩)
          · rcases List.mem_cons.1 hx with rfl | hx
            · exact .inr ⟨l, List.mem_cons_self .., h3, rfl⟩
            · exact .inl hx
          · exact .inr ⟨m, List.mem_cons_of_mem _ hm, e1, e2⟩
        · rintro (hx | ⟨m, hm, e1, e2⟩)
          · exact .inl (List.mem_cons_of_mem _ hx)
          · rcases List.mem_cons.1 hm with rfl | hm
            · exact .inl (by rw [← e2]; exact List.mem_cons_self ..)
            · exact .inr ⟨m, hm, e1, e2⟩
    · rw [if_neg h3] at h
      obtain ⟨a, b⟩ := ih _ _ h
      refine ⟨fun m hm => ?_, fun x => ?_⟩
      · rcases List.mem_cons.1 hm with rfl | hm
        · exact hl
        · exact a m hm
      · rw [b x]
        constructor
        · rintro (hx | ⟨m, hm, e1, e2⟩)
          · exact .inl hx
          · exact .inr ⟨m, List.mem_cons_of_mem _ hm, e1, e2⟩
        · rintro (hx | ⟨m, hm, e1, e2⟩)
          · exact .inl hx
          · rcases List.mem_cons.1 hm with rfl | hm
            · exact absurd e1 h3
            · exact .inr ⟨m, hm, e1, e2⟩

structure Asm where
  words : List Int
  kinds : List Int
  places : List Int
  rounds : Nat
  line : Nat
  err : Int

def fin (ls : List Line) : List Bool × Nat := rounds ls (List.replicate ls.length false) 0

def wordsOf (ls : List Line) (long : List Bool) (k : Nat) : List Int := (List.range k).flatMap fun i => lineW (fl ls long) (long.getD i false) (pl ls long i) (ls.getD i default)
def kindsOf (ls : List Line) (long : List Bool) (k : Nat) : List Int := (List.range k).flatMap fun i => lineK (long.getD i false) (ls.getD i default)

/-- Assemble's answer. -/
def asm (ls : List Line) : Asm :=
  if (refusedP ls).2 ≠ 0 then ⟨[], [], [], 0, (refusedP ls).1, (refusedP ls).2⟩ else
  if 65536 < pl ls (fin ls).1 ls.length then ⟨[], [], [], 0, 0, 174⟩ else
  ⟨wordsOf ls (fin ls).1 ls.length, kindsOf ls (fin ls).1 ls.length, (List.range ls.length).map (pl ls (fin ls).1), (fin ls).2, 0, 0⟩

theorem wordsOf_succ (ls : List Line) (long : List Bool) (k : Nat) : wordsOf ls long (k + 1) = wordsOf ls long k ++ lineW (fl ls long) (long.getD k false) (pl ls long k) (ls.getD k default) := by
  unfold wordsOf
  rw [List.range_succ, List.flatMap_append]
  simp
theorem kindsOf_succ (ls : List Line) (long : List Bool) (k : Nat) : kindsOf ls long (k + 1) = kindsOf ls long k ++ lineK (long.getD k false) (ls.getD k default) := by
  unfold kindsOf
  rw [List.range_succ, List.flatMap_append]
  simp

theorem lineW_len (f : Int → Option Int) (lg : Bool) (p : Int) (l : Line) (h : l.list.length ≤ 400) : (lineW f lg p l).length ≤ 402 := by
  unfold lineW
  repeat' split
  all_goals (simp; try omega)
theorem lineK_len (lg : Bool) (l : Line) (h : l.list.length ≤ 400) : (lineK lg l).length ≤ 402 := by
  unfold lineK
  repeat' split
  all_goals (simp; try omega)

theorem getD_list (ls : List Line) (h : Sized ls) (k : Nat) : (ls.getD k default).list.length ≤ 400 := by
  by_cases hk : k < ls.length
  · rw [List.getD_eq_getElem?_getD, List.getElem?_eq_getElem hk]
    exact h.lists _ (List.getElem_mem hk)
  · rw [List.getD_eq_getElem?_getD, List.getElem?_eq_none (by omega)]
    exact Nat.zero_le _

theorem wordsOf_len (ls : List Line) (long : List Bool) (h : Sized ls) (k : Nat) : (wordsOf ls long k).length ≤ 402 * k := by
  induction k with
  | zero => simp [wordsOf]
  | succ k ih =>
    rw [wordsOf_succ, List.length_append]
    have := lineW_len (fl ls long) (long.getD k false) (pl ls long k) _ (getD_list ls h k)
    omega
theorem kindsOf_len (ls : List Line) (long : List Bool) (h : Sized ls) (k : Nat) : (kindsOf ls long k).length ≤ 402 * k := by
  induction k with
  | zero => simp [kindsOf]
  | succ k ih =>
    rw [kindsOf_succ, List.length_append]
    have := lineK_len (long.getD k false) _ (getD_list ls h k)
    omega

end Go.Proofs.YtamimnaafiphcaaDoor

namespace Go.Proofs.YtamimnaafiphcaaDoor
open Go.RowKit Go.Proofs.YtamimnaafiphcaaDoorW.PrintWords Go.Maps Go.Joins

structure AsmAt (B : Nat) (w : World) (a : Asm) (wv kv pv : Value) : Prop where
  ow : w.ownsRow B 38 1 wv a.words.length (a.words.map (Value.int .u32))
  ok : w.ownsRow B 3 1 kv a.kinds.length (a.kinds.map (Value.int .i64))
  op : w.ownsRow B 3 1 pv a.places.length (a.places.map (Value.int .i64))
  ne : ∀ k, kv.ownBlock = some k → pv.ownBlock ≠ some k

/-- What stands at each round's start. -/
structure JI (ls : List Line) (w w' : World) (A : Option Addr) (c g mb lb pb h : Nat) (long : List Bool) (places : List Int) (words : Int) (f : Int → Option Int) (r : Nat) : Prop where
  li : LI w w' w' g mb lb pb A ls.length c long places words f
  out : OI w' (h + 1) h [] [] (.slice none 0 0) r (.slice none 0 0) (.slice none 0 0)
  res : w'.heap[w.heap.size]? = some (.cells #[.slice none 0 0, .slice none 0 0, .slice none 0 0, .int .i64 0] 27 (0, 0))
  lab : ∀ x, (f x).isSome = true ↔ isLab ls x
  same : rounds ls long r = fin ls
  sz : Sized ls
  ok : (refusedP ls).2 = 0
  few : r + long.count false ≤ ls.length
  ge : g < h
  le : lb < h
  pe : pb < h
  me : mb < h
  re : w.heap.size < h
  gr : g ≠ w.heap.size
  lr : lb ≠ w.heap.size
  pr : pb ≠ w.heap.size
  mr : mb ≠ w.heap.size

theorem refused_ok (ls : List Line) (h : (refusedP ls).2 = 0) : ls.length ≤ 60000 := by
  apply Classical.byContradiction
  intro hn
  unfold refusedP at h
  rw [if_pos (by omega)] at h
  cases h

theorem made_bools (n : Nat) : madeCells #[Value.bool false] n = ((List.replicate n false).map Value.bool).toArray := by
  apply Array.toList_inj.1
  rw [toList_madeCells_one]
  simp
theorem made_ints (n : Nat) : madeCells #[Value.int .i64 0] n = ((List.replicate n (0 : Int)).map (Value.int .i64)).toArray := by
  apply Array.toList_inj.1
  rw [toList_madeCells_one]
  simp

theorem two_new (X : World) (a b : Array Value) (ta tb : TypeId) : ((X.alloc (.cells a ta)).alloc (.cells b tb)).drew.heap[X.heap.size]? = some (.cells a ta (0, 0)) ∧ ((X.alloc (.cells a ta)).alloc (.cells b tb)).drew.heap[X.heap.size + 1]? = some (.cells b tb (0, 0)) ∧ Below X.heap.size X ((X.alloc (.cells a ta)).alloc (.cells b tb)).drew := by
  have h1 : (X.alloc (.cells a ta)).heap[X.heap.size]? = some (.cells a ta (0, 0)) := heap_alloc_new X _
  have h2 : ((X.alloc (.cells a ta)).alloc (.cells b tb)).heap[X.heap.size + 1]? = some (.cells b tb (0, 0)) := by
    have := heap_alloc_new (X.alloc (.cells a ta)) (.cells b tb)
    rwa [World.size_alloc] at this
  refine ⟨?_, h2, bj ((Below.refl _ _).alloc (Nat.le_refl _) _) (((Below.refl _ _).alloc (Nat.le_refl _) _).drew)⟩
  exact below_blk (((Below.refl _ _).alloc (Nat.le_refl _) _).drew) h1

theorem IMap.setCell {w : World} {b n : Nat} {f : Int → Option Int} (h : IMap w b n f) (p : Addr) (v : Value) (hne : b ≠ p.block) : IMap (w.setCell p v) b n f := by
  obtain ⟨D, ⟨es, clock, hb, r⟩, hD⟩ := h
  exact ⟨D, ⟨es, clock, (Below.heap_setCell w p _ b hne).trans hb, r⟩, hD⟩

theorem li_start {w w2 W : World} {g mb lb pb n c : Nat} {A : Option Addr} {f : Int → Option Int} {o : Obj}
    (gbz : w2.heap[g]? = some (.cells #[.slice A n c, .map (some mb), .slice none 0 0, .slice none 0 0, .int .i64 0] 79 (0, 0))) (rbz : w2.heap[w.heap.size]? = some o) (hm : IMap w2 mb n f) (hb2 : Below w.heap.size w w2)
    (hgw : w.heap.size < g) (hmw : w.heap.size < mb) (hmg : mb < g) (hg2 : g < w2.heap.size) (hlb : w2.heap.size ≤ lb) (hpb : w2.heap.size ≤ pb) (hne : lb ≠ pb)
    (hl : W.heap[lb]? = some (.cells (madeCells #[.bool false] n) 4 (0, 0))) (hp : W.heap[pb]? = some (.cells (madeCells #[.int .i64 0] n) 3 (0, 0)))
    (hb : Below w2.heap.size ((w2.setCell ⟨g, 2, none⟩ (.slice (some ⟨lb, 0, none⟩) n n)).setCell ⟨g, 3, none⟩ (.slice (some ⟨pb, 0, none⟩) n n)) W) :
    LI w W W g mb lb pb A n c (List.replicate n false) (List.replicate n 0) 0 f ∧ W.heap[w.heap.size]? = some o := by
  have hs : ((w2.setCell ⟨g, 2, none⟩ (.slice (some ⟨lb, 0, none⟩) n n)).setCell ⟨g, 3, none⟩ (.slice (some ⟨pb, 0, none⟩) n n)).heap.size = w2.heap.size := by rw [World.size_setCell, World.size_setCell]
  have hb' : Below ((w2.setCell ⟨g, 2, none⟩ (.slice (some ⟨lb, 0, none⟩) n n)).setCell ⟨g, 3, none⟩ (.slice (some ⟨pb, 0, none⟩) n n)).heap.size ((w2.setCell ⟨g, 2, none⟩ (.slice (some ⟨lb, 0, none⟩) n n)).setCell ⟨g, 3, none⟩ (.slice (some ⟨pb, 0, none⟩) n n)) W := by rw [hs]; exact hb
  refine ⟨⟨below_blk hb' (block_setCell (block_setCell gbz _) _), by rw [← made_bools]; exact hl, by rw [← made_ints]; exact hp, IMap.below (IMap.setCell (IMap.setCell hm _ _ (by simp; omega)) _ _ (by simp; omega)) hb', ?_, by omega, by omega, hne, by omega, by omega, by omega, by omega, by simp, by simp, Nat.le_refl _, fun _ _ _ _ _ _ => rfl⟩, ?_⟩
  · exact ((hb2.setCell (Nat.le_of_lt hgw) _).setCell (Nat.le_of_lt hgw) _).trans (hb'.mono (by rw [hs]; exact hb2.size))
  · refine below_blk hb' ?_
    rw [Below.heap_setCell _ _ _ _ (by simp; omega), Below.heap_setCell _ _ _ _ (by simp; omega)]
    exact rbz

theorem wp_scope_again {P : Program} {a : Act} {w : World} {Q : Exit → Act → World → Prop} {c X : Code} (l : Nat) (J : Act → World → Prop) (μ : Act → World → Nat) (hf : findLabel c l = some (Code.skip.seq X))
    (first : (∀ a w, J a w → X.wp P (Exit.jump l J Q) a w) → c.wp P (Exit.jump l J Q) a w)
    (pass : ∀ a w, J a w → X.wp P (Exit.jump l (fun a' w' => J a' w' ∧ μ a' w' < μ a w) Q) a w) : (Code.scope c).wp P Q a w :=
  wp_scope_jumps l J μ hf (first fun a w h => wp_mono (pass a w h) fun e a' w' he => by
    cases e with
    | goto l' => exact ⟨he.1, he.2.1⟩
    | normal => exact he
    | exit id => exact he
    | ret => exact he
    | panic ch => exact he
    | outgrown => exact he) fun a w h => wp_seq (wp_skip (pass a w h))

namespace LI
theorem only {w0 w9 w w' : World} {g mb lb pb : Nat} {A : Option Addr} {n c : Nat} {long : List Bool} {places : List Int} {words : Int} {f : Int → Option Int} {B h : Nat} (H : LI w0 w9 w g mb lb pb A n c long places words f) (o : Only B h w w')
    (hB : w0.heap.size ≤ B) (hh : w0.heap.size ≤ h) (gB : g < B) (lB : lb < B) (pB : pb < B) (mB : mb < B) (gh : g ≠ h) (lh : lb ≠ h) (ph : pb ≠ h) (mh : mb ≠ h) : LI w0 w' w' g mb lb pb A n c long places words f :=
  { H with
    blkG := (o.block g gB gh).trans H.blkG
    blkL := (o.block lb lB lh).trans H.blkL
    blkP := (o.block pb pB ph).trans H.blkP
    map := by
      obtain ⟨D, ⟨es, clock, hb, r⟩, hD⟩ := H.map
      exact ⟨D, ⟨es, clock, (o.block mb mB mh).trans hb, r⟩, hD⟩
    bel := ⟨o.os.trans H.bel.os, o.tape.trans H.bel.tape, o.output.trans H.bel.output, Nat.le_trans H.bel.size o.size, fun i hi => (o.block i (Nat.lt_of_lt_of_le hi hB) (by omega)).trans (H.bel.block i hi)⟩
    s9 := Nat.le_refl _
    fr := fun _ _ _ _ _ _ => rfl }
end LI

namespace OI
theorem setR {w : World} {B h : Nat} {ws ks : List Int} {pv : Value} {r : Int} {wv kv : Value} (o : OI w B h ws ks pv r wv kv) (r' : Int) : OI (w.setCell ⟨h, 3, none⟩ (.int .i64 r')) B h ws ks pv r' wv kv :=
  { blk := block_setCell o.blk _, ow := own_set o.ow o.hB _ _, ok := own_set o.ok o.hB _ _, hB := o.hB }
theorem setP {w : World} {B h : Nat} {ws ks : List Int} {pv : Value} {r : Int} {wv kv : Value} (o : OI w B h ws ks pv r wv kv) (pv' : Value) : OI (w.setCell ⟨h, 2, none⟩ pv') B h ws ks pv' r wv kv :=
  { blk := block_setCell o.blk _, ow := own_set o.ow o.hB _ _, ok := own_set o.ok o.hB _ _, hB := o.hB }
theorem nil {w w' : World} {B h : Nat} {pv : Value} {r : Int} (o : OI w B h [] [] pv r (.slice none 0 0) (.slice none 0 0)) (hb : w'.heap[h]? = w.heap[h]?) : OI w' B h [] [] pv r (.slice none 0 0) (.slice none 0 0) :=
  { blk := hb.trans o.blk, ow := World.ownsRow_nil _ _ _ _, ok := World.ownsRow_nil _ _ _ _, hB := o.hB }
end OI

theorem arr_ofFn (n : Nat) (a : Array Value) (h : a.size = n) : a = (List.ofFn fun i : Fin n => a.getD i undef).toArray := by
  apply Array.ext
  · simp [h]
  · intro i h1 h2
    simp [Array.getD, h1]

set_option maxRecDepth 100000 in
theorem arr104 (a : Array Value) (h : a.size = 104) : ∃ u : Nat → Value, a = #[u 0, u 1, u 2, u 3, u 4, u 5, u 6, u 7, u 8, u 9, u 10, u 11, u 12, u 13, u 14, u 15, u 16, u 17, u 18, u 19, u 20, u 21, u 22, u 23, u 24, u 25, u 26, u 27, u 28, u 29, u 30, u 31, u 32, u 33, u 34, u 35, u 36, u 37, u 38, u 39, u 40, u 41, u 42, u 43, u 44, u 45, u 46, u 47, u 48, u 49, u 50, u 51, u 52, u 53, u 54, u 55, u 56, u 57, u 58, u 59, u 60, u 61, u 62, u 63, u 64, u 65, u 66, u 67, u 68, u 69, u 70, u 71, u 72, u 73, u 74, u 75, u 76, u 77, u 78, u 79, u 80, u 81, u 82, u 83, u 84, u 85, u 86, u 87, u 88, u 89, u 90, u 91, u 92, u 93, u 94, u 95, u 96, u 97, u 98, u 99, u 100, u 101, u 102, u 103] := by
  refine ⟨fun i => a.getD i undef, ?_⟩
  exact arr_ofFn 104 a h

theorem own_weak {w : World} {b b' e s n : Nat} {v : Value} {xs : List Value} (o : w.ownsRow b e s v n xs) (h : b' ≤ b) : w.ownsRow b' e s v n xs := by
  refine ⟨o.1, ?_⟩
  rcases o.2 with h1 | ⟨g, cap, cur, h1, h2, h3⟩
  · exact .inl h1
  · exact .inr ⟨g, cap, cur, h1, Nat.le_trans h h2, h3⟩

theorem own_block {w : World} {b pb : Nat} {e : TypeId} {k : IntKind} (xs : List Int) (hb : b ≤ pb) (hh : w.heap[pb]? = some (.cells (xs.map (Value.int k)).toArray e (0, 0))) (hl : xs.length ≤ 1000000) :
    w.ownsRow b e 1 (.slice (some ⟨pb, 0, none⟩) xs.length xs.length) xs.length (xs.map (Value.int k)) :=
  ⟨by simp, .inr ⟨pb, xs.length, _, rfl, hb, hh, Nat.le_refl _, by unfold maxLen; omega, by simp, by rw [List.toList_toArray]; exact List.take_of_length_le (by simp)⟩⟩

theorem asm_at {w wr : World} {h pb g mb lb c c' : Nat} {A : Option Addr} {ls : List Line} {long : List Bool} {r : Int} {words : Int} {f : Int → Option Int} {wv kv : Value} {pls ws ks : List Int} {aa : Asm} {u0 u1 u2 u3 : Value}
    (o : OI wr (h + 1) h ws ks (.slice (some ⟨pb, 0, none⟩) ls.length c') r wv kv) (hl : LI w wr wr g mb lb pb A ls.length c long pls words f) (hrh : w.heap.size < h) (hph : pb < h) (hpr : pb ≠ w.heap.size) (hn : ls.length ≤ 60000)
    (e1 : aa.words = ws) (e2 : aa.kinds = ks) (e3 : aa.places = pls) :
    AsmAt w.heap.size ((((wr.setCell ⟨w.heap.size, 0, none⟩ u0).setCell ⟨w.heap.size, 1, none⟩ u1).setCell ⟨w.heap.size, 2, none⟩ u2).setCell ⟨w.heap.size, 3, none⟩ u3) aa wv kv (.slice (some ⟨pb, 0, none⟩) ls.length ls.length) := by
  have hB : w.heap.size < h + 1 := by omega
  subst e1; subst e2; subst e3
  refine ⟨own_weak (OI.own_set (OI.own_set (OI.own_set (OI.own_set o.ow hB _ _) hB _ _) hB _ _) hB _ _) (by omega), own_weak (OI.own_set (OI.own_set (OI.own_set (OI.own_set o.ok hB _ _) hB _ _) hB _ _) hB _ _) (by omega), ?_, fun k hk e => ?_⟩
  · have hnp := hl.np
    rw [← hnp]
    refine own_block aa.places hl.p0 ?_ (by omega)
    rw [Below.heap_setCell _ _ _ _ (by simpa using hpr), Below.heap_setCell _ _ _ _ (by simpa using hpr), Below.heap_setCell _ _ _ _ (by simpa using hpr), Below.heap_setCell _ _ _ _ (by simpa using hpr)]
    exact hl.blkP
  · have hbk : h + 1 ≤ k := own_base o.ok k hk
    have hpk : pb = k := by simpa [Value.ownBlock] using e
    omega

theorem IMap.made (w : World) : IMap (w.alloc (.map #[] 0)) w.heap.size 0 (fun _ => none) := ⟨.map [], World.ownsMap_made w _ _ _, fun _ _ => ⟨rfl, rfl⟩⟩

def cnt (w : World) (b : Nat) : Nat := match w.heap[b]? with | some (.cells cs _ _) => (cs.toList.filter fun v => match v with | .bool x => !x | _ => false).length | _ => 0
def muA (a : Act) (w : World) : Nat := match a.tmps.getD 5 undef with
  | .pointer (some p) => match w.cell? ⟨p.block, 2, none⟩ with | some (.slice (some q) _ _) => cnt w q.block | _ => 0
  | _ => 0

theorem muA_of {a : Act} {w : World} {g lb n c : Nat} (h5 : a.tmps.getD 5 undef = .pointer (some ⟨g, 0, none⟩)) (hc : w.cell? ⟨g, 2, none⟩ = some (.slice (some ⟨lb, 0, none⟩) n c)) : muA a w = cnt w lb := by
  unfold muA
  rw [h5]
  simp only [hc]

theorem cnt_of {w : World} {b : Nat} {long : List Bool} {t : TypeId} {fr : Nat × Nat} (h : w.heap[b]? = some (.cells (long.map Value.bool).toArray t fr)) : cnt w b = long.count false := by
  unfold cnt
  rw [h]
  clear h
  show ((long.map Value.bool).filter _).length = _
  induction long with
  | nil => rfl
  | cons x long ih => cases x <;> simp [ih]

set_option maxRecDepth 100000 in
set_option maxHeartbeats 4000000 in
theorem asm_any (ls : List Line) (v : Value) (w : World) (hL : Laid w) (hl : Lines w v ls) (hwf : ∀ l ∈ ls, (Lit.int .i64 l.label).wf = true ∧ ∀ x ∈ l.list, (Lit.int .i64 x).wf = true) :
    Calls Tryd.prog 19 #[v] w fun e w' => ∃ wv kv pv, e = .returned (.tuple #[.agg #[wv, kv, pv, .int .i64 (asm ls).rounds], .int .i64 (asm ls).line, .int .i64 (asm ls).err]) ∧
      AsmAt w.heap.size w' (asm ls) wv kv pv ∧ Below w.heap.size w w' := by
  obtain ⟨A, c, rfl, hr⟩ := hl
  have hl : Lines w (.slice A ls.length c) ls := ⟨A, c, rfl, hr⟩
  clear hr
  have HLn := Lib.hid hl
  have HL := Lib.hid hL
  have HWF := Lib.hid hwf
  clear hl hL hwf
  go_enter Tryd.func19, Tryd.ntmps19
  go_wp2_with fail
  refine wp_scope_again 0 (fun a' w' => ∃ (g mb lb pb h : Nat) (long : List Bool) (places : List Int) (words : Int) (f : Int → Option Int) (r : Nat), a'.tmps.size = 104 ∧ a'.defers = [] ∧ a'.tmps.getD 0 undef = .slice A ls.length c ∧ a'.tmps.getD 2 undef = .pointer (some ⟨w.heap.size, 0, none⟩) ∧ a'.tmps.getD 5 undef = .pointer (some ⟨g, 0, none⟩) ∧ a'.tmps.getD 8 undef = .pointer (some ⟨h, 0, none⟩) ∧ Hid (JI ls w w' A c g mb lb pb h long places words f r)) muA rfl ?first ?pass
  case pass =>
    rintro ⟨tm, df⟩ w1 ⟨g, mb, lb, pb, h, long, places, words, f, r, hts, rfl, e0, e2, e5, e8, HJ⟩
    obtain ⟨u, rfl⟩ := arr104 tm hts
    clear hts
    replace e0 : u 0 = _ := e0
    replace e2 : u 2 = _ := e2
    replace e5 : u 5 = _ := e5
    replace e8 : u 8 = _ := e8
    simp only [e0, e2, e5, e8]
    have hsmall : ls.length ≤ 60000 := HJ.out.sz.small
    have hr3 := cell_of_block HJ.out.out.blk 3
    have hz3 := unfrozen_of_block HJ.out.out.blk 3
    have hfew := HJ.out.few
    have hwr : IntKind.i64.wrap ((r : Int) + 1) = (r : Int) + 1 := IntWalk.i64_in _ (by omega)
    go_wp2_with fail
    have hmem := fun l (hl : l ∈ ls) (h0 : l.op = 0) => (HJ.out.lab l.label).2 ⟨l, hl, h0, rfl⟩
    have hJ := HJ.out
    have hbh : w.heap.size ≤ h := Nat.le_of_lt hJ.re
    have hsz1 : h + 1 ≤ w1.heap.size := (Array.getElem?_eq_some_iff.1 hJ.out.blk).1
    have HLI1 := Lib.hid (hJ.li.only (B := h + 1) (h := h) ((Only.refl (h + 1) h w1).set 3 (.int .i64 ((r : Int) + 1))) (by omega) hbh (by have := hJ.ge; omega) (by have := hJ.le; omega) (by have := hJ.pe; omega) (by have := hJ.me; omega) (Nat.ne_of_lt hJ.ge) (Nat.ne_of_lt hJ.le) (Nat.ne_of_lt hJ.pe) (Nat.ne_of_lt hJ.me))
    have HO1 := Lib.hid (hJ.out.setR ((r : Int) + 1))
    have hrb := (Below.heap_setCell w1 ⟨h, 3, none⟩ (.int .i64 ((r : Int) + 1)) w.heap.size (Nat.ne_of_lt hJ.re)).trans hJ.res
    have hsz2 : h + 1 ≤ (w1.setCell ⟨h, 3, none⟩ (.int .i64 ((r : Int) + 1))).heap.size := by rw [World.size_setCell]; exact hsz1
    generalize (w1.setCell ⟨h, 3, none⟩ (.int .i64 ((r : Int) + 1))) = W1 at HLI1 HO1 hrb hsz2 ⊢
    refine (laid_any w W1 W1 g mb lb pb A ls.length c ls long places words f HLI1.out HLn.out hJ.sz hmem).mono ?_
    rintro e w2 ⟨rfl, hli2⟩
    rw [mp_fl ls long f (fun x hx => (hJ.lab x).1 hx)] at hli2
    have hgh := hJ.ge
    have hlh := hJ.le
    have hph := hJ.pe
    have hmh := hJ.me
    have hrh := hJ.re
    have HO2 := Lib.hid (HO1.out.nil (hli2.fr h (by omega) (by omega) (by omega) (by omega) (by omega)))
    have HR2 := Lib.hid ((hli2.fr w.heap.size (by omega) (Ne.symm hJ.gr) (Ne.symm hJ.lr) (Ne.symm hJ.pr) (Ne.symm hJ.mr)).trans hrb)
    have HLI2 := Lib.hid hli2.rebase
    have hsz3 := hli2.s9
    have hlen := hJ.li.nl
    have hmu : muA { tmps := #[], defers := [] } w1 = 0 := rfl
    have HSAME := Lib.hid hJ.same
    have HSZ := Lib.hid hJ.sz
    clear hmem hJ HLI1 HO1 hrb hli2 hr3 hz3 hwr hmu
    go_wp2_with fail
    go_loopw [9, 48] (fun s9 s wr => ∃ k : Nat, k ≤ ls.length ∧ s = .int .i64 k ∧ s9 = .bool (grK ls long k) ∧ Hid (LI w w2 wr g mb lb pb A ls.length c (stK ls long k) ((List.range ls.length).map (pl ls long)) (pl ls long ls.length) (fl ls long))) (fun _ s _ => ls.length - (intOf s).toNat)
    case atStart => exact ⟨0, Nat.zero_le _, rfl, rfl, by rw [stK_zero]; exact HLI2⟩
    case round =>
      obtain ⟨k, hk, rfl, rfl, hX⟩ := hrel
      by_cases hlt : k < ls.length
      · obtain ⟨ad, l, v, hA, hli, hat, hv⟩ := (HLn.out.below hX.out.bel).at_ k hlt
        obtain ⟨AL, cL, rfl, hr⟩ := hv
        clear hr
        obtain ⟨k0, k1, k2, k3, k4, k5, k6⟩ := hat
        have hget : ls.getD k default = l := by rw [List.getD_eq_getElem?_getD, hli]; rfl
        have HG := Lib.hid hget
        have HI := Lib.hid hli
        have hlab := HSZ.out.labels l (List.mem_of_getElem? hli)
        have hnd : need ls long k = (brOp l.op && !near (at_ ls long l.label - pl ls long k - 1)) := by unfold need; rw [hget]
        have HND := Lib.hid hnd
        have hsk := stK_get ls long k (by omega)
        have HSK := Lib.hid hsk
        clear hget hli hnd hsk
        subst hA
        go_wp2_with fail
        have hbx : Below wr.heap.size wr (wr.alloc (.cells #[.int .i64 l.op, .int .i64 l.a, .int .i64 l.b, .int .i64 l.imm, .int .u32 l.n, .int .i64 l.label, .slice AL l.list.length cL] 40)) := (Below.refl _ _).alloc (Nat.le_refl _) _
        have b0 : (wr.alloc (.cells #[.int .i64 l.op, .int .i64 l.a, .int .i64 l.b, .int .i64 l.imm, .int .u32 l.n, .int .i64 l.label, .slice AL l.list.length cL] 40)).cell? ⟨wr.heap.size, 0, none⟩ = some (.int .i64 l.op) := kn 0 rfl
        have hX1 := Lib.hid (hX.out.below hbx)
        have HL1 := Lib.hid (HLn.out.below hX1.out.bel)
        clear k0 k1 k2 k3 k4 k5 k6 hX
        generalize (wr.alloc (.cells #[.int .i64 l.op, .int .i64 l.a, .int .i64 l.b, .int .i64 l.imm, .int .u32 l.n, .int .i64 l.label, .slice AL l.list.length cL] 40)) = W3 at hX1 b0 hbx HL1 ⊢
        refine (branch_any _ _).mono ?_
        rintro e w' ⟨rfl, rfl⟩
        have q2 := hX1.out.c2
        have qL := hX1.out.cL k hlt
        rw [HSK.out] at qL
        have hi0 : (0 : Int) ≤ (k : Int) := Int.natCast_nonneg _
        have hi1 : (k : Int) < (ls.length : Int) := by omega
        by_cases hbr : brOp l.op = true
        · cases hlg : long.getD k false with
          | true =>
            have HG1 := Lib.hid (show grK ls long k = grK ls long (k + 1) by rw [grK_succ, hlg]; simp)
            have HS1 := Lib.hid (show stK ls long (k + 1) = stK ls long k from (stK_no ls long k (by omega) (by rw [hlg]; rfl)).symm)
            rw [hlg] at qL
            clear HG HND HSK hlg
            go_wp2_with fail
            exact ⟨⟨k + 1, by omega, by go_num, by rw [← HG1.out], Lib.hid (by rw [HS1.out]; exact hX1.out)⟩, by simp [intOf]; omega⟩
          | false =>
            have HP := Lib.hid (pl_range ls long HSZ.out k)
            have HA := Lib.hid (at_range ls long HSZ.out l.label)
            have PLK : ((List.range ls.length).map (pl ls long)).getD k 0 = pl ls long k := by simp [List.getD, hlt]
            have AW := Lib.hid (away_any g mb pb W3 (some ad) ls.length c ls.length ls.length ls k l (pl ls long k) (fl ls long) hlt hX1.out.c0 hX1.out.c1 hX1.out.c3 HL1.out HI.out (by rw [← PLK]; exact hX1.out.cP k hlt) hX1.out.map hlab HP.out.1 (by have := HP.out.2; omega) HA.out.1 HA.out.2)
            have hat2 : (fl ls long l.label).getD 0 = at_ ls long l.label := rfl
            rw [hat2] at AW
            clear PLK hat2 HP HA
            generalize hx : at_ ls long l.label - pl ls long k - 1 = x at AW HND
            rw [hlg] at qL
            go_wp2_with fail
            refine AW.out.mono ?_
            rintro e w4 ⟨rfl, hb4⟩
            have HX4 := Lib.hid (hX1.out.below hb4)
            clear AW q2 qL b0 hbx hX1
            by_cases hn : near x = true
            · have hr : -128 ≤ x ∧ x ≤ 127 := by unfold near within at hn; simpa using hn
              have d1 : decide (x < -128) = false := by simpa using hr.1
              have d2 : decide (127 < x) = false := by simpa using hr.2
              have HG1 := Lib.hid (show grK ls long k = grK ls long (k + 1) by rw [grK_succ, HND.out, hn]; simp)
              have HS1 := Lib.hid (show stK ls long (k + 1) = stK ls long k from (stK_no ls long k (by omega) (by rw [HND.out, hn]; simp)).symm)
              clear hn hr hx HND
              go_wp2_with fail
              exact ⟨⟨k + 1, by omega, by go_num, by rw [← HG1.out], Lib.hid (by rw [HS1.out]; exact HX4.out)⟩, by simp [intOf]; omega⟩
            · replace hn : near x = false := by simpa using hn
              have hy : need ls long k = true := by rw [HND.out, hbr, hn]; rfl
              have HG1 := Lib.hid (show grK ls long (k + 1) = true by rw [grK_succ, hy, hlg]; simp)
              have HS1 := Lib.hid (show (stK ls long k).set k true = stK ls long (k + 1) from stK_yes ls long k (by omega) hy)
              have hX5 := Lib.hid (HX4.out.setLong k true)
              rw [HS1.out] at hX5
              have q2 := HX4.out.c2
              have qL := HX4.out.cL k hlt
              have zL := HX4.out.fL k
              rw [HSK.out, hlg] at qL
              have hr : x < -128 ∨ (decide (x < -128) = false ∧ 127 < x) := by
                unfold near within at hn
                simp only [Bool.and_eq_false_iff, decide_eq_false_iff_not] at hn
                rcases Int.lt_or_le x (-128) with h | h
                · exact .inl h
                · exact .inr ⟨by simpa using h, by omega⟩
              clear hx HND hn hy HG HSK hlg
              rcases hr with hr | ⟨d1, hr⟩
              · go_wp2_with fail
                exact ⟨⟨k + 1, by omega, by go_num, by rw [HG1.out], hX5⟩, by simp [intOf]; omega⟩
              · go_wp2_with fail
                exact ⟨⟨k + 1, by omega, by go_num, by rw [HG1.out], hX5⟩, by simp [intOf]; omega⟩
        · replace hbr : brOp l.op = false := by simpa using hbr
          have HG1 := Lib.hid (show grK ls long k = grK ls long (k + 1) by rw [grK_succ, HND.out, hbr]; simp)
          have HS1 := Lib.hid (show stK ls long (k + 1) = stK ls long k from (stK_no ls long k (by omega) (by rw [HND.out, hbr]; simp)).symm)
          clear HG HND HSK
          go_wp2_with fail
          exact ⟨⟨k + 1, by omega, by go_num, by rw [← HG1.out], Lib.hid (by rw [HS1.out]; exact hX1.out)⟩, by simp [intOf]; omega⟩
      · have hkn : k = ls.length := by omega
        subst hkn
        have hX2 := hX.out
        rw [stK_all ls long ls.length (by omega)] at hX2
        have hh9 : h < w2.heap.size := by omega
        have HO3 := Lib.hid (HO2.out.nil (hX2.fr h hh9 (by omega) (by omega) (by omega) (by omega)))
        have HR3 := Lib.hid ((hX2.fr w.heap.size (by omega) (Ne.symm HJ.out.gr) (Ne.symm HJ.out.lr) (Ne.symm HJ.out.pr) (Ne.symm HJ.out.mr)).trans HR2.out)
        have HX2 := Lib.hid hX2
        clear hX2 hX HO2 HR2 HLI2
        by_cases hst : step ls long = long
        · have hgr : grK ls long ls.length = false := (grK_step ls long ls.length (by omega)).2 hst
          rw [hst] at HX2
          have q4 := HX2.out.c4
          simp only [hgr]
          have HFIN := Lib.hid (show fin ls = (long, r + 1) by rw [← HSAME.out]; unfold rounds; rw [dif_pos hst])
          by_cases hbig : 65536 < pl ls long ls.length
          · have HASM := Lib.hid (show asm ls = ⟨[], [], [], 0, 0, 174⟩ by unfold asm; rw [if_neg (by simp [HJ.out.ok]), HFIN.out, if_pos hbig])
            have hrz := HR3.out
            have hb3 := HX2.out.bel
            have r0 := cell_of_block hrz 0
            have r1 := cell_of_block hrz 1
            have r2 := cell_of_block hrz 2
            have r3 := cell_of_block hrz 3
            have y0 := unfrozen_of_block hrz 0
            have y1 := unfrozen_of_block hrz 1
            have y2 := unfrozen_of_block hrz 2
            have y3 := unfrozen_of_block hrz 3
            clear hrz
            go_wp2_with fail
            simp only [Exit.jump]
            refine bodyPost_ret (v := .tuple #[.agg #[.slice none 0 0, .slice none 0 0, .slice none 0 0, .int .i64 0], .int .i64 0, .int .i64 174]) (by simp [results, Tryd.results19, go_sem, r0, r1, r2, r3]) rfl ?_
            refine ⟨.slice none 0 0, .slice none 0 0, .slice none 0 0, by rw [HASM.out]; rfl, by rw [HASM.out]; exact ⟨World.ownsRow_nil _ _ _ _, World.ownsRow_nil _ _ _ _, World.ownsRow_nil _ _ _ _, fun k hk => by cases hk⟩, ?_⟩
            exact (((hb3.setCell (Nat.le_refl _) _).setCell (Nat.le_refl _) _).setCell (Nat.le_refl _) _).setCell (Nat.le_refl _) _
          · have HASM := Lib.hid (show asm ls = ⟨wordsOf ls long ls.length, kindsOf ls long ls.length, (List.range ls.length).map (pl ls long), r + 1, 0, 0⟩ by unfold asm; rw [if_neg (by simp [HJ.out.ok]), HFIN.out, if_neg hbig])
            replace hbig : decide (65536 < pl ls long ls.length) = false := by simpa using hbig
            have q3 := HX2.out.c3
            have o2 := HO3.out.blk
            have d2 := cell_of_block o2 2
            have z2 := unfrozen_of_block o2 2
            clear o2
            go_wp2_with fail
            have HO4 := Lib.hid (HO3.out.setP (.slice (some ⟨pb, 0, none⟩) ls.length ls.length))
            have HN4 := Lib.hid ((Only.refl (h + 1) h wr).set 2 (.slice (some ⟨pb, 0, none⟩) ls.length ls.length))
            have hszr : h + 1 ≤ wr.heap.size := Nat.le_trans (by omega) HX2.out.s9
            clear q3 q4 d2 z2 hgr hbig
            generalize (wr.setCell ⟨h, 2, none⟩ (.slice (some ⟨pb, 0, none⟩) ls.length ls.length)) = W4 at HO4 HN4 ⊢
            go_loopw [96] (fun s w5 => ∃ k : Nat, k ≤ ls.length ∧ s = .int .i64 k ∧ Hid (∃ wv kv, OI w5 (h + 1) h (wordsOf ls long k) (kindsOf ls long k) (.slice (some ⟨pb, 0, none⟩) ls.length ls.length) ((r : Int) + 1) wv kv) ∧ Hid (Only (h + 1) h wr w5)) (fun s _ => ls.length - (intOf s).toNat)
            case atStart => exact ⟨0, Nat.zero_le _, rfl, Lib.hid ⟨_, _, HO4.out⟩, HN4⟩
            case round =>
              obtain ⟨k, hk, rfl, hX, hN⟩ := hrel
              obtain ⟨wv, kv, ho⟩ := hX.out
              have hL5 := HX2.out.only hN.out (by omega) (by omega) (by omega) (by omega) (by omega) (by omega) (Nat.ne_of_lt hgh) (Nat.ne_of_lt hlh) (Nat.ne_of_lt hph) (Nat.ne_of_lt hmh)
              clear HO4 HN4 hX
              by_cases hlt : k < ls.length
              · have hget : ls[k]? = some (ls.getD k default) := by rw [List.getD_eq_getElem?_getD, List.getElem?_eq_getElem hlt]; rfl
                have hmm : ls.getD k default ∈ ls := List.mem_of_getElem? hget
                have hpk : ((List.range ls.length).map (pl ls long)).getD k 0 = pl ls long k := by simp [List.getD, hlt]
                have hpr := pl_range ls long HSZ.out k
                have hwl := wordsOf_len ls long HSZ.out k
                have hkl := kindsOf_len ls long HSZ.out k
                have LA := Lib.hid (line_any w _ _ g mb lb pb A ls.length c ls long _ _ (fl ls long) (h + 1) h _ _ _ _ wv kv k (ls.getD k default) hL5 HLn.out HSZ.out hlt hget (HL.out.below hL5.bel) ho (Nat.le_trans hszr hN.out.size) (by omega) (by omega) (by rw [hpk]; omega) (by rw [hpk]; omega) (fun x => at_range ls long HSZ.out x) (HWF.out _ hmm).2 (by omega))
                rw [hpk, ← wordsOf_succ, ← kindsOf_succ] at LA
                clear hL5 ho hget hmm hpk hpr hwl hkl
                go_wp2_with fail
                refine LA.out.mono ?_
                rintro e w6 ⟨rfl, o6, n6⟩
                have HO6 := Lib.hid o6
                have HN6 := Lib.hid (hN.out.trans n6)
                clear o6 n6 LA hN
                go_wp2_with fail
                exact ⟨⟨k + 1, by omega, by go_num, HO6, HN6⟩, by simp [intOf]; omega⟩
              · have hkn : k = ls.length := by omega
                subst hkn
                have hrz := (hN.out.block w.heap.size (by omega) (by omega)).trans HR3.out
                obtain ⟨AW, cW, rfl⟩ := ho.wShape
                obtain ⟨AK, cK, rfl⟩ := ho.kShape
                have hblk := ho.blk
                have r0 := cell_of_block hrz 0
                have r1 := cell_of_block hrz 1
                have r2 := cell_of_block hrz 2
                have r3 := cell_of_block hrz 3
                have y0 := unfrozen_of_block hrz 0
                have y1 := unfrozen_of_block hrz 1
                have y2 := unfrozen_of_block hrz 2
                have y3 := unfrozen_of_block hrz 3
                have d0 := cell_of_block hblk 0
                have d1 := cell_of_block hblk 1
                have d2 := cell_of_block hblk 2
                have d3 := cell_of_block hblk 3
                have HFI := Lib.hid ho
                have HLI := Lib.hid hL5
                have hb6 := Lib.hid hL5.bel
                have hpr := HJ.out.pr
                clear hrz hblk ho hL5
                generalize (wordsOf ls long ls.length) = ws at *
                generalize (kindsOf ls long ls.length) = ks at *
                go_wp2_with fail
                simp only [Exit.jump]
                refine bodyPost_ret (v := .tuple #[.agg #[.slice AW ws.length cW, .slice AK ks.length cK, .slice (some ⟨pb, 0, none⟩) ls.length ls.length, .int .i64 ((r : Int) + 1)], .int .i64 0, .int .i64 0]) (by simp [results, Tryd.results19, go_sem, r0, r1, r2, r3]) rfl ?_
                refine ⟨.slice AW ws.length cW, .slice AK ks.length cK, .slice (some ⟨pb, 0, none⟩) ls.length ls.length, by rw [HASM.out]; simp, ?_, ?_⟩
                · rw [HASM.out]
                  exact asm_at HFI.out HLI.out hrh hph hpr hsmall rfl rfl rfl
                · exact (((hb6.out.setCell (Nat.le_refl _) _).setCell (Nat.le_refl _) _).setCell (Nat.le_refl _) _).setCell (Nat.le_refl _) _
        · have hgr : grK ls long ls.length = true := by
            cases hg : grK ls long ls.length with
            | true => rfl
            | false => exact absurd ((grK_step ls long ls.length (by omega)).1 hg) hst
          have hcl := step_lt ls long hst
          have hcl2 : (step ls long).count false < cnt w1 lb := by rw [cnt_of HJ.out.li.blkL]; exact hcl
          have HJ2 : Hid (JI ls w wr A c g mb lb pb h (step ls long) ((List.range ls.length).map (pl ls long)) (pl ls long ls.length) (fl ls long) (r + 1)) := Lib.hid
            ⟨HX2.out.rebase, by have := HO3.out; simpa using this, HR3.out, fun x => fl_lab ls long x, by rw [← HSAME.out]; conv => rhs; unfold rounds; rw [dif_neg hst], HSZ.out, HJ.out.ok, by omega, HJ.out.ge, HJ.out.le, HJ.out.pe, HJ.out.me, HJ.out.re, HJ.out.gr, HJ.out.lr, HJ.out.pr, HJ.out.mr⟩
          simp only [hgr]
          go_wp2_with fail
          go_step3
          refine ⟨rfl, ⟨g, mb, lb, pb, h, _, _, _, _, r + 1, rfl, rfl, rfl, rfl, rfl, rfl, HJ2⟩, ?_⟩
          rw [muA_of (g := g) (lb := lb) rfl HX2.out.c2, muA_of (g := g) (lb := lb) rfl HJ.out.li.c2, cnt_of HX2.out.blkL]
          exact hcl2
  case first =>
    --DEV<
    intro again
    have rbz : (w.alloc (.cells #[.slice none 0 0, .slice none 0 0, .slice none 0 0, .int .i64 0] 27)).heap[w.heap.size]? = some (.cells #[.slice none 0 0, .slice none 0 0, .slice none 0 0, .int .i64 0] 27 (0, 0)) := heap_alloc_new _ _
    have hmm := @run_makeMap Tryd.prog
    go_wp2_with fail
    clear hmm
    have hAs : (w.alloc (.cells #[.slice none 0 0, .slice none 0 0, .slice none 0 0, .int .i64 0] 27)).heap.size = w.heap.size + 1 := World.size_alloc _ _
    have hbA : Below w.heap.size w (w.alloc (.cells #[.slice none 0 0, .slice none 0 0, .slice none 0 0, .int .i64 0] 27)) := (Below.refl _ _).alloc (Nat.le_refl _) _
    generalize (w.alloc (.cells #[.slice none 0 0, .slice none 0 0, .slice none 0 0, .int .i64 0] 27)) = WA at rbz hAs hbA ⊢
    have hmap := IMap.made WA
    have hbB : Below WA.heap.size WA (WA.alloc (.map #[] 0)) := (Below.refl _ _).alloc (Nat.le_refl _) _
    have hBs : (WA.alloc (.map #[] 0)).heap.size = w.heap.size + 1 + 1 := by rw [World.size_alloc, hAs]
    rw [hAs] at hmap
    generalize (WA.alloc (.map #[] 0)) = WB at hmap hbB hBs ⊢
    have hbC : Below WB.heap.size WB (WB.alloc (.cells #[.slice A ls.length c, .map (some (w.heap.size + 1)), .slice none 0 0, .slice none 0 0, .int .i64 0] 79)) := (Below.refl _ _).alloc (Nat.le_refl _) _
    have hCs : (WB.alloc (.cells #[.slice A ls.length c, .map (some (w.heap.size + 1)), .slice none 0 0, .slice none 0 0, .int .i64 0] 79)).heap.size = w.heap.size + 1 + 1 + 1 := by rw [World.size_alloc, hBs]
    have gbz : (WB.alloc (.cells #[.slice A ls.length c, .map (some (w.heap.size + 1)), .slice none 0 0, .slice none 0 0, .int .i64 0] 79)).heap[w.heap.size + 1 + 1]? = some (.cells #[.slice A ls.length c, .map (some (w.heap.size + 1)), .slice none 0 0, .slice none 0 0, .int .i64 0] 79 (0, 0)) := by rw [← hBs]; exact heap_alloc_new _ _
    replace hmap := hmap.below hbC
    generalize (WB.alloc (.cells #[.slice A ls.length c, .map (some (w.heap.size + 1)), .slice none 0 0, .slice none 0 0, .int .i64 0] 79)) = WC at hmap hbC hCs gbz ⊢
    have hwC : Below w.heap.size w WC := bj (bj hbA hbB) hbC
    replace rbz := below_blk hbC (below_blk hbB rbz)
    have hR : RefI WC WC (w.heap.size + 1 + 1) (w.heap.size + 1) A ls.length c ls 0 [] := ⟨cell_of_block gbz 0, cell_of_block gbz 1, HLn.out.below hwC, hmap.congr (fun x => by simp [seenMap]), HL.out.below hwC, ⟨rfl, rfl, rfl, Nat.le_refl _, fun _ _ _ => rfl⟩, rfl⟩
    clear hmap hAs hbA hbB hBs hbC
    refine (refused_any _ _ _ _ _ _ _ hR HWF.out (by omega) (by omega)).mono ?_
    rintro e w2 ⟨rfl, hg, hok⟩
    have hs2 := hg.size
    replace rbz := (hg.block w.heap.size (by omega) (by intro e; injection e with e; omega)).trans rbz
    replace gbz := (hg.block (w.heap.size + 1 + 1) (by omega) (by intro e; injection e with e; omega)).trans gbz
    have hb2 : Below w.heap.size w w2 := hwC.grown hg hwC.size (fun k hk => by cases hk; omega)
    have HOK := Lib.hid hok
    clear hR hok hg
    have hgw : w.heap.size < w.heap.size + 1 + 1 := by omega
    have hmw : w.heap.size < w.heap.size + 1 := by omega
    have hmg : w.heap.size + 1 < w.heap.size + 1 + 1 := by omega
    have hg2 : w.heap.size + 1 + 1 < w2.heap.size := by omega
    clear hCs hs2
    generalize w.heap.size + 1 + 1 = g at *
    generalize w.heap.size + 1 = mb at *
    by_cases he : (refusedP ls).2 = 0
    · have hsm := refused_ok ls he
      obtain ⟨seen, hseen, hRI⟩ := HOK.out he
      obtain ⟨hall, hin⟩ := ref1_ok ls [] seen 0 hseen
      have HS := Lib.hid (show Sized ls from ⟨hsm, fun l hl => fits_list l (hall l hl).2.2, fun l hl => (HWF.out l hl).1⟩)
      have HIN := Lib.hid (show ∀ x, (seenMap seen x).isSome = true ↔ isLab ls x from fun x => by
        rw [← (by simpa using hin x : x ∈ seen ↔ isLab ls x)]
        unfold seenMap
        by_cases hx : x ∈ seen <;> simp [hx])
      have HMP := Lib.hid hRI.map
      have HE := Lib.hid he
      have he' : ((refusedP ls).2 == 0) = true := by simpa using he
      clear hin hseen hRI hall HOK he
      have t0 := cell_of_block gbz 0
      have t2 := cell_of_block gbz 2
      have t3 := cell_of_block gbz 3
      have y2 := unfrozen_of_block gbz 2
      have y3 := unfrozen_of_block gbz 3
      have hmk1 := print_make (P := Tryd.prog) 25 3 .i64 8 Tryd.underlying25 (by kernel_rfl) (by decide) ls.length (by omega)
      have hmk2 := print_make_of (P := Tryd.prog) 46 4 (.bool false) 1 Tryd.underlying46 (by kernel_rfl) rfl (by decide) ls.length (by omega)
      generalize refusedP ls = rp at he' ⊢
      go_wp2_with fail
      go_cut [] (fun wc => ∃ lb pb, Hid (LI w wc wc g mb lb pb A ls.length c (List.replicate ls.length false) (List.replicate ls.length 0) 0 (seenMap seen)) ∧ Hid (wc.heap[w.heap.size]? = some (.cells #[.slice none 0 0, .slice none 0 0, .slice none 0 0, .int .i64 0] 27 (0, 0))))
      case first =>
        go_region
        all_goals go_wp2_with fail
        all_goals go_meet
        · have T := two_new ((w2.setCell ⟨g, 2, none⟩ (.slice (some ⟨w2.heap.size, 0, none⟩) ls.length ls.length)).setCell ⟨g, 3, none⟩ (.slice (some ⟨w2.heap.size + 1, 0, none⟩) ls.length ls.length)) (madeCells #[.bool false] ls.length) (madeCells #[.int .i64 0] ls.length) 4 3
          rw [World.size_setCell, World.size_setCell] at T
          obtain ⟨T1, T2, T3⟩ := T
          obtain ⟨e1, e2⟩ := li_start (lb := w2.heap.size) (pb := w2.heap.size + 1) gbz rbz HMP.out hb2 hgw hmw hmg hg2 (by omega) (by omega) (by omega) T1 T2 T3
          exact ⟨_, _, Lib.hid e1, Lib.hid e2⟩
        · have T := two_new ((w2.setCell ⟨g, 2, none⟩ (.slice (some ⟨w2.heap.size + 1, 0, none⟩) ls.length ls.length)).setCell ⟨g, 3, none⟩ (.slice (some ⟨w2.heap.size, 0, none⟩) ls.length ls.length)) (madeCells #[.int .i64 0] ls.length) (madeCells #[.bool false] ls.length) 3 4
          rw [World.size_setCell, World.size_setCell] at T
          obtain ⟨T1, T2, T3⟩ := T
          obtain ⟨e1, e2⟩ := li_start (lb := w2.heap.size + 1) (pb := w2.heap.size) gbz rbz HMP.out hb2 hgw hmw hmg hg2 (by omega) (by omega) (by omega) T2 T1 T3
          exact ⟨_, _, Lib.hid e1, Lib.hid e2⟩
      case rest =>
        obtain ⟨lb, pb, HLI, HRB⟩ := hcut
        clear t0 t2 t3 y2 y3 hmk1 hmk2 HMP rbz gbz hb2 hwC
        have HJ : Hid (JI ls w (wc.alloc (.cells #[.slice none 0 0, .slice none 0 0, .slice none 0 0, .int .i64 0] 27)) A c g mb lb pb wc.heap.size (List.replicate ls.length false) (List.replicate ls.length 0) 0 (seenMap seen) 0) := Lib.hid (by
          have hbo := (Below.refl _ wc).alloc (Nat.le_refl _) (Obj.cells #[.slice none 0 0, .slice none 0 0, .slice none 0 0, .int .i64 0] 27)
          have hlo := HLI.out
          have l1 := (Array.getElem?_eq_some_iff.1 hlo.blkG).1
          have l2 := (Array.getElem?_eq_some_iff.1 hlo.blkL).1
          have l3 := (Array.getElem?_eq_some_iff.1 hlo.blkP).1
          have l4 := hlo.map.lt
          have l5 := (Array.getElem?_eq_some_iff.1 HRB.out).1
          have l6 : lb ≠ w.heap.size := by rintro rfl; have := HRB.out; rw [hlo.blkL] at this; injection this with this; injection this with _ this; cases this
          have l7 : pb ≠ w.heap.size := by rintro rfl; have := HRB.out; rw [hlo.blkP] at this; injection this with this; injection this with _ this; cases this
          exact ⟨(hlo.below hbo).rebase, ⟨heap_alloc_new _ _, World.ownsRow_nil _ _ _ _, World.ownsRow_nil _ _ _ _, Nat.lt_succ_self _⟩, below_blk hbo HRB.out, HIN.out, rfl, HS.out, HE.out, by simp, l1, l2, l3, l4, l5, by omega, l6, l7, by omega⟩)
        go_wp2_with fail
        go_step3
        rename_i hK
        exact hK _ _ (again _ _ ⟨g, mb, lb, pb, wc.heap.size, _, _, _, _, 0, rfl, rfl, rfl, rfl, rfl, rfl, HJ⟩)
    · have hasm : asm ls = ⟨[], [], [], 0, (refusedP ls).1, (refusedP ls).2⟩ := by unfold asm; rw [if_pos he]
      have HA := Lib.hid hasm
      have he' : ((refusedP ls).2 == 0) = false := by simpa using he
      generalize refusedP ls = rp at he he' HA ⊢
      clear hasm he
      have r0 := cell_of_block rbz 0
      have r1 := cell_of_block rbz 1
      have r2 := cell_of_block rbz 2
      have r3 := cell_of_block rbz 3
      have y0 := unfrozen_of_block rbz 0
      have y1 := unfrozen_of_block rbz 1
      have y2 := unfrozen_of_block rbz 2
      have y3 := unfrozen_of_block rbz 3
      clear rbz gbz HOK
      go_wp2_with fail
      simp only [Exit.jump]
      refine bodyPost_ret (v := .tuple #[.agg #[.slice none 0 0, .slice none 0 0, .slice none 0 0, .int .i64 0], .int .i64 rp.1, .int .i64 rp.2]) (by simp [results, Tryd.results19, go_sem, r0, r1, r2, r3]) rfl ?_
      refine ⟨.slice none 0 0, .slice none 0 0, .slice none 0 0, by rw [HA.out]; rfl, by rw [HA.out]; exact ⟨World.ownsRow_nil _ _ _ _, World.ownsRow_nil _ _ _ _, World.ownsRow_nil _ _ _ _, fun k hk => by cases hk⟩, ?_⟩
      exact (((hb2.setCell (Nat.le_refl _) _).setCell (Nat.le_refl _) _).setCell (Nat.le_refl _) _).setCell (Nat.le_refl _) _
    --DEV>

end Go.Proofs.YtamimnaafiphcaaDoor

namespace Go.Proofs.YtamimnaafiphcaaDoor
open Go.RowKit Go.Proofs.YtamimnaafiphcaaDoorW.PrintWords Go.Maps Go.Joins

/-- A slice reads as these numbers. -/
def Nums (w : World) (k : IntKind) (v : Value) (xs : List Int) : Prop :=
  ∃ A c, v = .slice A xs.length c ∧ xs.length ≤ 100000000 ∧ ∀ i, i < xs.length → ∃ ad, A = some ad ∧ w.cell? (ad.add i) = some (.int k (xs.getD i 0))

theorem Nums.below {w w' : World} {k : IntKind} {v : Value} {xs : List Int} (h : Nums w k v xs) (hb : Below w.heap.size w w') : Nums w' k v xs := by
  obtain ⟨A, c, e, hn, hc⟩ := h
  refine ⟨A, c, e, hn, fun i hi => ?_⟩
  obtain ⟨ad, e2, h2⟩ := hc i hi
  exact ⟨ad, e2, kp hb h2⟩

theorem Nums.own {w : World} {k : IntKind} {B : Nat} {e : TypeId} {v : Value} {xs : List Int} (h : w.ownsRow B e 1 v xs.length (xs.map (Value.int k))) (hn : xs.length ≤ 100000000) : Nums w k v xs := by
  rcases h.2 with ⟨rfl, h0⟩ | ⟨g, cap, cur, rfl, _⟩
  · exact ⟨none, 0, by rw [h0], hn, fun i hi => by omega⟩
  · refine ⟨some ⟨g, 0, none⟩, cap, rfl, hn, fun i hi => ⟨_, rfl, ?_⟩⟩
    have hadd : (⟨g, 0, none⟩ : Addr).add i = ⟨g, i, none⟩ := by unfold Addr.add; split <;> simp_all
    rw [hadd, World.ownsRow.cellAt h i (by omega)]
    simp [List.getD, List.getElem?_eq_getElem hi]

theorem Nums.blk {w : World} {k : IntKind} {b : Nat} {t : TypeId} {fr : Nat × Nat} (xs : List Int) (h : w.heap[b]? = some (.cells (xs.map (Value.int k)).toArray t fr)) (hn : xs.length ≤ 100000000) : Nums w k (.slice (some ⟨b, 0, none⟩) xs.length xs.length) xs := by
  refine ⟨some ⟨b, 0, none⟩, xs.length, rfl, hn, fun i hi => ⟨_, rfl, ?_⟩⟩
  have hadd : (⟨b, 0, none⟩ : Addr).add i = ⟨b, i, none⟩ := by unfold Addr.add; split <;> simp_all
  rw [hadd, cell_of_block h i]
  simp [List.getD, List.getElem?_eq_getElem hi]

def Agree (a b : List Int) (k : Nat) : Prop := ∀ i, i < k → a.getD i 0 = b.getD i 0

theorem agree_eq {a b : List Int} (hl : a.length = b.length) (h : Agree a b a.length) : a = b := by
  apply List.ext_getElem hl
  intro i h1 h2
  have := h i h1
  simpa [List.getD, h1, h2] using this

theorem Agree.succ {a b : List Int} {k : Nat} (h : Agree a b k) (he : a.getD k 0 = b.getD k 0) : Agree a b (k + 1) := by
  intro i hi
  by_cases e : i = k
  · subst e; exact he
  · exact h i (by omega)

structure AsmRd (w : World) (W K P : List Int) (wv kv pv : Value) : Prop where
  nw : Nums w .u32 wv W
  nk : Nums w .i64 kv K
  np : Nums w .i64 pv P

theorem AsmRd.below {w w' : World} {W K P : List Int} {wv kv pv : Value} (h : AsmRd w W K P wv kv pv) (hb : Below w.heap.size w w') : AsmRd w' W K P wv kv pv := ⟨h.nw.below hb, h.nk.below hb, h.np.below hb⟩

set_option maxRecDepth 100000 in
set_option maxHeartbeats 4000000 in
theorem same_any (W K P W' K' P' : List Int) (r r' : Int) (wv kv pv wv' kv' pv' : Value) (w : World) (h : AsmRd w W K P wv kv pv) (h' : AsmRd w W' K' P' wv' kv' pv') :
    Calls Tryd.prog 22 #[.agg #[wv, kv, pv, .int .i64 r], .agg #[wv', kv', pv', .int .i64 r']] w fun e w' => e = .returned (.bool (decide (r = r' ∧ W = W' ∧ K = K' ∧ P = P'))) ∧ Below w.heap.size w w' := by
  obtain ⟨A1, c1, rfl, n1, -⟩ := id h.nw
  obtain ⟨A2, c2, rfl, n2, -⟩ := id h.nk
  obtain ⟨A3, c3, rfl, n3, -⟩ := id h.np
  obtain ⟨B1, d1, rfl, m1, -⟩ := id h'.nw
  obtain ⟨B2, d2, rfl, m2, -⟩ := id h'.nk
  obtain ⟨B3, d3, rfl, m3, -⟩ := id h'.np
  have HA := Lib.hid h
  have HB := Lib.hid h'
  clear h h'
  generalize hans : decide (r = r' ∧ W = W' ∧ K = K' ∧ P = P') = ans
  have HANS := Lib.hid hans
  clear hans
  have NO : Hid (¬ (r = r' ∧ W = W' ∧ K = K' ∧ P = P') → ans = false) := Lib.hid (fun hn => by rw [← HANS.out]; exact decide_eq_false hn)
  go_enter Tryd.func22, Tryd.ntmps22
  go_wp2_with fail
  all_goals try (rename_i hx; go_ret; refine ⟨by rw [NO.out (by rintro ⟨rfl, rfl, rfl, rfl⟩; first | exact hx rfl | simp at hx)]; rfl, by go_grown⟩; done)
  rename (W.length : Int) = (W'.length : Int) => q1
  rename (K.length : Int) = (K'.length : Int) => q2
  rename ((P.length : Int) != (P'.length : Int)) = false => q3
  have q4 : (P.length : Int) = (P'.length : Int) := by simpa using q3
  have l1 : Hid (W.length = W'.length) := Lib.hid (by omega)
  have l2 : Hid (K.length = K'.length) := Lib.hid (by omega)
  have l3 : Hid (P.length = P'.length) := Lib.hid (by omega)
  clear q1 q2 q3 q4
  have e1 : r = r' := by assumption
  subst e1
  have hbA : Below w.heap.size w (w.alloc (.cells #[.slice A1 W.length c1, .slice A2 K.length c2, .slice A3 P.length c3, .int .i64 r] 27)) := (Below.refl _ _).alloc (Nat.le_refl _) _
  have hsA : (w.alloc (.cells #[.slice A1 W.length c1, .slice A2 K.length c2, .slice A3 P.length c3, .int .i64 r] 27)).heap.size = w.heap.size + 1 := World.size_alloc _ _
  have a0 : (w.alloc (.cells #[.slice A1 W.length c1, .slice A2 K.length c2, .slice A3 P.length c3, .int .i64 r] 27)).cell? ⟨w.heap.size, 0, none⟩ = some (.slice A1 W.length c1) := kn 0 rfl
  have a1 : (w.alloc (.cells #[.slice A1 W.length c1, .slice A2 K.length c2, .slice A3 P.length c3, .int .i64 r] 27)).cell? ⟨w.heap.size, 1, none⟩ = some (.slice A2 K.length c2) := kn 1 rfl
  have a2 : (w.alloc (.cells #[.slice A1 W.length c1, .slice A2 K.length c2, .slice A3 P.length c3, .int .i64 r] 27)).cell? ⟨w.heap.size, 2, none⟩ = some (.slice A3 P.length c3) := kn 2 rfl
  generalize (w.alloc (.cells #[.slice A1 W.length c1, .slice A2 K.length c2, .slice A3 P.length c3, .int .i64 r] 27)) = WA at hbA hsA a0 a1 a2 ⊢
  have hbB : Below WA.heap.size WA (WA.alloc (.cells #[.slice B1 W'.length d1, .slice B2 K'.length d2, .slice B3 P'.length d3, .int .i64 r] 27)) := (Below.refl _ _).alloc (Nat.le_refl _) _
  have b0 : (WA.alloc (.cells #[.slice B1 W'.length d1, .slice B2 K'.length d2, .slice B3 P'.length d3, .int .i64 r] 27)).cell? ⟨WA.heap.size, 0, none⟩ = some (.slice B1 W'.length d1) := kn 0 rfl
  have b1 : (WA.alloc (.cells #[.slice B1 W'.length d1, .slice B2 K'.length d2, .slice B3 P'.length d3, .int .i64 r] 27)).cell? ⟨WA.heap.size, 1, none⟩ = some (.slice B2 K'.length d2) := kn 1 rfl
  have b2 : (WA.alloc (.cells #[.slice B1 W'.length d1, .slice B2 K'.length d2, .slice B3 P'.length d3, .int .i64 r] 27)).cell? ⟨WA.heap.size, 2, none⟩ = some (.slice B3 P'.length d3) := kn 2 rfl
  rw [hsA] at b0 b1 b2
  replace a0 := kp hbB a0
  replace a1 := kp hbB a1
  replace a2 := kp hbB a2
  replace hbB := bj hbA hbB
  generalize (WA.alloc (.cells #[.slice B1 W'.length d1, .slice B2 K'.length d2, .slice B3 P'.length d3, .int .i64 r] 27)) = WB at hbB a0 a1 a2 b0 b1 b2 ⊢
  clear hbA hsA
  have F : Hid (∀ W3, Below WB.heap.size WB W3 → AsmRd W3 W K P (.slice A1 W.length c1) (.slice A2 K.length c2) (.slice A3 P.length c3) ∧ AsmRd W3 W' K' P' (.slice B1 W'.length d1) (.slice B2 K'.length d2) (.slice B3 P'.length d3) ∧
      (W3.cell? ⟨w.heap.size, 0, none⟩ = some (.slice A1 W.length c1) ∧ W3.cell? ⟨w.heap.size, 1, none⟩ = some (.slice A2 K.length c2) ∧ W3.cell? ⟨w.heap.size, 2, none⟩ = some (.slice A3 P.length c3)) ∧
      (W3.cell? ⟨w.heap.size + 1, 0, none⟩ = some (.slice B1 W'.length d1) ∧ W3.cell? ⟨w.heap.size + 1, 1, none⟩ = some (.slice B2 K'.length d2) ∧ W3.cell? ⟨w.heap.size + 1, 2, none⟩ = some (.slice B3 P'.length d3)) ∧ Below w.heap.size w W3) :=
    Lib.hid fun W3 hb => ⟨HA.out.below (bj hbB hb), HB.out.below (bj hbB hb), ⟨kp hb a0, kp hb a1, kp hb a2⟩, ⟨kp hb b0, kp hb b1, kp hb b2⟩, bj hbB hb⟩
  clear a0 a1 a2 b0 b1 b2 hbB HA HB
  have HB0 := Lib.hid (Below.refl WB.heap.size WB)
  go_loopw [5] (fun s wr => ∃ k : Nat, k ≤ W.length ∧ s = .int .i64 k ∧ Hid (Agree W W' k) ∧ Hid (Below WB.heap.size WB wr)) (fun s _ => W.length - (intOf s).toNat)
  case atStart => exact ⟨0, Nat.zero_le _, rfl, Lib.hid (fun i hi => absurd hi (Nat.not_lt_zero i)), HB0⟩
  case round =>
    obtain ⟨k, hk, rfl, hG, hB⟩ := hrel
    obtain ⟨ha, hb, ⟨a0, a1, a2⟩, ⟨b0, b1, b2⟩, hw⟩ := F.out wr hB.out
    have HW := Lib.hid hw
    clear hw
    by_cases hlt : k < W.length
    · have hx := ha.nw
      have hy := hb.nw
      obtain ⟨_, _, ex, _, hx⟩ := hx
      obtain ⟨_, _, ey, _, hy⟩ := hy
      obtain ⟨p, ep, kx⟩ := hx k hlt
      obtain ⟨q, eq, ky⟩ := hy k (by have := l1.out; omega)
      cases ex
      cases ey
      clear hx hy ha hb
      have hi0 : (0 : Int) ≤ (k : Int) := Int.natCast_nonneg _
      have hi1 : (k : Int) < (W.length : Int) := by omega
      have hi2 : (k : Int) < (W'.length : Int) := by have := l1.out; omega
      subst ep
      subst eq
      by_cases he : W.getD k 0 = W'.getD k 0
      · have HG := Lib.hid (hG.out.succ he)
        rw [← he] at ky
        generalize W.getD k 0 = x at kx ky
        clear he
        go_wp2_with fail
        go_quiet (fail)
        go_wp2_with fail
        exact ⟨⟨k + 1, by omega, by go_num, HG, Lib.hid (hB.out.trans ((bdn wr _).mono hB.out.size))⟩, by simp [intOf]; omega⟩
      · have HE := Lib.hid (show ¬ W = W' from fun e => he (by rw [e]))
        replace he : (W.getD k 0 != W'.getD k 0) = true := by simpa using he
        generalize W.getD k 0 = x at kx he
        generalize W'.getD k 0 = y at ky he
        go_wp2_with fail
        go_quiet (fail)
        go_wp2_with fail
        go_ret
        exact ⟨by rw [NO.out (fun h => HE.out h.2.1)]; rfl, HW.out.trans ((bdn wr _).mono HW.out.size)⟩
    · have hkn : k = W.length := by omega
      subst hkn
      have EQnw := Lib.hid (agree_eq l1.out hG.out)
      have HB0 := hB
      clear hG ha hb

      obtain ⟨_, _, ⟨a0, a1, a2⟩, ⟨b0, b1, b2⟩, _⟩ := F.out _ HB0.out
      clear HW
      go_wp2_with fail
      go_loopw [6] (fun s wr => ∃ k : Nat, k ≤ K.length ∧ s = .int .i64 k ∧ Hid (Agree K K' k) ∧ Hid (Below WB.heap.size WB wr)) (fun s _ => K.length - (intOf s).toNat)
      case atStart => exact ⟨0, Nat.zero_le _, rfl, Lib.hid (fun i hi => absurd hi (Nat.not_lt_zero i)), HB0⟩
      case round =>
        obtain ⟨k, hk, rfl, hG, hB⟩ := hrel
        obtain ⟨ha, hb, ⟨a0, a1, a2⟩, ⟨b0, b1, b2⟩, hw⟩ := F.out wr hB.out
        have HW := Lib.hid hw
        clear hw
        by_cases hlt : k < K.length
        · have hx := ha.nk
          have hy := hb.nk
          obtain ⟨_, _, ex, _, hx⟩ := hx
          obtain ⟨_, _, ey, _, hy⟩ := hy
          obtain ⟨p, ep, kx⟩ := hx k hlt
          obtain ⟨q, eq, ky⟩ := hy k (by have := l2.out; omega)
          cases ex
          cases ey
          clear hx hy ha hb
          have hi0 : (0 : Int) ≤ (k : Int) := Int.natCast_nonneg _
          have hi1 : (k : Int) < (K.length : Int) := by omega
          have hi2 : (k : Int) < (K'.length : Int) := by have := l2.out; omega
          subst ep
          subst eq
          by_cases he : K.getD k 0 = K'.getD k 0
          · have HG := Lib.hid (hG.out.succ he)
            rw [← he] at ky
            generalize K.getD k 0 = x at kx ky
            clear he
            go_wp2_with fail
            go_quiet (fail)
            go_wp2_with fail
            exact ⟨⟨k + 1, by omega, by go_num, HG, Lib.hid (hB.out.trans ((bdn wr _).mono hB.out.size))⟩, by simp [intOf]; omega⟩
          · have HE := Lib.hid (show ¬ K = K' from fun e => he (by rw [e]))
            replace he : (K.getD k 0 != K'.getD k 0) = true := by simpa using he
            generalize K.getD k 0 = x at kx he
            generalize K'.getD k 0 = y at ky he
            go_wp2_with fail
            go_quiet (fail)
            go_wp2_with fail
            go_ret
            exact ⟨by rw [NO.out (fun h => HE.out h.2.2.1)]; rfl, HW.out.trans ((bdn wr _).mono HW.out.size)⟩
        · have hkn : k = K.length := by omega
          subst hkn
          have EQnk := Lib.hid (agree_eq l2.out hG.out)
          have HB0 := hB
          clear hG ha hb

          obtain ⟨_, _, ⟨a0, a1, a2⟩, ⟨b0, b1, b2⟩, _⟩ := F.out _ HB0.out
          clear HW
          go_wp2_with fail
          go_loopw [7] (fun s wr => ∃ k : Nat, k ≤ P.length ∧ s = .int .i64 k ∧ Hid (Agree P P' k) ∧ Hid (Below WB.heap.size WB wr)) (fun s _ => P.length - (intOf s).toNat)
          case atStart => exact ⟨0, Nat.zero_le _, rfl, Lib.hid (fun i hi => absurd hi (Nat.not_lt_zero i)), HB0⟩
          case round =>
            obtain ⟨k, hk, rfl, hG, hB⟩ := hrel
            obtain ⟨ha, hb, ⟨a0, a1, a2⟩, ⟨b0, b1, b2⟩, hw⟩ := F.out wr hB.out
            have HW := Lib.hid hw
            clear hw
            by_cases hlt : k < P.length
            · have hx := ha.np
              have hy := hb.np
              obtain ⟨_, _, ex, _, hx⟩ := hx
              obtain ⟨_, _, ey, _, hy⟩ := hy
              obtain ⟨p, ep, kx⟩ := hx k hlt
              obtain ⟨q, eq, ky⟩ := hy k (by have := l3.out; omega)
              cases ex
              cases ey
              clear hx hy ha hb
              have hi0 : (0 : Int) ≤ (k : Int) := Int.natCast_nonneg _
              have hi1 : (k : Int) < (P.length : Int) := by omega
              have hi2 : (k : Int) < (P'.length : Int) := by have := l3.out; omega
              subst ep
              subst eq
              by_cases he : P.getD k 0 = P'.getD k 0
              · have HG := Lib.hid (hG.out.succ he)
                rw [← he] at ky
                generalize P.getD k 0 = x at kx ky
                clear he
                go_wp2_with fail
                go_quiet (fail)
                go_wp2_with fail
                exact ⟨⟨k + 1, by omega, by go_num, HG, Lib.hid (hB.out.trans ((bdn wr _).mono hB.out.size))⟩, by simp [intOf]; omega⟩
              · have HE := Lib.hid (show ¬ P = P' from fun e => he (by rw [e]))
                replace he : (P.getD k 0 != P'.getD k 0) = true := by simpa using he
                generalize P.getD k 0 = x at kx he
                generalize P'.getD k 0 = y at ky he
                go_wp2_with fail
                go_quiet (fail)
                go_wp2_with fail
                go_ret
                exact ⟨by rw [NO.out (fun h => HE.out h.2.2.2)]; rfl, HW.out.trans ((bdn wr _).mono HW.out.size)⟩
            · have hkn : k = P.length := by omega
              subst hkn
              have EQnp := Lib.hid (agree_eq l3.out hG.out)
              have HB0 := hB
              clear hG ha hb

              have hw := HW.out
              go_wp2_with fail
              go_ret
              have ht : ans = true := HANS.out.symm.trans (decide_eq_true (by refine ⟨?_, EQnw.out, EQnk.out, EQnp.out⟩; trivial))
              exact ⟨by rw [ht]; rfl, hw⟩



end Go.Proofs.YtamimnaafiphcaaDoor

namespace Go.Proofs.YtamimnaafiphcaaDoor
open Go.RowKit Go.Proofs.YtamimnaafiphcaaDoorW.PrintWords Go.Maps Go.Joins

theorem Lines.mk' {w : World} {A : Option Addr} {c : Nat} {ls : List Line} (hb : ls.length ≤ 9223372036854775807)
    (h : 0 < ls.length → ∃ ad, A = some ad ∧ ∀ i l, ls[i]? = some l → ∃ A' c', l.list.length ≤ c' ∧ kInt.C w A' l.list.length l.list ∧ ∀ j u, [Value.int .i64 l.op, .int .i64 l.a, .int .i64 l.b, .int .i64 l.imm, .int .u32 l.n, .int .i64 l.label, .slice A' l.list.length c'][j]? = some u → w.cell? (ad.add (i * 7 + j)) = some u) :
    Lines w (.slice A ls.length c) ls := by
  refine ⟨A, c, rfl, rfl, hb, fun hp => ?_⟩
  obtain ⟨ad, rfl, hc⟩ := h hp
  refine ⟨ad, rfl, fun i l hl => ?_⟩
  obtain ⟨A', c', hlc, hr, hcell⟩ := hc i l hl
  exact ⟨_, rfl, ⟨[_], _, rfl, rfl, [_], _, rfl, rfl, [_], _, rfl, rfl, [_], _, rfl, rfl, [_], _, rfl, rfl, [_], _, rfl, rfl, A', c', rfl, hlc, hr⟩, hcell⟩

def liveLs : List Line := [⟨0, 0, 0, 0, 0, 7, []⟩, ⟨44, 0, 0, 0, 0, 0, []⟩, ⟨40, 0, 0, 0, 0, 7, []⟩]

theorem fin_live : fin liveLs = ([false, false, false], 1) := by
  unfold fin rounds
  rw [dif_pos (by kernel_rfl)]
  rfl

theorem asm_live : asm liveLs = ⟨[738197504, 671154174], [1, 1], [0, 0, 1], 1, 0, 0⟩ := by
  unfold asm
  rw [if_neg (by simp only [show (refusedP liveLs).2 = 0 by kernel_rfl]; decide), fin_live, if_neg (by rw [show pl liveLs [false, false, false] liveLs.length = 2 by kernel_rfl]; decide)]
  kernel_rfl

theorem Lines.live {w : World} {b : Nat} {t : TypeId} {fr : Nat × Nat} (h : w.heap[b]? = some (.cells #[.int .i64 0, .int .i64 0, .int .i64 0, .int .i64 0, .int .u32 0, .int .i64 7, .slice none 0 0, .int .i64 44, .int .i64 0, .int .i64 0, .int .i64 0, .int .u32 0, .int .i64 0, .slice none 0 0, .int .i64 40, .int .i64 0, .int .i64 0, .int .i64 0, .int .u32 0, .int .i64 7, .slice none 0 0] t fr)) :
    Lines w (.slice (some ⟨b, 0, none⟩) 3 3) liveLs := by
  refine Lines.mk' (ls := liveLs) (by decide) fun _ => ⟨_, rfl, fun i l hl => ?_⟩
  have hi : i < 3 := (List.getElem?_eq_some_iff.1 hl).1
  have hadd : ∀ j, (⟨b, 0, none⟩ : Addr).add j = ⟨b, j, none⟩ := fun j => by unfold Addr.add; split <;> simp_all
  have key : ∀ (i : Nat) (l : Line), l.list = [] → (∀ j u, [Value.int .i64 l.op, .int .i64 l.a, .int .i64 l.b, .int .i64 l.imm, .int .u32 l.n, .int .i64 l.label, .slice none 0 0][j]? = some u → w.cell? ⟨b, i * 7 + j, none⟩ = some u) →
      ∃ A' c', l.list.length ≤ c' ∧ kInt.C w A' l.list.length l.list ∧ ∀ j u, [Value.int .i64 l.op, .int .i64 l.a, .int .i64 l.b, .int .i64 l.imm, .int .u32 l.n, .int .i64 l.label, .slice A' l.list.length c'][j]? = some u → w.cell? ((⟨b, 0, none⟩ : Addr).add (i * 7 + j)) = some u := by
    intro i l hn hc
    rw [hn]
    exact ⟨none, 0, Nat.le_refl _, Kd.C_nil kInt w, fun j u hu => by rw [hadd]; exact hc j u hu⟩
  have hcb := cell_of_block h
  match i, hi, hl with
  | 0, _, hl =>
    cases hl
    refine key 0 _ rfl fun j u hu => ?_
    rw [hcb]
    have hj := (List.getElem?_eq_some_iff.1 hu).1
    match j, hj, hu with
    | 0, _, hu | 1, _, hu | 2, _, hu | 3, _, hu | 4, _, hu | 5, _, hu | 6, _, hu => exact hu
  | 1, _, hl =>
    cases hl
    refine key 1 _ rfl fun j u hu => ?_
    rw [hcb]
    have hj := (List.getElem?_eq_some_iff.1 hu).1
    match j, hj, hu with
    | 0, _, hu | 1, _, hu | 2, _, hu | 3, _, hu | 4, _, hu | 5, _, hu | 6, _, hu => exact hu
  | 2, _, hl =>
    cases hl
    refine key 2 _ rfl fun j u hu => ?_
    rw [hcb]
    have hj := (List.getElem?_eq_some_iff.1 hu).1
    match j, hj, hu with
    | 0, _, hu | 1, _, hu | 2, _, hu | 3, _, hu | 4, _, hu | 5, _, hu | 6, _, hu => exact hu

theorem three_new (X : World) (n : Nat) (hn : X.heap.size = n) (a b c : Obj) : (((X.alloc a).alloc b).alloc c).heap[n]? = some a ∧ (((X.alloc a).alloc b).alloc c).heap[n + 1]? = some b ∧ (((X.alloc a).alloc b).alloc c).heap[n + 1 + 1]? = some c ∧ Below X.heap.size X (((X.alloc a).alloc b).alloc c) := by
  subst hn
  have h1 : (X.alloc a).heap[X.heap.size]? = some a := heap_alloc_new X _
  have h2 : ((X.alloc a).alloc b).heap[X.heap.size + 1]? = some b := by
    have := heap_alloc_new (X.alloc a) b
    rwa [World.size_alloc] at this
  have h3 : (((X.alloc a).alloc b).alloc c).heap[X.heap.size + 1 + 1]? = some c := by
    have := heap_alloc_new ((X.alloc a).alloc b) c
    rwa [World.size_alloc, World.size_alloc] at this
  have b1 := (Below.refl _ X).alloc (Nat.le_refl _) a
  have b2 := (Below.refl _ (X.alloc a)).alloc (Nat.le_refl _) b
  have b3 := (Below.refl _ ((X.alloc a).alloc b)).alloc (Nat.le_refl _) c
  exact ⟨below_blk (bj b2 b3) h1, below_blk b3 h2, h3, bj (bj b1 b2) b3⟩

theorem own_shape {w : World} {B e : Nat} {v : Value} {n : Nat} {xs : List Value} (o : w.ownsRow B e 1 v n xs) : ∃ A c, v = .slice A n c := by
  rcases o.2 with ⟨rfl, hn⟩ | ⟨g, cap, cur, rfl, _⟩
  · exact ⟨none, 0, by rw [hn]⟩
  · exact ⟨_, cap, rfl⟩

set_option maxRecDepth 100000 in
set_option maxHeartbeats 4000000 in
theorem live_any (w : World) (hL : Laid w) : Calls Tryd.prog 21 #[] w fun e w' => e = .returned (.bool true) ∧ Below w.heap.size w w' := by
  have HL := Lib.hid hL
  clear hL
  go_enter Tryd.func21, Tryd.ntmps21
  go_wp2_with fail
  have hb1 : Below w.heap.size w (w.alloc (.cells #[.int .i64 0, .int .i64 0, .int .i64 0, .int .i64 0, .int .u32 0, .int .i64 7, .slice none 0 0, .int .i64 44, .int .i64 0, .int .i64 0, .int .i64 0, .int .u32 0, .int .i64 0, .slice none 0 0, .int .i64 40, .int .i64 0, .int .i64 0, .int .i64 0, .int .u32 0, .int .i64 7, .slice none 0 0] 40)) := (Below.refl _ _).alloc (Nat.le_refl _) _
  have hl : Lines (w.alloc (.cells #[.int .i64 0, .int .i64 0, .int .i64 0, .int .i64 0, .int .u32 0, .int .i64 7, .slice none 0 0, .int .i64 44, .int .i64 0, .int .i64 0, .int .i64 0, .int .u32 0, .int .i64 0, .slice none 0 0, .int .i64 40, .int .i64 0, .int .i64 0, .int .i64 0, .int .u32 0, .int .i64 7, .slice none 0 0] 40)) (.slice (some ⟨w.heap.size, 0, none⟩) 3 3) liveLs := Lines.live (heap_alloc_new w _)
  generalize (w.alloc (.cells #[.int .i64 0, .int .i64 0, .int .i64 0, .int .i64 0, .int .u32 0, .int .i64 7, .slice none 0 0, .int .i64 44, .int .i64 0, .int .i64 0, .int .i64 0, .int .u32 0, .int .i64 0, .slice none 0 0, .int .i64 40, .int .i64 0, .int .i64 0, .int .i64 0, .int .u32 0, .int .i64 7, .slice none 0 0] 40)) = W1 at hb1 hl ⊢
  have A := asm_any liveLs _ W1 (HL.out.below hb1) hl (by intro l hl; simp only [liveLs, List.mem_cons, List.not_mem_nil, or_false] at hl; rcases hl with rfl | rfl | rfl <;> exact ⟨by decide, fun x hx => by cases hx⟩)
  simp only [asm_live] at A
  refine A.mono ?_
  rintro e w2 ⟨wv, kv, pv, rfl, hat, hb2⟩
  have hw2 := bj hb1 hb2
  obtain ⟨AW, cW, rfl⟩ := own_shape hat.ow
  obtain ⟨AK, cK, rfl⟩ := own_shape hat.ok
  obtain ⟨AP, cP, rfl⟩ := own_shape hat.op
  have RD := Lib.hid (show AsmRd w2 [738197504, 671154174] [1, 1] [0, 0, 1] (.slice AW 2 cW) (.slice AK 2 cK) (.slice AP 3 cP) from ⟨Nums.own hat.ow (by decide), Nums.own hat.ok (by decide), Nums.own hat.op (by decide)⟩)
  have HW2 := Lib.hid hw2
  clear A hat hb2 hl hb1 hw2
  go_wp2_with fail
  have T := three_new (w2.alloc (.cells #[.slice AW 2 cW, .slice AK 2 cK, .slice AP 3 cP, .int .i64 1] 27)) (w2.heap.size + 1) (World.size_alloc _ _) (.cells #[.int .u32 738197504, .int .u32 671154174] 38) (.cells #[.int .i64 1, .int .i64 1] 3) (.cells #[.int .i64 0, .int .i64 0, .int .i64 1] 3)
  obtain ⟨T1, T2, T3, T4⟩ := T
  have hb3 := bj ((Below.refl _ w2).alloc (Nat.le_refl _) (.cells #[.slice AW 2 cW, .slice AK 2 cK, .slice AP 3 cP, .int .i64 1] 27)) T4
  refine (same_any [738197504, 671154174] [1, 1] [0, 0, 1] [738197504, 671154174] [1, 1] [0, 0, 1] 1 1 _ _ _ _ _ _ _ (RD.out.below hb3) ⟨Nums.blk (k := .u32) [738197504, 671154174] T1 (by decide), Nums.blk (k := .i64) [1, 1] T2 (by decide), Nums.blk (k := .i64) [0, 0, 1] T3 (by decide)⟩).mono ?_
  rintro e w4 ⟨rfl, hb4⟩
  have HW4 := Lib.hid (bj (bj HW2.out hb3) hb4)
  clear T1 T2 T3 T4 hb3 hb4
  go_wp2_with fail
  go_ret
  exact ⟨rfl, HW4.out⟩

end Go.Proofs.YtamimnaafiphcaaDoor

namespace Go.Proofs.YtamimnaafiphcaaDoor
open Go.RowKit Go.Proofs.YtamimnaafiphcaaDoorW.PrintWords Go.Maps Go.Joins

theorem branchR_line (l : Line) (v : Value) (w : World) : Calls Tryd.prog 31 #[.agg #[.int .i64 l.op, .int .i64 l.a, .int .i64 l.b, .int .i64 l.imm, .int .u32 l.n, .int .i64 l.label, v]] w fun e w' => e = .returned (.bool (brOp l.op)) ∧ Below w.heap.size w w' := branchR_any l v w

def brs (ls : List Line) (k : Nat) : Nat := ((ls.take k).filter fun l => brOp l.op).length

theorem brs_succ (ls : List Line) (k : Nat) (l : Line) (h : ls[k]? = some l) : brs ls (k + 1) = brs ls k + (if brOp l.op = true then 1 else 0) := by
  unfold brs
  rw [List.take_add_one, h, List.filter_append, List.length_append]
  by_cases hb : brOp l.op = true <;> simp [hb]

set_option maxRecDepth 100000 in
set_option maxHeartbeats 4000000 in
theorem branches_any (ls : List Line) (v : Value) (w : World) (hl : Lines w v ls) (hn : ls.length ≤ 1000000000) :
    Calls Tryd.prog 25 #[v] w fun e w' => e = .returned (.int .i64 (brs ls ls.length)) ∧ Below w.heap.size w w' := by
  obtain ⟨A, c, rfl, hr⟩ := hl
  have HL : Hid (Lines w (.slice A ls.length c) ls) := Lib.hid ⟨A, c, rfl, hr⟩
  clear hr
  go_enter Tryd.func25, Tryd.ntmps25
  go_wp2_with fail
  go_loopw [3, 4] (fun s3 s wr => ∃ k : Nat, k ≤ ls.length ∧ s = .int .i64 k ∧ s3 = .int .i64 (brs ls k) ∧ Hid (Below w.heap.size w wr)) (fun _ s _ => ls.length - (intOf s).toNat)
  case atStart => exact ⟨0, Nat.zero_le _, rfl, rfl, Lib.hid (Below.refl _ _)⟩
  case round =>
    obtain ⟨k, hk, rfl, rfl, hB⟩ := hrel
    by_cases hlt : k < ls.length
    · obtain ⟨ad, l, v, hA, hli, hat, hv⟩ := (HL.out.below hB.out).at_ k hlt
      obtain ⟨AL, cL, rfl, hr⟩ := hv
      obtain ⟨k0, k1, k2, k3, k4, k5, k6⟩ := hat
      have hs := brs_succ ls k l hli
      have hle : brs ls k ≤ k := by unfold brs; exact Nat.le_trans (List.length_filter_le _ _) (by simp; omega)
      have hi0 : (0 : Int) ≤ (k : Int) := Int.natCast_nonneg _
      have hi1 : (k : Int) < (ls.length : Int) := by omega
      have hw1 : IntKind.i64.wrap ((brs ls k : Int) + 1) = (brs ls k : Int) + 1 := IntWalk.i64_in _ (by omega)
      clear hr hli
      subst hA
      have HS := Lib.hid hs
      clear hs
      go_wp2_with fail
      refine (branchR_line l _ _).mono ?_
      rintro e w1 ⟨rfl, hb1⟩
      have hB1 := Lib.hid (bj hB.out hb1)
      clear k0 k1 k2 k3 k4 k5 k6 hb1
      by_cases hbr : brOp l.op = true
      · rw [if_pos hbr] at HS
        go_wp2_with fail
        exact ⟨⟨k + 1, by omega, by go_num, by rw [HS.out]; rfl, hB1⟩, by simp [intOf]; omega⟩
      · rw [if_neg hbr] at HS
        replace hbr : brOp l.op = false := by simpa using hbr
        go_wp2_with fail
        exact ⟨⟨k + 1, by omega, by go_num, by rw [HS.out]; rfl, hB1⟩, by simp [intOf]; omega⟩
    · have hkn : k = ls.length := by omega
      subst hkn
      go_wp2_with fail
      go_ret
      exact ⟨rfl, hB.out⟩

theorem filter_lt {α : Type} (L : List α) (p q : α → Bool) (h : ∀ x ∈ L, p x = true → q x = true) (y : α) (hy : y ∈ L) (h1 : q y = true) (h2 : p y = false) : (L.filter p).length < (L.filter q).length := by
  induction L with
  | nil => cases hy
  | cons x L ih =>
    have hle : (L.filter p).length ≤ (L.filter q).length := by
      clear ih hy
      induction L with
      | nil => exact Nat.le_refl _
      | cons z L ih2 =>
        have := ih2 (fun x hx => h x (by rcases List.mem_cons.1 hx with rfl | hx <;> simp_all))
        have hz := h z (by simp)
        cases hp : p z <;> cases hq : q z <;> simp_all <;> omega
    rcases List.mem_cons.1 hy with rfl | hy
    · rw [List.filter_cons, if_neg (by simp [h2]), List.filter_cons, if_pos h1]
      simp only [List.length_cons]
      omega
    · have := ih (fun x hx => h x (List.mem_cons_of_mem _ hx)) hy
      have hx := h x (List.mem_cons_self ..)
      cases hp : p x <;> cases hq : q x <;> simp_all <;> omega

def avail (ls : List Line) (long : List Bool) : Nat := ((List.range ls.length).filter fun i => brOp (ls.getD i default).op && !long.getD i false).length

theorem step_get (ls : List Line) (long : List Bool) (i : Nat) (hi : i < long.length) : (step ls long).getD i false = (long.getD i false || need ls long i) := by
  simp [step, List.getD, hi]

theorem avail_lt (ls : List Line) (long : List Bool) (hl : long.length = ls.length) (h : step ls long ≠ long) : avail ls (step ls long) < avail ls long := by
  have hg : grK ls long ls.length = true := by
    cases hg : grK ls long ls.length with
    | true => rfl
    | false => exact absurd ((grK_step ls long ls.length hl).1 hg) h
  unfold grK at hg
  rw [List.any_eq_true] at hg
  obtain ⟨i, hi, hx⟩ := hg
  have hi' := List.mem_range.1 hi
  simp only [Bool.and_eq_true, Bool.not_eq_true'] at hx
  refine filter_lt _ _ _ (fun j hj hp => ?_) i hi ?_ ?_
  · have hj' := List.mem_range.1 hj
    rw [step_get ls long j (by omega)] at hp
    cases hb : brOp (ls.getD j default).op <;> cases hlg : long.getD j false <;> simp_all
  · have : brOp (ls.getD i default).op = true := by
      have := hx.2
      unfold need at this
      simp only [Bool.and_eq_true] at this
      exact this.1
    rw [this, hx.1]
    rfl
  · rw [step_get ls long i (by omega), hx.2]
    simp

theorem rounds_le (ls : List Line) (m : Nat) (long : List Bool) (r : Nat) (hm : long.count false = m) (hl : long.length = ls.length) : r + 1 ≤ (rounds ls long r).2 ∧ (rounds ls long r).2 ≤ r + 1 + avail ls long := by
  induction m using Nat.strongRecOn generalizing long r with
  | _ m ih =>
    unfold rounds
    by_cases h : step ls long = long
    · rw [dif_pos h]
      exact ⟨Nat.le_refl _, Nat.le_add_right _ _⟩
    · rw [dif_neg h]
      have := ih _ (by rw [← hm]; exact step_lt ls long h) (step ls long) (r + 1) rfl (by rw [step_len]; exact hl)
      have h2 := avail_lt ls long hl h
      omega

theorem filter_map_len (ls : List Line) (k : Nat) (hk : k ≤ ls.length) : ((List.range k).filter fun i => brOp (ls.getD i default).op).length = brs ls k := by
  induction k with
  | zero => simp [brs]
  | succ k ih =>
    have hg : ls[k]? = some (ls.getD k default) := by rw [List.getD_eq_getElem?_getD, List.getElem?_eq_getElem (by omega)]; rfl
    rw [List.range_succ, List.filter_append, List.length_append, ih (by omega), brs_succ ls k _ hg]
    congr 1
    by_cases hb : brOp (ls.getD k default).op = true
    · rw [if_pos hb, List.filter_cons, if_pos hb]; rfl
    · rw [if_neg hb, List.filter_cons, if_neg hb]; rfl

theorem fin_range (ls : List Line) : 1 ≤ (fin ls).2 ∧ (fin ls).2 ≤ brs ls ls.length + 1 := by
  have h := rounds_le ls _ (List.replicate ls.length false) 0 rfl (by simp)
  have ha : avail ls (List.replicate ls.length false) ≤ brs ls ls.length := by
    rw [← filter_map_len ls ls.length (Nat.le_refl _)]
    unfold avail
    refine Nat.le_of_eq (congrArg List.length (List.filter_congr fun i hi => ?_))
    have := List.mem_range.1 hi
    simp [List.getD, this]
  unfold fin
  omega

end Go.Proofs.YtamimnaafiphcaaDoor

set_option linter.unusedVariables false
set_option linter.unusedSimpArgs false
namespace Go.Proofs.YtamimnaafiphcaaDoor
open Go.RowKit

/-- The labels that stand in a list. -/
def labs (ls : List Line) : List Int := (ls.filter fun l => decide (l.op = 0)).map (·.label)

theorem labs_mem {ls : List Line} {x : Int} : x ∈ labs ls ↔ ∃ l ∈ ls, l.op = 0 ∧ l.label = x := by
  unfold labs
  simp only [List.mem_map, List.mem_filter, decide_eq_true_eq]
  constructor
  · rintro ⟨l, ⟨h1, h2⟩, h3⟩; exact ⟨l, h1, h2, h3⟩
  · rintro ⟨l, h1, h2, h3⟩; exact ⟨l, ⟨h1, h2⟩, h3⟩

theorem ref1_takes : ∀ (ls : List Line) (seen : List Int) (i : Nat), (∀ l ∈ ls, 0 ≤ l.op ∧ l.op ≤ 48 ∧ fitsB l = true) → (labs ls).Nodup → (∀ x ∈ labs ls, x ∉ seen) → ∃ s, ref1 seen i ls = .inr s
  | [], seen, i, _, _, _ => ⟨seen, rfl⟩
  | l :: r, seen, i, h1, h2, h3 => by
    obtain ⟨a, b, c⟩ := h1 l (List.mem_cons_self ..)
    have h1' := fun m hm => h1 m (List.mem_cons_of_mem l hm)
    rw [ref1, if_neg (by omega), if_neg (by rw [c]; decide)]
    by_cases h0 : l.op = 0
    · have e : labs (l :: r) = l.label :: labs r := by unfold labs; simp [h0]
      rw [e] at h2 h3
      obtain ⟨d, h2⟩ := List.nodup_cons.1 h2
      rw [if_pos h0, if_neg (h3 _ (List.mem_cons_self ..))]
      refine ref1_takes r _ (i + 1) h1' h2 fun x hx => ?_
      intro hm
      rcases List.mem_cons.1 hm with rfl | hm
      · exact d hx
      · exact h3 x (List.mem_cons_of_mem _ hx) hm
    · have e : labs (l :: r) = labs r := by unfold labs; simp [h0]
      rw [e] at h2 h3
      rw [if_neg h0]
      exact ref1_takes r seen (i + 1) h1' h2 h3

theorem ref2_takes : ∀ (ls : List Line) (seen : List Int) (i : Nat), (∀ l ∈ ls, ∀ x ∈ targets l, x ∈ seen) → ref2 seen i ls = (0, 0)
  | [], _, _, _ => rfl
  | l :: r, seen, i, h => by
    rw [ref2, if_pos (List.all_eq_true.2 fun x hx => decide_eq_true (h l (List.mem_cons_self ..) x hx))]
    exact ref2_takes r seen (i + 1) fun m hm => h m (List.mem_cons_of_mem l hm)

theorem sizeP_small (l : Line) (lg : Bool) (h : l.list.length ≤ 2) : sizeP l lg ≤ 4 := by
  have := follows_range l.op
  unfold sizeP
  repeat' split
  all_goals omega

theorem pl_small (ls : List Line) (long : List Bool) (h : ∀ l ∈ ls, l.list.length ≤ 2) : ∀ k, pl ls long k ≤ 4 * k
  | 0 => by show (0 : Int) ≤ _; omega
  | k + 1 => by
    have h1 := pl_small ls long h k
    have h2 := sizeP_small (ls.getD k default) (long.getD k false) (by
      by_cases hk : k < ls.length
      · rw [List.getD_eq_getElem?_getD, List.getElem?_eq_getElem hk]
        exact h _ (List.getElem_mem hk)
      · rw [List.getD_eq_getElem?_getD, List.getElem?_eq_none (by omega)]
        exact Nat.zero_le _)
    show pl ls long k + _ ≤ _
    omega

theorem lineW_one (f : Int → Option Int) (lg : Bool) (p : Int) (l : Line) (h : l.op ≠ 0) : 1 ≤ (lineW f lg p l).length := by
  unfold lineW
  rw [if_neg h]
  repeat' split
  all_goals simp

theorem words_many (ls : List Line) (long : List Bool) : ∀ k, k ≤ ls.length → ((ls.take k).filter fun l => decide (l.op ≠ 0)).length ≤ (wordsOf ls long k).length
  | 0, _ => Nat.zero_le _
  | k + 1, hk => by
    have ih := words_many ls long k (by omega)
    have e : ls.getD k default = ls[k] := by rw [List.getD_eq_getElem?_getD, List.getElem?_eq_getElem (show k < ls.length by omega)]; rfl
    have e1 : ls.take (k + 1) = ls.take k ++ [ls[k]] := by rw [List.take_add_one, List.getElem?_eq_getElem (show k < ls.length by omega)]; rfl
    rw [wordsOf_succ, List.length_append, e1, List.filter_append, List.length_append, e]
    have e2 : ([ls[k]].filter fun l => decide (l.op ≠ 0)).length ≤ (lineW (fl ls long) (long.getD k false) (pl ls long k) ls[k]).length := by
      by_cases h0 : ls[k].op = 0
      · rw [List.filter_cons_of_neg (by simp [h0])]
        exact Nat.zero_le _
      · rw [List.filter_cons_of_pos (by simp [h0])]
        exact lineW_one _ _ _ _ h0
    omega

theorem asm_takes (ls : List Line) (h4 : ls.length ≤ 2050) (h1 : ∀ l ∈ ls, (0 ≤ l.op ∧ l.op ≤ 48 ∧ fitsB l = true) ∧ l.list.length ≤ 2 ∧ ∀ x ∈ targets l, x ∈ labs ls) (h2 : (labs ls).Nodup) :
    (asm ls).err = 0 ∧ (asm ls).line = 0 ∧ (asm ls).places.length = ls.length ∧ (ls.filter fun l => decide (l.op ≠ 0)).length ≤ (asm ls).words.length := by
  have hr : refusedP ls = (0, 0) := by
    obtain ⟨s, hs⟩ := ref1_takes ls [] 0 (fun l hl => (h1 l hl).1) h2 (fun x _ hx => by cases hx)
    obtain ⟨_, hm⟩ := ref1_ok ls [] s 0 hs
    unfold refusedP
    rw [if_neg (by omega), hs]
    exact ref2_takes ls s 0 fun l hl x hx => (hm x).2 (Or.inr (labs_mem.1 ((h1 l hl).2.2 x hx)))
  have hp := pl_small ls (fin ls).1 (fun l hl => (h1 l hl).2.1) ls.length
  unfold asm
  rw [hr, if_neg (by decide), if_neg (by omega)]
  refine ⟨rfl, rfl, by simp, ?_⟩
  have := words_many ls (fin ls).1 ls.length (Nat.le_refl _)
  rwa [List.take_length] at this

theorem goOp_range {n : Int} (h : goOp n = true) : (30 ≤ n ∧ n ≤ 41 ∨ n = 43) := by
  unfold goOp brOp isBr within at h
  simp only [Bool.or_eq_true, Bool.and_eq_true, decide_eq_true_eq, beq_iff_eq] at h
  omega

/-- A line that goes somewhere, plainly. -/
theorem fits_go (op x : Int) (h : goOp op = true) (hx : 0 ≤ x ∧ x ≤ 100000) : fitsB ⟨op, 0, 0, 0, 0, x, []⟩ = true := by
  have hr := goOp_range h
  have hm : mayR op 0 0 0 = true := by
    unfold mayR
    rw [if_neg (by omega), if_neg (by omega), if_neg (by omega), if_neg (by omega), if_neg (by omega)]
    by_cases hb : isBr op = true
    · rw [if_pos hb]; decide
    · rw [if_neg hb]
      have : op = 40 ∨ op = 41 ∨ op = 43 := by
        unfold isBr within at hb
        simp only [Bool.and_eq_true, decide_eq_true_eq] at hb
        omega
      rcases this with rfl | rfl | rfl <;> decide
  unfold fitsB x4 x6 x8
  simp only []
  rw [if_neg (by omega), h, show (enc op 0 0 0).2 = 0 from by rw [enc_of hm]]
  have hl : isLabel x = true := within_t hx.1 hx.2
  have h42 : (op == 42) = false := by simp; omega
  rw [hl, h42]
  simp

theorem fits_tab (a x y : Int) (ha : 0 ≤ a ∧ a ≤ 11) (hx : 0 ≤ x ∧ x ≤ 100000) (hy : 0 ≤ y ∧ y ≤ 100000) : fitsB ⟨42, a, 0, 0, 0, 0, [x, y]⟩ = true := by
  have hm : mayR 42 a 0 0 = true := by
    unfold mayR
    rw [if_neg (by decide), if_pos (by decide)]
    unfold reg
    rw [within_t ha.1 ha.2]
    rfl
  have e : enc 42 a 0 0 = _ := enc_of hm
  unfold fitsB x4 x6 x8
  simp only []
  rw [e]
  have h1 : isLabel x = true := within_t hx.1 hx.2
  have h2 : isLabel y = true := within_t hy.1 hy.2
  rw [if_neg (by decide)]
  simp [h1, h2, show goOp 42 = false from by decide, show isLabel 0 = true from by decide]

theorem fits_ins (op a b c : Int) (h0 : 1 ≤ op) (h48 : op ≤ 48) (hg : goOp op = false) (h42 : op ≠ 42) (hm : mayR op a b c = true) : fitsB ⟨op, a, b, c, 0, 0, []⟩ = true := by
  unfold fitsB x4 x6 x8
  simp only []
  rw [if_neg (by omega), hg, enc_of hm]
  have : (op == 42) = false := by simpa using h42
  rw [this]
  simp [show isLabel 0 = true from by decide]

theorem fits_lab (x : Int) (hx : 0 ≤ x ∧ x ≤ 100000) : fitsB ⟨0, 0, 0, 0, 0, x, []⟩ = true := by
  unfold fitsB
  rw [if_pos rfl]
  simp [show isLabel x = true from within_t hx.1 hx.2]

end Go.Proofs.YtamimnaafiphcaaDoor

set_option linter.unusedVariables false
set_option linter.unusedSimpArgs false
namespace Go.Proofs.YtamimnaafiphcaaDoor
open Go.RowKit

/-- What the assembler takes, but for the words' number. -/
structure Takes (ls : List Line) : Prop where
  small : ls.length ≤ 60000
  fits : ∀ l ∈ ls, 0 ≤ l.op ∧ l.op ≤ 48 ∧ fitsB l = true
  nodup : (labs ls).Nodup
  goal : ∀ l ∈ ls, ∀ x ∈ targets l, x ∈ labs ls

theorem ref1_err : ∀ (ls : List Line) (seen : List Int) (i : Nat) (e : Nat × Int), ref1 seen i ls = .inl e → e.2 ≠ 0
  | [], seen, i, e, h => by simp [ref1] at h
  | l :: r, seen, i, e, h => by
    rw [ref1] at h
    by_cases h1 : l.op < 0 ∨ 48 < l.op
    · rw [if_pos h1] at h; cases h; simp
    rw [if_neg h1] at h
    by_cases h2 : fitsB l = false
    · rw [if_pos h2] at h; cases h; simp
    rw [if_neg h2] at h
    by_cases h3 : l.op = 0
    · rw [if_pos h3] at h
      by_cases h4 : l.label ∈ seen
      · rw [if_pos h4] at h; cases h; simp
      rw [if_neg h4] at h
      exact ref1_err r _ _ e h
    · rw [if_neg h3] at h
      exact ref1_err r _ _ e h

theorem labs_cons_yes {l : Line} {r : List Line} (h : l.op = 0) : labs (l :: r) = l.label :: labs r := by unfold labs; simp [h]
theorem labs_cons_no {l : Line} {r : List Line} (h : l.op ≠ 0) : labs (l :: r) = labs r := by unfold labs; simp [h]

theorem ref1_nodup : ∀ (ls : List Line) (seen s : List Int) (i : Nat), ref1 seen i ls = .inr s → (labs ls).Nodup ∧ ∀ x ∈ labs ls, x ∉ seen
  | [], seen, s, i, h => ⟨by simp [labs], fun x hx => by simp [labs] at hx⟩
  | l :: r, seen, s, i, h => by
    rw [ref1] at h
    by_cases h1 : l.op < 0 ∨ 48 < l.op
    · rw [if_pos h1] at h; cases h
    rw [if_neg h1] at h
    by_cases h2 : fitsB l = false
    · rw [if_pos h2] at h; cases h
    rw [if_neg h2] at h
    by_cases h3 : l.op = 0
    · rw [if_pos h3] at h
      by_cases h4 : l.label ∈ seen
      · rw [if_pos h4] at h; cases h
      rw [if_neg h4] at h
      obtain ⟨a, b⟩ := ref1_nodup r _ s _ h
      rw [labs_cons_yes h3]
      refine ⟨List.nodup_cons.2 ⟨fun hm => b _ hm (List.mem_cons_self ..), a⟩, fun x hx => ?_⟩
      rcases List.mem_cons.1 hx with rfl | hx
      · exact h4
      · exact fun hm => b x hx (List.mem_cons_of_mem _ hm)
    · rw [if_neg h3] at h
      rw [labs_cons_no h3]
      exact ref1_nodup r _ s _ h

theorem ref2_ok : ∀ (ls : List Line) (seen : List Int) (i : Nat), (ref2 seen i ls).2 = 0 → ∀ l ∈ ls, ∀ x ∈ targets l, x ∈ seen
  | [], seen, i, h => fun l hl => by cases hl
  | l :: r, seen, i, h => by
    rw [ref2] at h
    by_cases h1 : ((targets l).all fun x => decide (x ∈ seen)) = true
    · rw [if_pos h1] at h
      intro m hm
      rcases List.mem_cons.1 hm with rfl | hm
      · exact fun x hx => of_decide_eq_true (List.all_eq_true.1 h1 x hx)
      · exact ref2_ok r seen _ h m hm
    · rw [if_neg h1] at h; simp at h

theorem takes_of {ls : List Line} (h : (refusedP ls).2 = 0) : Takes ls := by
  have hs := refused_ok ls h
  unfold refusedP at h
  rw [if_neg (by omega)] at h
  cases h1 : ref1 [] 0 ls with
  | inl e =>
    rw [h1] at h
    exact absurd h (ref1_err ls [] 0 e h1)
  | inr s =>
    rw [h1] at h
    obtain ⟨a, b⟩ := ref1_ok ls [] s 0 h1
    exact ⟨hs, a, (ref1_nodup ls [] s 0 h1).1, fun l hl x hx => by
      have := (b x).1 (ref2_ok ls s 0 h l hl x hx)
      rcases this with hm | hm
      · cases hm
      · exact labs_mem.2 hm⟩

theorem Takes.ok {ls : List Line} (h : Takes ls) : refusedP ls = (0, 0) := by
  obtain ⟨s, hs⟩ := ref1_takes ls [] 0 h.fits h.nodup (fun x _ hx => by cases hx)
  obtain ⟨_, hm⟩ := ref1_ok ls [] s 0 hs
  unfold refusedP
  rw [if_neg (by have := h.small; omega), hs]
  exact ref2_takes ls s 0 fun l hl x hx => (hm x).2 (Or.inr (labs_mem.1 (h.goal l hl x hx)))

/-- What a list that is taken comes to. -/
theorem asm_ok' {ls : List Line} (h : (asm ls).err = 0) : Takes ls ∧ pl ls (fin ls).1 ls.length ≤ 65536 ∧
    asm ls = ⟨wordsOf ls (fin ls).1 ls.length, kindsOf ls (fin ls).1 ls.length, (List.range ls.length).map (pl ls (fin ls).1), (fin ls).2, 0, 0⟩ := by
  by_cases h1 : (refusedP ls).2 ≠ 0
  · unfold asm at h; rw [if_pos h1] at h; exact absurd h h1
  · have h1' : (refusedP ls).2 = 0 := by simpa using h1
    by_cases h2 : 65536 < pl ls (fin ls).1 ls.length
    · unfold asm at h; rw [if_neg h1, if_pos h2] at h; cases h
    · exact ⟨takes_of h1', by omega, by unfold asm; rw [if_neg h1, if_neg h2]⟩

theorem asm_mk {ls : List Line} (h : Takes ls) (h2 : pl ls (fin ls).1 ls.length ≤ 65536) :
    asm ls = ⟨wordsOf ls (fin ls).1 ls.length, kindsOf ls (fin ls).1 ls.length, (List.range ls.length).map (pl ls (fin ls).1), (fin ls).2, 0, 0⟩ := by
  unfold asm
  rw [if_neg (by rw [h.ok]; decide), if_neg (by omega)]

/-- An element put in at a place. -/
def insA {α : Type} (t : Nat) (a : α) (l : List α) : List α := l.take t ++ [a] ++ l.drop t

section
variable {α : Type} {l : List α} {t : Nat} {a d : α}

theorem insA_len (ht : t ≤ l.length) : (insA t a l).length = l.length + 1 := by unfold insA; simp; omega

theorem insA_lt (ht : t ≤ l.length) {i : Nat} (hi : i < t) : (insA t a l).getD i d = l.getD i d := by
  unfold insA
  rw [List.append_assoc, List.getD_eq_getElem?_getD, List.getElem?_append_left (by simp; omega), List.getElem?_take_of_lt hi, List.getD_eq_getElem?_getD]

theorem insA_at (ht : t ≤ l.length) : (insA t a l).getD t d = a := by
  unfold insA
  rw [List.getD_eq_getElem?_getD, List.getElem?_append_left (by simp; omega), List.getElem?_append_right (by simp; omega)]
  simp [Nat.min_eq_left ht]

theorem insA_gt (ht : t ≤ l.length) {i : Nat} (hi : t ≤ i) : (insA t a l).getD (i + 1) d = l.getD i d := by
  unfold insA
  rw [List.getD_eq_getElem?_getD, List.getElem?_append_right (by simp; omega), List.getElem?_drop, List.getD_eq_getElem?_getD]
  congr 2
  simp
  omega

theorem getD_ext {l l' : List α} (d : α) (hl : l.length = l'.length) (h : ∀ i, i < l.length → l.getD i d = l'.getD i d) : l = l' := by
  apply List.ext_getElem hl
  intro i h1 h2
  have := h i h1
  rwa [List.getD_eq_getElem?_getD, List.getElem?_eq_getElem h1, List.getD_eq_getElem?_getD, List.getElem?_eq_getElem h2] at this

theorem insA_inj {l l' : List α} (hl : l.length = l'.length) (h : insA t a l = insA t a l') : l = l' := by
  unfold insA at h
  rw [List.append_assoc, List.append_assoc] at h
  obtain ⟨h1, h2⟩ := List.append_inj h (by simp [hl])
  obtain ⟨_, h3⟩ := List.append_inj h2 rfl
  rw [← List.take_append_drop t l, ← List.take_append_drop t l', h1, h3]
end

theorem insA_rep (n t : Nat) (ht : t ≤ n) : List.replicate (n + 1) false = insA t false (List.replicate n false) := by
  symm
  rw [List.eq_replicate_iff]
  refine ⟨by rw [insA_len (by simpa using ht)]; simp, fun b hb => ?_⟩
  unfold insA at hb
  rw [List.mem_append, List.mem_append] at hb
  rcases hb with (hb | hb) | hb
  · exact (List.mem_replicate.1 (List.mem_of_mem_take hb)).2
  · simpa using hb
  · exact (List.mem_replicate.1 (List.mem_of_mem_drop hb)).2

def labL (x : Int) : Line := ⟨0, 0, 0, 0, 0, x, []⟩

theorem brOp_go {n : Int} (h : brOp n = true) : goOp n = true := by unfold goOp; rw [h]; rfl

section
variable {ls : List Line} {t : Nat} {x : Int} {long : List Bool} (ht : t ≤ ls.length) (hl : long.length = ls.length)
include ht hl

theorem pl_ins_le : ∀ i, i ≤ t → pl (insA t (labL x) ls) (insA t false long) i = pl ls long i
  | 0, _ => rfl
  | i + 1, h => by
    simp only [pl]
    rw [pl_ins_le i (by omega), insA_lt ht (by omega), insA_lt (by omega) (by omega)]

theorem pl_ins_gt : ∀ i, t ≤ i → pl (insA t (labL x) ls) (insA t false long) (i + 1) = pl ls long i := by
  intro i
  induction i with
  | zero =>
    intro h
    obtain rfl : t = 0 := by omega
    show pl (insA 0 (labL x) ls) (insA 0 false long) 0 + sizeP ((insA 0 (labL x) ls).getD 0 default) _ = _
    rw [insA_at ht]
    rfl
  | succ i ih =>
    intro h
    by_cases e : t = i + 1
    · subst e
      rw [pl, insA_at ht, pl_ins_le ht hl _ (Nat.le_refl _)]
      show _ + 0 = _
      omega
    · rw [pl, ih (by omega), insA_gt ht (by omega), insA_gt (by omega) (by omega)]
      rfl

theorem mp_ins_le {y : Int} : ∀ i, i ≤ t → mp (insA t (labL x) ls) (insA t false long) (fun _ => none) i y = mp ls long (fun _ => none) i y
  | 0, _ => rfl
  | i + 1, h => by
    simp only [mp]
    rw [insA_lt ht (by omega), pl_ins_le ht hl i (by omega)]
    by_cases h0 : (ls.getD i default).op = 0
    · rw [if_pos h0, if_pos h0]
      by_cases h1 : y = (ls.getD i default).label
      · simp [h1]
      · simp only [h1, if_false]
        exact mp_ins_le i (by omega)
    · rw [if_neg h0, if_neg h0]
      exact mp_ins_le i (by omega)

theorem mp_ins_at {y : Int} (hy : y ≠ x) : mp (insA t (labL x) ls) (insA t false long) (fun _ => none) (t + 1) y = mp ls long (fun _ => none) t y := by
  simp only [mp]
  rw [insA_at ht, if_pos (show (labL x).op = 0 from rfl)]
  show (if y = x then _ else _) = _
  rw [if_neg hy, mp_ins_le ht hl t (Nat.le_refl _)]

theorem mp_ins_gt {y : Int} (hy : y ≠ x) : ∀ i, t ≤ i → mp (insA t (labL x) ls) (insA t false long) (fun _ => none) (i + 1) y = mp ls long (fun _ => none) i y := by
  intro i
  induction i with
  | zero =>
    intro h
    obtain rfl : t = 0 := by omega
    exact mp_ins_at ht hl hy
  | succ i ih =>
    intro h
    by_cases e : t = i + 1
    · subst e
      exact mp_ins_at ht hl hy
    · rw [mp, insA_gt ht (by omega), pl_ins_gt ht hl i (by omega)]
      show _ = (if (ls.getD i default).op = 0 then (fun z => if z = (ls.getD i default).label then some (pl ls long i) else mp ls long (fun _ => none) i z) else mp ls long (fun _ => none) i) y
      by_cases h0 : (ls.getD i default).op = 0
      · rw [if_pos h0, if_pos h0]
        by_cases h1 : y = (ls.getD i default).label
        · simp [h1]
        · simp only [h1, if_false]
          exact ih (by omega)
      · rw [if_neg h0, if_neg h0]
        exact ih (by omega)

theorem fl_ins {y : Int} (hy : y ≠ x) : fl (insA t (labL x) ls) (insA t false long) y = fl ls long y := by
  unfold fl
  rw [insA_len ht]
  exact mp_ins_gt ht hl hy _ ht

theorem need_ins_lt (hx : ∀ l ∈ ls, brOp l.op = true → l.label ≠ x) {i : Nat} (hi : i < t) : need (insA t (labL x) ls) (insA t false long) i = need ls long i := by
  unfold need
  rw [insA_lt ht hi, pl_ins_le ht hl i (by omega)]
  cases hb : brOp (ls.getD i default).op
  · rfl
  · have hm : ls.getD i default ∈ ls := by rw [List.getD_eq_getElem?_getD, List.getElem?_eq_getElem (by omega)]; exact List.getElem_mem _
    unfold at_
    rw [show toW (fl (insA t (labL x) ls) (insA t false long)) (ls.getD i default).label = toW (fl ls long) (ls.getD i default).label by unfold toW; rw [fl_ins ht hl (hx _ hm hb)]]

theorem need_ins_gt (hx : ∀ l ∈ ls, brOp l.op = true → l.label ≠ x) {i : Nat} (hi : t ≤ i) (hn : i < ls.length) : need (insA t (labL x) ls) (insA t false long) (i + 1) = need ls long i := by
  unfold need
  rw [insA_gt ht hi, pl_ins_gt ht hl i hi]
  cases hb : brOp (ls.getD i default).op
  · rfl
  · have hm : ls.getD i default ∈ ls := by rw [List.getD_eq_getElem?_getD, List.getElem?_eq_getElem hn]; exact List.getElem_mem _
    unfold at_
    rw [show toW (fl (insA t (labL x) ls) (insA t false long)) (ls.getD i default).label = toW (fl ls long) (ls.getD i default).label by unfold toW; rw [fl_ins ht hl (hx _ hm hb)]]

theorem step_ins (hx : ∀ l ∈ ls, brOp l.op = true → l.label ≠ x) : step (insA t (labL x) ls) (insA t false long) = insA t false (step ls long) := by
  have htl : t ≤ long.length := by omega
  have hts : t ≤ (step ls long).length := by rw [step_len]; omega
  apply getD_ext false
  · rw [step_len, insA_len htl, insA_len hts, step_len]
  · intro i hi
    rw [step_len, insA_len htl] at hi
    rw [step_get _ _ _ (by rw [insA_len htl]; exact hi)]
    rcases Nat.lt_trichotomy i t with h | h | h
    · rw [insA_lt htl h, insA_lt hts h, need_ins_lt ht hl hx h, step_get _ _ _ (by omega)]
    · subst h
      rw [insA_at htl, insA_at hts]
      unfold need
      rw [insA_at ht]
      rfl
    · obtain ⟨j, rfl⟩ : ∃ j, i = j + 1 := ⟨i - 1, by omega⟩
      rw [insA_gt htl (by omega), insA_gt hts (by omega), need_ins_gt ht hl hx (by omega) (by omega), step_get _ _ _ (by omega)]
end

theorem rounds_ins {ls : List Line} {t : Nat} {x : Int} (ht : t ≤ ls.length) (hx : ∀ l ∈ ls, brOp l.op = true → l.label ≠ x) : ∀ (m : Nat) (long : List Bool) (r : Nat), long.count false = m → long.length = ls.length →
    rounds (insA t (labL x) ls) (insA t false long) r = (insA t false (rounds ls long r).1, (rounds ls long r).2) ∧ (rounds ls long r).1.length = ls.length := by
  intro m
  induction m using Nat.strongRecOn with
  | ind m ih =>
    intro long r hm hl
    have hs := step_ins (x := x) ht hl hx
    rw [rounds.eq_1 (insA t (labL x) ls) (insA t false long) r, rounds.eq_1 ls long r]
    by_cases h : step ls long = long
    · rw [dif_pos h, dif_pos (by rw [hs, h])]
      exact ⟨rfl, hl⟩
    · rw [dif_neg h, dif_neg (fun e => h (insA_inj (by rw [step_len]) (hs.symm.trans e))), hs]
      exact ih _ (by rw [← hm]; exact step_lt ls long h) _ _ rfl (by rw [step_len]; exact hl)

theorem fin_ins {ls : List Line} {t : Nat} {x : Int} (ht : t ≤ ls.length) (hx : ∀ l ∈ ls, brOp l.op = true → l.label ≠ x) :
    fin (insA t (labL x) ls) = (insA t false (fin ls).1, (fin ls).2) ∧ (fin ls).1.length = ls.length := by
  unfold fin
  rw [insA_len ht, insA_rep ls.length t ht]
  exact rounds_ins ht hx _ _ 0 rfl (by simp)

theorem lineW_congr {f g : Int → Option Int} {lg : Bool} {p : Int} {l : Line} (h : ∀ y ∈ targets l, f y = g y) : lineW f lg p l = lineW g lg p l := by
  unfold lineW
  by_cases hg : goOp l.op = true
  · have hx : toW f l.label = toW g l.label := by
      unfold toW
      rw [h l.label (by unfold targets; rw [if_pos hg]; exact List.mem_singleton.2 rfl)]
    rw [hx]
    have h42 : l.op ≠ 42 := by
      intro e
      rw [e] at hg
      exact absurd hg (by decide)
    rw [if_neg h42, if_neg h42]
  · by_cases h0 : l.op = 0
    · rw [if_pos h0, if_pos h0]
    rw [if_neg h0, if_neg h0]
    have hb : ¬ brOp l.op = true := fun e => hg (brOp_go e)
    have hb2 : ¬ (brOp l.op = true ∧ lg = false) := fun e => hb e.1
    rw [if_neg hb2, if_neg hb2, if_neg hb, if_neg hb, if_neg hg, if_neg hg]
    have hm : l.list.map (toW f) = l.list.map (toW g) := by
      apply List.map_congr_left
      intro y hy
      unfold toW
      rw [h y (by unfold targets; rw [if_neg hg]; exact hy)]
    rw [hm]

section
variable {ls : List Line} {t : Nat} {x : Int} {long : List Bool} (ht : t ≤ ls.length) (hl : long.length = ls.length) (hx : ∀ l ∈ ls, ∀ y ∈ targets l, y ≠ x)
include ht hl hx

theorem line_ins {lg : Bool} {p : Int} {i : Nat} (hi : i < ls.length) : lineW (fl (insA t (labL x) ls) (insA t false long)) lg p (ls.getD i default) = lineW (fl ls long) lg p (ls.getD i default) :=
  lineW_congr fun y hy => fl_ins ht hl (hx _ (by rw [List.getD_eq_getElem?_getD, List.getElem?_eq_getElem hi]; exact List.getElem_mem _) y hy)

theorem words_ins_le : ∀ i, i ≤ t → wordsOf (insA t (labL x) ls) (insA t false long) i = wordsOf ls long i
  | 0, _ => rfl
  | i + 1, h => by
    rw [wordsOf_succ, wordsOf_succ, words_ins_le i (by omega), insA_lt ht (by omega), insA_lt (by omega) (by omega), pl_ins_le ht hl i (by omega), line_ins ht hl hx (by omega)]

theorem words_ins_gt : ∀ i, t ≤ i → i ≤ ls.length → wordsOf (insA t (labL x) ls) (insA t false long) (i + 1) = wordsOf ls long i := by
  have h0 : ∀ f lg p, lineW f lg p (labL x) = [] := fun f lg p => by unfold lineW; rw [if_pos (show (labL x).op = 0 from rfl)]
  intro i
  induction i with
  | zero =>
    intro h _
    obtain rfl : t = 0 := by omega
    rw [wordsOf_succ, insA_at ht, h0]
    rfl
  | succ i ih =>
    intro h hi
    by_cases e : t = i + 1
    · subst e
      rw [wordsOf_succ, insA_at ht, h0, List.append_nil]
      exact words_ins_le ht hl hx _ (Nat.le_refl _)
    · rw [wordsOf_succ, wordsOf_succ ls, ih (by omega) (by omega), insA_gt ht (by omega), insA_gt (by omega) (by omega), pl_ins_gt ht hl i (by omega), line_ins ht hl hx (by omega)]

end

section
variable {ls : List Line} {t : Nat} {x : Int} {long : List Bool} (ht : t ≤ ls.length) (hl : long.length = ls.length)
include ht hl

theorem kinds_ins_le : ∀ i, i ≤ t → kindsOf (insA t (labL x) ls) (insA t false long) i = kindsOf ls long i
  | 0, _ => rfl
  | i + 1, h => by
    rw [kindsOf_succ, kindsOf_succ, kinds_ins_le i (by omega), insA_lt ht (by omega), insA_lt (by omega) (by omega)]

theorem kinds_ins_gt : ∀ i, t ≤ i → i ≤ ls.length → kindsOf (insA t (labL x) ls) (insA t false long) (i + 1) = kindsOf ls long i := by
  have h0 : ∀ lg, lineK lg (labL x) = [] := fun lg => by unfold lineK; rw [if_pos (show (labL x).op = 0 from rfl)]
  intro i
  induction i with
  | zero =>
    intro h _
    obtain rfl : t = 0 := by omega
    rw [kindsOf_succ, insA_at ht, h0]
    rfl
  | succ i ih =>
    intro h hi
    by_cases e : t = i + 1
    · subst e
      rw [kindsOf_succ, insA_at ht, h0, List.append_nil]
      exact kinds_ins_le ht hl _ (Nat.le_refl _)
    · rw [kindsOf_succ, kindsOf_succ ls, ih (by omega) (by omega), insA_gt ht (by omega), insA_gt (by omega) (by omega)]
end

theorem labs_append (a b : List Line) : labs (a ++ b) = labs a ++ labs b := by unfold labs; rw [List.filter_append, List.map_append]

theorem labs_ins (ls : List Line) (t : Nat) (x : Int) : List.Perm (labs (insA t (labL x) ls)) (x :: labs ls) := by
  have e : labs (insA t (labL x) ls) = labs (ls.take t) ++ x :: labs (ls.drop t) := by
    unfold insA
    rw [labs_append, labs_append, List.append_assoc]
    rfl
  have e2 : labs ls = labs (ls.take t) ++ labs (ls.drop t) := by rw [← labs_append, List.take_append_drop]
  rw [e, e2]
  exact List.perm_middle

theorem mem_ins {α : Type} {t : Nat} {a y : α} {l : List α} : y ∈ insA t a l ↔ y = a ∨ y ∈ l := by
  unfold insA
  rw [List.mem_append, List.mem_append, List.mem_singleton]
  constructor
  · rintro ((h | h) | h)
    · exact .inr (List.mem_of_mem_take h)
    · exact .inl h
    · exact .inr (List.mem_of_mem_drop h)
  · rintro (h | h)
    · exact .inl (.inr h)
    · rw [← List.take_append_drop t l, List.mem_append] at h
      rcases h with h | h
      · exact .inl (.inl h)
      · exact .inr h

theorem asm_insert {ls : List Line} {t : Nat} {x : Int} (h : (asm ls).err = 0) (ht : t ≤ ls.length) (hn : ls.length < 60000) (hx : x ∉ labs ls) (h0 : 0 ≤ x) (h1 : x ≤ 100000) :
    (asm (insA t (labL x) ls)).err = 0 ∧ (asm (insA t (labL x) ls)).line = 0 ∧ (asm (insA t (labL x) ls)).words = (asm ls).words ∧ (asm (insA t (labL x) ls)).kinds = (asm ls).kinds ∧ (asm (insA t (labL x) ls)).rounds = (asm ls).rounds ∧
    (asm (insA t (labL x) ls)).places.length = (insA t (labL x) ls).length := by
  obtain ⟨T, hp, e⟩ := asm_ok' h
  have hy : ∀ l ∈ ls, ∀ y ∈ targets l, y ≠ x := fun l hl y hyt e => hx (e ▸ T.goal l hl y hyt)
  have hb : ∀ l ∈ ls, brOp l.op = true → l.label ≠ x := fun l hl hbr => hy l hl _ (by unfold targets; rw [if_pos (brOp_go hbr)]; exact List.mem_singleton.2 rfl)
  obtain ⟨hf, hfl⟩ := fin_ins (x := x) ht hb
  have hperm := labs_ins ls t x
  have T' : Takes (insA t (labL x) ls) := {
    small := by rw [insA_len ht]; omega
    fits := fun l hl => by
      rcases mem_ins.1 hl with rfl | hl
      · exact ⟨Int.le_refl _, (show (0 : Int) ≤ 48 by decide), fits_lab x ⟨h0, h1⟩⟩
      · exact T.fits l hl
    nodup := hperm.nodup_iff.2 (List.nodup_cons.2 ⟨hx, T.nodup⟩)
    goal := fun l hl y hyt => by
      rcases mem_ins.1 hl with rfl | hl
      · exact absurd hyt (by unfold targets; rw [if_neg (show ¬ goOp (labL x).op = true from (show ¬ goOp 0 = true by decide))]; exact List.not_mem_nil)
      · exact hperm.mem_iff.2 (List.mem_cons_of_mem _ (T.goal l hl y hyt)) }
  have hpl : pl (insA t (labL x) ls) (fin (insA t (labL x) ls)).1 (insA t (labL x) ls).length = pl ls (fin ls).1 ls.length := by
    rw [hf, insA_len ht]
    exact pl_ins_gt ht hfl _ ht
  rw [asm_mk T' (by rw [hpl]; exact hp), e]
  refine ⟨rfl, rfl, ?_, ?_, by rw [hf], by simp⟩
  · show wordsOf _ _ _ = wordsOf _ _ _
    rw [hf, insA_len ht]
    exact words_ins_gt ht hfl hy _ ht (Nat.le_refl _)
  · show kindsOf _ _ _ = kindsOf _ _ _
    rw [hf, insA_len ht]
    exact kinds_ins_gt ht hfl _ ht (Nat.le_refl _)

theorem line_lens (f : Int → Option Int) (lg : Bool) (p : Int) (l : Line) : (lineW f lg p l).length = (lineK lg l).length := by
  unfold lineW lineK
  repeat' split
  all_goals simp

theorem words_kinds (ls : List Line) (long : List Bool) : ∀ k, (wordsOf ls long k).length = (kindsOf ls long k).length
  | 0 => rfl
  | k + 1 => by rw [wordsOf_succ, kindsOf_succ, List.length_append, List.length_append, words_kinds ls long k, line_lens]

end Go.Proofs.YtamimnaafiphcaaDoor
