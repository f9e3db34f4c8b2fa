/- The law LexNumbers, plainly; its contract. -/
import Derived.Test.YtjoboaaambdpoaaDoorPuLGl
import Derived.Test.YtjoboaaambdpoaaDoorPR01x75
set_option linter.unusedVariables false
set_option linter.unusedSimpArgs false
namespace Go.Proofs.YtjoboaaambdpoaaDoor.PR01
open Go.RowKit Go.Proofs.YtjoboaaambdpoaaDoorW.PrintWords Go.Proofs.YtjoboaaambdpoaaDoorW.PrintLast Go.Proofs.YtjoboaaambdpoaaDoorW.PrintMore

theorem data_len' (s : ByteArray) : s.data.toList.length = s.size := Array.length_toList

abbrev dgB : ByteArray := ⟨#[48, 49, 50, 51, 52, 53, 54, 55, 56, 57, 97, 98, 99, 100, 101, 102]⟩
def dg (d : Nat) : UInt8 := UInt8.ofNat (if d < 10 then 48 + d else 87 + d)

theorem dg_bt : ∀ d : Nat, d < 16 → Go.Proofs.YtjoboaaambdpoaaDoorW.PrintWords.bt dgB (d : Int) = ((dg d).toNat : Int) := by decide
theorem dg_val : ∀ d : Nat, d < 16 → digV (dg d).toNat = d := by decide
theorem dg_run : ∀ d : Nat, d < 16 → (isL ((dg d).toNat : Int) = true ∨ isD ((dg d).toNat : Int) = true) := by decide
theorem dg_dec : ∀ d : Nat, d < 10 → isL ((dg d).toNat : Int) = false ∧ isD ((dg d).toNat : Int) = true := by decide
theorem dg_ne : ∀ d : Nat, d < 16 → dg d ≠ 117 ∧ dg d ≠ 85 ∧ dg d ≠ 95 ∧ dg d ≠ 120 ∧ dg d ≠ 88 := by decide
theorem dg_zero : ∀ d : Nat, d < 16 → dg d = 48 → d = 0 := by decide

theorem dg_str (d : Nat) (h : d < 16) : (strOfNums [Go.Proofs.YtjoboaaambdpoaaDoorW.PrintWords.bt dgB (d : Int)]).data.toList = [dg d] := by
  rw [strOfNums_data, dg_bt d h]
  show [UInt8.ofNat ((dg d).toNat : Int).toNat] = _
  rw [Int.toNat_natCast, UInt8.ofNat_toNat]

/-- Digits that spell a number in a base. -/
structure Good (b N : Nat) (S : List UInt8) : Prop where
  val : parseU b 0 S = .ok N
  dig : ∀ c ∈ S, ∃ d, d < b ∧ c = dg d
  head : ∃ d S', S = dg d :: S' ∧ d < b ∧ (d = 0 → N = 0 ∧ S' = [])
  len : S.length ≤ 40

section
variable (b : Nat) (hb : b = 8 ∨ b = 10 ∨ b = 16) (N : Nat) (hN : N ≤ 4294967295)
include hb hN

omit hN in
theorem parse_step (n : Nat) (S : List UInt8) (hn : n ≤ 4294967295) : parseU b (n / b) (dg (n % b) :: S) = parseU b n S := by
  have hlt : n % b < b := Nat.mod_lt _ (by omega)
  rw [parseU, dg_val _ (by omega), if_neg (by omega)]
  have : n / b * b + n % b = n := by rw [Nat.mul_comm]; exact Nat.div_add_mod n b
  rw [this, if_neg (by omega)]

omit hN in
theorem based_ev : ∀ (m n : Nat) (x : ByteArray) (S' : List UInt8), n ≤ m → n ≤ 4294967295 → x.data.toList = dg (n % b) :: S' → parseU b (n / b) x.data.toList = .ok N → (∀ c ∈ x.data.toList, ∃ d, d < b ∧ c = dg d) → (1 ≤ n ∨ (N = 0 ∧ S' = [])) → n * 2 ^ x.size ≤ 2 ^ 33 → x.size ≤ 34 →
    ∃ r, Ev (fun k => switchbacklaw01_based.l0 k (n : Int) (b : Int) dgB x) r ∧ Good b N r.data.toList := by
  intro m
  induction m with
  | zero =>
    intro n x S' hm hn hx hv hd h1 h2 h3
    refine ⟨x, Ev.step (f := fun _ => some x) (fun k => ?_) (Ev.now _), ?_⟩
    · simp only [switchbacklaw01_based.l0]
      rw [if_neg (by omega)]
    · have hn0 : n = 0 := by omega
      subst hn0
      have hz : x.data.toList.length = x.size := data_len' x
      exact ⟨by rw [Nat.zero_div] at hv; exact hv, hd, ⟨0 % b, S', hx, Nat.mod_lt _ (by omega), fun _ => by
        rcases h1 with h | h
        · omega
        · exact h⟩, by omega⟩
  | succ m ih =>
    intro n x S' hm hn hx hv hd h1 h2 h3
    by_cases hnb : n < b
    · refine ⟨x, Ev.step (f := fun _ => some x) (fun k => ?_) (Ev.now _), ?_⟩
      · simp only [switchbacklaw01_based.l0]
        rw [if_neg (by omega)]
      · have hz : x.data.toList.length = x.size := data_len' x
        refine ⟨by rw [Nat.div_eq_of_lt hnb] at hv; exact hv, hd, ⟨n % b, S', hx, Nat.mod_lt _ (by omega), fun h0 => ?_⟩, by omega⟩
        rw [Nat.mod_eq_of_lt hnb] at h0
        rcases h1 with h | h
        · omega
        · exact h
    · have hdiv : n / b ≤ n / 2 := Nat.div_le_div_left (by omega) (by decide)
      have hpos : 1 ≤ n / b := (Nat.one_le_div_iff (by omega)).2 (by omega)
      have hlt : n / b % b < b := Nat.mod_lt _ (by omega)
      obtain ⟨y, hy⟩ : ∃ y, y = strOfNums [Go.Proofs.YtjoboaaambdpoaaDoorW.PrintWords.bt dgB ((n / b % b : Nat) : Int)] ++ x := ⟨_, rfl⟩
      have hyd : y.data.toList = dg (n / b % b) :: x.data.toList := by
        rw [hy, ByteArray.data_append, Array.toList_append, dg_str _ (by omega)]
        rfl
      have hys : y.size = x.size + 1 := by
        have := congrArg List.length hyd
        rw [data_len', List.length_cons, data_len'] at this
        exact this
      have hx34 : x.size ≤ 33 := by
        apply Classical.byContradiction
        intro hc
        have : 2 ^ 34 ≤ 2 ^ x.size := Nat.pow_le_pow_right (by decide) (by omega)
        have h5 : 2 ^ x.size ≤ n * 2 ^ x.size := Nat.le_mul_of_pos_left _ (by omega)
        omega
      obtain ⟨r, hr, hg⟩ := ih (n / b) y x.data.toList (by omega) (by omega) hyd (by rw [hyd, parse_step b hb _ _ (by omega)]; exact hv) (by
        intro c hc
        rw [hyd] at hc
        rcases List.mem_cons.1 hc with rfl | hc
        · exact ⟨_, hlt, rfl⟩
        · exact hd c hc) (.inl hpos) (by
        rw [hys, Nat.pow_succ, Nat.mul_comm (2 ^ x.size) 2, ← Nat.mul_assoc]
        refine Nat.le_trans (Nat.mul_le_mul_right _ ?_) h2
        have := Nat.div_mul_le_self n 2
        have := Nat.mul_le_mul_right 2 hdiv
        omega) (by omega)
      refine ⟨r, Ev.step (fun k => ?_) hr, hg⟩
      have ht : Int.tdiv (n : Int) (b : Int) % 4294967296 = ((n / b : Nat) : Int) := by
        rw [Int.tdiv_eq_ediv_of_nonneg (Int.natCast_nonneg _), ← Int.natCast_ediv]
        omega
      have ht2 : ((n / b : Nat) : Int) % (b : Int) = ((n / b % b : Nat) : Int) := rfl
      simp only [switchbacklaw01_based.l0, ht, ht2, Option.bind_some]
      rw [if_pos (by omega), if_neg (by omega), if_pos (Int.natCast_nonneg _), if_pos (by show ((n / b % b : Nat) : Int) < 16; omega), if_pos (by rw [strOfNums_size]; simp only [List.length_singleton]; omega), ← hy]

theorem based_f : ∃ r, Ev (fun k => switchbacklaw01_based.f k (N : Int) (b : Int)) r ∧ Good b N r.data.toList := by
  have hlt : N % b < b := Nat.mod_lt _ (by omega)
  obtain ⟨y, hy⟩ : ∃ y, y = strOfNums [Go.Proofs.YtjoboaaambdpoaaDoorW.PrintWords.bt dgB ((N % b : Nat) : Int)] := ⟨_, rfl⟩
  have hyd : y.data.toList = [dg (N % b)] := by rw [hy]; exact dg_str _ (by omega)
  have hys : y.size = 1 := by rw [hy, strOfNums_size]; rfl
  obtain ⟨r, hr, hg⟩ := based_ev b hb N N N y [] (Nat.le_refl _) hN hyd (by rw [hyd, parse_step b hb _ _ hN]; rfl) (by
    intro c hc
    rw [hyd] at hc
    obtain rfl := List.mem_singleton.1 hc
    exact ⟨_, hlt, rfl⟩) (by
    rcases Nat.eq_zero_or_pos N with h | h
    · exact .inr ⟨h, rfl⟩
    · exact .inl h) (by rw [hys]; omega) (by omega)
  refine ⟨r, Ev.congr (fun k => ?_) hr, hg⟩
  unfold switchbacklaw01_based.f
  have ht : Int.tmod (N : Int) (b : Int) = ((N % b : Nat) : Int) := rfl
  rw [ht, if_neg (by omega), if_pos (Int.natCast_nonneg _), if_pos (by omega), ← hy]
end

theorem trim_no (S : List UInt8) (c : UInt8) (h : c ∉ S) : Lib.trimSuffix S [c] = S := by
  unfold Lib.trimSuffix Lib.hasSuffix
  rw [if_neg]
  intro hs
  have := List.isSuffixOf_iff_suffix.1 hs
  exact h (this.subset (List.mem_singleton.2 rfl))

theorem trim_yes (S : List UInt8) (c : UInt8) : Lib.trimSuffix (S ++ [c]) [c] = S := by
  unfold Lib.trimSuffix Lib.hasSuffix
  rw [if_pos (List.isSuffixOf_iff_suffix.2 (List.suffix_append S [c]))]
  simp

theorem digits_no (S : List UInt8) (h1 : 117 ∉ S) (h2 : 85 ∉ S) : digitsOf S = S := by
  unfold digitsOf
  rw [trim_no S 117 h1, trim_no S 85 h2]

theorem digits_u (S : List UInt8) (h2 : 85 ∉ S) : digitsOf (S ++ [117]) = S := by
  unfold digitsOf
  rw [trim_yes, trim_no S 85 h2]

/-- A text that is one number. -/
structure One (N : Nat) (S : List UInt8) : Prop where
  u : 117 ∉ S
  U : 85 ∉ S
  len : S.length ≤ 100
  run : ∀ c ∈ S, isL (c.toNat : Int) = true ∨ isD (c.toNat : Int) = true
  head : isL (gt S 0) = false ∧ isD (gt S 0) = true
  low : 95 ∉ (baseOf S).2
  val : puOf (baseOf S).1 (baseOf S).2 = .ok N

theorem contains_no (D : List UInt8) (h : 95 ∉ D) : ¬ Lib.contains D [95] = true := by
  unfold Lib.contains
  rw [Lib.index_one, indexByte_not 95 D h]
  decide

theorem One.num {N : Nat} {S : List UInt8} (h : One N S) : numP S = ((N : Int), decide (2147483647 < (N : Int)), true) := by
  unfold numP
  rw [digits_no S h.u h.U, if_neg (by omega), if_neg (contains_no _ h.low), h.val, decide_eq_false (Nat.lt_irrefl _), Bool.false_or]
  rfl

theorem One.numU {N : Nat} {S : List UInt8} (h : One N S) : numP (S ++ [117]) = ((N : Int), true, true) := by
  unfold numP
  rw [digits_u S h.U, List.length_append, List.length_singleton, if_neg (by omega), if_neg (contains_no _ h.low), h.val, decide_eq_true (Nat.lt_succ_self _), Bool.true_or]
  rfl

theorem one_lex (s : ByteArray) (v : Int) (u : Bool) (hl : s.size ≤ 200) (hrun : ∀ c ∈ s.data.toList, isL (c.toNat : Int) = true ∨ isD (c.toNat : Int) = true) (hh : isL (gt s.data.toList 0) = false ∧ isD (gt s.data.toList 0) = true) (hn : numP s.data.toList = (v, u, true)) :
    Ev (fun k => switchbacklaw01_one.f k s) (v, u, true) := by
  have hlen : s.data.toList.length = s.size := data_len' s
  generalize hL : s.data.toList = L at hrun hh hn hlen
  have hne : L ≠ [] := by rintro rfl; exact absurd hh.2 (by decide)
  have hr : runL L = L.length := runL_is L _ (Nat.le_refl _) (fun i hi => by
    have := hrun L[i] (List.getElem_mem hi)
    unfold gt
    rw [List.getD_eq_getElem?_getD, List.getElem?_eq_getElem hi]
    exact this) (by rw [gt_out L _ (Nat.le_refl _)]; decide)
  have hd48 : 48 ≤ gt L 0 ∧ gt L 0 ≤ 57 := by have := hh.2; simp [isD] at this; exact this
  have hst : stepL L = .tok L.length ⟨2, [], v, u⟩ := by
    rw [stepL_of hne (by simp [blank]; omega) (by omega) (by omega)]
    unfold tokL
    rw [if_neg (by rw [hh.1]; decide), if_pos hh.2, hr, List.take_length, hn, if_pos rfl]
  have hraw : raw L = ([(L.length, ⟨2, [], v, u⟩)], 0, 0) := by
    rw [raw_tok hst, List.drop_length]
    rfl
  have hlex : lexR s = ([tokS s.size (L.length, ⟨2, [], v, u⟩), endS s.size], 0, 0) := lexR_end (src := s) (acc := [(L.length, ⟨2, [], v, u⟩)]) (x := 0) (by omega) (by show 1 ≤ 3999; decide) (by rw [hL, hraw])
  refine Ev.congr (f := fun k => switchbacklaw01_one.j0 k (lexR s).1 false) (fun k => ?_) (Ev.step (f := fun _ => some (v, u, true)) (fun k => ?_) (Ev.now _))
  · unfold switchbacklaw01_one.f lex_Lex.f
    simp only [Option.bind_some, hlex]
    rfl
  · simp only [switchbacklaw01_one.j0, hlex]
    rfl

theorem one_f {N : Nat} {s : ByteArray} (h : One N s.data.toList) : Ev (fun k => switchbacklaw01_one.f k s) ((N : Int), decide (2147483647 < (N : Int)), true) :=
  one_lex s _ _ (by have := h.len; rw [data_len'] at this; omega) h.run h.head h.num

theorem one_u {N : Nat} {s : ByteArray} (h : One N s.data.toList) : Ev (fun k => switchbacklaw01_one.f k (s ++ (⟨#[117]⟩ : ByteArray))) ((N : Int), true, true) := by
  have hd : (s ++ (⟨#[117]⟩ : ByteArray)).data.toList = s.data.toList ++ [117] := by rw [ByteArray.data_append, Array.toList_append]
  have hlen := h.len
  rw [data_len'] at hlen
  have hg : gt (s.data.toList ++ [117]) 0 = gt s.data.toList 0 := by
    cases hs : s.data.toList with
    | nil => have := h.head.2; rw [hs] at this; exact absurd this (by decide)
    | cons c r => rfl
  refine one_lex _ _ _ (by rw [ByteArray.size_append]; show s.size + 1 ≤ 200; omega) (fun c hc => ?_) (by rw [hd, hg]; exact h.head) (by rw [hd]; exact h.numU)
  rw [hd, List.mem_append, List.mem_singleton] at hc
  rcases hc with hc | rfl
  · exact h.run c hc
  · exact .inl (by decide)

theorem pu_of {b N : Nat} {S : List UInt8} (h : parseU b 0 S = .ok N) (hne : S ≠ []) : puOf b S = .ok N := by
  unfold puOf
  rw [if_neg hne, h]

theorem Good.ne {b N : Nat} {S : List UInt8} (h : Good b N S) (hb : b ≤ 16) : 117 ∉ S ∧ 85 ∉ S ∧ 95 ∉ S ∧ 120 ∉ S ∧ 88 ∉ S := by
  refine ⟨fun hc => ?_, fun hc => ?_, fun hc => ?_, fun hc => ?_, fun hc => ?_⟩ <;> obtain ⟨d, hd, e⟩ := h.dig _ hc
  · exact (dg_ne d (by omega)).1 e.symm
  · exact (dg_ne d (by omega)).2.1 e.symm
  · exact (dg_ne d (by omega)).2.2.1 e.symm
  · exact (dg_ne d (by omega)).2.2.2.1 e.symm
  · exact (dg_ne d (by omega)).2.2.2.2 e.symm

theorem pre2 (c d : UInt8) (S : List UInt8) (h : d ∉ S) : ¬ Lib.hasPrefix S [c, d] = true := by
  unfold Lib.hasPrefix
  intro hp
  have := List.isPrefixOf_iff_prefix.1 hp
  exact h (this.subset (by simp))

theorem form1 {N : Nat} {S : List UInt8} (h : Good 10 N S) : One N S := by
  obtain ⟨n1, n2, n3, n4, n5⟩ := h.ne (by decide)
  obtain ⟨d, S', e, hd, h0⟩ := h.head
  have hb : (baseOf S = (10, S)) ∨ (N = 0 ∧ S = [48] ∧ baseOf S = (8, S)) := by
    unfold baseOf
    rw [if_neg (by rintro (hp | hp); exact pre2 _ _ S n4 hp; exact pre2 _ _ S n5 hp)]
    by_cases hp : Lib.hasPrefix S [48] = true
    · rw [if_pos hp]
      right
      have h48 : dg d = 48 := by
        rw [e] at hp
        unfold Lib.hasPrefix at hp
        have := List.isPrefixOf_iff_prefix.1 hp
        obtain ⟨t, ht⟩ := this
        have := congrArg List.head? ht
        simp at this
        exact this.symm
      obtain ⟨hN0, hS0⟩ := h0 (dg_zero d (by omega) h48)
      exact ⟨hN0, by rw [e, hS0, h48], rfl⟩
    · rw [if_neg hp]
      exact .inl rfl
  have hne : S ≠ [] := by rw [e]; simp
  refine ⟨n1, n2, by have := h.len; omega, fun c hc => ?_, ?_, ?_, ?_⟩
  · obtain ⟨x, hx, rfl⟩ := h.dig c hc
    exact dg_run x (by omega)
  · rw [e]
    exact dg_dec d hd
  · rcases hb with hb | ⟨-, -, hb⟩ <;> rw [hb] <;> exact n3
  · rcases hb with hb | ⟨hN0, hS, hb⟩
    · rw [hb]
      exact pu_of h.val hne
    · rw [hb, hS, hN0]
      rfl

theorem form2 {N : Nat} {S : List UInt8} (h : Good 16 N S) : One N (48 :: 120 :: S) := by
  obtain ⟨n1, n2, n3, n4, n5⟩ := h.ne (by decide)
  obtain ⟨d, S', e, hd, h0⟩ := h.head
  have hb : baseOf (48 :: 120 :: S) = (16, S) := by
    unfold baseOf
    rw [if_pos (.inl (by simp [Lib.hasPrefix, List.isPrefixOf]))]
    rfl
  have hne : S ≠ [] := by rw [e]; simp
  refine ⟨by simp [n1], by simp [n2], by have := h.len; simp only [List.length_cons]; omega, fun c hc => ?_, ⟨show isL 48 = false by decide, show isD 48 = true by decide⟩, by rw [hb]; exact n3, by rw [hb]; exact pu_of h.val hne⟩
  rcases List.mem_cons.1 hc with rfl | hc
  · exact .inr (by decide)
  rcases List.mem_cons.1 hc with rfl | hc
  · exact .inl (by decide)
  obtain ⟨x, hx, rfl⟩ := h.dig c hc
  exact dg_run x (by omega)

theorem form3 {N : Nat} {S : List UInt8} (h : Good 8 N S) : One N (48 :: S) := by
  obtain ⟨n1, n2, n3, n4, n5⟩ := h.ne (by decide)
  obtain ⟨d, S', e, hd, h0⟩ := h.head
  have hb : baseOf (48 :: S) = (8, 48 :: S) := by
    unfold baseOf
    rw [if_neg (by rintro (hp | hp); exact pre2 _ _ _ (by simp [n4]) hp; exact pre2 _ _ _ (by simp [n5]) hp), if_pos (by simp [Lib.hasPrefix, List.isPrefixOf])]
  refine ⟨by simp [n1], by simp [n2], by have := h.len; simp only [List.length_cons]; omega, fun c hc => ?_, ⟨show isL 48 = false by decide, show isD 48 = true by decide⟩, by rw [hb]; simp [n3], ?_⟩
  · rcases List.mem_cons.1 hc with rfl | hc
    · exact .inr (by decide)
    obtain ⟨x, hx, rfl⟩ := h.dig c hc
    exact dg_run x (by omega)
  · rw [hb]
    have hv : parseU 8 0 (48 :: S) = .ok N := by
      rw [parseU, if_neg (by decide), if_neg (by decide)]
      exact h.val
    exact pu_of hv (by simp)

section
variable (N : Nat) (forms : List ByteArray) (h3 : forms.length = 3) (hf : ∀ i, i < 3 → One N (forms.getD i ByteArray.empty).data.toList)
include h3 hf

theorem numbers_ev (d : Nat) : ∀ i : Nat, 3 - i = d → i ≤ 3 → Ev (fun k => switchbacklaw01_LexNumbers.l0 k (N : Int) forms i) true := by
  induction d with
  | zero =>
    intro i hd hi
    refine Ev.step (f := fun _ => some true) (fun k => ?_) (Ev.now _)
    simp only [switchbacklaw01_LexNumbers.l0, live_f]
    rw [if_neg (by omega)]
    rfl
  | succ d ih =>
    intro i hd hi
    have ho := hf i (by omega)
    have hlen := ho.len
    rw [data_len'] at hlen
    have hrd : rdOf ByteArray.empty forms (i : Int) = forms.getD i ByteArray.empty := by unfold rdOf; rw [Int.toNat_natCast]
    have hnext : Ev (fun k => switchbacklaw01_LexNumbers.j1 k (N : Int) forms i false) true := by
      refine Ev.step (f := fun k => switchbacklaw01_LexNumbers.l0 k (N : Int) forms ((i + 1 : Nat) : Int)) (fun k => ?_) (ih (i + 1) (by omega) (by omega))
      simp only [switchbacklaw01_LexNumbers.j1]
      rw [if_neg (by decide), wrap_i64 (x := (i : Int) + 1) (by omega) (by omega)]
      rfl
    refine Ev.step (f := fun k => (switchbacklaw01_one.f k (forms.getD i ByteArray.empty)).bind fun p => (switchbacklaw01_one.f k (forms.getD i ByteArray.empty ++ (⟨#[117]⟩ : ByteArray))).bind fun q => (if p.2.2 = true then (if q.2.2 = true then (if p.1 = (N : Int) then (if q.1 = (N : Int) then (if (p.2.1 != (decide ((N : Int) > 2147483647))) = true then (switchbacklaw01_LexNumbers.j1 k N forms i true) else (switchbacklaw01_LexNumbers.j1 k N forms i (!q.2.1))) else (switchbacklaw01_LexNumbers.j1 k N forms i true)) else (switchbacklaw01_LexNumbers.j1 k N forms i true)) else (switchbacklaw01_LexNumbers.j1 k N forms i true)) else (switchbacklaw01_LexNumbers.j1 k N forms i true))) (fun k => ?_) (Ev.bind (one_f ho) (Ev.bind (one_u ho) ?_))
    · simp only [switchbacklaw01_LexNumbers.l0, hrd]
      rw [if_pos (by omega), if_pos (by omega)]
      simp only [if_pos (show (forms.getD i ByteArray.empty).size + 1 ≤ 9223372036854775807 by omega)]
    · simp only [if_true]
      rw [show (decide (2147483647 < (N : Int)) != decide ((N : Int) > 2147483647)) = false by simp]
      exact hnext
end

theorem numbers_f (a0 : Int) (h0 : 0 ≤ a0) (h1 : a0 ≤ 4294967295) : Ev (fun k => switchbacklaw01_LexNumbers.f k a0) true := by
  obtain ⟨N, rfl⟩ : ∃ N : Nat, a0 = N := ⟨a0.toNat, (Int.toNat_of_nonneg h0).symm⟩
  obtain ⟨r1, e1, g1⟩ := based_f 10 (.inr (.inl rfl)) N (by omega)
  obtain ⟨r2, e2, g2⟩ := based_f 16 (.inr (.inr rfl)) N (by omega)
  obtain ⟨r3, e3, g3⟩ := based_f 8 (.inl rfl) N (by omega)
  have l2 := g2.len
  have l3 := g3.len
  rw [data_len'] at l2 l3
  have hall := numbers_ev N [r1, (⟨#[48, 120]⟩ : ByteArray) ++ r2, (⟨#[48]⟩ : ByteArray) ++ r3] rfl (fun i hi => by
    match i, hi with
    | 0, _ => exact form1 g1
    | 1, _ =>
      show One N ((⟨#[48, 120]⟩ : ByteArray) ++ r2).data.toList
      rw [ByteArray.data_append, Array.toList_append]
      exact form2 g2
    | 2, _ =>
      show One N ((⟨#[48]⟩ : ByteArray) ++ r3).data.toList
      rw [ByteArray.data_append, Array.toList_append]
      exact form3 g3) _ 0 rfl (by decide)
  have e1' : Ev (fun k => switchbacklaw01_based.f k (N : Int) 10) r1 := e1
  have e2' : Ev (fun k => switchbacklaw01_based.f k (N : Int) 16) r2 := e2
  have e3' : Ev (fun k => switchbacklaw01_based.f k (N : Int) 8) r3 := e3
  unfold switchbacklaw01_LexNumbers.f
  refine Ev.bind (f := fun k a => (switchbacklaw01_based.f k (N : Int) 16).bind fun t354 => (if 2 + t354.size ≤ 9223372036854775807 then ((switchbacklaw01_based.f k (N : Int) 8).bind fun t355 => (if 1 + t355.size ≤ 9223372036854775807 then (switchbacklaw01_LexNumbers.l0 k (N : Int) (([a, (⟨#[48, 120]⟩ : ByteArray) ++ t354, (⟨#[48]⟩ : ByteArray) ++ t355] : List ByteArray)) 0) else (none))) else (none))) e1' ?_
  refine Ev.bind (f := fun k b => (if 2 + b.size ≤ 9223372036854775807 then ((switchbacklaw01_based.f k (N : Int) 8).bind fun t355 => (if 1 + t355.size ≤ 9223372036854775807 then (switchbacklaw01_LexNumbers.l0 k (N : Int) (([r1, (⟨#[48, 120]⟩ : ByteArray) ++ b, (⟨#[48]⟩ : ByteArray) ++ t355] : List ByteArray)) 0) else (none))) else (none))) e2' ?_
  simp only [if_pos (show 2 + r2.size ≤ 9223372036854775807 by omega)]
  refine Ev.bind (f := fun k c => (if 1 + c.size ≤ 9223372036854775807 then (switchbacklaw01_LexNumbers.l0 k (N : Int) (([r1, (⟨#[48, 120]⟩ : ByteArray) ++ r2, (⟨#[48]⟩ : ByteArray) ++ c] : List ByteArray)) 0) else (none))) e3' ?_
  simp only [if_pos (show 1 + r3.size ≤ 9223372036854775807 by omega)]
  exact hall

theorem numbers_row (a0 : Int) (W : World) (hL : Laid W) (w0 : (Lit.int .u32 a0).wf = true) :
    Calls Tryd.prog 9 #[.int .u32 a0] W fun e W' => e = .returned (.bool true) ∧ Below W.heap.size W W' := by
  have hr : 0 ≤ a0 ∧ a0 ≤ 4294967295 := by
    have e1 : IntKind.u32.min = 0 := rfl
    have e2 : IntKind.u32.max = 4294967295 := rfl
    simp [Lit.wf, e1, e2] at w0
    omega
  obtain ⟨k, hk⟩ := (numbers_f a0 hr.1 hr.2).rounds
  exact switchbacklaw01_LexNumbers.calls k a0 true W (Aside0.mk hL) hk

end Go.Proofs.YtjoboaaambdpoaaDoor.PR01
