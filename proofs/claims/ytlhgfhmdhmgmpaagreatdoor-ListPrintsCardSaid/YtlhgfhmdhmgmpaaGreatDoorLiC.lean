/- strconv.FormatUint at base 10, list.written: walked. -/
import Derived.Test.YtlhgfhmdhmgmpaaGreatDoorLiB
import Derived.Lib.ItoaMem
import Derived.Maps.AppendAt
set_option linter.unusedVariables false
set_option linter.unusedSimpArgs false
namespace Go.Proofs.YtlhgfhmdhmgmpaaGreatDoor
open Go.RowKit Go.Proofs.YtlhgfhmdhmgmpaaGreatDoorW.PrintWords

theorem below_grow (w : World) (k : Nat) (os : Array Obj) : Below w.heap.size w (Go.Sort.grow (w.drewN k) os) := by
  have h : Below w.heap.size w (w.drewN k) := pw_below_drewN (Below.refl _ _) k
  exact h.trans ⟨rfl, rfl, rfl, by simp [Go.Sort.grow], fun i hi => by simp only [Go.Sort.grow]; rw [Array.getElem?_append_left (by simpa using hi)]⟩

theorem itoa_any (n : Int) (h0 : -9223372036854775808 ≤ n) (h1 : n ≤ 9223372036854775807) (w : World) (hL : LLaid w) :
    Calls Tryz.prog 33 #[.int .i64 n] w fun e w' => e = .returned (.string ⟨(Lib.itoa n).toArray⟩) ∧ Below w.heap.size w w' :=
  (Tryz.strconv_Itoa n h0 h1 w hL.pow).mono fun e w' ⟨he, k, os, hw⟩ => ⟨he, hw ▸ below_grow w k os⟩

theorem holds_zero0 (w : World) (T : TypeId) (nd : Nat) (hs : nd ≤ 24) : Go.Sort.Holds (fun (b : UInt8) => Value.int .u8 (b.toNat : Int)) (w.alloc (.cells Lib.zeros24 T)) w.heap.size 0 (Array.replicate nd (0 : UInt8)) := fun j hj => by
  have hj' : j < nd := by simpa using hj
  refine ⟨?_, World.frozen?_alloc_new _ _ _ _⟩
  rw [World.cell?_alloc_new, Lib.zeros24_at _ (by omega), getElem!_pos _ j hj]
  simp

theorem below_put (w : World) (o : Obj) (dk : Array UInt8) (k : Nat) : Below w.heap.size w ((Go.Sort.putRow (fun (b : UInt8) => Value.int .u8 (b.toNat : Int)) (w.alloc o) w.heap.size 0 dk).drewN k) := by
  rw [Go.Sort.alloc_eq_grow]
  obtain ⟨os', _, e⟩ := Go.Sort.putRow_grow_new (fun (b : UInt8) => Value.int .u8 (b.toNat : Int)) w #[o] w.heap.size 0 dk (Nat.le_refl _)
  rw [e]
  exact below_grow w k os'

set_option maxHeartbeats 4000000 in
set_option maxRecDepth 100000 in
theorem fmtU_in (u : Nat) (hu : u < 4294967296) (w : World) (hL : LLaid w) :
    Calls Tryz.prog 73 #[.int .u64 u, .int .i64 10] w fun e w' => e = .returned (.string ⟨(Lib.decDigits u).toArray⟩) ∧ Below w.heap.size w w' := by
  by_cases hs : u < 100
  · have hd : decide ((u : Int) < 100) = true := decide_eq_true (by omega)
    go_enter Tryz.func73, Tryz.ntmps73
    go_wp2_with (go_at_call 102; refine (Tryz.internal_strconv_small u hs _).mono ?_; rintro e w' ⟨rfl, rfl⟩)
    go_ret
    exact ⟨rfl, Below.refl _ _⟩
  · have hd : decide ((u : Int) < 100) = false := decide_eq_false (by omega)
    have hd2 : ¬ (u : Int) < 100 := by omega
    have hu1 : 1 ≤ u := by omega
    have hu64 : u < 18446744073709551616 := by omega
    have hnd20 : Lib.nDigits u ≤ 20 := by have := Lib.numDigits_eq u hu1 hu64; split at this <;> omega
    have hH0 := holds_zero0 w 148 (Lib.nDigits u) (by omega)
    have hfmt := Tryz.internal_strconv_formatBase10 w.heap.size 0 24 u (Array.replicate (Lib.nDigits u) 0) (w.alloc (.cells Lib.zeros24 148)) hH0 (by rw [Array.size_replicate]; exact Lib.lt_pow_nDigits u) hu64 (by rw [Array.size_replicate]; omega)
    rw [Array.size_replicate] at hfmt
    have HH0 := Lib.hid hH0
    have HL := Lib.hid hL
    have HF := Lib.hid hfmt
    clear hH0 hL hfmt
    have hn0 : (0 : Int) ≤ (Lib.nDigits u : Int) := by omega
    have hn1 : (Lib.nDigits u : Int) ≤ 24 := by omega
    go_enter Tryz.func73, Tryz.ntmps73
    go_wp2_with (go_at_call 103; refine (Tryz.internal_strconv_numDigits u hu1 hu64 _ (Lib.tabIs_alloc HL.out.pow _)).mono ?_; rintro e w' ⟨rfl, rfl⟩)
    refine HF.out.mono ?_
    rintro e w' ⟨rfl, k, v', dk, rfl, hF⟩
    have hcv : (convert 52 9 (.slice (some ⟨w.heap.size, 0, none⟩) (Lib.nDigits u) 24)).run Tryz.prog ((Go.Sort.putRow (fun (b : UInt8) => Value.int .u8 (b.toNat : Int)) (w.alloc (.cells Lib.zeros24 148)) w.heap.size 0 dk).drewN k) = .ok (.string ⟨(Lib.decDigits u).toArray⟩) ((Go.Sort.putRow (fun (b : UInt8) => Value.int .u8 (b.toNat : Int)) (w.alloc (.cells Lib.zeros24 148)) w.heap.size 0 dk).drewN k) := by
      have h := run_convert_bytes_back (P := Tryz.prog) ((Go.Sort.putRow (fun (b : UInt8) => Value.int .u8 (b.toNat : Int)) (w.alloc (.cells Lib.zeros24 148)) w.heap.size 0 dk).drewN k) 52 9 5 ⟨w.heap.size, 0, none⟩ 24 (Lib.decDigits u) Tryz.underlying52 Tryz.underlying5 Tryz.underlying9 (fun j hj => by
        rw [Lib.row_is_numeral hF j hj, Lib.add_plain, World.cell?_drewN]
        exact Go.Sort.cell?_putRow (fun (b : UInt8) => Value.int .u8 (b.toNat : Int)) _ w.heap.size 0 _ dk HH0.out (by rw [hF.size, Array.size_replicate]) j (by rw [hF.size]; rw [Lib.decDigits_length] at hj; exact hj))
      rw [Lib.decDigits_length] at h
      exact h
    go_wp2_with fail
    go_ret
    exact ⟨rfl, below_put w _ dk k⟩

theorem fmtU_any (n : Int) (h0 : 0 ≤ n) (h1 : n < 4294967296) (w : World) (hL : LLaid w) :
    Calls Tryz.prog 35 #[.int .u64 n, .int .i64 10] w fun e w' => e = .returned (.string ⟨(Lib.itoa n).toArray⟩) ∧ Below w.heap.size w w' := by
  obtain ⟨u, rfl⟩ : ∃ u : Nat, n = u := ⟨n.toNat, by omega⟩
  have HL := Lib.hid hL
  clear hL
  go_enter Tryz.func35, Tryz.ntmps35
  go_wp2_with (go_at_call 73; refine (fmtU_in u (by omega) _ HL.out).mono ?_; rintro e w' ⟨rfl, hb⟩)
  go_ret
  exact ⟨by rw [Lib.itoa_nonneg]; rfl, hb⟩

/-! ### rows of strings -/
theorem base_le_of {w : World} {B e size n : Nat} {v : Value} {xs : List Value} (h : w.ownsRow B e size v n xs) (b : Nat) (hb : v.ownBlock = some b) : B ≤ b := by
  rcases h.2 with ⟨rfl, _⟩ | ⟨g, cap, cur, rfl, hg0, _⟩
  · cases hb
  · simp only [Value.ownBlock, Option.some.injEq] at hb; omega

abbrev OwnS (w : World) (B : Nat) (v : Value) (xs : List ByteArray) : Prop := w.ownsRow B 9 1 v xs.length (xs.map Value.string)

theorem OwnS.nil (w : World) (B : Nat) : OwnS w B (.slice none 0 0) [] := ⟨rfl, .inl ⟨rfl, rfl⟩⟩

theorem OwnS.open_ {w : World} {B : Nat} {v : Value} {xs : List ByteArray} (h : OwnS w B v xs) (hne : xs ≠ []) :
    ∃ g c, v = .slice (some ⟨g, 0, none⟩) xs.length c ∧ B ≤ g ∧ g < w.heap.size ∧ xs.length ≤ c ∧ ∀ j x, xs[j]? = some x → w.cell? ⟨g, 0 + j, none⟩ = some (.string x) := by
  rcases h.2 with ⟨_, h0⟩ | ⟨g, cap, cur, hv, hb, hg, hn, hm, hs, ht⟩
  · exact absurd (List.eq_nil_of_length_eq_zero h0) hne
  · have hlt : g < w.heap.size := by
      rcases Nat.lt_or_ge g w.heap.size with h' | h'
      · exact h'
      · rw [Array.getElem?_eq_none h'] at hg; cases hg
    refine ⟨g, cap, hv, hb, hlt, hn, fun j x hx => ?_⟩
    have h' : w.ownsRow B 9 1 (.slice (some ⟨g, 0, none⟩) xs.length cap) xs.length (xs.map Value.string) := hv ▸ h
    rw [Nat.zero_add, h'.cellAt j (by have := (List.getElem?_eq_some_iff.1 hx).1; omega)]
    simp [hx]

/-- append of one string onto an own row, at a plain list. -/
theorem as_list {w : World} {ops : Array Oper} {rest : List Oper} {o : Oper} {a : Act} {Q : Exit → Act → World → Prop} (hgd : o.guard = none) (s x : Operand)
    (ho : o.op = .call { callee := .builtin .append, args := #[s, x], argTypes := #[63, 63] })
    (B : Nat) (v : Value) (xs : List ByteArray) (hs : a.eval s = v) (hown : OwnS w B v xs)
    (ad : Addr) (c : Nat) (y : ByteArray) (hx : a.eval x = .slice (some ad) 1 c) (hnew : w.cell? ad = some (.string y))
    (hle : xs.length + 1 ≤ 1000000000) (hB : B ≤ w.heap.size)
    (h : ∀ v' w', OwnS w' B v' (xs ++ [y]) → w.grownBy w' v.ownBlock → (v'.ownBlock = v.ownBlock ∨ v'.ownBlock = some w.heap.size) → wpList Tryz.prog ops Q rest (a.put o.dst v') w') :
    wpList Tryz.prog ops Q (o :: rest) a w := by
  obtain ⟨i, hi, hii⟩ := Option.map_eq_some_iff.1 (show (Tryz.prog.info? 9).map (fun i => (i.zero, i.size, i.bytes)) = some (some (.string ⟨#[]⟩), 1, 16) by kernel_rfl)
  simp only [Prod.mk.injEq] at hii
  obtain ⟨h1, h2, h3⟩ := hii
  refine wpList_append_own_at w hgd s x 63 ho B 9 i (.string ⟨#[]⟩) 1 16 Tryz.underlying63 hi h1 h2 h3 rfl (by decide) v xs.length _ hs hown ad 1 c [.string y] hx rfl (fun j u hu => ?_) (fun u hu => by simp at hu; subst hu; rfl) (by unfold maxLen; omega) (by omega) hB ?_
  · cases j with
    | zero => simp at hu; subst hu; simpa [Addr.add] using hnew
    | succ j => simp at hu
  · intro v' w' k1 k2 _ k4
    refine h v' w' ?_ k2 k4
    rw [OwnS, List.length_append, List.map_append]
    exact k1

theorem li_own_below {w w' : World} {B e size n : Nat} {v : Value} {xs : List Value} (h : w.ownsRow B e size v n xs) (hb : Below w.heap.size w w') : w'.ownsRow B e size v n xs := by
  refine ⟨h.1, ?_⟩
  rcases h.2 with h0 | ⟨g, cap, cur, hv, hg0, hg, rest⟩
  · exact .inl h0
  · have hlt : g < w.heap.size := by
      rcases Nat.lt_or_ge g w.heap.size with h' | h'
      · exact h'
      · rw [Array.getElem?_eq_none h'] at hg; cases hg
    exact .inr ⟨g, cap, cur, hv, hg0, (hb.block g hlt).trans hg, rest⟩

theorem OwnS.below {w w' : World} {B : Nat} {v : Value} {xs : List ByteArray} (h : OwnS w B v xs) (hb : Below w.heap.size w w') : OwnS w' B v xs := li_own_below h hb

/-! ### what kind a part is -/
theorem as_reg_reg (v : Value) (W : World) : (Instr.typeAssert (.iface 120 v) 20 120 true).run Tryz.prog W = .ok (.tuple #[v, .bool true]) W := by kernel_rfl
theorem as_reg_num (v : Value) (W : World) : (Instr.typeAssert (.iface 120 v) 20 121 true).run Tryz.prog W = .ok (.tuple #[.agg #[.pointer none], .bool false]) W := by kernel_rfl
theorem as_reg_word (v : Value) (W : World) : (Instr.typeAssert (.iface 120 v) 20 89 true).run Tryz.prog W = .ok (.tuple #[.agg #[.pointer none], .bool false]) W := by kernel_rfl
theorem as_reg_place (v : Value) (W : World) : (Instr.typeAssert (.iface 120 v) 20 92 true).run Tryz.prog W = .ok (.tuple #[.agg #[.pointer none], .bool false]) W := by kernel_rfl
theorem as_reg_places (v : Value) (W : World) : (Instr.typeAssert (.iface 120 v) 20 95 true).run Tryz.prog W = .ok (.tuple #[.agg #[.pointer none], .bool false]) W := by kernel_rfl
theorem as_num_reg (v : Value) (W : World) : (Instr.typeAssert (.iface 121 v) 20 120 true).run Tryz.prog W = .ok (.tuple #[.agg #[.pointer none], .bool false]) W := by kernel_rfl
theorem as_num_num (v : Value) (W : World) : (Instr.typeAssert (.iface 121 v) 20 121 true).run Tryz.prog W = .ok (.tuple #[v, .bool true]) W := by kernel_rfl
theorem as_num_word (v : Value) (W : World) : (Instr.typeAssert (.iface 121 v) 20 89 true).run Tryz.prog W = .ok (.tuple #[.agg #[.pointer none], .bool false]) W := by kernel_rfl
theorem as_num_place (v : Value) (W : World) : (Instr.typeAssert (.iface 121 v) 20 92 true).run Tryz.prog W = .ok (.tuple #[.agg #[.pointer none], .bool false]) W := by kernel_rfl
theorem as_num_places (v : Value) (W : World) : (Instr.typeAssert (.iface 121 v) 20 95 true).run Tryz.prog W = .ok (.tuple #[.agg #[.pointer none], .bool false]) W := by kernel_rfl
theorem as_word_reg (v : Value) (W : World) : (Instr.typeAssert (.iface 89 v) 20 120 true).run Tryz.prog W = .ok (.tuple #[.agg #[.pointer none], .bool false]) W := by kernel_rfl
theorem as_word_num (v : Value) (W : World) : (Instr.typeAssert (.iface 89 v) 20 121 true).run Tryz.prog W = .ok (.tuple #[.agg #[.pointer none], .bool false]) W := by kernel_rfl
theorem as_word_word (v : Value) (W : World) : (Instr.typeAssert (.iface 89 v) 20 89 true).run Tryz.prog W = .ok (.tuple #[v, .bool true]) W := by kernel_rfl
theorem as_word_place (v : Value) (W : World) : (Instr.typeAssert (.iface 89 v) 20 92 true).run Tryz.prog W = .ok (.tuple #[.agg #[.pointer none], .bool false]) W := by kernel_rfl
theorem as_word_places (v : Value) (W : World) : (Instr.typeAssert (.iface 89 v) 20 95 true).run Tryz.prog W = .ok (.tuple #[.agg #[.pointer none], .bool false]) W := by kernel_rfl
theorem as_place_reg (v : Value) (W : World) : (Instr.typeAssert (.iface 92 v) 20 120 true).run Tryz.prog W = .ok (.tuple #[.agg #[.pointer none], .bool false]) W := by kernel_rfl
theorem as_place_num (v : Value) (W : World) : (Instr.typeAssert (.iface 92 v) 20 121 true).run Tryz.prog W = .ok (.tuple #[.agg #[.pointer none], .bool false]) W := by kernel_rfl
theorem as_place_word (v : Value) (W : World) : (Instr.typeAssert (.iface 92 v) 20 89 true).run Tryz.prog W = .ok (.tuple #[.agg #[.pointer none], .bool false]) W := by kernel_rfl
theorem as_place_place (v : Value) (W : World) : (Instr.typeAssert (.iface 92 v) 20 92 true).run Tryz.prog W = .ok (.tuple #[v, .bool true]) W := by kernel_rfl
theorem as_place_places (v : Value) (W : World) : (Instr.typeAssert (.iface 92 v) 20 95 true).run Tryz.prog W = .ok (.tuple #[.agg #[.pointer none], .bool false]) W := by kernel_rfl
theorem as_places_reg (v : Value) (W : World) : (Instr.typeAssert (.iface 95 v) 20 120 true).run Tryz.prog W = .ok (.tuple #[.agg #[.pointer none], .bool false]) W := by kernel_rfl
theorem as_places_num (v : Value) (W : World) : (Instr.typeAssert (.iface 95 v) 20 121 true).run Tryz.prog W = .ok (.tuple #[.agg #[.pointer none], .bool false]) W := by kernel_rfl
theorem as_places_word (v : Value) (W : World) : (Instr.typeAssert (.iface 95 v) 20 89 true).run Tryz.prog W = .ok (.tuple #[.agg #[.pointer none], .bool false]) W := by kernel_rfl
theorem as_places_place (v : Value) (W : World) : (Instr.typeAssert (.iface 95 v) 20 92 true).run Tryz.prog W = .ok (.tuple #[.agg #[.pointer none], .bool false]) W := by kernel_rfl
theorem as_places_places (v : Value) (W : World) : (Instr.typeAssert (.iface 95 v) 20 95 true).run Tryz.prog W = .ok (.tuple #[v, .bool true]) W := by kernel_rfl
attribute [local go_sem] as_reg_reg as_reg_num as_reg_word as_reg_place as_reg_places as_num_reg as_num_num as_num_word as_num_place as_num_places as_word_reg as_word_num as_word_word as_word_place as_word_places as_place_reg as_place_num as_place_word as_place_place as_place_places as_places_reg as_places_num as_places_word as_places_place as_places_places

/-! ### list.written -/
theorem ba_cat (a b : List UInt8) : (⟨a.toArray⟩ : ByteArray) ++ ⟨b.toArray⟩ = ⟨(a ++ b).toArray⟩ := by
  apply ByteArray.ext
  simp

theorem itoa_len (n : Int) (h0 : -9223372036854775808 ≤ n) (h1 : n ≤ 9223372036854775807) : (Lib.itoa n).length ≤ 21 := by
  have h : ∀ u : Nat, u ≤ 9223372036854775808 → (Lib.decDigits u).length ≤ 20 := fun u hu => by
    rw [Lib.decDigits_length]
    by_cases hz : u = 0
    · subst hz; unfold Lib.nDigits; simp
    · have := Lib.numDigits_eq u (by omega) (by omega)
      split at this <;> omega
  unfold Lib.itoa
  split
  · rw [List.length_cons]; have := h n.natAbs (by omega); omega
  · have := h n.toNat (by omega); omega

set_option maxRecDepth 100000 in
theorem written_reg (b o : Nat) (n : Int) (w : World) (hL : LLaid w) (hc : w.cell? ⟨b, o, none⟩ = some (.int .i64 n)) (h0 : -9223372036854775808 ≤ n) (h1 : n ≤ 9223372036854775807) :
    Calls Tryz.prog 50 #[pv b (.reg o)] w fun e w' => e = .returned (.string ⟨(82 :: Lib.itoa n).toArray⟩) ∧ Below w.heap.size w w' := by
  have HL := Lib.hid hL
  have hcn := ka (.cells #[.pointer (some ⟨b, o, none⟩)] 120) hc
  have hlen := itoa_len n (by omega) (by omega)
  clear hL hc
  show Calls Tryz.prog _ #[.iface 120 (.agg #[.pointer (some ⟨b, o, none⟩)])] w _
  go_enter Tryz.func50, Tryz.ntmps50
  go_wp2_with (go_at_call 33; refine (itoa_any n (by omega) (by omega) _ (HL.out.below ((Below.refl _ _).alloc (Nat.le_refl _) _))).mono ?_; rintro e w' ⟨rfl, hb⟩)
  go_ret
  exact ⟨congrArg (fun x => Ending.returned (.string x)) (ba_cat [82] _), bt hb⟩

set_option maxRecDepth 100000 in
theorem written_num (b : Nat) (n : Int) (w : World) (hL : LLaid w) (hc : w.cell? ⟨b, 3, none⟩ = some (.int .i64 n)) (h0 : -9223372036854775808 ≤ n) (h1 : n ≤ 9223372036854775807) :
    Calls Tryz.prog 50 #[pv b .num] w fun e w' => e = .returned (.string ⟨(Lib.itoa n).toArray⟩) ∧ Below w.heap.size w w' := by
  have HL := Lib.hid hL
  have hcn := ka (.cells #[.pointer (some ⟨b, 3, none⟩)] 121) hc
  have hlen := itoa_len n (by omega) (by omega)
  clear hL hc
  show Calls Tryz.prog _ #[.iface 121 (.agg #[.pointer (some ⟨b, 3, none⟩)])] w _
  go_enter Tryz.func50, Tryz.ntmps50
  go_wp2_with (go_at_call 33; refine (itoa_any n (by omega) (by omega) _ (HL.out.below ((Below.refl _ _).alloc (Nat.le_refl _) _))).mono ?_; rintro e w' ⟨rfl, hb⟩)
  go_ret
  exact ⟨rfl, bt hb⟩

set_option maxRecDepth 100000 in
theorem written_word (b : Nat) (n : Int) (w : World) (hL : LLaid w) (hc : w.cell? ⟨b, 4, none⟩ = some (.int .u32 n)) (h0 : 0 ≤ n) (h1 : n ≤ 4294967295) :
    Calls Tryz.prog 50 #[pv b .word] w fun e w' => e = .returned (.string ⟨(Lib.itoa n).toArray⟩) ∧ Below w.heap.size w w' := by
  have HL := Lib.hid hL
  have hcn := ka (.cells #[.pointer (some ⟨b, 4, none⟩)] 89) hc
  have hlen := itoa_len n (by omega) (by omega)
  clear hL hc
  show Calls Tryz.prog _ #[.iface 89 (.agg #[.pointer (some ⟨b, 4, none⟩)])] w _
  go_enter Tryz.func50, Tryz.ntmps50
  go_wp2_with (go_at_call 35; refine (fmtU_any n (by omega) (by omega) _ (HL.out.below ((Below.refl _ _).alloc (Nat.le_refl _) _))).mono ?_; rintro e w' ⟨rfl, hb⟩)
  go_ret
  exact ⟨rfl, bt hb⟩

set_option maxRecDepth 100000 in
theorem written_at (p : Addr) (n : Int) (w : World) (hL : LLaid w) (hc : w.cell? p = some (.int .i64 n)) (h0 : -9223372036854775808 ≤ n) (h1 : n ≤ 9223372036854775807) :
    Calls Tryz.prog 50 #[.iface 92 (.agg #[.pointer (some p)])] w fun e w' => e = .returned (.string ⟨(76 :: Lib.itoa n).toArray⟩) ∧ Below w.heap.size w w' := by
  have HL := Lib.hid hL
  have hcn := ka (.cells #[.pointer (some p)] 92) hc
  have hlen := itoa_len n (by omega) (by omega)
  clear hL hc
  go_enter Tryz.func50, Tryz.ntmps50
  go_wp2_with (go_at_call 33; refine (itoa_any n (by omega) (by omega) _ (HL.out.below ((Below.refl _ _).alloc (Nat.le_refl _) _))).mono ?_; rintro e w' ⟨rfl, hb⟩)
  go_ret
  exact ⟨congrArg (fun x => Ending.returned (.string x)) (ba_cat [76] _), bt hb⟩

theorem written_place (b : Nat) (n : Int) (w : World) (hL : LLaid w) (hc : w.cell? ⟨b, 5, none⟩ = some (.int .i64 n)) (h0 : -9223372036854775808 ≤ n) (h1 : n ≤ 9223372036854775807) :
    Calls Tryz.prog 50 #[pv b .place] w fun e w' => e = .returned (.string ⟨(76 :: Lib.itoa n).toArray⟩) ∧ Below w.heap.size w w' :=
  written_at _ n w hL hc h0 h1

theorem kints_at {w : World} {A : Option Addr} {n : Nat} {xs : List Int} (h : kInt.C w A n xs) (i : Nat) (hi : i < n) : ∃ ad x, A = some ad ∧ xs[i]? = some x ∧ w.cell? (ad.add i) = some (.int .i64 x) := by
  have hl : n = xs.length := h.1.symm
  subst hl
  obtain ⟨ad, rfl, hc⟩ := h.2.2 (by omega)
  obtain ⟨cs, hs, hk, hcell⟩ := hc i xs[i] (List.getElem?_eq_getElem hi)
  have e : cs = [Value.int .i64 xs[i]] := hk
  subst e
  have := hcell 0 _ rfl
  exact ⟨ad, xs[i], rfl, List.getElem?_eq_getElem hi, by rw [show i * kInt.sz + 0 = i from by show i * 1 + 0 = i; omega] at this; exact this⟩

def labS (n : Int) : ByteArray := ⟨(76 :: Lib.itoa n).toArray⟩

theorem joinTail_len (m : Nat) : ∀ (r : List (List UInt8)), (∀ x ∈ r, x.length ≤ m) → (Lib.joinTail [32] r).length ≤ (m + 1) * r.length
  | [], _ => by simp [Lib.joinTail]
  | x :: r, h => by
    have h1 := h x (by simp)
    have h2 := joinTail_len m r (fun y hy => h y (by simp [hy]))
    have e : Lib.joinTail [32] (x :: r) = (32 :: x) ++ Lib.joinTail [32] r := by simp [Lib.joinTail]
    rw [e, List.length_append, List.length_cons, List.length_cons, Nat.mul_add]
    omega

theorem join_len (m : Nat) (L : List (List UInt8)) (h : ∀ x ∈ L, x.length ≤ m) : (Lib.join L [32]).length ≤ (m + 1) * L.length := by
  cases L with
  | nil => rw [Lib.join_nil]; exact Nat.zero_le _
  | cons x r =>
    have h1 := h x (by simp)
    have h2 := joinTail_len m r (fun y hy => h y (by simp [hy]))
    rw [Lib.join_cons, List.length_append, List.length_cons, Nat.mul_add]
    omega

theorem join_lab (xs : List Int) (hwf : ∀ x ∈ xs, -9223372036854775808 ≤ x ∧ x ≤ 9223372036854775807) : (Lib.join ((xs.map labS).map (·.data.toList)) [32]).length ≤ 23 * xs.length := by
  have := join_len 22 ((xs.map labS).map (·.data.toList)) (fun y hy => by
    rw [List.map_map, List.mem_map] at hy
    obtain ⟨n, hn, rfl⟩ := hy
    have := itoa_len n (hwf n hn).1 (hwf n hn).2
    show (76 :: Lib.itoa n).length ≤ 22
    rw [List.length_cons]; omega)
  simpa using this

set_option maxHeartbeats 2000000 in
set_option maxRecDepth 100000 in
theorem written_places (b : Nat) (A : Option Addr) (c : Nat) (xs : List Int) (w : World) (hL : LLaid w) (hc : w.cell? ⟨b, 6, none⟩ = some (.slice A xs.length c)) (hr : kInt.C w A xs.length xs) (hwf : ∀ x ∈ xs, -9223372036854775808 ≤ x ∧ x ≤ 9223372036854775807) (hne : xs ≠ []) (hlen : xs.length ≤ 1000) :
    Calls Tryz.prog 50 #[pv b .places] w fun e w' => e = .returned (.string ⟨(Lib.join (xs.map fun n => 76 :: Lib.itoa n) [32]).toArray⟩) ∧ Below w.heap.size w w' := by
  have hcn := ka (.cells #[.pointer (some ⟨b, 6, none⟩)] 95) hc
  have HL := Lib.hid hL
  have HC := Lib.hid hc
  have HR := Lib.hid hr
  have HWF := Lib.hid hwf
  have HNE := Lib.hid hne
  clear hL hc hr hwf hne
  show Calls Tryz.prog _ #[.iface 95 (.agg #[.pointer (some ⟨b, 6, none⟩)])] w _
  go_enter Tryz.func50, Tryz.ntmps50
  go_wp2_with fail
  obtain ⟨W0, hW0⟩ : ∃ W0, W0 = w.alloc (.cells #[.pointer (some ⟨b, 6, none⟩)] 95) := ⟨_, rfl⟩
  rw [← hW0]
  have hB0 : Below w.heap.size w W0 := by rw [hW0]; exact (Below.refl _ _).alloc (Nat.le_refl _) _
  have hp0 : W0.cell? ⟨w.heap.size, 0, none⟩ = some (.pointer (some ⟨b, 6, none⟩)) := by rw [hW0]; exact kn 0 rfl
  rw [← hW0] at hcn
  have HB0 := Lib.hid hB0
  have HP0 := Lib.hid hp0
  have HCN := Lib.hid hcn
  have HL0 := Lib.hid (HL.out.below hB0)
  have HR0 := Lib.hid (Kd.C_below HR.out hB0)
  clear hW0 hB0 hp0 hcn
  go_loopw [8, 54] (fun v s wr => ∃ k : Nat, k ≤ xs.length ∧ s = .int .i64 k ∧ Hid (OwnS wr W0.heap.size v ((xs.take k).map labS)) ∧ Hid (Below W0.heap.size W0 wr)) (fun _ s _ => xs.length - (intOf s).toNat)
  case atStart => exact ⟨0, Nat.zero_le _, rfl, Lib.hid (OwnS.nil _ _), Lib.hid (Below.refl _ _)⟩
  case round =>
    obtain ⟨k, hk, rfl, hO, hB⟩ := hrel
    have q0 := kp hB.out HP0.out
    have q1 := kp hB.out HCN.out
    by_cases hlt : k < xs.length
    · obtain ⟨ad, x, hA, hx, hcx⟩ := kints_at (Kd.C_below HR0.out hB.out) k hlt
      subst hA
      have hx0 : (0 : Int) ≤ (k : Int) := Int.natCast_nonneg _
      have hx1 : (k : Int) < (xs.length : Int) := by omega
      have HX := Lib.hid hx
      have HCX := Lib.hid hcx
      have HW := Lib.hid (HWF.out x (List.mem_of_getElem? hx))
      clear hx hcx
      go_wp2_with fail
      refine (written_at (ad.add k) x wr (HL0.out.below hB.out) HCX.out HW.out.1 HW.out.2).mono ?_
      rintro e w3 ⟨rfl, hb3⟩
      have hb4 := hb3.alloc (Nat.le_trans (Nat.le_refl _) hb3.size) (.cells #[.string (labS x)] 9)
      have HB3 := Lib.hid (bj hB.out hb4)
      have HO3 := Lib.hid (hO.out.below hb4)
      have hts : (xs.take k).map labS ++ [labS x] = (xs.take (k + 1)).map labS := by
        rw [List.take_add_one, HX.out, List.map_append]; rfl
      have HTS := Lib.hid hts
      clear hb3 hb4 hts q0 q1
      go_wp2_with (at_builtin; refine as_list rfl (.tmp 57) (.tmp 67) rfl W0.heap.size u8 _ rfl HO3.out ⟨w3.heap.size, 0, none⟩ 1 (labS x) rfl (kn 0 rfl) (by rw [List.length_map, List.length_take]; omega) (by have := HB3.out.size; exact this) ?_; intro v5 w5 ho5 hg5 _; rw [HTS.out] at ho5; have HO5 := Lib.hid ho5; have HB5 := Lib.hid (HB3.out.grown hg5 HB3.out.size (base_le_of HO3.out)); clear ho5 hg5)
      go_roundw
      case rel => exact ⟨k + 1, hlt, by go_num, HO5, HB5⟩
      case measure => simp [intOf]; omega
    · have hke : k = xs.length := by omega
      subst hke
      clear hlt
      have hne2 : xs.map labS ≠ [] := by simpa using HNE.out
      rw [List.take_length] at hO
      obtain ⟨g, c8, rfl, hg1, hg2, hg3, hg4⟩ := hO.out.open_ hne2
      rw [List.length_map] at hg3 hO
      have hj := join_lab xs HWF.out
      have HJ := Lib.hid (Tryz.strings_Join g 0 c8 (xs.map labS) ⟨#[32]⟩ wr hg4 hg2 (by rw [List.length_map]; omega) (by rw [List.length_map]; exact hg3) (by have : (⟨#[32]⟩ : ByteArray).data.toList = [32] := rfl; rw [this]; omega))
      clear hg1 hg2 hg3 hg4 hne2 hj hO
      rw [List.length_map] at HJ ⊢
      go_wp2_with fail
      refine HJ.out.mono ?_
      rintro e w3 ⟨rfl, hb3⟩
      have HB3 := Lib.hid (bj HB0.out (bj hB.out hb3))
      clear hb3
      go_wp2_with fail
      go_ret
      exact ⟨rfl, HB3.out⟩

end Go.Proofs.YtlhgfhmdhmgmpaaGreatDoor
