/- strconv.ParseUint at the bases 8, 10, 16 and 32 bits; lex.number: walked. -/
import Derived.Test.YtjoboaaambdpoaaDoorLxPU
set_option linter.unusedVariables false
set_option linter.unusedSimpArgs false
namespace Go.Proofs.YtjoboaaambdpoaaDoor
open Go.RowKit

/-- What the library's variables hold: the assembler's bound a number, the two errors errors. -/
structure Laid (w : World) : Prop where
  m : ∃ m, w.cell? ⟨0, 0, none⟩ = some (.int .i64 m)
  s : ∃ ev, w.cell? ⟨1, 0, none⟩ = some ev ∧ (ev = .nilIface ∨ ∃ te pe, ev = .iface te pe)
  r : ∃ ev, w.cell? ⟨2, 0, none⟩ = some ev ∧ (ev = .nilIface ∨ ∃ te pe, ev = .iface te pe)

theorem Laid.below {w w' : World} (h : Laid w) (hb : Below w.heap.size w w') : Laid w' := by
  obtain ⟨m, hm⟩ := h.m
  obtain ⟨s, hs, hs2⟩ := h.s
  obtain ⟨r, hr, hr2⟩ := h.r
  exact ⟨⟨m, kp hb hm⟩, ⟨s, kp hb hs, hs2⟩, ⟨r, kp hb hr, hr2⟩⟩

def puOf (b : Nat) (l : List UInt8) : PU := if l = [] then .syn else parseU b 0 l

def puVal : PU → Int
  | .ok n => n
  | .syn => 0
  | .rng => 4294967295

def puOk : PU → Bool
  | .ok _ => true
  | _ => false

theorem parseU_le : ∀ (l : List UInt8) (b acc n : Nat), acc ≤ 4294967295 → parseU b acc l = .ok n → n ≤ 4294967295
  | [], b, acc, n, h, e => by cases e; exact h
  | c :: r, b, acc, n, h, e => by
    rw [parseU] at e
    by_cases h1 : b ≤ digV c.toNat
    · rw [if_pos h1] at e; cases e
    rw [if_neg h1] at e
    by_cases h2 : 4294967295 < acc * b + digV c.toNat
    · rw [if_pos h2] at e; cases e
    rw [if_neg h2] at e
    exact parseU_le r b _ n (by omega) e

theorem puVal_range (b : Nat) (l : List UInt8) : 0 ≤ puVal (puOf b l) ∧ puVal (puOf b l) ≤ 4294967295 := by
  unfold puOf
  by_cases h : l = []
  · rw [if_pos h]; exact ⟨Int.le_refl _, by decide⟩
  · rw [if_neg h]
    cases e : parseU b 0 l with
    | ok n => have := parseU_le l b 0 n (by decide) e; exact ⟨Int.natCast_nonneg _, by show (n : Int) ≤ _; omega⟩
    | syn => exact ⟨Int.le_refl _, by decide⟩
    | rng => exact ⟨by decide, by decide⟩

set_option maxRecDepth 100000 in
theorem inner_any (b : Nat) (hb : b = 8 ∨ b = 10 ∨ b = 16) (t : ByteArray) (hmax : t.size ≤ 1000000000) (w : World) :
    Calls Tryd.prog 52 #[.string t, .int .i64 b, .int .i64 32] w fun e w' => e = puIn (puOf b t.data.toList) ∧ Below w.heap.size w w' := by
  by_cases h0 : t.size = 0
  · have he : t.data.toList = [] := List.eq_nil_of_length_eq_zero (by rw [Array.length_toList]; exact h0)
    have ht : t = ⟨#[]⟩ := by
      cases t with
      | mk d =>
        have : d.toList = [] := he
        congr 1
        exact Array.toList_eq_nil_iff.1 this
    have e : puOf b t.data.toList = .syn := by unfold puOf; rw [if_pos he]
    rw [e]
    subst ht
    go_enter Tryd.func52, Tryd.ntmps52
    go_wp2_with fail
    go_ret2
    exact ⟨rfl, Below.refl _ _⟩
  · have he : t.data.toList ≠ [] := fun h => h0 (by have := congrArg List.length h; rw [Array.length_toList] at this; exact this)
    have e : puOf b t.data.toList = parseU b 0 t.data.toList := by unfold puOf; rw [if_neg he]
    rw [e]
    rcases hb with rfl | rfl | rfl
    · exact inner_8 t h0 hmax w
    · exact inner_10 t h0 hmax w
    · exact inner_16 t h0 hmax w

set_option maxRecDepth 100000 in
set_option maxHeartbeats 1000000 in
theorem parse_any (b : Nat) (hb : b = 8 ∨ b = 10 ∨ b = 16) (t : ByteArray) (hmax : t.size ≤ 1000000000) (w : World) (hL : Laid w) :
    Calls Tryd.prog 44 #[.string t, .int .i64 b, .int .i64 32] w fun e w' => ∃ ev, e = .returned (.tuple #[.int .u64 (puVal (puOf b t.data.toList)), ev]) ∧ ((puOk (puOf b t.data.toList) = true ∧ ev = .nilIface) ∨ (puOk (puOf b t.data.toList) = false ∧ ∃ te pe, ev = .iface te pe)) ∧ Below w.heap.size w w' := by
  have HI := Lib.hid (inner_any b hb t hmax w)
  have HL := Lib.hid hL
  clear hL hb
  generalize puOf b t.data.toList = r at HI ⊢
  go_enter Tryd.func44, Tryd.ntmps44
  go_wp2_with fail
  refine HI.out.mono ?_
  rintro e w1 ⟨he, hb1⟩
  have HB := Lib.hid hb1
  clear hb1
  cases r with
  | ok n =>
    unfold puIn at he
    subst he
    go_wp2_with fail
    go_ret2
    exact ⟨_, rfl, .inl ⟨rfl, rfl⟩, HB.out⟩
  | syn =>
    unfold puIn at he
    subst he
    go_wp2_with fail
    obtain ⟨ev, hv, hev⟩ := (HL.out.below HB.out).s
    refine (Tryd.strconv_toError_syntax _ t b 32 ev _ (by omega) hv hev).mono ?_
    rintro e w2 ⟨N, rfl, -, -, hb2⟩
    have HB2 := Lib.hid (bj HB.out hb2)
    go_wp2_with fail
    go_ret2
    exact ⟨_, rfl, .inr ⟨rfl, _, _, rfl⟩, HB2.out⟩
  | rng =>
    unfold puIn at he
    subst he
    go_wp2_with fail
    obtain ⟨ev, hv, hev⟩ := (HL.out.below HB.out).r
    refine (Tryd.strconv_toError_range _ t b 32 ev _ (by omega) hv hev).mono ?_
    rintro e w2 ⟨N, rfl, -, -, hb2⟩
    have HB2 := Lib.hid (bj HB.out hb2)
    go_wp2_with fail
    go_ret2
    exact ⟨_, rfl, .inr ⟨rfl, _, _, rfl⟩, HB2.out⟩

end Go.Proofs.YtjoboaaambdpoaaDoor
