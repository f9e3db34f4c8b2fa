/- relax's law of rounds: how many branches there are, and that the rounds are no more. -/
import Derived.Test.YtamimnaafiphcaaDoorRxT
namespace Go.Proofs.YtamimnaafiphcaaDoor
open Go.RowKit Go.Proofs.YtamimnaafiphcaaDoorW.PrintWords Go.Maps Go.Joins

theorem branchR_line (l : Line) (v : Value) (w : World) : Calls Tryd.prog 31 #[.agg #[.int .i64 l.op, .int .i64 l.a, .int .i64 l.b, .int .i64 l.imm, .int .u32 l.n, .int .i64 l.label, v]] w fun e w' => e = .returned (.bool (brOp l.op)) ∧ Below w.heap.size w w' := branchR_any l v w

def brs (ls : List Line) (k : Nat) : Nat := ((ls.take k).filter fun l => brOp l.op).length

theorem brs_succ (ls : List Line) (k : Nat) (l : Line) (h : ls[k]? = some l) : brs ls (k + 1) = brs ls k + (if brOp l.op = true then 1 else 0) := by
  unfold brs
  rw [List.take_add_one, h, List.filter_append, List.length_append]
  by_cases hb : brOp l.op = true <;> simp [hb]

set_option maxRecDepth 100000 in
set_option maxHeartbeats 4000000 in
theorem branches_any (ls : List Line) (v : Value) (w : World) (hl : Lines w v ls) (hn : ls.length ≤ 1000000000) :
    Calls Tryd.prog 25 #[v] w fun e w' => e = .returned (.int .i64 (brs ls ls.length)) ∧ Below w.heap.size w w' := by
  obtain ⟨A, c, rfl, hr⟩ := hl
  have HL : Hid (Lines w (.slice A ls.length c) ls) := Lib.hid ⟨A, c, rfl, hr⟩
  clear hr
  go_enter Tryd.func25, Tryd.ntmps25
  go_wp2_with fail
  go_loopw [3, 4] (fun s3 s wr => ∃ k : Nat, k ≤ ls.length ∧ s = .int .i64 k ∧ s3 = .int .i64 (brs ls k) ∧ Hid (Below w.heap.size w wr)) (fun _ s _ => ls.length - (intOf s).toNat)
  case atStart => exact ⟨0, Nat.zero_le _, rfl, rfl, Lib.hid (Below.refl _ _)⟩
  case round =>
    obtain ⟨k, hk, rfl, rfl, hB⟩ := hrel
    by_cases hlt : k < ls.length
    · obtain ⟨ad, l, v, hA, hli, hat, hv⟩ := (HL.out.below hB.out).at_ k hlt
      obtain ⟨AL, cL, rfl, hr⟩ := hv
      obtain ⟨k0, k1, k2, k3, k4, k5, k6⟩ := hat
      have hs := brs_succ ls k l hli
      have hle : brs ls k ≤ k := by unfold brs; exact Nat.le_trans (List.length_filter_le _ _) (by simp; omega)
      have hi0 : (0 : Int) ≤ (k : Int) := Int.natCast_nonneg _
      have hi1 : (k : Int) < (ls.length : Int) := by omega
      have hw1 : IntKind.i64.wrap ((brs ls k : Int) + 1) = (brs ls k : Int) + 1 := IntWalk.i64_in _ (by omega)
      clear hr hli
      subst hA
      have HS := Lib.hid hs
      clear hs
      go_wp2_with fail
      refine (branchR_line l _ _).mono ?_
      rintro e w1 ⟨rfl, hb1⟩
      have hB1 := Lib.hid (bj hB.out hb1)
      clear k0 k1 k2 k3 k4 k5 k6 hb1
      by_cases hbr : brOp l.op = true
      · rw [if_pos hbr] at HS
        go_wp2_with fail
        exact ⟨⟨k + 1, by omega, by go_num, by rw [HS.out]; rfl, hB1⟩, by simp [intOf]; omega⟩
      · rw [if_neg hbr] at HS
        replace hbr : brOp l.op = false := by simpa using hbr
        go_wp2_with fail
        exact ⟨⟨k + 1, by omega, by go_num, by rw [HS.out]; rfl, hB1⟩, by simp [intOf]; omega⟩
    · have hkn : k = ls.length := by omega
      subst hkn
      go_wp2_with fail
      go_ret
      exact ⟨rfl, hB.out⟩

theorem filter_lt {α : Type} (L : List α) (p q : α → Bool) (h : ∀ x ∈ L, p x = true → q x = true) (y : α) (hy : y ∈ L) (h1 : q y = true) (h2 : p y = false) : (L.filter p).length < (L.filter q).length := by
  induction L with
  | nil => cases hy
  | cons x L ih =>
    have hle : (L.filter p).length ≤ (L.filter q).length := by
      clear ih hy
      induction L with
      | nil => exact Nat.le_refl _
      | cons z L ih2 =>
        have := ih2 (fun x hx => h x (by rcases List.mem_cons.1 hx with rfl | hx <;> simp_all))
        have hz := h z (by simp)
        cases hp : p z <;> cases hq : q z <;> simp_all <;> omega
    rcases List.mem_cons.1 hy with rfl | hy
    · rw [List.filter_cons, if_neg (by simp [h2]), List.filter_cons, if_pos h1]
      simp only [List.length_cons]
      omega
    · have := ih (fun x hx => h x (List.mem_cons_of_mem _ hx)) hy
      have hx := h x (List.mem_cons_self ..)
      cases hp : p x <;> cases hq : q x <;> simp_all <;> omega

def avail (ls : List Line) (long : List Bool) : Nat := ((List.range ls.length).filter fun i => brOp (ls.getD i default).op && !long.getD i false).length

theorem step_get (ls : List Line) (long : List Bool) (i : Nat) (hi : i < long.length) : (step ls long).getD i false = (long.getD i false || need ls long i) := by
  simp [step, List.getD, hi]

theorem avail_lt (ls : List Line) (long : List Bool) (hl : long.length = ls.length) (h : step ls long ≠ long) : avail ls (step ls long) < avail ls long := by
  have hg : grK ls long ls.length = true := by
    cases hg : grK ls long ls.length with
    | true => rfl
    | false => exact absurd ((grK_step ls long ls.length hl).1 hg) h
  unfold grK at hg
  rw [List.any_eq_true] at hg
  obtain ⟨i, hi, hx⟩ := hg
  have hi' := List.mem_range.1 hi
  simp only [Bool.and_eq_true, Bool.not_eq_true'] at hx
  refine filter_lt _ _ _ (fun j hj hp => ?_) i hi ?_ ?_
  · have hj' := List.mem_range.1 hj
    rw [step_get ls long j (by omega)] at hp
    cases hb : brOp (ls.getD j default).op <;> cases hlg : long.getD j false <;> simp_all
  · have : brOp (ls.getD i default).op = true := by
      have := hx.2
      unfold need at this
      simp only [Bool.and_eq_true] at this
      exact this.1
    rw [this, hx.1]
    rfl
  · rw [step_get ls long i (by omega), hx.2]
    simp

theorem rounds_le (ls : List Line) (m : Nat) (long : List Bool) (r : Nat) (hm : long.count false = m) (hl : long.length = ls.length) : r + 1 ≤ (rounds ls long r).2 ∧ (rounds ls long r).2 ≤ r + 1 + avail ls long := by
  induction m using Nat.strongRecOn generalizing long r with
  | _ m ih =>
    unfold rounds
    by_cases h : step ls long = long
    · rw [dif_pos h]
      exact ⟨Nat.le_refl _, Nat.le_add_right _ _⟩
    · rw [dif_neg h]
      have := ih _ (by rw [← hm]; exact step_lt ls long h) (step ls long) (r + 1) rfl (by rw [step_len]; exact hl)
      have h2 := avail_lt ls long hl h
      omega

theorem filter_map_len (ls : List Line) (k : Nat) (hk : k ≤ ls.length) : ((List.range k).filter fun i => brOp (ls.getD i default).op).length = brs ls k := by
  induction k with
  | zero => simp [brs]
  | succ k ih =>
    have hg : ls[k]? = some (ls.getD k default) := by rw [List.getD_eq_getElem?_getD, List.getElem?_eq_getElem (by omega)]; rfl
    rw [List.range_succ, List.filter_append, List.length_append, ih (by omega), brs_succ ls k _ hg]
    congr 1
    by_cases hb : brOp (ls.getD k default).op = true
    · rw [if_pos hb, List.filter_cons, if_pos hb]; rfl
    · rw [if_neg hb, List.filter_cons, if_neg hb]; rfl

theorem fin_range (ls : List Line) : 1 ≤ (fin ls).2 ∧ (fin ls).2 ≤ brs ls ls.length + 1 := by
  have h := rounds_le ls _ (List.replicate ls.length false) 0 rfl (by simp)
  have ha : avail ls (List.replicate ls.length false) ≤ brs ls ls.length := by
    rw [← filter_map_len ls ls.length (Nat.le_refl _)]
    unfold avail
    refine Nat.le_of_eq (congrArg List.length (List.filter_congr fun i hi => ?_))
    have := List.mem_range.1 hi
    simp [List.getD, this]
  unfold fin
  omega

end Go.Proofs.YtamimnaafiphcaaDoor
