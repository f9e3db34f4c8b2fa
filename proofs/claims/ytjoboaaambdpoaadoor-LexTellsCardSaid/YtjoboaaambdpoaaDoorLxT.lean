/- lex's scanner: token: walked. -/
import Derived.Test.YtjoboaaambdpoaaDoorLxS
import Derived.Deep.RegionHeld3
import Derived.Deep.DrawnRows
import Derived.Outline
set_option linter.unusedVariables false
set_option linter.unusedSimpArgs false
namespace Go.Proofs.YtjoboaaambdpoaaDoor
open Go.RowKit Go.Proofs.YtjoboaaambdpoaaDoorW.PrintWords Go.Maps Go.Joins
attribute [local go_sem ↓] Go.wp_at_zero Go.wp_at_succ

/-- What the token's reader answers: the token's fields, its bytes, the error. -/
structure TokOut where
  kind : Int
  text : ByteArray
  num : Int
  uns : Bool
  n : Int
  err : Int

def wordsB : ByteArray := ⟨#[32, 98, 114, 101, 97, 107, 32, 99, 97, 115, 101, 32, 99, 104, 97, 114, 32, 99, 111, 110, 116, 105, 110, 117, 101, 32, 100, 101, 102, 97, 117, 108, 116, 32, 100, 111, 32, 101, 108, 115, 101, 32, 101, 110, 117, 109, 32, 102, 111, 114, 32, 103, 111, 116, 111, 32, 105, 102, 32, 105, 110, 116, 32, 114, 101, 116, 117, 114, 110, 32, 115, 119, 105, 116, 99, 104, 32, 117, 110, 115, 105, 103, 110, 101, 100, 32, 118, 111, 105, 100, 32, 119, 104, 105, 108, 101, 32]⟩

def noB : ByteArray := ⟨#[]⟩

def cut (src : ByteArray) (k : Nat) (n : Int) : ByteArray := src.extract k ((k : Int) + n).toNat

def isWord (t : ByteArray) : Bool := Lib.contains wordsB.data.toList ((⟨#[32]⟩ : ByteArray) ++ t ++ (⟨#[32]⟩ : ByteArray)).data.toList

def tokP (src : ByteArray) (k : Nat) : TokOut :=
  if isL (bz src k) = true then
    if 31 < runL (src.data.toList.drop k) then ⟨1, cut src k (runL (src.data.toList.drop k)), 0, false, 0, 10⟩
    else ⟨if isWord (cut src k (runL (src.data.toList.drop k))) = true then 3 else 1, cut src k (runL (src.data.toList.drop k)), 0, false, runL (src.data.toList.drop k), 0⟩
  else if isD (bz src k) = true then
    if (numP (cut src k (runL (src.data.toList.drop k))).data.toList).2.2 = true then ⟨2, noB, (numP (cut src k (runL (src.data.toList.drop k))).data.toList).1, (numP (cut src k (runL (src.data.toList.drop k))).data.toList).2.1, runL (src.data.toList.drop k), 0⟩
    else ⟨2, noB, (numP (cut src k (runL (src.data.toList.drop k))).data.toList).1, (numP (cut src k (runL (src.data.toList.drop k))).data.toList).2.1, 0, 11⟩
  else if bz src k = 39 then
    if (charP src.size k (bz src ((k : Int) + 1)) (bz src ((k : Int) + 2)) (bz src ((k : Int) + 3))).2 = 0 then ⟨2, noB, (charP src.size k (bz src ((k : Int) + 1)) (bz src ((k : Int) + 2)) (bz src ((k : Int) + 3))).1, false, 0, 12⟩
    else ⟨2, noB, (charP src.size k (bz src ((k : Int) + 1)) (bz src ((k : Int) + 2)) (bz src ((k : Int) + 3))).1, false, (charP src.size k (bz src ((k : Int) + 1)) (bz src ((k : Int) + 2)) (bz src ((k : Int) + 3))).2, 0⟩
  else
    if signP (bz src k) (bz src ((k : Int) + 1)) (bz src ((k : Int) + 2)) = 0 then ⟨0, noB, 0, false, 0, 14⟩
    else ⟨4, cut src k (signP (bz src k) (bz src ((k : Int) + 1)) (bz src ((k : Int) + 2))), 0, false, signP (bz src k) (bz src ((k : Int) + 1)) (bz src ((k : Int) + 2)), 0⟩

/-- What the code answers. -/
def tokV (k : Nat) (o : TokOut) : Ending := .returned (.tuple #[.agg #[.int .i64 o.kind, .int .i64 k, .string o.text, .int .u32 o.num, .bool o.uns], .int .i64 o.n, .int .i64 o.err])

theorem bz_out (src : ByteArray) (i : Int) (h : (src.size : Int) ≤ i) : bz src i = 0 := by
  unfold bz Go.Proofs.YtjoboaaambdpoaaDoorW.PrintWords.bt
  rw [dif_neg (by omega)]

theorem sign_le (src : ByteArray) (k : Nat) (hk : k < src.size) : 0 ≤ signP (bz src k) (bz src ((k : Int) + 1)) (bz src ((k : Int) + 2)) ∧ (k : Int) + signP (bz src k) (bz src ((k : Int) + 1)) (bz src ((k : Int) + 2)) ≤ src.size ∧ signP (bz src k) (bz src ((k : Int) + 1)) (bz src ((k : Int) + 2)) ≤ 3 := by
  have h1 := bz_out src ((k : Int) + 1)
  have h2 := bz_out src ((k : Int) + 2)
  generalize bz src k = c
  generalize bz src ((k : Int) + 1) = p at h1 ⊢
  generalize bz src ((k : Int) + 2) = q at h2 ⊢
  unfold signP
  repeat' split
  all_goals omega

theorem Sc.alloc {w : World} {g : Nat} {src : ByteArray} {i : Int} {sl : Value} (h : Sc w g src i sl) (o : Obj) : Sc (w.alloc o) g src i sl := ⟨blk_alloc h.blk o⟩

theorem tok_far {w : World} {k : Nat} {o : Obj} {p : Addr} (h : w.heap[k]? = some o) (u : Value) (hne : k ≠ p.block) : (w.setCell p u).heap[k]? = some o := (Below.heap_setCell w p u k hne).trans h

theorem tok_blk {w : World} {a : Nat} {z0 z1 z2 z3 z4 v0 v1 v2 v3 v4 : Value} {t : TypeId} (h : w.heap[a]? = some (.cells #[z0, z1, z2, z3, z4] t (0, 0))) :
    (((((w.setCell ⟨a, 0, none⟩ v0).setCell ⟨a, 1, none⟩ v1).setCell ⟨a, 2, none⟩ v2).setCell ⟨a, 3, none⟩ v3).setCell ⟨a, 4, none⟩ v4).heap[a]? = some (.cells #[v0, v1, v2, v3, v4] t (0, 0)) := by
  have h0 := block_setCell h (i := 0) v0
  have h1 := block_setCell h0 (i := 1) v1
  have h2 := block_setCell h1 (i := 2) v2
  have h3 := block_setCell h2 (i := 3) v3
  exact block_setCell h3 (i := 4) v4

theorem Sc.far {w : World} {g : Nat} {src : ByteArray} {i : Int} {sl : Value} (h : Sc w g src i sl) {p : Addr} (u : Value) (hne : g ≠ p.block) : Sc (w.setCell p u) g src i sl := ⟨tok_far h.blk u hne⟩
theorem Sc.drew {w : World} {g : Nat} {src : ByteArray} {i : Int} {sl : Value} (h : Sc w g src i sl) : Sc w.drew g src i sl := ⟨h.blk⟩

theorem tok_after {w1 w4 : World} {g a : Nat} {src : ByteArray} {i : Int} {sl z0 z1 z2 z3 z4 v : Value} {t : TypeId} {o : Obj} (hS : Sc w1 g src i sl) (hBa : w1.heap[a]? = some o) (hBb : w1.heap[a + 1]? = some (.cells #[z0, z1, z2, z3, z4] t (0, 0))) (hne : g ≠ a + 1)
    (hb : Below (w1.setCell ⟨a + 1, 0, none⟩ v).drew.heap.size (w1.setCell ⟨a + 1, 0, none⟩ v).drew w4) :
    Sc w4 g src i sl ∧ w4.heap[a]? = some o ∧ w4.heap[a + 1]? = some (.cells #[v, z1, z2, z3, z4] t (0, 0)) :=
  ⟨((hS.far _ hne).drew).below hb, below_blk hb (tok_far hBa _ (by simp)), below_blk hb (show (w1.setCell ⟨a + 1, 0, none⟩ v).heap[a + 1]? = _ from block_setCell (i := 0) hBb v)⟩

theorem run_le_src (src : ByteArray) (k : Nat) (hk : k ≤ src.size) : k + runL (src.data.toList.drop k) ≤ src.size := by
  have := runL_le (src.data.toList.drop k)
  rw [List.length_drop, Array.length_toList] at this
  have : src.data.size = src.size := rfl
  omega

set_option maxRecDepth 100000 in
set_option maxHeartbeats 8000000 in
theorem token_any (g : Nat) (src : ByteArray) (k : Nat) (sl : Value) (w : World) (h : Sc w g src k sl) (hs : src.size ≤ 1000000) (hk : k < src.size) (hL : Laid w) :
    Calls Tryd.prog 19 #[.pointer (some ⟨g, 0, none⟩)] w fun e w' => e = tokV k (tokP src k) ∧ Below w.heap.size w w' := by
  have H := Lib.hid h
  have HL := Lib.hid hL
  clear hL
  have hg := h.lt
  have k0 := h.c0
  have k1 := h.c1
  have hne := World.new_ne w ⟨g, 0, none⟩ k0
  have hrl := run_le_src src k (Nat.le_of_lt hk)
  obtain ⟨N, hN⟩ : ∃ N, N = runL (src.data.toList.drop k) := ⟨_, rfl⟩
  rw [← hN] at hrl
  obtain ⟨R, hR⟩ : ∃ R, R = tokP src k := ⟨_, rfl⟩
  rw [← hR]
  have HR := Lib.hid hR
  have HN := Lib.hid hN
  have CR := Lib.hid (fun W (h : Sc W g src k sl) => show Calls Tryd.prog 26 #[.pointer (some ⟨g, 0, none⟩)] W fun e w' => e = .returned (.int .i64 N) ∧ Below W.heap.size W w' from by rw [hN]; exact run_any g src k sl W h hs (Nat.le_of_lt hk))
  clear hR hN h
  have hx := bt_at src (k : Int)
  obtain ⟨c, hc⟩ : ∃ c, c = bz src (k : Int) := ⟨_, rfl⟩
  have hx1 : ∀ h : (k : Int).toNat < src.size, ((src[(k : Int).toNat]'h).toNat : Int) = c := fun h => by rw [hx h, hc]
  obtain ⟨j, hj⟩ : ∃ j : Int, j = (k : Int) := ⟨_, rfl⟩
  rw [← hj] at k1 hx1
  have hj0 : 0 ≤ j := by omega
  have hj1 : j < (src.size : Int) := by omega
  have p6 := eq_true hj0
  have q6 := eq_true hj1
  have HC := Lib.hid hc
  have HJ := Lib.hid hj
  clear hc hj hx
  go_enter Tryd.func19, Tryd.ntmps19
  go_wp2_with fail
  go_quiet (fail)
  go_wp2_with fail
  refine (CR.out _ ((H.out.alloc _).alloc _ |>.drewN _)).mono ?_
  rintro e w1 ⟨rfl, hb1⟩
  have hS := ((H.out.alloc _).alloc _ |>.drewN _).below hb1
  have hBa := below_blk hb1 (blk_drewN (blk_alloc (heap_alloc_new w _) _) _)
  have hBb := below_blk hb1 (blk_drewN (heap_alloc_new (w.alloc _) _) _)
  have hB1 : Below w.heap.size w w1 := bj (by repeat (first | exact Below.refl _ _ | apply pw_below_drewN | apply below_alloc)) hb1
  rw [show (w.alloc (Obj.cells #[Value.int IntKind.i64 0, Value.int IntKind.i64 0, Value.string { data := #[] }, Value.int IntKind.u32 0, Value.bool false] 29)).heap.size = w.heap.size + 1 by simp] at hBb
  clear hb1
  obtain ⟨a, ha⟩ : ∃ a, a = w.heap.size := ⟨_, rfl⟩
  rw [← ha] at hBa hBb ⊢
  have k0' := hS.c0
  have k1' := hS.c1
  rw [← HJ.out] at k1'
  have x0 := cell_of_block hBb 0
  have x1 := cell_of_block hBb 1
  have x2 := cell_of_block hBb 2
  have x3 := cell_of_block hBb 3
  have x4 := cell_of_block hBb 4
  have u0 := unfrozen_of_block hBb 0
  have u1 := unfrozen_of_block hBb 1
  have u2 := unfrozen_of_block hBb 2
  have u3 := unfrozen_of_block hBb 3
  have u4 := unfrozen_of_block hBb 4
  have y0 := cell_of_block hBa 0
  have y1 := cell_of_block hBa 1
  have y2 := cell_of_block hBa 2
  have y3 := cell_of_block hBa 3
  have y4 := cell_of_block hBa 4
  have v0 := unfrozen_of_block hBa 0
  have v1 := unfrozen_of_block hBa 1
  have v2 := unfrozen_of_block hBa 2
  have v3 := unfrozen_of_block hBa 3
  have v4 := unfrozen_of_block hBa 4
  have BA := Lib.hid hBa
  have BB := Lib.hid hBb
  have BL := Lib.hid hB1
  have HS := Lib.hid hS
  have n1 : ¬ g = a := by omega
  have n2 : ¬ g = a + 1 := by omega
  have n3 : ¬ a = g := by omega
  have n4 : ¬ a + 1 = g := by omega
  have HA := Lib.hid ha
  clear hBa hBb hB1 hS k0 k1 hne ha hg H
  obtain ⟨m, hm⟩ : ∃ m : Int, m = (N : Int) := ⟨_, rfl⟩
  obtain ⟨q, hq⟩ : ∃ q : Int, q = j + m := ⟨_, rfl⟩
  have hw : IntKind.i64.wrap (j + m) = q := by rw [hq]; exact IntWalk.i64_in _ (by have := HJ.out; omega)
  have hq0 : 0 ≤ q := by omega
  have hq1 : j ≤ q := by omega
  have hq2 : q ≤ (src.size : Int) := by have := HJ.out; omega
  have HQ := Lib.hid hq
  have HK := Lib.hid hk
  have HM := Lib.hid hm
  rw [← hm]
  have hm0 : 0 ≤ m := by omega
  clear hq hm hk
  -- THE CASES (gen_lxt.py)
  have HXT := Lib.hid (show (src.extract j.toNat q.toNat) = cut src k (runL (src.data.toList.drop k)) by unfold cut; rw [HQ.out, HJ.out, HM.out, HN.out]; rfl)
  have HC0 := HC.out.symm
  cases hL : isL c with
  | true =>
    have CL := Lib.hid (fun W => show Calls Tryd.prog 27 #[.int .u8 c] W fun e w' => e = .returned (.bool true) ∧ W = w' from by have := letter_any c W; rwa [hL] at this)
    have HR1 := Lib.hid (show R = if 31 < m then ⟨1, src.extract j.toNat q.toNat, 0, false, 0, 10⟩ else ⟨if isWord (src.extract j.toNat q.toNat) = true then 3 else 1, src.extract j.toNat q.toNat, 0, false, m, 0⟩ by
      rw [HR.out, HXT.out, HM.out, HN.out]
      unfold tokP
      rw [HC0, if_pos hL]
      by_cases h : 31 < runL (src.data.toList.drop k)
      · rw [if_pos h, if_pos (show 31 < ((runL (src.data.toList.drop k) : Nat) : Int) by omega)]
      · rw [if_neg h, if_neg (show ¬ 31 < ((runL (src.data.toList.drop k) : Nat) : Int) by omega)])
    clear hL HR HC0
    go_wp2_with fail
    refine (CL.out _).mono ?_
    rintro e w' ⟨rfl, rfl⟩
    by_cases h31 : 31 < m
    · have hd31 : decide (31 < m) = true := decide_eq_true h31
      have HX := Lib.hid (show tokV k R = .returned (.tuple #[.agg #[.int .i64 1, .int .i64 j, .string (src.extract j.toNat q.toNat), .int .u32 0, .bool false], .int .i64 0, .int .i64 10]) by rw [HR1.out, if_pos h31, HJ.out]; rfl)
      clear HR1
      go_wp2_with fail
      go_region_held3 (fun w' => w'.cell? ⟨g, 0, none⟩ = some (.string src) ∧ w'.cell? ⟨g, 1, none⟩ = some (.int .i64 j)) (go_keep) (fail)
      go_wp2_with fail
      exact bodyPost_ret (results_ctt rfl _ _ a 29 #[.int .i64 1, .int .i64 j, .string (src.extract j.toNat q.toNat), .int .u32 0, .bool false] (0, 0) _ rfl (by (with_reducible repeat (first | refine blk_drewN ?_ _ | refine blk_drew ?_)); exact tok_blk (by with_reducible repeat (first | exact BA.out | refine tok_far ?_ _ (by simp) | refine blk_drewN ?_ _ | refine blk_drew ?_))) Tryd.underlying29 rfl (by kernel_rfl)) rfl ⟨by rw [HX.out]; rfl, (by with_reducible repeat (first | exact BL.out | refine Below.drew ?_ | apply pw_below_drewN | refine Below.setCell ?_ (by have := HA.out; simp; omega) _))⟩
    · have hd31 : decide (31 < m) = false := decide_eq_false h31
      cases hw : isWord (src.extract j.toNat q.toNat) with
      | true =>
        have HCT := Lib.hid (fun W (h : Laid W) => show Calls Tryd.prog 28 #[.string wordsB, .string ((⟨#[32]⟩ : ByteArray) ++ src.extract j.toNat q.toNat ++ (⟨#[32]⟩ : ByteArray))] W fun e w' => e = .returned (.bool true) ∧ w' = W from by obtain ⟨mv, hm⟩ := h.m; have := Tryd.strings_Contains wordsB ((⟨#[32]⟩ : ByteArray) ++ src.extract j.toNat q.toNat ++ (⟨#[32]⟩ : ByteArray)) mv W (by decide) hm; rwa [show Lib.contains wordsB.data.toList ((⟨#[32]⟩ : ByteArray) ++ src.extract j.toNat q.toNat ++ (⟨#[32]⟩ : ByteArray)).data.toList = true from hw] at this)
        have HX := Lib.hid (show tokV k R = .returned (.tuple #[.agg #[.int .i64 3, .int .i64 j, .string (src.extract j.toNat q.toNat), .int .u32 0, .bool false], .int .i64 m, .int .i64 0]) by rw [HR1.out, if_neg h31, if_pos hw, HJ.out]; rfl)
        clear HR1 hw
        go_wp2_with fail
        go_region_held3 (fun w' => w'.cell? ⟨g, 0, none⟩ = some (.string src) ∧ w'.cell? ⟨g, 1, none⟩ = some (.int .i64 j)) (go_keep) (fail)
        go_wp2_with fail
        refine (HCT.out _ (HL.out.below (by with_reducible repeat (first | exact BL.out | refine Below.drew ?_ | apply pw_below_drewN | refine Below.setCell ?_ (by have := HA.out; simp; omega) _)))).mono ?_
        rintro e w' ⟨rfl, rfl⟩
        go_wp2_with fail
        exact bodyPost_ret (results_ctt rfl _ _ a 29 #[.int .i64 3, .int .i64 j, .string (src.extract j.toNat q.toNat), .int .u32 0, .bool false] (0, 0) _ rfl (by (with_reducible repeat (first | refine blk_drewN ?_ _ | refine blk_drew ?_)); exact tok_blk (by with_reducible repeat (first | exact BA.out | refine tok_far ?_ _ (by simp) | refine blk_drewN ?_ _ | refine blk_drew ?_))) Tryd.underlying29 rfl (by kernel_rfl)) rfl ⟨by rw [HX.out]; rfl, (by with_reducible repeat (first | exact BL.out | refine Below.drew ?_ | apply pw_below_drewN | refine Below.setCell ?_ (by have := HA.out; simp; omega) _))⟩
      | false =>
        have HCT := Lib.hid (fun W (h : Laid W) => show Calls Tryd.prog 28 #[.string wordsB, .string ((⟨#[32]⟩ : ByteArray) ++ src.extract j.toNat q.toNat ++ (⟨#[32]⟩ : ByteArray))] W fun e w' => e = .returned (.bool false) ∧ w' = W from by obtain ⟨mv, hm⟩ := h.m; have := Tryd.strings_Contains wordsB ((⟨#[32]⟩ : ByteArray) ++ src.extract j.toNat q.toNat ++ (⟨#[32]⟩ : ByteArray)) mv W (by decide) hm; rwa [show Lib.contains wordsB.data.toList ((⟨#[32]⟩ : ByteArray) ++ src.extract j.toNat q.toNat ++ (⟨#[32]⟩ : ByteArray)).data.toList = false from hw] at this)
        have HX := Lib.hid (show tokV k R = .returned (.tuple #[.agg #[.int .i64 1, .int .i64 j, .string (src.extract j.toNat q.toNat), .int .u32 0, .bool false], .int .i64 m, .int .i64 0]) by rw [HR1.out, if_neg h31, if_neg (by rw [hw]; decide), HJ.out]; rfl)
        clear HR1 hw
        go_wp2_with fail
        go_region_held3 (fun w' => w'.cell? ⟨g, 0, none⟩ = some (.string src) ∧ w'.cell? ⟨g, 1, none⟩ = some (.int .i64 j)) (go_keep) (fail)
        go_wp2_with fail
        refine (HCT.out _ (HL.out.below (by with_reducible repeat (first | exact BL.out | refine Below.drew ?_ | apply pw_below_drewN | refine Below.setCell ?_ (by have := HA.out; simp; omega) _)))).mono ?_
        rintro e w' ⟨rfl, rfl⟩
        go_wp2_with fail
        exact bodyPost_ret (results_ctt rfl _ _ a 29 #[.int .i64 1, .int .i64 j, .string (src.extract j.toNat q.toNat), .int .u32 0, .bool false] (0, 0) _ rfl (by (with_reducible repeat (first | refine blk_drewN ?_ _ | refine blk_drew ?_)); exact tok_blk (by with_reducible repeat (first | exact BA.out | refine tok_far ?_ _ (by simp) | refine blk_drewN ?_ _ | refine blk_drew ?_))) Tryd.underlying29 rfl (by kernel_rfl)) rfl ⟨by rw [HX.out]; rfl, (by with_reducible repeat (first | exact BL.out | refine Below.drew ?_ | apply pw_below_drewN | refine Below.setCell ?_ (by have := HA.out; simp; omega) _))⟩
  | false =>
    have CL := Lib.hid (fun W => show Calls Tryd.prog 27 #[.int .u8 c] W fun e w' => e = .returned (.bool false) ∧ W = w' from by have := letter_any c W; rwa [hL] at this)
    go_wp2_with fail
    refine (CL.out _).mono ?_
    rintro e w' ⟨rfl, rfl⟩
    cases hD : isD c with
    | true =>
      have CD := Lib.hid (fun W => show Calls Tryd.prog 29 #[.int .u8 c] W fun e w' => e = .returned (.bool true) ∧ W = w' from by have := digit_any c W; rwa [hD] at this)
      have HR1 := Lib.hid (show R = if (numP (src.extract j.toNat q.toNat).data.toList).2.2 = true then ⟨2, noB, (numP (src.extract j.toNat q.toNat).data.toList).1, (numP (src.extract j.toNat q.toNat).data.toList).2.1, m, 0⟩ else ⟨2, noB, (numP (src.extract j.toNat q.toNat).data.toList).1, (numP (src.extract j.toNat q.toNat).data.toList).2.1, 0, 11⟩ by
        rw [HR.out, HXT.out, HM.out, HN.out]
        unfold tokP
        rw [HC0, if_neg (by rw [hL]; decide), if_pos hD])
      have hsz : (src.extract j.toNat q.toNat).size ≤ 1000000 := by rw [ByteArray.size_extract]; omega
      have HNU := Lib.hid (fun W (h : Laid W) => number_any (src.extract j.toNat q.toNat) W h hsz)
      obtain ⟨P, hP⟩ : ∃ P, P = numP (src.extract j.toNat q.toNat).data.toList := ⟨_, rfl⟩
      rw [← hP] at HR1 HNU
      obtain ⟨p1, p2, p3⟩ := P
      clear hL hD HR HC0 hP hsz
      go_wp2_with fail
      refine (CD.out _).mono ?_
      rintro e w' ⟨rfl, rfl⟩
      cases p3 with
      | true =>
        have HX := Lib.hid (show tokV k R = .returned (.tuple #[.agg #[.int .i64 2, .int .i64 j, .string ⟨#[]⟩, .int .u32 p1, .bool p2], .int .i64 m, .int .i64 0]) by rw [HR1.out, if_pos rfl, HJ.out]; rfl)
        clear HR1
        go_wp2_with fail

        go_region_held3 (fun w' => w'.cell? ⟨g, 0, none⟩ = some (.string src) ∧ w'.cell? ⟨g, 1, none⟩ = some (.int .i64 j)) (first | go_keep | skip) ((go_at_call 30; refine (HNU.out _ (HL.out.below (by with_reducible repeat (first | exact BL.out | refine Below.drew ?_ | apply pw_below_drewN | refine Below.setCell ?_ (by have := HA.out; simp; omega) _)))).mono ?_; rintro e w4 ⟨rfl, hb4⟩; obtain ⟨hS4, hBa4, hBb4⟩ := tok_after HS.out BA.out BB.out n2 hb4; have BL4 : Hid (Below w.heap.size w w4) := Lib.hid (bj (by with_reducible repeat (first | exact BL.out | refine Below.drew ?_ | apply pw_below_drewN | refine Below.setCell ?_ (by have := HA.out; simp; omega) _)) hb4); have k04 := hS4.c0; have k14 := hS4.c1; rw [← HJ.out] at k14; have x04 := cell_of_block hBb4 0; have u04 := unfrozen_of_block hBb4 0; have y04 := cell_of_block hBa4 0; have v04 := unfrozen_of_block hBa4 0; have x14 := cell_of_block hBb4 1; have u14 := unfrozen_of_block hBb4 1; have y14 := cell_of_block hBa4 1; have v14 := unfrozen_of_block hBa4 1; have x24 := cell_of_block hBb4 2; have u24 := unfrozen_of_block hBb4 2; have y24 := cell_of_block hBa4 2; have v24 := unfrozen_of_block hBa4 2; have x34 := cell_of_block hBb4 3; have u34 := unfrozen_of_block hBb4 3; have y34 := cell_of_block hBa4 3; have v34 := unfrozen_of_block hBa4 3; have x44 := cell_of_block hBb4 4; have u44 := unfrozen_of_block hBb4 4; have y44 := cell_of_block hBa4 4; have v44 := unfrozen_of_block hBa4 4; have BA4 := Lib.hid hBa4; have BB4 := Lib.hid hBb4; clear hS4 hBa4 hBb4 hb4))
        go_wp2_with fail
        exact bodyPost_ret (results_ctt rfl _ _ a 29 #[.int .i64 2, .int .i64 j, .string ⟨#[]⟩, .int .u32 p1, .bool p2] (0, 0) _ rfl (by (with_reducible repeat (first | refine blk_drewN ?_ _ | refine blk_drew ?_)); exact tok_blk (by with_reducible repeat (first | exact BA4.out | refine tok_far ?_ _ (by simp) | refine blk_drewN ?_ _ | refine blk_drew ?_))) Tryd.underlying29 rfl (by kernel_rfl)) rfl ⟨by rw [HX.out]; rfl, (by with_reducible repeat (first | exact BL4.out | refine Below.drew ?_ | apply pw_below_drewN | refine Below.setCell ?_ (by have := HA.out; simp; omega) _))⟩
      | false =>
        have HX := Lib.hid (show tokV k R = .returned (.tuple #[.agg #[.int .i64 2, .int .i64 j, .string ⟨#[]⟩, .int .u32 p1, .bool p2], .int .i64 0, .int .i64 11]) by rw [HR1.out, if_neg (by decide), HJ.out]; rfl)
        clear HR1
        go_wp2_with fail

        go_region_held3 (fun w' => w'.cell? ⟨g, 0, none⟩ = some (.string src) ∧ w'.cell? ⟨g, 1, none⟩ = some (.int .i64 j)) (first | go_keep | skip) ((go_at_call 30; refine (HNU.out _ (HL.out.below (by with_reducible repeat (first | exact BL.out | refine Below.drew ?_ | apply pw_below_drewN | refine Below.setCell ?_ (by have := HA.out; simp; omega) _)))).mono ?_; rintro e w4 ⟨rfl, hb4⟩; obtain ⟨hS4, hBa4, hBb4⟩ := tok_after HS.out BA.out BB.out n2 hb4; have BL4 : Hid (Below w.heap.size w w4) := Lib.hid (bj (by with_reducible repeat (first | exact BL.out | refine Below.drew ?_ | apply pw_below_drewN | refine Below.setCell ?_ (by have := HA.out; simp; omega) _)) hb4); have k04 := hS4.c0; have k14 := hS4.c1; rw [← HJ.out] at k14; have x04 := cell_of_block hBb4 0; have u04 := unfrozen_of_block hBb4 0; have y04 := cell_of_block hBa4 0; have v04 := unfrozen_of_block hBa4 0; have x14 := cell_of_block hBb4 1; have u14 := unfrozen_of_block hBb4 1; have y14 := cell_of_block hBa4 1; have v14 := unfrozen_of_block hBa4 1; have x24 := cell_of_block hBb4 2; have u24 := unfrozen_of_block hBb4 2; have y24 := cell_of_block hBa4 2; have v24 := unfrozen_of_block hBa4 2; have x34 := cell_of_block hBb4 3; have u34 := unfrozen_of_block hBb4 3; have y34 := cell_of_block hBa4 3; have v34 := unfrozen_of_block hBa4 3; have x44 := cell_of_block hBb4 4; have u44 := unfrozen_of_block hBb4 4; have y44 := cell_of_block hBa4 4; have v44 := unfrozen_of_block hBa4 4; have BA4 := Lib.hid hBa4; have BB4 := Lib.hid hBb4; clear hS4 hBa4 hBb4 hb4))
        go_wp2_with fail
        exact bodyPost_ret (results_ctt rfl _ _ a 29 #[.int .i64 2, .int .i64 j, .string ⟨#[]⟩, .int .u32 p1, .bool p2] (0, 0) _ rfl (by (with_reducible repeat (first | refine blk_drewN ?_ _ | refine blk_drew ?_)); exact tok_blk (by with_reducible repeat (first | exact BA4.out | refine tok_far ?_ _ (by simp) | refine blk_drewN ?_ _ | refine blk_drew ?_))) Tryd.underlying29 rfl (by kernel_rfl)) rfl ⟨by rw [HX.out]; rfl, (by with_reducible repeat (first | exact BL4.out | refine Below.drew ?_ | apply pw_below_drewN | refine Below.setCell ?_ (by have := HA.out; simp; omega) _))⟩
    | false =>
      have CD := Lib.hid (fun W => show Calls Tryd.prog 29 #[.int .u8 c] W fun e w' => e = .returned (.bool false) ∧ W = w' from by have := digit_any c W; rwa [hD] at this)
      go_wp2_with fail
      refine (CD.out _).mono ?_
      rintro e w' ⟨rfl, rfl⟩
      by_cases h39 : c = 39
      · have HR1 := Lib.hid (show R = if (charP src.size k (bz src ((k : Int) + 1)) (bz src ((k : Int) + 2)) (bz src ((k : Int) + 3))).2 = 0 then ⟨2, noB, (charP src.size k (bz src ((k : Int) + 1)) (bz src ((k : Int) + 2)) (bz src ((k : Int) + 3))).1, false, 0, 12⟩ else ⟨2, noB, (charP src.size k (bz src ((k : Int) + 1)) (bz src ((k : Int) + 2)) (bz src ((k : Int) + 3))).1, false, (charP src.size k (bz src ((k : Int) + 1)) (bz src ((k : Int) + 2)) (bz src ((k : Int) + 3))).2, 0⟩ by
          rw [HR.out]
          unfold tokP
          rw [HC0, if_neg (by rw [hL]; decide), if_neg (by rw [hD]; decide), if_pos h39])
        have HNU := Lib.hid (fun W (h : Sc W g src k sl) => char_any g src k sl W h hs (by have := HK.out; omega))
        obtain ⟨P, hP⟩ : ∃ P, P = charP src.size k (bz src ((k : Int) + 1)) (bz src ((k : Int) + 2)) (bz src ((k : Int) + 3)) := ⟨_, rfl⟩
        rw [← hP] at HR1 HNU
        obtain ⟨p1, p2⟩ := P
        clear hL hD HR HC0 hP hx1
        subst h39
        by_cases hz : p2 = 0
        · subst hz
          have HX := Lib.hid (show tokV k R = .returned (.tuple #[.agg #[.int .i64 2, .int .i64 j, .string ⟨#[]⟩, .int .u32 p1, .bool false], .int .i64 0, .int .i64 12]) by rw [HR1.out, if_pos rfl, HJ.out]; rfl)
          clear HR1
          go_wp2_with fail
          refine (HNU.out _ (by with_reducible repeat (first | exact HS.out | refine Sc.far ?_ _ (by simp; omega) | refine Sc.drewN ?_ _ | refine Sc.drew ?_))).mono ?_
          rintro e w' ⟨rfl, mm, rfl⟩
          go_wp2_with fail
          exact bodyPost_ret (results_ctt rfl _ _ a 29 #[.int .i64 2, .int .i64 j, .string ⟨#[]⟩, .int .u32 p1, .bool false] (0, 0) _ rfl (by (with_reducible repeat (first | refine blk_drewN ?_ _ | refine blk_drew ?_)); exact tok_blk (by with_reducible repeat (first | exact BA.out | refine tok_far ?_ _ (by simp) | refine blk_drewN ?_ _ | refine blk_drew ?_))) Tryd.underlying29 rfl (by kernel_rfl)) rfl ⟨by rw [HX.out]; rfl, (by with_reducible repeat (first | exact BL.out | refine Below.drew ?_ | apply pw_below_drewN | refine Below.setCell ?_ (by have := HA.out; simp; omega) _))⟩
        · have hz1 : (p2 == 0) = false := by simpa using hz
          have HX := Lib.hid (show tokV k R = .returned (.tuple #[.agg #[.int .i64 2, .int .i64 j, .string ⟨#[]⟩, .int .u32 p1, .bool false], .int .i64 p2, .int .i64 0]) by rw [HR1.out, if_neg hz, HJ.out]; rfl)
          clear HR1 hz
          go_wp2_with fail
          refine (HNU.out _ (by with_reducible repeat (first | exact HS.out | refine Sc.far ?_ _ (by simp; omega) | refine Sc.drewN ?_ _ | refine Sc.drew ?_))).mono ?_
          rintro e w' ⟨rfl, mm, rfl⟩
          go_wp2_with fail
          exact bodyPost_ret (results_ctt rfl _ _ a 29 #[.int .i64 2, .int .i64 j, .string ⟨#[]⟩, .int .u32 p1, .bool false] (0, 0) _ rfl (by (with_reducible repeat (first | refine blk_drewN ?_ _ | refine blk_drew ?_)); exact tok_blk (by with_reducible repeat (first | exact BA.out | refine tok_far ?_ _ (by simp) | refine blk_drewN ?_ _ | refine blk_drew ?_))) Tryd.underlying29 rfl (by kernel_rfl)) rfl ⟨by rw [HX.out]; rfl, (by with_reducible repeat (first | exact BL.out | refine Below.drew ?_ | apply pw_below_drewN | refine Below.setCell ?_ (by have := HA.out; simp; omega) _))⟩
      · have h39b : (c == 39) = false := by simpa using h39
        have hsl := sign_le src k HK.out
        have HR1 := Lib.hid (show R = if signP (bz src k) (bz src ((k : Int) + 1)) (bz src ((k : Int) + 2)) = 0 then ⟨0, noB, 0, false, 0, 14⟩ else ⟨4, cut src k (signP (bz src k) (bz src ((k : Int) + 1)) (bz src ((k : Int) + 2))), 0, false, signP (bz src k) (bz src ((k : Int) + 1)) (bz src ((k : Int) + 2)), 0⟩ by
          rw [HR.out]
          unfold tokP
          rw [HC0, if_neg (by rw [hL]; decide), if_neg (by rw [hD]; decide), if_neg h39])
        have HNU := Lib.hid (fun W (h : Sc W g src k sl) => show Calls Tryd.prog 32 #[.pointer (some ⟨g, 0, none⟩)] W fun e w' => e = .returned (.int .i64 (signP (bz src k) (bz src ((k : Int) + 1)) (bz src ((k : Int) + 2)))) ∧ ∃ m, w' = W.drewN m from by have := sign_any g src k sl W h hs (by have := HK.out; omega); rwa [show (k : Int) + 0 = k by omega] at this)
        obtain ⟨P, hP⟩ : ∃ P, P = signP (bz src k) (bz src ((k : Int) + 1)) (bz src ((k : Int) + 2)) := ⟨_, rfl⟩
        rw [← hP] at HR1 HNU hsl
        obtain ⟨hsl0, hsl1, hsl2⟩ := hsl
        clear hL hD HR HC0 hP hx1 h39
        by_cases hz : P = 0
        · subst hz
          have HX := Lib.hid (show tokV k R = .returned (.tuple #[.agg #[.int .i64 0, .int .i64 j, .string ⟨#[]⟩, .int .u32 0, .bool false], .int .i64 0, .int .i64 14]) by rw [HR1.out, if_pos rfl, HJ.out]; rfl)
          clear HR1
          go_wp2_with fail
          refine (HNU.out _ (by with_reducible repeat (first | exact HS.out | refine Sc.far ?_ _ (by simp; omega) | refine Sc.drewN ?_ _ | refine Sc.drew ?_))).mono ?_
          rintro e w' ⟨rfl, mm, rfl⟩
          go_wp2_with fail
          exact bodyPost_ret (results_ctt rfl _ _ a 29 #[.int .i64 0, .int .i64 j, .string ⟨#[]⟩, .int .u32 0, .bool false] (0, 0) _ rfl (by (with_reducible repeat (first | refine blk_drewN ?_ _ | refine blk_drew ?_)); exact tok_blk (by with_reducible repeat (first | exact BA.out | refine tok_far ?_ _ (by simp) | refine blk_drewN ?_ _ | refine blk_drew ?_))) Tryd.underlying29 rfl (by kernel_rfl)) rfl ⟨by rw [HX.out]; rfl, (by with_reducible repeat (first | exact BL.out | refine Below.drew ?_ | apply pw_below_drewN | refine Below.setCell ?_ (by have := HA.out; simp; omega) _))⟩
        · have hz1 : (P == 0) = false := by simpa using hz
          obtain ⟨q2, hq2e⟩ : ∃ q2 : Int, q2 = j + P := ⟨_, rfl⟩
          have HXS := Lib.hid (show (src.extract j.toNat q2.toNat) = cut src k P by unfold cut; rw [hq2e, HJ.out]; rfl)
          have HX := Lib.hid (show tokV k R = .returned (.tuple #[.agg #[.int .i64 4, .int .i64 j, .string (src.extract j.toNat q2.toNat), .int .u32 0, .bool false], .int .i64 P, .int .i64 0]) by rw [HR1.out, if_neg hz, HXS.out, HJ.out]; rfl)
          have hw5 : IntKind.i64.wrap (j + P) = q2 := by rw [hq2e]; exact IntWalk.i64_in _ (by have := HJ.out; omega)
          have hq20 : 0 ≤ q2 := by omega
          have hq21 : j ≤ q2 := by omega
          have hq22 : q2 ≤ (src.size : Int) := by have := HJ.out; omega
          clear HR1 hz hq2e hsl0 hsl1 hsl2
          go_wp2_with fail
          refine (HNU.out _ (by with_reducible repeat (first | exact HS.out | refine Sc.far ?_ _ (by simp; omega) | refine Sc.drewN ?_ _ | refine Sc.drew ?_))).mono ?_
          rintro e w' ⟨rfl, mm, rfl⟩
          go_wp2_with fail
          go_region_held3 (fun w' => w'.cell? ⟨g, 0, none⟩ = some (.string src) ∧ w'.cell? ⟨g, 1, none⟩ = some (.int .i64 j)) (go_keep) (fail)
          go_wp2_with fail
          exact bodyPost_ret (results_ctt rfl _ _ a 29 #[.int .i64 4, .int .i64 j, .string (src.extract j.toNat q2.toNat), .int .u32 0, .bool false] (0, 0) _ rfl (by (with_reducible repeat (first | refine blk_drewN ?_ _ | refine blk_drew ?_)); exact tok_blk (by with_reducible repeat (first | exact BA.out | refine tok_far ?_ _ (by simp) | refine blk_drewN ?_ _ | refine blk_drew ?_))) Tryd.underlying29 rfl (by kernel_rfl)) rfl ⟨by rw [HX.out]; rfl, (by with_reducible repeat (first | exact BL.out | refine Below.drew ?_ | apply pw_below_drewN | refine Below.setCell ?_ (by have := HA.out; simp; omega) _))⟩

end Go.Proofs.YtjoboaaambdpoaaDoor
