/- list.line of a label: walked. -/
import Derived.Test.YtlhgfhmdhmgmpaaGreatDoorLiE
import Derived.Test.YtlhgfhmdhmgmpaaGreatDoorLiG
import Derived.Outline
set_option linter.unusedVariables false
set_option linter.unusedSimpArgs false
namespace Go.Proofs.YtlhgfhmdhmgmpaaGreatDoor
open Go.RowKit Go.Proofs.YtlhgfhmdhmgmpaaGreatDoorW.PrintWords Go.Joins Go.Maps

/-- What line answers: some line, and whether it is one. -/
def LineR (r : Option Line) (w : World) (e : Ending) (w' : World) : Prop :=
  ∃ (ok : Bool) (l : Line) (v : Value), e = .returned (.tuple #[lineV l v, .bool ok]) ∧ r = (if ok = true then some l else none) ∧ (∃ A n c, v = .slice A n c) ∧ (ok = true → ∃ A c, v = .slice A l.list.length c ∧ (l.list.length ≤ c ∧ ∀ ad, A = some ad → w.heap.size ≤ ad.block) ∧ kInt.C w' A l.list.length l.list) ∧ Below w.heap.size w w'

def labelL (n : Int) : Line := ⟨0, 0, 0, 0, 0, n, []⟩

def labelR (s : List UInt8) : Option Line := if ((signedP s 76).2 && mayP (labelL (signedP s 76).1)) = true then some (labelL (signedP s 76).1) else none

theorem set7 {w : World} {R : Nat} {b0 b1 b2 b3 b4 b5 b6 : Value} {t : TypeId} (h : w.heap[R]? = some (.cells #[b0, b1, b2, b3, b4, b5, b6] t (0, 0))) (a0 a1 a2 a3 a4 a5 a6 : Value) :
    (((((((w.setCell ⟨R, 0, none⟩ a0).setCell ⟨R, 1, none⟩ a1).setCell ⟨R, 2, none⟩ a2).setCell ⟨R, 3, none⟩ a3).setCell ⟨R, 4, none⟩ a4).setCell ⟨R, 5, none⟩ a5).setCell ⟨R, 6, none⟩ a6).heap[R]? = some (.cells #[a0, a1, a2, a3, a4, a5, a6] t (0, 0)) := by
  have h0 : (w.setCell ⟨R, 0, none⟩ a0).heap[R]? = some (.cells #[a0, b1, b2, b3, b4, b5, b6] t (0, 0)) := by rw [block_setCell h]; rfl
  have h1 : ((w.setCell ⟨R, 0, none⟩ a0).setCell ⟨R, 1, none⟩ a1).heap[R]? = some (.cells #[a0, a1, b2, b3, b4, b5, b6] t (0, 0)) := by rw [block_setCell h0]; rfl
  have h2 : (((w.setCell ⟨R, 0, none⟩ a0).setCell ⟨R, 1, none⟩ a1).setCell ⟨R, 2, none⟩ a2).heap[R]? = some (.cells #[a0, a1, a2, b3, b4, b5, b6] t (0, 0)) := by rw [block_setCell h1]; rfl
  have h3 : ((((w.setCell ⟨R, 0, none⟩ a0).setCell ⟨R, 1, none⟩ a1).setCell ⟨R, 2, none⟩ a2).setCell ⟨R, 3, none⟩ a3).heap[R]? = some (.cells #[a0, a1, a2, a3, b4, b5, b6] t (0, 0)) := by rw [block_setCell h2]; rfl
  have h4 : (((((w.setCell ⟨R, 0, none⟩ a0).setCell ⟨R, 1, none⟩ a1).setCell ⟨R, 2, none⟩ a2).setCell ⟨R, 3, none⟩ a3).setCell ⟨R, 4, none⟩ a4).heap[R]? = some (.cells #[a0, a1, a2, a3, a4, b5, b6] t (0, 0)) := by rw [block_setCell h3]; rfl
  have h5 : ((((((w.setCell ⟨R, 0, none⟩ a0).setCell ⟨R, 1, none⟩ a1).setCell ⟨R, 2, none⟩ a2).setCell ⟨R, 3, none⟩ a3).setCell ⟨R, 4, none⟩ a4).setCell ⟨R, 5, none⟩ a5).heap[R]? = some (.cells #[a0, a1, a2, a3, a4, a5, b6] t (0, 0)) := by rw [block_setCell h4]; rfl
  have h6 : (((((((w.setCell ⟨R, 0, none⟩ a0).setCell ⟨R, 1, none⟩ a1).setCell ⟨R, 2, none⟩ a2).setCell ⟨R, 3, none⟩ a3).setCell ⟨R, 4, none⟩ a4).setCell ⟨R, 5, none⟩ a5).setCell ⟨R, 6, none⟩ a6).heap[R]? = some (.cells #[a0, a1, a2, a3, a4, a5, a6] t (0, 0)) := by rw [block_setCell h5]; rfl
  exact h6

theorem below7 {B : Nat} {w w' : World} {R : Nat} (h : Below B w w') (hR : B ≤ R) (a0 a1 a2 a3 a4 a5 a6 : Value) :
    Below B w (((((((w'.setCell ⟨R, 0, none⟩ a0).setCell ⟨R, 1, none⟩ a1).setCell ⟨R, 2, none⟩ a2).setCell ⟨R, 3, none⟩ a3).setCell ⟨R, 4, none⟩ a4).setCell ⟨R, 5, none⟩ a5).setCell ⟨R, 6, none⟩ a6) :=
  ((((((h.setCell hR a0).setCell hR a1).setCell hR a2).setCell hR a3).setCell hR a4).setCell hR a5).setCell hR a6

theorem kint_nil (w : World) : kInt.C w none 0 [] := ⟨rfl, by decide, fun h => absurd h (Nat.lt_irrefl _)⟩

set_option maxHeartbeats 4000000 in
set_option maxRecDepth 100000 in
theorem line_label (ad : Addr) (c : Nat) (s : ByteArray) (w : World) (hL : LLaid w) (hs : w.cell? ad = some (.string s)) (hsz : s.size ≤ 281474976710656) (hsuf : Lib.hasSuffix s.data.toList [58] = true) :
    Calls Tryz.prog 29 #[.slice (some ad) 1 c] w (LineR (labelR (Lib.trimSuffix s.data.toList [58])) w) := by
  have HL := Lib.hid hL
  have HS := Lib.hid hs
  have hsz2 : (⟨(Lib.trimSuffix s.data.toList [58]).toArray⟩ : ByteArray).size ≤ 281474976710656 := by
    show (Lib.trimSuffix s.data.toList [58]).toArray.size ≤ _
    rw [List.size_toArray]
    have : (Lib.trimSuffix s.data.toList [58]).length ≤ s.data.toList.length := by
      unfold Lib.trimSuffix
      split <;> first | (rw [List.length_take]; omega) | omega | exact Nat.le_refl _
    rw [Array.length_toList] at this
    exact Nat.le_trans this hsz
  have HC := Lib.hid (fun W => Tryz.strings_CutSuffix s ⟨#[58]⟩ W (by omega))
  have e1 : (⟨#[58]⟩ : ByteArray).data.toList = [58] := rfl
  rw [e1, hsuf] at HC
  generalize Lib.trimSuffix s.data.toList [58] = t at HC hsz2 ⊢
  have HG := Lib.hid (fun W (h : Below w.heap.size w W) => signed_any ⟨t.toArray⟩ 76 W (hL.below h) hsz2)
  have e2 : (⟨t.toArray⟩ : ByteArray).data.toList = t := rfl
  rw [e2] at HG
  have hsw := ka (.cells #[.int .i64 0, .int .i64 0, .int .i64 0, .int .i64 0, .int .u32 0, .int .i64 0, .slice none 0 0] 49) hs
  have HRR := Lib.hid (show ∀ R, (if ((signedP t 76).2 && mayP (labelL (signedP t 76).1)) = true then some (labelL (signedP t 76).1) else none) = R → labelR t = R from fun R h => h)
  generalize signedP t 76 = V at HG HRR
  obtain ⟨n, f⟩ := V
  simp only at HG HRR
  clear hs hsz hsz2 hsuf e1 e2
  have HLb := Lib.hid (fun W (h : Below w.heap.size w W) => hL.below h)
  clear hL
  go_enter Tryz.func29, Tryz.ntmps29
  go_wp2_with (go_at_call 60; refine (HC.out _).mono ?_; rintro e w' ⟨rfl, rfl⟩)
  refine (HG.out _ ((Below.refl _ _).alloc (Nat.le_refl _) _)).mono ?_
  rintro e w1 ⟨rfl, hb1⟩
  have HB1 := Lib.hid (bt hb1)
  have hR : w1.heap[w.heap.size]? = some (.cells #[.int .i64 0, .int .i64 0, .int .i64 0, .int .i64 0, .int .u32 0, .int .i64 0, .slice none 0 0] 49 (0, 0)) := (hb1.block _ (by simp)).trans (heap_alloc_new w _)
  have HR := Lib.hid hR
  clear hb1 hR hsw
  go_wp2_with fail
  obtain ⟨W5, hW5⟩ : ∃ W5, W5 = w1.alloc (.cells #[.int .i64 0, .int .i64 0, .int .i64 0, .int .i64 0, .int .u32 0, .int .i64 n, .slice none 0 0] 49) := ⟨_, rfl⟩
  rw [← hW5]
  have hb5 : Below w1.heap.size w1 W5 := by rw [hW5]; exact (Below.refl _ _).alloc (Nat.le_refl _) _
  have hR5 : W5.heap[w.heap.size]? = some (.cells #[.int .i64 0, .int .i64 0, .int .i64 0, .int .i64 0, .int .u32 0, .int .i64 0, .slice none 0 0] 49 (0, 0)) := (hb5.block _ (Array.getElem?_eq_some_iff.1 HR.out).1).trans HR.out
  have hX5 : W5.heap[w1.heap.size]? = some (.cells #[.int .i64 0, .int .i64 0, .int .i64 0, .int .i64 0, .int .u32 0, .int .i64 n, .slice none 0 0] 49 (0, 0)) := by rw [hW5]; exact heap_alloc_new w1 _
  have r0 := cell_of_block hR5 0
  have g0 := unfrozen_of_block hR5 0
  have x0 := cell_of_block hX5 0
  have r1 := cell_of_block hR5 1
  have g1 := unfrozen_of_block hR5 1
  have x1 := cell_of_block hX5 1
  have r2 := cell_of_block hR5 2
  have g2 := unfrozen_of_block hR5 2
  have x2 := cell_of_block hX5 2
  have r3 := cell_of_block hR5 3
  have g3 := unfrozen_of_block hR5 3
  have x3 := cell_of_block hX5 3
  have r4 := cell_of_block hR5 4
  have g4 := unfrozen_of_block hR5 4
  have x4 := cell_of_block hX5 4
  have r5 := cell_of_block hR5 5
  have g5 := unfrozen_of_block hR5 5
  have x5 := cell_of_block hX5 5
  have r6 := cell_of_block hR5 6
  have g6 := unfrozen_of_block hR5 6
  have x6 := cell_of_block hX5 6
  simp only [List.getElem?_toArray, List.getElem?_cons_succ, List.getElem?_cons_zero] at r0 r1 r2 r3 r4 r5 r6 x0 x1 x2 x3 x4 x5 x6
  have HB5 := Lib.hid (bj HB1.out hb5)
  have HL5 := Lib.hid (HL.out.below (bj HB1.out hb5))
  have hlt : w.heap.size < w1.heap.size := (Array.getElem?_eq_some_iff.1 HR.out).1
  have n1 : ¬ w.heap.size = w1.heap.size := by omega
  have HR5 := Lib.hid hR5
  have HX5 := Lib.hid hX5
  clear hW5 hb5 hR5 hX5
  cases f with
  | false =>
    go_region
    all_goals go_wp2_with fail
    all_goals refine bodyPost_ret (results_ct rfl _ _ w.heap.size 49 #[.int .i64 0, .int .i64 0, .int .i64 0, .int .i64 0, .int .u32 0, .int .i64 n, .slice none 0 0] (0, 0) _ rfl (by (with_reducible repeat (first | refine blk_drewN ?_ _ | refine blk_drew ?_)); exact set7 HR5.out _ _ _ _ _ _ _) Tryz.underlying49 rfl (by kernel_rfl)) rfl ?_
    all_goals exact ⟨false, labelL n, .slice none 0 0, rfl, HRR.out none rfl, ⟨_, _, _, rfl⟩, (fun h => by cases h), by (with_reducible repeat (first | refine Below.drew ?_ | refine pw_below_drewN ?_ _)); exact below7 HB5.out (Nat.le_refl _) _ _ _ _ _ _ _⟩
  | true =>
    have hm := may_any (labelL n) none 0
    unfold lineV labelL at hm
    have HM := Lib.hid (fun W (h : Below w.heap.size w W) => hm W (HLb.out W h) (kint_nil W))
    clear hm
    go_region_with ((go_at_call 21; refine (HM.out _ ?_).mono ?_; (with_reducible repeat (first | exact HB5.out | refine Below.drew ?_)); rintro e w6 ⟨rfl, hb6⟩; have y0 := kp hb6 x0; have s0 := kp hb6 r0; have h0 := kpf hb6 r0 g0; have y1 := kp hb6 x1; have s1 := kp hb6 r1; have h1 := kpf hb6 r1 g1; have y2 := kp hb6 x2; have s2 := kp hb6 r2; have h2 := kpf hb6 r2 g2; have y3 := kp hb6 x3; have s3 := kp hb6 r3; have h3 := kpf hb6 r3 g3; have y4 := kp hb6 x4; have s4 := kp hb6 r4; have h4 := kpf hb6 r4 g4; have y5 := kp hb6 x5; have s5 := kp hb6 r5; have h5 := kpf hb6 r5 g5; have y6 := kp hb6 x6; have s6 := kp hb6 r6; have h6 := kpf hb6 r6 g6; have HB6 := Lib.hid (show Below w.heap.size w w6 from bj (HB5.out.drew) hb6); have HR6 := Lib.hid ((hb6.block _ (Array.getElem?_eq_some_iff.1 HR5.out).1).trans HR5.out); clear hb6))
    all_goals go_wp2_with fail
    all_goals refine bodyPost_ret (results_ct rfl _ _ w.heap.size 49 #[.int .i64 0, .int .i64 0, .int .i64 0, .int .i64 0, .int .u32 0, .int .i64 n, .slice none 0 0] (0, 0) _ rfl (by (with_reducible repeat (first | refine blk_drewN ?_ _ | refine blk_drew ?_)); exact set7 HR6.out _ _ _ _ _ _ _) Tryz.underlying49 rfl (by kernel_rfl)) rfl ?_
    all_goals exact ⟨mayP (labelL n), labelL n, .slice none 0 0, rfl, HRR.out _ (by cases mayP (labelL n) <;> rfl), ⟨_, _, _, rfl⟩, (fun _ => ⟨none, 0, rfl, ⟨Nat.le_refl _, (fun ad e => by cases e)⟩, kint_nil _⟩), by (with_reducible repeat (first | refine Below.drew ?_ | refine pw_below_drewN ?_ _)); exact below7 HB6.out (Nat.le_refl _) _ _ _ _ _ _ _⟩

end Go.Proofs.YtlhgfhmdhmgmpaaGreatDoor
