/- The document's token, given to the print: its plain form and its contract, walked over its real body. Printed by gen_lxtr.py. -/
import Derived.Test.YtjoboaaambdpoaaDoorLxRZ
set_option linter.unusedVariables false
set_option linter.unusedSimpArgs false
namespace Go.Proofs.YtjoboaaambdpoaaDoor.PR01
open Go.RowKit Go.Proofs.YtjoboaaambdpoaaDoorW.PrintWords Go.Proofs.YtjoboaaambdpoaaDoorW.PrintLast Go.Proofs.YtjoboaaambdpoaaDoorW.PrintMore Go.Maps Go.Joins

/-- The document's token at a place: its fields, its end, the error. -/
def tokR (src : ByteArray) (i : Nat) : Int × Int × ByteArray × Int × Bool × Int × Int :=
  if isL (gt (src.data.toList.drop i) 0) = true then
    (if decide ((src.data.toList.drop i).take (runL (src.data.toList.drop i)) ∈ wordsL) = true then 3 else 1, (i : Int), cut src i (runL (src.data.toList.drop i)), 0, false, (i : Int) + runL (src.data.toList.drop i), if 31 < runL (src.data.toList.drop i) then 10 else 0)
  else if isD (gt (src.data.toList.drop i) 0) = true then
    (2, (i : Int), ⟨#[]⟩, (numR ((src.data.toList.drop i).take (runL (src.data.toList.drop i)))).1, (numR ((src.data.toList.drop i).take (runL (src.data.toList.drop i)))).2.1, (i : Int) + runL (src.data.toList.drop i), if (numR ((src.data.toList.drop i).take (runL (src.data.toList.drop i)))).2.2 = true then 0 else 11)
  else if gt (src.data.toList.drop i) 0 = 39 then
    (2, (i : Int), ⟨#[]⟩, (charO (src.data.toList.drop i) i).1, false, if (charO (src.data.toList.drop i) i).2 < 0 then (i : Int) else (charO (src.data.toList.drop i) i).2, if (charO (src.data.toList.drop i) i).2 < 0 then 12 else 0)
  else if signL (src.data.toList.drop i) = 0 then (0, (i : Int), ⟨#[]⟩, 0, false, (i : Int), 14)
  else (4, (i : Int), cut src i (signL (src.data.toList.drop i)), 0, false, (i : Int) + signL (src.data.toList.drop i), 0)

def tokRV (r : Int × Int × ByteArray × Int × Bool × Int × Int) : Ending := .returned (.tuple #[.agg #[.int .i64 r.1, .int .i64 r.2.1, .string r.2.2.1, .int .u32 r.2.2.2.1, .bool r.2.2.2.2.1], .int .i64 r.2.2.2.2.2.1, .int .i64 r.2.2.2.2.2.2])

set_option maxRecDepth 100000 in
set_option maxHeartbeats 8000000 in
theorem tokR_any (src : ByteArray) (k : Nat) (w : World) (hs : src.size ≤ 1000000) (hk : k < src.size) :
    Calls Tryd.prog 22 #[.string src, .int .i64 k] w fun e w' => e = tokRV (tokR src k) ∧ Below w.heap.size w w' := by
  have hrl := run_le_src src k (Nat.le_of_lt hk)
  have hlen : (src.data.toList.drop k).length = src.size - k := drop_len src k
  obtain ⟨l, hl⟩ : ∃ l, l = src.data.toList.drop k := ⟨_, rfl⟩
  obtain ⟨R, hR⟩ : ∃ R, R = tokR src k := ⟨_, rfl⟩
  rw [← hR]
  unfold tokR at hR
  rw [← hl] at hrl hR hlen
  have hx := bt_at src (k : Int)
  have hb0 : Go.Proofs.YtjoboaaambdpoaaDoorW.PrintWords.bt src (k : Int) = gt l 0 := by rw [hl]; exact bz_g0 src k
  have hrun := run_f src hs _ k rfl (Nat.le_of_lt hk)
  rw [← hl] at hrun
  have hchr := char_f src hs k hk
  rw [← hl] at hchr
  obtain ⟨N, hN⟩ : ∃ N, N = runL l := ⟨_, rfl⟩
  rw [← hN] at hrl hR hrun
  have hsg := signL_n l (fun e => by rw [e] at hlen; simp at hlen; omega)
  obtain ⟨j, hj⟩ : ∃ j : Int, j = (k : Int) := ⟨_, rfl⟩
  have hjt : j.toNat = k := by omega
  rw [← hj] at hR hrun hchr hx hb0 ⊢
  obtain ⟨q, hq⟩ : ∃ q : Int, q = j + (N : Int) := ⟨_, rfl⟩
  rw [← hq] at hR hrun
  obtain ⟨kr, hkr⟩ := hrun.rounds
  have CR := Lib.hid (fun W => show Calls Tryd.prog 34 #[.string src, .int .i64 j] W fun e w' => e = .returned (.int .i64 q) ∧ Drawn0 W w' from switchbackref01_run.calls kr src j q W hkr)
  obtain ⟨c, hc⟩ : ∃ c, c = gt l 0 := ⟨_, rfl⟩
  rw [← hc] at hR hb0
  have hx1 : ∀ h : j.toNat < src.size, ((src[j.toNat]'h).toNat : Int) = c := fun h => by rw [hx h, hb0]
  have hj0 : 0 ≤ j := by omega
  have hj1 : j < (src.size : Int) := by omega
  have hq0 : 0 ≤ q := by omega
  have hq1 : j ≤ q := by omega
  have hq2 : q ≤ (src.size : Int) := by omega
  have p6 := eq_true hj0
  have q6 := eq_true hj1
  have htx : cut src k (N : Int) = src.extract j.toNat q.toNat := by unfold cut; rw [hjt, hq, hj]
  have htd : (src.extract j.toNat q.toNat).data.toList = l.take N := by rw [← htx, cut_take, hl]
  have hkk : IntKind.i64.wrap (q - j) = q - j := IntWalk.i64_in _ (by omega)
  have HR := Lib.hid hR
  have HJ := Lib.hid hj
  have HQ := Lib.hid hq
  have HN := Lib.hid hN
  have HL := Lib.hid hl
  have HTX := Lib.hid htx
  have HTD := Lib.hid htd
  have HC := Lib.hid hc
  have HCH := Lib.hid hchr
  have HSG := Lib.hid hsg
  have HLEN := Lib.hid hlen
  have HRL := Lib.hid hrl
  have HK := Lib.hid hk
  clear hR hj hq hN hl htx htd hc hchr hsg hx hb0 hrun hkr hjt hlen hrl hk
  have CL := Lib.hid (fun W => show Calls Tryd.prog 33 #[.int .u8 c] W fun e w' => e = .returned (.bool (isL c)) ∧ Drawn0 W w' from switchbackref01_letter.calls c (isL c) W (letter_f c))
  have CD := Lib.hid (fun W => show Calls Tryd.prog 36 #[.int .u8 c] W fun e w' => e = .returned (.bool (isD c)) ∧ Drawn0 W w' from switchbackref01_digit.calls c (isD c) W (digit_f c))
  cases hL : isL c with
  | true =>
    rw [hL] at CL
    obtain ⟨kw, hkw⟩ := (word_f (src.extract j.toNat q.toNat)).rounds
    rw [HTD.out] at hkw
    obtain ⟨b, hb⟩ : ∃ b, b = decide (l.take N ∈ wordsL) := ⟨_, rfl⟩
    rw [← hb] at hkw
    have CW := Lib.hid (fun W => show Calls Tryd.prog 35 #[.string (src.extract j.toNat q.toNat)] W fun e w' => e = .returned (.bool b) ∧ Drawn0 W w' from switchbackref01_word.calls kw _ b W hkw)
    have HR1 := Lib.hid (show R = (if b = true then 3 else 1, j, src.extract j.toNat q.toNat, 0, false, q, if 31 < N then 10 else 0) by rw [HR.out, if_pos hL, HTX.out, hb])
    clear hkw hb hL HR CD
    go_enter Tryd.func22, Tryd.ntmps22
    go_wp2_with fail
    refine (CL.out _).mono ?_
    rintro e w' ⟨rfl, ⟨nd, rfl⟩⟩
    obtain ⟨W1, hW1⟩ : ∃ W1 : World, W1 = ((w.alloc (.cells #[.int .i64 0, .int .i64 0, .string ⟨#[]⟩, .int .u32 0, .bool false] 29)).alloc (.cells #[.int .i64 0, .int .i64 j, .string ⟨#[]⟩, .int .u32 0, .bool false] 29)).drewN nd := ⟨_, rfl⟩
    rw [← hW1]
    have hBa : W1.heap[w.heap.size]? = some (.cells #[.int .i64 0, .int .i64 0, .string ⟨#[]⟩, .int .u32 0, .bool false] 29 (0, 0)) := by rw [hW1]; exact blk_drewN (blk_alloc (heap_alloc_new w _) _) nd
    have hBb : W1.heap[w.heap.size + 1]? = some (.cells #[.int .i64 0, .int .i64 j, .string ⟨#[]⟩, .int .u32 0, .bool false] 29 (0, 0)) := by
      rw [hW1]
      have := heap_alloc_new (w.alloc (.cells #[.int .i64 0, .int .i64 0, .string ⟨#[]⟩, .int .u32 0, .bool false] 29)) (.cells #[.int .i64 0, .int .i64 j, .string ⟨#[]⟩, .int .u32 0, .bool false] 29)
      rw [World.size_alloc] at this
      exact blk_drewN this nd
    have hB1 : Below w.heap.size w W1 := by rw [hW1]; repeat (first | exact Below.refl _ _ | apply pw_below_drewN | apply below_alloc)
    obtain ⟨a, ha⟩ : ∃ a, a = w.heap.size := ⟨_, rfl⟩
    rw [← ha] at hBa hBb ⊢
    have x0 := cell_of_block hBb 0
    have u0 := unfrozen_of_block hBb 0
    have y0 := cell_of_block hBa 0
    have v0 := unfrozen_of_block hBa 0
    have x1 := cell_of_block hBb 1
    have u1 := unfrozen_of_block hBb 1
    have y1 := cell_of_block hBa 1
    have v1 := unfrozen_of_block hBa 1
    have x2 := cell_of_block hBb 2
    have u2 := unfrozen_of_block hBb 2
    have y2 := cell_of_block hBa 2
    have v2 := unfrozen_of_block hBa 2
    have x3 := cell_of_block hBb 3
    have u3 := unfrozen_of_block hBb 3
    have y3 := cell_of_block hBa 3
    have v3 := unfrozen_of_block hBa 3
    have x4 := cell_of_block hBb 4
    have u4 := unfrozen_of_block hBb 4
    have y4 := cell_of_block hBa 4
    have v4 := unfrozen_of_block hBa 4
    have BA := Lib.hid hBa
    have BB := Lib.hid hBb
    have BL := Lib.hid hB1
    have HA := Lib.hid ha
    clear hBa hBb hB1 hW1 ha
    by_cases h31 : 31 < N
    · have hd31 : decide (31 < q - j) = true := decide_eq_true (by have := HQ.out; omega)
      cases b with
      | true =>
        have HX := Lib.hid (show tokRV R = .returned (.tuple #[.agg #[.int .i64 3, .int .i64 j, .string (src.extract j.toNat q.toNat), .int .u32 0, .bool false], .int .i64 q, .int .i64 10]) by rw [HR1.out, if_pos h31]; rfl)
        clear HR1 h31
        go_wp2_with fail
        refine (CR.out _).mono ?_
        rintro e w' ⟨rfl, ⟨n1, rfl⟩⟩
        go_wp2_with fail
        refine (CW.out _).mono ?_
        rintro e w' ⟨rfl, ⟨n2, rfl⟩⟩
        obtain ⟨W2, hW2⟩ : ∃ W2 : World, W2 = (((W1.drewN n1).setCell ⟨a + 1, 2, none⟩ (.string (src.extract j.toNat q.toNat))).setCell ⟨a + 1, 0, none⟩ (.int .i64 1)).drewN n2 := ⟨_, rfl⟩
        rw [← hW2]
        have hBa2 : W2.heap[a]? = some (.cells #[.int .i64 0, .int .i64 0, .string ⟨#[]⟩, .int .u32 0, .bool false] 29 (0, 0)) := by
          rw [hW2]
          exact blk_drewN (tok_far (tok_far (blk_drewN BA.out n1) _ (by simp)) _ (by simp)) n2
        have hBb2 : W2.heap[a + 1]? = some (.cells #[.int .i64 1, .int .i64 j, .string (src.extract j.toNat q.toNat), .int .u32 0, .bool false] 29 (0, 0)) := by
          rw [hW2]
          exact blk_drewN (block_setCell (i := 0) (block_setCell (i := 2) (blk_drewN BB.out n1) _) _) n2
        have hB2 : Below w.heap.size w W2 := by
          rw [hW2]
          exact (by with_reducible repeat (first | exact BL.out | refine Below.drew ?_ | apply pw_below_drewN | refine Below.setCell ?_ (by have := HA.out; simp; omega) _))
        have BA2 := Lib.hid hBa2
        have BL2 := Lib.hid hB2
        have X0 := cell_of_block hBb2 0
        have U0 := unfrozen_of_block hBb2 0
        have Y0 := cell_of_block hBa2 0
        have V0 := unfrozen_of_block hBa2 0
        have X1 := cell_of_block hBb2 1
        have U1 := unfrozen_of_block hBb2 1
        have Y1 := cell_of_block hBa2 1
        have V1 := unfrozen_of_block hBa2 1
        have X2 := cell_of_block hBb2 2
        have U2 := unfrozen_of_block hBb2 2
        have Y2 := cell_of_block hBa2 2
        have V2 := unfrozen_of_block hBa2 2
        have X3 := cell_of_block hBb2 3
        have U3 := unfrozen_of_block hBb2 3
        have Y3 := cell_of_block hBa2 3
        have V3 := unfrozen_of_block hBa2 3
        have X4 := cell_of_block hBb2 4
        have U4 := unfrozen_of_block hBb2 4
        have Y4 := cell_of_block hBa2 4
        have V4 := unfrozen_of_block hBa2 4
        clear hBa2 hBb2 hB2 hW2
        go_wp2_with fail
        exact bodyPost_ret (results_ctt rfl _ _ a 29 #[.int .i64 3, .int .i64 j, .string (src.extract j.toNat q.toNat), .int .u32 0, .bool false] (0, 0) _ rfl (by (with_reducible repeat (first | refine blk_drewN ?_ _ | refine blk_drew ?_)); exact tok_blk (by with_reducible repeat (first | exact BA2.out | refine tok_far ?_ _ (by simp) | refine blk_drewN ?_ _ | refine blk_drew ?_))) Tryd.underlying29 rfl (by kernel_rfl)) rfl ⟨by rw [HX.out]; rfl, (by with_reducible repeat (first | exact BL2.out | refine Below.drew ?_ | apply pw_below_drewN | refine Below.setCell ?_ (by have := HA.out; simp; omega) _))⟩
      | false =>
        have HX := Lib.hid (show tokRV R = .returned (.tuple #[.agg #[.int .i64 1, .int .i64 j, .string (src.extract j.toNat q.toNat), .int .u32 0, .bool false], .int .i64 q, .int .i64 10]) by rw [HR1.out, if_pos h31]; rfl)
        clear HR1 h31
        go_wp2_with fail
        refine (CR.out _).mono ?_
        rintro e w' ⟨rfl, ⟨n1, rfl⟩⟩
        go_wp2_with fail
        refine (CW.out _).mono ?_
        rintro e w' ⟨rfl, ⟨n2, rfl⟩⟩
        obtain ⟨W2, hW2⟩ : ∃ W2 : World, W2 = (((W1.drewN n1).setCell ⟨a + 1, 2, none⟩ (.string (src.extract j.toNat q.toNat))).setCell ⟨a + 1, 0, none⟩ (.int .i64 1)).drewN n2 := ⟨_, rfl⟩
        rw [← hW2]
        have hBa2 : W2.heap[a]? = some (.cells #[.int .i64 0, .int .i64 0, .string ⟨#[]⟩, .int .u32 0, .bool false] 29 (0, 0)) := by
          rw [hW2]
          exact blk_drewN (tok_far (tok_far (blk_drewN BA.out n1) _ (by simp)) _ (by simp)) n2
        have hBb2 : W2.heap[a + 1]? = some (.cells #[.int .i64 1, .int .i64 j, .string (src.extract j.toNat q.toNat), .int .u32 0, .bool false] 29 (0, 0)) := by
          rw [hW2]
          exact blk_drewN (block_setCell (i := 0) (block_setCell (i := 2) (blk_drewN BB.out n1) _) _) n2
        have hB2 : Below w.heap.size w W2 := by
          rw [hW2]
          exact (by with_reducible repeat (first | exact BL.out | refine Below.drew ?_ | apply pw_below_drewN | refine Below.setCell ?_ (by have := HA.out; simp; omega) _))
        have BA2 := Lib.hid hBa2
        have BL2 := Lib.hid hB2
        have X0 := cell_of_block hBb2 0
        have U0 := unfrozen_of_block hBb2 0
        have Y0 := cell_of_block hBa2 0
        have V0 := unfrozen_of_block hBa2 0
        have X1 := cell_of_block hBb2 1
        have U1 := unfrozen_of_block hBb2 1
        have Y1 := cell_of_block hBa2 1
        have V1 := unfrozen_of_block hBa2 1
        have X2 := cell_of_block hBb2 2
        have U2 := unfrozen_of_block hBb2 2
        have Y2 := cell_of_block hBa2 2
        have V2 := unfrozen_of_block hBa2 2
        have X3 := cell_of_block hBb2 3
        have U3 := unfrozen_of_block hBb2 3
        have Y3 := cell_of_block hBa2 3
        have V3 := unfrozen_of_block hBa2 3
        have X4 := cell_of_block hBb2 4
        have U4 := unfrozen_of_block hBb2 4
        have Y4 := cell_of_block hBa2 4
        have V4 := unfrozen_of_block hBa2 4
        clear hBa2 hBb2 hB2 hW2
        go_wp2_with fail
        exact bodyPost_ret (results_ctt rfl _ _ a 29 #[.int .i64 1, .int .i64 j, .string (src.extract j.toNat q.toNat), .int .u32 0, .bool false] (0, 0) _ rfl (by (with_reducible repeat (first | refine blk_drewN ?_ _ | refine blk_drew ?_)); exact tok_blk (by with_reducible repeat (first | exact BA2.out | refine tok_far ?_ _ (by simp) | refine blk_drewN ?_ _ | refine blk_drew ?_))) Tryd.underlying29 rfl (by kernel_rfl)) rfl ⟨by rw [HX.out]; rfl, (by with_reducible repeat (first | exact BL2.out | refine Below.drew ?_ | apply pw_below_drewN | refine Below.setCell ?_ (by have := HA.out; simp; omega) _))⟩
    · have hd31 : decide (31 < q - j) = false := decide_eq_false (by have := HQ.out; omega)
      cases b with
      | true =>
        have HX := Lib.hid (show tokRV R = .returned (.tuple #[.agg #[.int .i64 3, .int .i64 j, .string (src.extract j.toNat q.toNat), .int .u32 0, .bool false], .int .i64 q, .int .i64 0]) by rw [HR1.out, if_neg h31]; rfl)
        clear HR1 h31
        go_wp2_with fail
        refine (CR.out _).mono ?_
        rintro e w' ⟨rfl, ⟨n1, rfl⟩⟩
        go_wp2_with fail
        refine (CW.out _).mono ?_
        rintro e w' ⟨rfl, ⟨n2, rfl⟩⟩
        obtain ⟨W2, hW2⟩ : ∃ W2 : World, W2 = (((W1.drewN n1).setCell ⟨a + 1, 2, none⟩ (.string (src.extract j.toNat q.toNat))).setCell ⟨a + 1, 0, none⟩ (.int .i64 1)).drewN n2 := ⟨_, rfl⟩
        rw [← hW2]
        have hBa2 : W2.heap[a]? = some (.cells #[.int .i64 0, .int .i64 0, .string ⟨#[]⟩, .int .u32 0, .bool false] 29 (0, 0)) := by
          rw [hW2]
          exact blk_drewN (tok_far (tok_far (blk_drewN BA.out n1) _ (by simp)) _ (by simp)) n2
        have hBb2 : W2.heap[a + 1]? = some (.cells #[.int .i64 1, .int .i64 j, .string (src.extract j.toNat q.toNat), .int .u32 0, .bool false] 29 (0, 0)) := by
          rw [hW2]
          exact blk_drewN (block_setCell (i := 0) (block_setCell (i := 2) (blk_drewN BB.out n1) _) _) n2
        have hB2 : Below w.heap.size w W2 := by
          rw [hW2]
          exact (by with_reducible repeat (first | exact BL.out | refine Below.drew ?_ | apply pw_below_drewN | refine Below.setCell ?_ (by have := HA.out; simp; omega) _))
        have BA2 := Lib.hid hBa2
        have BL2 := Lib.hid hB2
        have X0 := cell_of_block hBb2 0
        have U0 := unfrozen_of_block hBb2 0
        have Y0 := cell_of_block hBa2 0
        have V0 := unfrozen_of_block hBa2 0
        have X1 := cell_of_block hBb2 1
        have U1 := unfrozen_of_block hBb2 1
        have Y1 := cell_of_block hBa2 1
        have V1 := unfrozen_of_block hBa2 1
        have X2 := cell_of_block hBb2 2
        have U2 := unfrozen_of_block hBb2 2
        have Y2 := cell_of_block hBa2 2
        have V2 := unfrozen_of_block hBa2 2
        have X3 := cell_of_block hBb2 3
        have U3 := unfrozen_of_block hBb2 3
        have Y3 := cell_of_block hBa2 3
        have V3 := unfrozen_of_block hBa2 3
        have X4 := cell_of_block hBb2 4
        have U4 := unfrozen_of_block hBb2 4
        have Y4 := cell_of_block hBa2 4
        have V4 := unfrozen_of_block hBa2 4
        clear hBa2 hBb2 hB2 hW2
        go_wp2_with fail
        exact bodyPost_ret (results_ctt rfl _ _ a 29 #[.int .i64 3, .int .i64 j, .string (src.extract j.toNat q.toNat), .int .u32 0, .bool false] (0, 0) _ rfl (by (with_reducible repeat (first | refine blk_drewN ?_ _ | refine blk_drew ?_)); exact tok_blk (by with_reducible repeat (first | exact BA2.out | refine tok_far ?_ _ (by simp) | refine blk_drewN ?_ _ | refine blk_drew ?_))) Tryd.underlying29 rfl (by kernel_rfl)) rfl ⟨by rw [HX.out]; rfl, (by with_reducible repeat (first | exact BL2.out | refine Below.drew ?_ | apply pw_below_drewN | refine Below.setCell ?_ (by have := HA.out; simp; omega) _))⟩
      | false =>
        have HX := Lib.hid (show tokRV R = .returned (.tuple #[.agg #[.int .i64 1, .int .i64 j, .string (src.extract j.toNat q.toNat), .int .u32 0, .bool false], .int .i64 q, .int .i64 0]) by rw [HR1.out, if_neg h31]; rfl)
        clear HR1 h31
        go_wp2_with fail
        refine (CR.out _).mono ?_
        rintro e w' ⟨rfl, ⟨n1, rfl⟩⟩
        go_wp2_with fail
        refine (CW.out _).mono ?_
        rintro e w' ⟨rfl, ⟨n2, rfl⟩⟩
        obtain ⟨W2, hW2⟩ : ∃ W2 : World, W2 = (((W1.drewN n1).setCell ⟨a + 1, 2, none⟩ (.string (src.extract j.toNat q.toNat))).setCell ⟨a + 1, 0, none⟩ (.int .i64 1)).drewN n2 := ⟨_, rfl⟩
        rw [← hW2]
        have hBa2 : W2.heap[a]? = some (.cells #[.int .i64 0, .int .i64 0, .string ⟨#[]⟩, .int .u32 0, .bool false] 29 (0, 0)) := by
          rw [hW2]
          exact blk_drewN (tok_far (tok_far (blk_drewN BA.out n1) _ (by simp)) _ (by simp)) n2
        have hBb2 : W2.heap[a + 1]? = some (.cells #[.int .i64 1, .int .i64 j, .string (src.extract j.toNat q.toNat), .int .u32 0, .bool false] 29 (0, 0)) := by
          rw [hW2]
          exact blk_drewN (block_setCell (i := 0) (block_setCell (i := 2) (blk_drewN BB.out n1) _) _) n2
        have hB2 : Below w.heap.size w W2 := by
          rw [hW2]
          exact (by with_reducible repeat (first | exact BL.out | refine Below.drew ?_ | apply pw_below_drewN | refine Below.setCell ?_ (by have := HA.out; simp; omega) _))
        have BA2 := Lib.hid hBa2
        have BL2 := Lib.hid hB2
        have X0 := cell_of_block hBb2 0
        have U0 := unfrozen_of_block hBb2 0
        have Y0 := cell_of_block hBa2 0
        have V0 := unfrozen_of_block hBa2 0
        have X1 := cell_of_block hBb2 1
        have U1 := unfrozen_of_block hBb2 1
        have Y1 := cell_of_block hBa2 1
        have V1 := unfrozen_of_block hBa2 1
        have X2 := cell_of_block hBb2 2
        have U2 := unfrozen_of_block hBb2 2
        have Y2 := cell_of_block hBa2 2
        have V2 := unfrozen_of_block hBa2 2
        have X3 := cell_of_block hBb2 3
        have U3 := unfrozen_of_block hBb2 3
        have Y3 := cell_of_block hBa2 3
        have V3 := unfrozen_of_block hBa2 3
        have X4 := cell_of_block hBb2 4
        have U4 := unfrozen_of_block hBb2 4
        have Y4 := cell_of_block hBa2 4
        have V4 := unfrozen_of_block hBa2 4
        clear hBa2 hBb2 hB2 hW2
        go_wp2_with fail
        exact bodyPost_ret (results_ctt rfl _ _ a 29 #[.int .i64 1, .int .i64 j, .string (src.extract j.toNat q.toNat), .int .u32 0, .bool false] (0, 0) _ rfl (by (with_reducible repeat (first | refine blk_drewN ?_ _ | refine blk_drew ?_)); exact tok_blk (by with_reducible repeat (first | exact BA2.out | refine tok_far ?_ _ (by simp) | refine blk_drewN ?_ _ | refine blk_drew ?_))) Tryd.underlying29 rfl (by kernel_rfl)) rfl ⟨by rw [HX.out]; rfl, (by with_reducible repeat (first | exact BL2.out | refine Below.drew ?_ | apply pw_below_drewN | refine Below.setCell ?_ (by have := HA.out; simp; omega) _))⟩
  | false =>
    rw [hL] at CL
    cases hD : isD c with
    | true =>
      rw [hD] at CD
      have hne : (src.extract j.toNat q.toNat).data.toList ≠ [] := by
        rw [HTD.out]
        intro e
        have h1 := congrArg List.length e
        rw [List.length_take, HLEN.out] at h1
        have h2 : 1 ≤ N := by rw [HN.out]; exact runL_pos l (.inr (by rw [← HC.out]; exact hD))
        have := HRL.out
        have := HK.out
        simp at h1
        omega
      obtain ⟨kn, hkn⟩ := (number_f (src.extract j.toNat q.toNat) (by rw [ByteArray.size_extract]; omega) hne).rounds
      rw [HTD.out] at hkn
      obtain ⟨P, hP⟩ : ∃ P, P = numR (l.take N) := ⟨_, rfl⟩
      have HR1 := Lib.hid (show R = (2, j, ⟨#[]⟩, P.1, P.2.1, q, if P.2.2 = true then 0 else 11) by rw [HR.out, if_neg (by rw [hL]; decide), if_pos hD, hP])
      rw [← hP] at hkn
      obtain ⟨p1, p2, p3⟩ := P
      have CN := Lib.hid (fun W => show Calls Tryd.prog 37 #[.string (src.extract j.toNat q.toNat)] W fun e w' => e = .returned (.tuple #[.int .u32 p1, .bool p2, .bool p3]) ∧ Drawn0 W w' from switchbackref01_Number.calls kn _ p1 p2 p3 W hkn)
      clear hkn hP hL hD HR hne
      go_enter Tryd.func22, Tryd.ntmps22
      go_wp2_with fail
      refine (CL.out _).mono ?_
      rintro e w' ⟨rfl, ⟨nd, rfl⟩⟩
      obtain ⟨W1, hW1⟩ : ∃ W1 : World, W1 = ((w.alloc (.cells #[.int .i64 0, .int .i64 0, .string ⟨#[]⟩, .int .u32 0, .bool false] 29)).alloc (.cells #[.int .i64 0, .int .i64 j, .string ⟨#[]⟩, .int .u32 0, .bool false] 29)).drewN nd := ⟨_, rfl⟩
      rw [← hW1]
      have hBa : W1.heap[w.heap.size]? = some (.cells #[.int .i64 0, .int .i64 0, .string ⟨#[]⟩, .int .u32 0, .bool false] 29 (0, 0)) := by rw [hW1]; exact blk_drewN (blk_alloc (heap_alloc_new w _) _) nd
      have hBb : W1.heap[w.heap.size + 1]? = some (.cells #[.int .i64 0, .int .i64 j, .string ⟨#[]⟩, .int .u32 0, .bool false] 29 (0, 0)) := by
        rw [hW1]
        have := heap_alloc_new (w.alloc (.cells #[.int .i64 0, .int .i64 0, .string ⟨#[]⟩, .int .u32 0, .bool false] 29)) (.cells #[.int .i64 0, .int .i64 j, .string ⟨#[]⟩, .int .u32 0, .bool false] 29)
        rw [World.size_alloc] at this
        exact blk_drewN this nd
      have hB1 : Below w.heap.size w W1 := by rw [hW1]; repeat (first | exact Below.refl _ _ | apply pw_below_drewN | apply below_alloc)
      obtain ⟨a, ha⟩ : ∃ a, a = w.heap.size := ⟨_, rfl⟩
      rw [← ha] at hBa hBb ⊢
      have x0 := cell_of_block hBb 0
      have u0 := unfrozen_of_block hBb 0
      have y0 := cell_of_block hBa 0
      have v0 := unfrozen_of_block hBa 0
      have x1 := cell_of_block hBb 1
      have u1 := unfrozen_of_block hBb 1
      have y1 := cell_of_block hBa 1
      have v1 := unfrozen_of_block hBa 1
      have x2 := cell_of_block hBb 2
      have u2 := unfrozen_of_block hBb 2
      have y2 := cell_of_block hBa 2
      have v2 := unfrozen_of_block hBa 2
      have x3 := cell_of_block hBb 3
      have u3 := unfrozen_of_block hBb 3
      have y3 := cell_of_block hBa 3
      have v3 := unfrozen_of_block hBa 3
      have x4 := cell_of_block hBb 4
      have u4 := unfrozen_of_block hBb 4
      have y4 := cell_of_block hBa 4
      have v4 := unfrozen_of_block hBa 4
      have BA := Lib.hid hBa
      have BB := Lib.hid hBb
      have BL := Lib.hid hB1
      have HA := Lib.hid ha
      clear hBa hBb hB1 hW1 ha
      cases p3 with
      | true =>
        have HX := Lib.hid (show tokRV R = .returned (.tuple #[.agg #[.int .i64 2, .int .i64 j, .string ⟨#[]⟩, .int .u32 p1, .bool p2], .int .i64 q, .int .i64 0]) by rw [HR1.out]; rfl)
        clear HR1
        go_wp2_with fail
        refine (CD.out _).mono ?_
        rintro e w' ⟨rfl, ⟨nd, rfl⟩⟩
        go_wp2_with fail
        refine (CR.out _).mono ?_
        rintro e w' ⟨rfl, ⟨nd, rfl⟩⟩
        go_wp2_with fail
        refine (CN.out _).mono ?_
        rintro e w' ⟨rfl, ⟨nd, rfl⟩⟩
        go_wp2_with fail
        exact bodyPost_ret (results_ctt rfl _ _ a 29 #[.int .i64 2, .int .i64 j, .string ⟨#[]⟩, .int .u32 p1, .bool p2] (0, 0) _ rfl (by (with_reducible repeat (first | refine blk_drewN ?_ _ | refine blk_drew ?_)); exact tok_blk (by with_reducible repeat (first | exact BA.out | refine tok_far ?_ _ (by simp) | refine blk_drewN ?_ _ | refine blk_drew ?_))) Tryd.underlying29 rfl (by kernel_rfl)) rfl ⟨by rw [HX.out]; rfl, (by with_reducible repeat (first | exact BL.out | refine Below.drew ?_ | apply pw_below_drewN | refine Below.setCell ?_ (by have := HA.out; simp; omega) _))⟩
      | false =>
        have HX := Lib.hid (show tokRV R = .returned (.tuple #[.agg #[.int .i64 2, .int .i64 j, .string ⟨#[]⟩, .int .u32 p1, .bool p2], .int .i64 q, .int .i64 11]) by rw [HR1.out]; rfl)
        clear HR1
        go_wp2_with fail
        refine (CD.out _).mono ?_
        rintro e w' ⟨rfl, ⟨nd, rfl⟩⟩
        go_wp2_with fail
        refine (CR.out _).mono ?_
        rintro e w' ⟨rfl, ⟨nd, rfl⟩⟩
        go_wp2_with fail
        refine (CN.out _).mono ?_
        rintro e w' ⟨rfl, ⟨nd, rfl⟩⟩
        go_wp2_with fail
        exact bodyPost_ret (results_ctt rfl _ _ a 29 #[.int .i64 2, .int .i64 j, .string ⟨#[]⟩, .int .u32 p1, .bool p2] (0, 0) _ rfl (by (with_reducible repeat (first | refine blk_drewN ?_ _ | refine blk_drew ?_)); exact tok_blk (by with_reducible repeat (first | exact BA.out | refine tok_far ?_ _ (by simp) | refine blk_drewN ?_ _ | refine blk_drew ?_))) Tryd.underlying29 rfl (by kernel_rfl)) rfl ⟨by rw [HX.out]; rfl, (by with_reducible repeat (first | exact BL.out | refine Below.drew ?_ | apply pw_below_drewN | refine Below.setCell ?_ (by have := HA.out; simp; omega) _))⟩
    | false =>
      rw [hD] at CD
      by_cases h39 : c = 39
      · obtain ⟨kc, hkc⟩ := HCH.out.rounds
        obtain ⟨P, hP⟩ : ∃ P, P = charO l k := ⟨_, rfl⟩
        have HR1 := Lib.hid (show R = (2, j, ⟨#[]⟩, P.1, false, if P.2 < 0 then j else P.2, if P.2 < 0 then 12 else 0) by rw [HR.out, if_neg (by rw [hL]; decide), if_neg (by rw [hD]; decide), if_pos h39, hP])
        rw [← hP] at hkc
        obtain ⟨p1, p2⟩ := P
        have CC := Lib.hid (fun W => show Calls Tryd.prog 38 #[.string src, .int .i64 j] W fun e w' => e = .returned (.tuple #[.int .u32 p1, .int .i64 p2]) ∧ Drawn0 W w' from switchbackref01_character.calls kc src j p1 p2 W hkc)
        clear hkc hP hL hD HR
        subst h39
        go_enter Tryd.func22, Tryd.ntmps22
        go_wp2_with fail
        refine (CL.out _).mono ?_
        rintro e w' ⟨rfl, ⟨nd, rfl⟩⟩
        obtain ⟨W1, hW1⟩ : ∃ W1 : World, W1 = ((w.alloc (.cells #[.int .i64 0, .int .i64 0, .string ⟨#[]⟩, .int .u32 0, .bool false] 29)).alloc (.cells #[.int .i64 0, .int .i64 j, .string ⟨#[]⟩, .int .u32 0, .bool false] 29)).drewN nd := ⟨_, rfl⟩
        rw [← hW1]
        have hBa : W1.heap[w.heap.size]? = some (.cells #[.int .i64 0, .int .i64 0, .string ⟨#[]⟩, .int .u32 0, .bool false] 29 (0, 0)) := by rw [hW1]; exact blk_drewN (blk_alloc (heap_alloc_new w _) _) nd
        have hBb : W1.heap[w.heap.size + 1]? = some (.cells #[.int .i64 0, .int .i64 j, .string ⟨#[]⟩, .int .u32 0, .bool false] 29 (0, 0)) := by
          rw [hW1]
          have := heap_alloc_new (w.alloc (.cells #[.int .i64 0, .int .i64 0, .string ⟨#[]⟩, .int .u32 0, .bool false] 29)) (.cells #[.int .i64 0, .int .i64 j, .string ⟨#[]⟩, .int .u32 0, .bool false] 29)
          rw [World.size_alloc] at this
          exact blk_drewN this nd
        have hB1 : Below w.heap.size w W1 := by rw [hW1]; repeat (first | exact Below.refl _ _ | apply pw_below_drewN | apply below_alloc)
        obtain ⟨a, ha⟩ : ∃ a, a = w.heap.size := ⟨_, rfl⟩
        rw [← ha] at hBa hBb ⊢
        have x0 := cell_of_block hBb 0
        have u0 := unfrozen_of_block hBb 0
        have y0 := cell_of_block hBa 0
        have v0 := unfrozen_of_block hBa 0
        have x1 := cell_of_block hBb 1
        have u1 := unfrozen_of_block hBb 1
        have y1 := cell_of_block hBa 1
        have v1 := unfrozen_of_block hBa 1
        have x2 := cell_of_block hBb 2
        have u2 := unfrozen_of_block hBb 2
        have y2 := cell_of_block hBa 2
        have v2 := unfrozen_of_block hBa 2
        have x3 := cell_of_block hBb 3
        have u3 := unfrozen_of_block hBb 3
        have y3 := cell_of_block hBa 3
        have v3 := unfrozen_of_block hBa 3
        have x4 := cell_of_block hBb 4
        have u4 := unfrozen_of_block hBb 4
        have y4 := cell_of_block hBa 4
        have v4 := unfrozen_of_block hBa 4
        have BA := Lib.hid hBa
        have BB := Lib.hid hBb
        have BL := Lib.hid hB1
        have HA := Lib.hid ha
        clear hBa hBb hB1 hW1 ha
        by_cases hz : p2 < 0
        · have hz1 : decide (p2 < 0) = true := decide_eq_true hz
          have HX := Lib.hid (show tokRV R = .returned (.tuple #[.agg #[.int .i64 2, .int .i64 j, .string ⟨#[]⟩, .int .u32 p1, .bool false], .int .i64 j, .int .i64 12]) by rw [HR1.out, if_pos hz, if_pos hz]; rfl)
          clear HR1
          go_wp2_with fail
          refine (CD.out _).mono ?_
          rintro e w' ⟨rfl, ⟨nd, rfl⟩⟩
          go_wp2_with fail
          refine (CC.out _).mono ?_
          rintro e w' ⟨rfl, ⟨nd, rfl⟩⟩
          go_wp2_with fail
          exact bodyPost_ret (results_ctt rfl _ _ a 29 #[.int .i64 2, .int .i64 j, .string ⟨#[]⟩, .int .u32 p1, .bool false] (0, 0) _ rfl (by (with_reducible repeat (first | refine blk_drewN ?_ _ | refine blk_drew ?_)); exact tok_blk (by with_reducible repeat (first | exact BA.out | refine tok_far ?_ _ (by simp) | refine blk_drewN ?_ _ | refine blk_drew ?_))) Tryd.underlying29 rfl (by kernel_rfl)) rfl ⟨by rw [HX.out]; rfl, (by with_reducible repeat (first | exact BL.out | refine Below.drew ?_ | apply pw_below_drewN | refine Below.setCell ?_ (by have := HA.out; simp; omega) _))⟩
        · have hz1 : decide (p2 < 0) = false := decide_eq_false hz
          have HX := Lib.hid (show tokRV R = .returned (.tuple #[.agg #[.int .i64 2, .int .i64 j, .string ⟨#[]⟩, .int .u32 p1, .bool false], .int .i64 p2, .int .i64 0]) by rw [HR1.out, if_neg hz, if_neg hz]; rfl)
          clear HR1
          go_wp2_with fail
          refine (CD.out _).mono ?_
          rintro e w' ⟨rfl, ⟨nd, rfl⟩⟩
          go_wp2_with fail
          refine (CC.out _).mono ?_
          rintro e w' ⟨rfl, ⟨nd, rfl⟩⟩
          go_wp2_with fail
          exact bodyPost_ret (results_ctt rfl _ _ a 29 #[.int .i64 2, .int .i64 j, .string ⟨#[]⟩, .int .u32 p1, .bool false] (0, 0) _ rfl (by (with_reducible repeat (first | refine blk_drewN ?_ _ | refine blk_drew ?_)); exact tok_blk (by with_reducible repeat (first | exact BA.out | refine tok_far ?_ _ (by simp) | refine blk_drewN ?_ _ | refine blk_drew ?_))) Tryd.underlying29 rfl (by kernel_rfl)) rfl ⟨by rw [HX.out]; rfl, (by with_reducible repeat (first | exact BL.out | refine Below.drew ?_ | apply pw_below_drewN | refine Below.setCell ?_ (by have := HA.out; simp; omega) _))⟩
      · have h39b : (c == 39) = false := by simpa using h39
        have HR1 := Lib.hid (show R = if signL l = 0 then (0, j, ⟨#[]⟩, 0, false, j, 14) else (4, j, cut src k (signL l), 0, false, j + signL l, 0) by rw [HR.out, if_neg (by rw [hL]; decide), if_neg (by rw [hD]; decide), if_neg h39])
        clear hL hD HR h39
        go_enter Tryd.func22, Tryd.ntmps22
        go_wp2_with fail
        refine (CL.out _).mono ?_
        rintro e w' ⟨rfl, ⟨nd, rfl⟩⟩
        obtain ⟨W1, hW1⟩ : ∃ W1 : World, W1 = ((w.alloc (.cells #[.int .i64 0, .int .i64 0, .string ⟨#[]⟩, .int .u32 0, .bool false] 29)).alloc (.cells #[.int .i64 0, .int .i64 j, .string ⟨#[]⟩, .int .u32 0, .bool false] 29)).drewN nd := ⟨_, rfl⟩
        rw [← hW1]
        have hBa : W1.heap[w.heap.size]? = some (.cells #[.int .i64 0, .int .i64 0, .string ⟨#[]⟩, .int .u32 0, .bool false] 29 (0, 0)) := by rw [hW1]; exact blk_drewN (blk_alloc (heap_alloc_new w _) _) nd
        have hBb : W1.heap[w.heap.size + 1]? = some (.cells #[.int .i64 0, .int .i64 j, .string ⟨#[]⟩, .int .u32 0, .bool false] 29 (0, 0)) := by
          rw [hW1]
          have := heap_alloc_new (w.alloc (.cells #[.int .i64 0, .int .i64 0, .string ⟨#[]⟩, .int .u32 0, .bool false] 29)) (.cells #[.int .i64 0, .int .i64 j, .string ⟨#[]⟩, .int .u32 0, .bool false] 29)
          rw [World.size_alloc] at this
          exact blk_drewN this nd
        have hB1 : Below w.heap.size w W1 := by rw [hW1]; repeat (first | exact Below.refl _ _ | apply pw_below_drewN | apply below_alloc)
        obtain ⟨a, ha⟩ : ∃ a, a = w.heap.size := ⟨_, rfl⟩
        rw [← ha] at hBa hBb ⊢
        have x0 := cell_of_block hBb 0
        have u0 := unfrozen_of_block hBb 0
        have y0 := cell_of_block hBa 0
        have v0 := unfrozen_of_block hBa 0
        have x1 := cell_of_block hBb 1
        have u1 := unfrozen_of_block hBb 1
        have y1 := cell_of_block hBa 1
        have v1 := unfrozen_of_block hBa 1
        have x2 := cell_of_block hBb 2
        have u2 := unfrozen_of_block hBb 2
        have y2 := cell_of_block hBa 2
        have v2 := unfrozen_of_block hBa 2
        have x3 := cell_of_block hBb 3
        have u3 := unfrozen_of_block hBb 3
        have y3 := cell_of_block hBa 3
        have v3 := unfrozen_of_block hBa 3
        have x4 := cell_of_block hBb 4
        have u4 := unfrozen_of_block hBb 4
        have y4 := cell_of_block hBa 4
        have v4 := unfrozen_of_block hBa 4
        have BA := Lib.hid hBa
        have BB := Lib.hid hBb
        have BL := Lib.hid hB1
        have HA := Lib.hid ha
        clear hBa hBb hB1 hW1 ha
        go_wp2_with fail
        refine (CD.out _).mono ?_
        rintro e w' ⟨rfl, ⟨nd, rfl⟩⟩
        go_wp2_with fail
        go_loopw [17, 18] (fun s t wr => ∃ n : Nat, n ≤ 3 ∧ s = .int .i64 n ∧ (∃ x, t = x) ∧ Hid (signL l ≤ n) ∧ Hid (∃ m, wr = W1.drewN m)) (fun s _ _ => (intOf s).toNat)
        case atStart => exact ⟨3, Nat.le_refl _, rfl, ⟨_, rfl⟩, Lib.hid (by unfold signL; rw [sg_eq]; (repeat' split) <;> omega), Lib.hid ⟨_, rfl⟩⟩
        case round =>
          obtain ⟨n, hn, rfl, ⟨x, rfl⟩, hsn, hw⟩ := hrel
          obtain ⟨m, hm⟩ := hw.out
          subst hm
          have hsg := HSG.out
          have hlen := HLEN.out
          have hjk := HJ.out
          have hkk := HK.out
          have hle := hsn.out
          by_cases h1 : 1 ≤ n
          · have d1 : (1 : Int) ≤ (n : Int) := by omega
            obtain ⟨q2, hq2e⟩ : ∃ q2 : Int, q2 = j + (n : Int) := ⟨_, rfl⟩
            have hw5 : IntKind.i64.wrap (j + (n : Int)) = q2 := by rw [hq2e]; exact IntWalk.i64_in _ (by omega)
            have hw6 : IntKind.i64.wrap ((n : Int) - 1) = (n : Int) - 1 := IntWalk.i64_in _ (by omega)
            have hq20 : 0 ≤ q2 := by omega
            have hq21 : j ≤ q2 := by omega
            by_cases h2 : k + n ≤ src.size
            · have hq22 : q2 ≤ (src.size : Int) := by omega
              have htk := sign_take l n h1 hn (by omega)
              have htd2 : (src.extract j.toNat q2.toNat).data.toList = l.take n := by
                have := cut_take src k n
                unfold cut at this
                rw [← HL.out] at this
                rw [← this, hq2e, hjk]
                rfl
              obtain ⟨ks, hks⟩ := (sign_f (src.extract j.toNat q2.toNat)).rounds
              rw [htd2] at hks
              obtain ⟨b, hb⟩ : ∃ b, b = signB (l.take n) := ⟨_, rfl⟩
              rw [← hb] at hks htk
              have CS := Lib.hid (fun W => show Calls Tryd.prog 39 #[.string (src.extract j.toNat q2.toNat)] W fun e w' => e = .returned (.bool b) ∧ Drawn0 W w' from switchbackref01_sign.calls ks _ b W hks)
              cases b with
              | true =>
                have he := htk.1 rfl hle
                have HX := Lib.hid (show tokRV R = .returned (.tuple #[.agg #[.int .i64 4, .int .i64 j, .string (src.extract j.toNat q2.toNat), .int .u32 0, .bool false], .int .i64 q2, .int .i64 0]) by
                  rw [HR1.out, if_neg (by omega), he, show cut src k (n : Int) = src.extract j.toNat q2.toNat by unfold cut; rw [hq2e, hjk]; rfl, ← hq2e]
                  rfl)
                clear HR1 hsg hlen hjk hkk hle htk htd2 hks hb he hq2e hsn hw h1 h2
                go_wp2_with fail
                refine (CS.out _).mono ?_
                rintro e w' ⟨rfl, ⟨n5, rfl⟩⟩
                go_wp2_with fail
                exact bodyPost_ret (results_ctt rfl _ _ a 29 #[.int .i64 4, .int .i64 j, .string (src.extract j.toNat q2.toNat), .int .u32 0, .bool false] (0, 0) _ rfl (by (with_reducible repeat (first | refine blk_drewN ?_ _ | refine blk_drew ?_)); exact tok_blk (by with_reducible repeat (first | exact BA.out | refine tok_far ?_ _ (by simp) | refine blk_drewN ?_ _ | refine blk_drew ?_))) Tryd.underlying29 rfl (by kernel_rfl)) rfl ⟨by rw [HX.out]; rfl, (by with_reducible repeat (first | exact BL.out | refine Below.drew ?_ | apply pw_below_drewN | refine Below.setCell ?_ (by have := HA.out; simp; omega) _))⟩
              | false =>
                have he := htk.2 rfl
                have HN2 := Lib.hid (show signL l ≤ ((n - 1 : Nat) : Int) by omega)
                have hn1 : ((n - 1 : Nat) : Int) = (n : Int) - 1 := by omega
                have HN3 := Lib.hid hn1
                clear hsg hlen hjk hkk hle htk htd2 hks hb he hq2e hsn hw hn1 h2
                go_wp2_with fail
                refine (CS.out _).mono ?_
                rintro e w' ⟨rfl, ⟨n5, rfl⟩⟩
                go_wp2_with fail
                go_roundw
                case rel => exact ⟨n - 1, by omega, by rw [HN3.out], ⟨_, rfl⟩, HN2, Lib.hid ⟨_, rfl⟩⟩
                case measure => simp [intOf]; omega
            · have hq22 : ¬ q2 ≤ (src.size : Int) := by omega
              have dq : decide (q2 ≤ (src.size : Int)) = false := decide_eq_false hq22
              have HN2 := Lib.hid (show signL l ≤ ((n - 1 : Nat) : Int) by omega)
              have hn1 : ((n - 1 : Nat) : Int) = (n : Int) - 1 := by omega
              have HN3 := Lib.hid hn1
              clear hsg hlen hjk hkk hle hq2e hsn hw hn1 h2
              go_wp2_with fail
              go_roundw
              case rel => exact ⟨n - 1, by omega, by rw [HN3.out], ⟨_, rfl⟩, HN2, Lib.hid ⟨_, rfl⟩⟩
              case measure => simp [intOf]; omega
          · have hn0 : n = 0 := by omega
            subst hn0
            have he : signL l = 0 := by omega
            have HX := Lib.hid (show tokRV R = .returned (.tuple #[.agg #[.int .i64 0, .int .i64 j, .string ⟨#[]⟩, .int .u32 0, .bool false], .int .i64 j, .int .i64 14]) by rw [HR1.out, if_pos he]; rfl)
            clear HR1 hsg hlen hjk hkk hle hsn hw h1 he
            go_wp2_with fail
            exact bodyPost_ret (results_ctt rfl _ _ a 29 #[.int .i64 0, .int .i64 j, .string ⟨#[]⟩, .int .u32 0, .bool false] (0, 0) _ rfl (by (with_reducible repeat (first | refine blk_drewN ?_ _ | refine blk_drew ?_)); exact tok_blk (by with_reducible repeat (first | exact BA.out | refine tok_far ?_ _ (by simp) | refine blk_drewN ?_ _ | refine blk_drew ?_))) Tryd.underlying29 rfl (by kernel_rfl)) rfl ⟨by rw [HX.out]; rfl, (by with_reducible repeat (first | exact BL.out | refine Below.drew ?_ | apply pw_below_drewN | refine Below.setCell ?_ (by have := HA.out; simp; omega) _))⟩

/-! ### switchbackref01_token: function 22 -/
def switchbackref01_token.f (a0 : ByteArray) (a1 : Int) : Option (Int × Int × ByteArray × Int × Bool × Int × Int) :=
  if 0 ≤ a1 ∧ a1.toNat < a0.size ∧ a0.size ≤ 1000000 then some (tokR a0 a1.toNat) else none

theorem switchbackref01_token.calls (a0 : ByteArray) (a1 : Int) (r1 : Int) (r2 : Int) (r3 : ByteArray) (r4 : Int) (r5 : Bool) (r6 : Int) (r7 : Int) (w : World) (h : switchbackref01_token.f a0 a1 = some (r1, r2, r3, r4, r5, r6, r7)) :
    Calls Tryd.prog 22 #[.string a0, .int .i64 a1] w fun e w' => e = .returned (.tuple #[.agg #[.int .i64 r1, .int .i64 r2, .string r3, .int .u32 r4, .bool r5], .int .i64 r6, .int .i64 r7]) ∧ Below w.heap.size w w' := by
  unfold switchbackref01_token.f at h
  by_cases hc : 0 ≤ a1 ∧ a1.toNat < a0.size ∧ a0.size ≤ 1000000
  · rw [if_pos hc] at h
    have he := Option.some.inj h
    have := tokR_any a0 a1.toNat w hc.2.2 hc.2.1
    rw [he, show ((a1.toNat : Nat) : Int) = a1 by omega] at this
    exact this
  · rw [if_neg hc] at h
    cases h

end Go.Proofs.YtjoboaaambdpoaaDoor.PR01
