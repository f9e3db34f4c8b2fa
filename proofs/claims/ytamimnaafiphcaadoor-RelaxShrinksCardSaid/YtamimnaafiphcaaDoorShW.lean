/- The law RelaxShrinks, walked. -/
import Derived.Test.YtamimnaafiphcaaDoorSh1
import Derived.Test.YtamimnaafiphcaaDoorRxO
import Derived.Outline
set_option linter.unusedVariables false
set_option linter.unusedSimpArgs false
namespace Go.Proofs.YtamimnaafiphcaaDoor.PR1S
open Go.RowKit Go.Proofs.YtamimnaafiphcaaDoorW.PrintWords Go.Proofs.YtamimnaafiphcaaDoorW.PrintLast Go.Proofs.YtamimnaafiphcaaDoorW.PrintMore Go.Maps Go.Joins

theorem s_less {n k : Nat} (h : wrap64 ((k : Int) + 1) = (k : Int) + 1) (hk : k < n) : n - (intOf (.int .i64 (wrap64 ((k : Int) + 1)))).toNat < n - (intOf (.int .i64 (k : Int))).toNat := by
  rw [h]
  show n - ((k : Int) + 1).toNat < n - (k : Int).toNat
  omega

set_option maxRecDepth 100000 in
set_option maxHeartbeats 4000000 in
theorem shrinks_row (ls : List Line) (A : Option Addr) (c : Nat) (which : Int) (w : World) (hL : Laid w) (hl : Lines w (.slice A ls.length c) ls) (hwf : ∀ l ∈ ls, (Lit.int .i64 l.label).wf = true ∧ ∀ y ∈ l.list, (Lit.int .i64 y).wf = true) (hc : ls.length ≤ c) (w1 : (Lit.int .i64 which).wf = true) :
    Calls Tryd.prog 9 #[.slice A ls.length c, .int .i64 which] w fun e w' => e = .returned (.bool true) ∧ Below w.heap.size w w' := by
  have HL := Lib.hid hL
  have HLN := Lib.hid hl
  have HWF := Lib.hid hwf
  have HC := Lib.hid hc
  have HWH := Lib.hid w1
  clear hL hl hwf hc w1
  go_enter Tryd.func9, Tryd.ntmps9
  go_wp2_with fail
  refine (asm_any ls _ w HL.out HLN.out HWF.out).mono ?_
  rintro e W1 ⟨wv, kv, pv, rfl, hat, hb1⟩
  obtain ⟨AW, cW, rfl, hcW, hrW⟩ := s_own hat.ow rfl
  obtain ⟨AK, cK, rfl, hcK, hrK⟩ := s_own hat.ok rfl
  obtain ⟨AP, cP, rfl, hcP, hrP⟩ := s_own hat.op rfl
  have S1 := Lib.hid (show SW w (W1.alloc (.cells #[.slice AW (asm ls).words.length cW, .slice AK (asm ls).kinds.length cK, .slice AP (asm ls).places.length cP, .int .i64 (asm ls).rounds] 27)) W1.heap.size (asm ls) AW cW AK cK AP cP from
    ⟨heap_alloc_new W1 _, Kd.C_below hrW ((Below.refl _ W1).alloc (Nat.le_refl _) _), Kd.C_below hrK ((Below.refl _ W1).alloc (Nat.le_refl _) _), Kd.C_below hrP ((Below.refl _ W1).alloc (Nat.le_refl _) _), hcW, hcK, hcP, hb1.alloc hb1.size _⟩)
  clear hat hb1 hrW hrK hrP hcW hcK hcP
  obtain ⟨q0, q1, q2, q3⟩ := SW.cells S1.out
  by_cases he : (asm ls).err = 0
  · have e1 : ((asm ls).err == 0) = true := beq_iff_eq.mpr he
    have e2 : ((asm ls).err != 0) = false := by rw [bne, e1]; rfl
    have hpl : (asm ls).places.length = ls.length := by rw [(asm_ok' he).2.2]; simp
    have hp1 : (((asm ls).places.length : Int) != (ls.length : Int)) = false := by rw [hpl]; simp
    have hp2 : (((asm ls).places.length : Int) == (ls.length : Int)) = true := by rw [hpl]; simp
    have HE := Lib.hid he
    clear he hpl
    by_cases hn : ls.length = 0
    · have n1 : ((ls.length : Int) == 0) = true := by rw [hn]; rfl
      clear hn
      go_wp2_with fail
      refine (live_any _ (HL.out.below S1.out.bel)).mono ?_
      rintro e w2 ⟨rfl, hb2⟩
      have S2 := Lib.hid (S1.out.next hb2)
      obtain ⟨q0, q1, q2, q3⟩ := SW.cells S2.out
      clear hb2
      go_wp2_with fail
      go_ret
      exact ⟨by first | rfl | simp [*], by repeat (first | exact S2.out.bel | apply pw_below_drewN)⟩
    · have n1 : ((ls.length : Int) == 0) = false := beq_eq_false_iff_ne.mpr (by omega)
      have hwh : -9223372036854775808 ≤ which ∧ which ≤ 9223372036854775807 := by
        have : IntKind.i64.min ≤ which ∧ which ≤ IntKind.i64.max := by simpa [Lit.wf] using HWH.out
        exact this
      obtain ⟨i, hi, hpk⟩ := s_pick which ls.length (by omega) hwh.1 hwh.2
      have HPK := Lib.hid hpk
      have HI := Lib.hid hi
      clear hpk hwh hn
      go_wp2_with fail
      refine (switchbacklaw17_pick.calls which (ls.length : Int) (i : Int) _ HPK.out).mono ?_
      rintro e w2 ⟨rfl, hd2⟩
      have S2 := Lib.hid (S1.out.next hd2.below)
      obtain ⟨ad, l, AL, cL, hA, hli, hat, hlc, hr⟩ := s_at (HLN.out.below S2.out.bel) i hi
      obtain ⟨k0, k1, k2, k3, k4, k5, k6⟩ := hat
      have hi0 : (0 : Int) ≤ (i : Int) := Int.natCast_nonneg _
      have hi1 : (i : Int) < (ls.length : Int) := by omega
      subst hA
      have HLI := Lib.hid hli
      have HLC := Lib.hid hlc
      have HR := Lib.hid hr
      clear hd2 hli hlc hr hi
      by_cases hop : l.op = 0
      · have o1 : (l.op != 0) = false := by rw [hop]; rfl
        have HA2 := Lib.hid (S2.out.bel.alloc S2.out.bel.size (.cells #[.int .i64 l.op, .int .i64 l.a, .int .i64 l.b, .int .i64 l.imm, .int .u32 l.n, .int .i64 l.label, .slice AL l.list.length cL] 40))
        clear hop
        go_wp2_with fail
        refine (live_any _ (HL.out.below HA2.out)).mono ?_
        rintro e w4 ⟨rfl, hb4⟩
        have HB4 := Lib.hid (bj (HA2.out) hb4)
        clear hb4
        go_wp2_with fail
        go_ret
        exact ⟨rfl, by repeat (first | exact HB4.out | apply pw_below_drewN)⟩
      have o1 : (l.op != 0) = true := bne_iff_ne.mpr hop
      have HOP := Lib.hid hop
      clear hop
      go_wp2_with fail
      have HG := Lib.hid (fun W (hb : Below w2.heap.size w2 W) => switchbackref17_Goes.calls l.op l.a l.b l.imm l.n l.label AL cL l.list (goOp l.op) W (Kd.C_below HR.out hb) HLC.out (s_goes _ _ _ _ _ _ _))
      refine (HG.out _ ((Below.refl _ w2).alloc (Nat.le_refl _) _)).mono ?_
      rintro e w3 ⟨rfl, hb3⟩
      have g0 : w3.heap[w2.heap.size]? = some (.cells #[.int .i64 l.op, .int .i64 l.a, .int .i64 l.b, .int .i64 l.imm, .int .u32 l.n, .int .i64 l.label, .slice AL l.list.length cL] 40 (0, 0)) := below_blk hb3 (heap_alloc_new w2 _)
      have g1 : w3.cell? ⟨w2.heap.size, 0, none⟩ = some (.int .i64 l.op) := by rw [cell_of_block g0]; rfl
      have S3 := Lib.hid (S2.out.next (bj ((Below.refl _ w2).alloc (Nat.le_refl _) _) hb3))
      clear hb3 g0 k0 k1 k2 k3 k4 k5 k6 HG S2
      by_cases hpb : plainB l = true
      · have hpq := hpb
        unfold plainB at hpq
        simp only [Bool.and_eq_true, Bool.not_eq_true'] at hpq
        have p0 : goOp l.op = false := hpq.1.1.2
        have p1 : (l.op != 42) = true := hpq.1.2
        have p2 : (l.op != 2) = true := hpq.2
        have HPB := Lib.hid hpb
        clear hpq hpb
        obtain ⟨xs, f1, f2⟩ := Lines.flat (HLN.out.below S3.out.bel)
        have F1 := Lib.hid f1
        have F2 := Lib.hid f2
        have hsm := (asm_ok' HE.out).1.small
        have hii := HI.out
        have hcc := HC.out
        have HT1 := Lib.hid (show (ls.take i).length = i by rw [List.length_take]; omega)
        have HT2 := Lib.hid (show (ls.drop (i + 1)).length = ls.length - (i + 1) by rw [List.length_drop])
        have HN1 := Lib.hid (fun j u (hu : (xs.take (i * 7))[j]? = some u) => f2 j u (by rw [List.getElem?_take] at hu; split at hu; exact hu; cases hu))
        have HSM := Lib.hid hsm
        have hic : (i : Int) ≤ (c : Int) := by omega
        have hic2 : i ≤ c := by omega
        clear f1 f2 hsm hii hcc
        obtain ⟨L, hLE⟩ : ∃ L, ls.take i ++ ls.drop (i + 1) = L := ⟨_, rfl⟩
        have hLW : ∀ l ∈ L, (Lit.int .i64 l.label).wf = true ∧ ∀ y ∈ l.list, (Lit.int .i64 y).wf = true := fun m hm => by
          rw [← hLE, List.mem_append] at hm
          rcases hm with h | h
          · exact HWF.out m (List.mem_of_mem_take h)
          · exact HWF.out m (List.mem_of_mem_drop h)
        have hgd : ls.getD i default = l := by rw [List.getD_eq_getElem?_getD, HLI.out]; rfl
        have hlaw := s_law HI.out HE.out (by rw [hgd]; exact HPB.out)
        rw [hLE] at hlaw
        obtain ⟨b1, b2, b3, b4⟩ := hlaw
        have hLl : L.length + 1 = ls.length := by rw [← hLE, List.length_append, HT1.out, HT2.out]; have := HI.out; omega
        have d0 : ((asm L).err != 0) = false := by rw [b1]; rfl
        have d1 : (((asm L).places.length : Int) != (L.length : Int)) = false := by rw [b2]; simp
        have d2 : decide ((asm ls).words.length ≤ (asm L).words.length) = false := decide_eq_false (by omega)
        have B1 := Lib.hid b1
        have B3 := Lib.hid b3
        have B4 := Lib.hid b4
        have HLE := Lib.hid hLE
        have HLW := Lib.hid hLW
        have HLL := Lib.hid hLl
        clear hgd b1 b2 b3 b4 hLE hLW hLl
        have hw1 : wrap64 ((i : Int) + 1) = (i : Int) + 1 := s_wrap HI.out HSM.out
        have hw2 : IntKind.i64.wrap ((i : Int) + 1) = (i : Int) + 1 := s_wrap2 HI.out HSM.out
        have hj0 : (0 : Int) ≤ (i : Int) + 1 := by omega
        have hj1 : (i : Int) + 1 ≤ (ls.length : Int) := by omega
        have hj2 : i + 1 ≤ ls.length := by omega
        obtain ⟨ad6, hif, hN2⟩ : ∃ ad6, (if c = i + 1 then some ad else some (ad.add ((i + 1) * 7))) = some ad6 ∧ ∀ j u, (xs.drop ((i + 1) * 7))[j]? = some u → w3.cell? (ad6.add j) = some u := by
          by_cases hci : c = i + 1
          · refine ⟨ad, if_pos hci, fun j u hu => ?_⟩
            exfalso
            have h1 := (List.getElem?_eq_some_iff.1 hu).1
            rw [List.length_drop, F1.out.1] at h1
            have := HC.out
            omega
          · refine ⟨ad.add ((i + 1) * 7), if_neg hci, fun j u hu => ?_⟩
            rw [Addr.add_add]
            rw [List.getElem?_drop] at hu
            exact F2.out _ u hu
        have HN2 := Lib.hid hN2
        clear hN2
        go_wp2_with (first | (at_builtin; refine al_list 22 40 (.agg #[.int .i64 0, .int .i64 0, .int .i64 0, .int .i64 0, .int .u32 0, .int .i64 0, .slice none 0 0]) 72 Tryd.underlying22 (by kernel_rfl) (by decide) (by rfl) rfl (.tmp 80) (.tmp 83) rfl w3.heap.size (.slice none 0 0) 0 [] rfl (own_nil _ _ _ _) ad i _ (ls.take i) (xs.take (i * 7)) rfl HT1.out (al_take F1.out i) HN1.out (by have := HSM.out; have := HI.out; omega) (Nat.le_refl _) ?_; intro v4 w4 ho4 hg4 hat4; have HO4 := Lib.hid ho4; have HG4 := Lib.hid (show w3.grownBy w4 none from hg4); have HB4 := Lib.hid ((Below.refl _ w3).grown hg4 (Nat.le_refl _) (fun b hb => by cases hb)); clear ho4 hg4 hat4) | (at_builtin; refine al_list 22 40 (.agg #[.int .i64 0, .int .i64 0, .int .i64 0, .int .i64 0, .int .u32 0, .int .i64 0, .slice none 0 0]) 72 Tryd.underlying22 (by kernel_rfl) (by decide) (by rfl) rfl (.tmp 85) (.tmp 89) rfl w3.heap.size v4 (0 + i) _ rfl HO4.out ad6 (ls.length - (i + 1)) _ (ls.drop (i + 1)) (xs.drop ((i + 1) * 7)) rfl HT2.out (al_below (al_drop F1.out (i + 1)) HB4.out) (fun j u hu => pw_cell_below HB4.out (HN2.out j u hu)) (by have := HSM.out; have := HI.out; omega) HB4.out.size ?_; intro v5 w5 ho5 hg5 hat5; have HO5 := Lib.hid ho5; have HG5 := Lib.hid hg5; clear ho5 hg5 hat5; obtain ⟨A5, c5, rfl, hS5⟩ := s_two rfl HO4.out HG4.out HG5.out HO5.out (al_take F1.out i) (al_drop F1.out (i + 1)) HLE.out (by rw [List.length_append, HT1.out, HT2.out]; omega); have S5 := Lib.hid hS5; clear hS5))
        refine (asm_any L _ w5 (HL.out.below (bj S3.out.bel S5.out.bel)) S5.out.ln HLW.out).mono ?_
        rintro e W6 ⟨wv2, kv2, pv2, rfl, hat, hb6⟩
        clear hw1 hw2 hj0 hj1 hj2
        obtain ⟨AW2, cW2, rfl, hcW, hrW⟩ := s_own hat.ow rfl
        obtain ⟨AK2, cK2, rfl, hcK, hrK⟩ := s_own hat.ok rfl
        obtain ⟨AP2, cP2, rfl, hcP, hrP⟩ := s_own hat.op rfl
        have hw6 := bj (bj S3.out.bel S5.out.bel) hb6
        have T1 := Lib.hid (show SW w (W6.alloc (.cells #[.slice AW2 (asm L).words.length cW2, .slice AK2 (asm L).kinds.length cK2, .slice AP2 (asm L).places.length cP2, .int .i64 (asm L).rounds] 27)) W6.heap.size (asm L) AW2 cW2 AK2 cK2 AP2 cP2 from
          ⟨heap_alloc_new W6 _, Kd.C_below hrW ((Below.refl _ W6).alloc (Nat.le_refl _) _), Kd.C_below hrK ((Below.refl _ W6).alloc (Nat.le_refl _) _), Kd.C_below hrP ((Below.refl _ W6).alloc (Nat.le_refl _) _), hcW, hcK, hcP, hw6.alloc hw6.size _⟩)
        have hb7 : Below w5.heap.size w5 (W6.alloc (.cells #[.slice AW2 (asm L).words.length cW2, .slice AK2 (asm L).kinds.length cK2, .slice AP2 (asm L).places.length cP2, .int .i64 (asm L).rounds] 27)) := hb6.alloc hb6.size _
        have T0 := Lib.hid (S3.out.next (bj S5.out.bel hb7))
        have T5 := Lib.hid hb7
        clear hat hb6 hrW hrK hrP hcW hcK hcP hw6 hb7
        obtain ⟨q0, q1, q2, q3⟩ := SW.cells T0.out
        obtain ⟨r0, r1, r2, r3⟩ := SW.cells T1.out
        go_wp2_with fail
        go_loopw [15] (fun s wr => ∃ k : Nat, k ≤ L.length ∧ s = .int .i64 k ∧ Hid (SW w wr W1.heap.size (asm ls) AW cW AK cK AP cP) ∧ Hid (SW w wr W6.heap.size (asm L) AW2 cW2 AK2 cK2 AP2 cP2) ∧ Hid (Below w5.heap.size w5 wr)) (fun s _ => L.length - (intOf s).toNat)
        case atStart => exact ⟨0, Nat.zero_le _, rfl, T0, T1, T5⟩
        case round =>
          obtain ⟨k, hk, rfl, hT0, hT1, hT5⟩ := hrel
          by_cases hlt : k < L.length
          · obtain ⟨ad5, l5, AL5, cL5, hA5, hl5, hat5, hlc5, hr5⟩ := s_at (S5.out.ln.below hT5.out) k hlt
            obtain ⟨k0, k1, k2, k3, k4, k5, k6⟩ := hat5
            have hx0 : (0 : Int) ≤ (k : Int) := Int.natCast_nonneg _
            have hx1 : (k : Int) < (L.length : Int) := by omega
            have hgd5 : L.getD k default = l5 := by rw [List.getD_eq_getElem?_getD, hl5]; rfl
            have HGD := Lib.hid hgd5
            have HLT := Lib.hid hlt
            have HL5 := Lib.hid (And.intro hlc5 hr5)
            obtain ⟨q0, q1, q2, q3⟩ := SW.cells hT0.out
            obtain ⟨r0, r1, r2, r3⟩ := SW.cells hT1.out
            have hL6 : L.length ≤ 60000 := by have := HSM.out; have := HLL.out; omega
            have HL6 := Lib.hid hL6
            clear hL6
            clear hgd5 hlc5 hr5 hl5 hlt
            subst hA5
            by_cases hki : i ≤ k
            · have z1 : decide ((i : Int) ≤ (k : Int)) = true := decide_eq_true (by omega)
              have z2 : (i : Int) ≤ (k : Int) := by omega
              have hsh : sh i k = k + 1 := if_neg (by omega)
              have HSH := Lib.hid hsh
              have hm : k + 1 < ls.length := by have := HLL.out; have := HLT.out; omega
              have HM := Lib.hid hm
              clear hsh hm hki
              have hkw : wrap64 ((k : Int) + 1) = (k : Int) + 1 := s_wrap HLT.out HL6.out
              go_wp2_with fail
              refine (switchbackref17_Branch.calls l5.op l5.a l5.b l5.imm l5.n l5.label AL5 cL5 l5.list (brOp l5.op) _ HL5.out.2 HL5.out.1 (s_branch _ _ _ _ _ _ _)).mono ?_
              rintro e W8 ⟨rfl, hb8⟩
              have U0 := Lib.hid (hT0.out.next hb8)
              have U1 := Lib.hid (hT1.out.next hb8)
              have U5 := Lib.hid (bj hT5.out hb8)
              obtain ⟨q0, q1, q2, q3⟩ := SW.cells U0.out
              obtain ⟨r0, r1, r2, r3⟩ := SW.cells U1.out
              clear hb8
              clear k0 k1 k2 k3 k4 k5 k6
              cases hbr : brOp l5.op with
              | false =>
                go_wp2_with fail
                exact ⟨⟨k + 1, HLT.out, by rw [hkw]; rfl, U0, U1, U5⟩, s_less hkw HLT.out⟩
              | true =>
                have hbL : brOp (L.getD k default).op = true := by rw [HGD.out]; exact hbr
                have CL := Lib.hid (fun W (s1 : SW w W W6.heap.size (asm L) AW2 cW2 AK2 cK2 AP2 cP2) (hb : Below w5.heap.size w5 W) => s_longC B1.out (fun l hl => (HLW.out l hl).1) HLT.out hbL s1 (S5.out.ln.below hb) S5.out.cap (HL.out.below s1.bel))
                have HBL := Lib.hid hbL
                clear hbL
                go_wp2_with fail
                refine (CL.out _ U1.out U5.out).mono ?_
                rintro e W9 ⟨rfl, hb9⟩
                have V0 := Lib.hid (U0.out.next hb9)
                have V1 := Lib.hid (U1.out.next hb9)
                have V5 := Lib.hid (bj U5.out hb9)
                obtain ⟨q0, q1, q2, q3⟩ := SW.cells V0.out
                obtain ⟨r0, r1, r2, r3⟩ := SW.cells V1.out
                clear hb9
                cases hf : (fin L).1.getD k false with
                | false =>
                  go_wp2_with fail
                  exact ⟨⟨k + 1, HLT.out, by rw [hkw]; rfl, V0, V1, V5⟩, s_less hkw HLT.out⟩
                | true =>
                  obtain ⟨hbl, hfl⟩ := B4.out k HBL.out hf
                  rw [HSH.out] at hbl hfl
                  have CM := Lib.hid (fun W (s1 : SW w W W1.heap.size (asm ls) AW cW AK cK AP cP) => s_longC HE.out (fun l hl => (HWF.out l hl).1) HM.out hbl s1 (HLN.out.below s1.bel) HC.out (HL.out.below s1.bel))
                  rw [hfl] at CM
                  clear hbl hfl
                  go_wp2_with fail
                  refine (CM.out _ V0.out).mono ?_
                  rintro e W10 ⟨rfl, hb10⟩
                  have X0 := Lib.hid (V0.out.next hb10)
                  have X1 := Lib.hid (V1.out.next hb10)
                  have X5 := Lib.hid (bj V5.out hb10)
                  obtain ⟨q0, q1, q2, q3⟩ := SW.cells X0.out
                  obtain ⟨r0, r1, r2, r3⟩ := SW.cells X1.out
                  clear hb10
                  go_wp2_with fail
                  exact ⟨⟨k + 1, HLT.out, by rw [hkw]; rfl, X0, X1, X5⟩, s_less hkw HLT.out⟩
            · have z1 : decide ((i : Int) ≤ (k : Int)) = false := decide_eq_false (by omega)
              have z2 : ¬ (i : Int) ≤ (k : Int) := by omega
              have hsh : sh i k = k := if_pos (by omega)
              have HSH := Lib.hid hsh
              have hm : k < ls.length := by have := HLL.out; have := HLT.out; omega
              have HM := Lib.hid hm
              clear hsh hm hki
              have hkw : wrap64 ((k : Int) + 1) = (k : Int) + 1 := s_wrap HLT.out HL6.out
              go_wp2_with fail
              refine (switchbackref17_Branch.calls l5.op l5.a l5.b l5.imm l5.n l5.label AL5 cL5 l5.list (brOp l5.op) _ HL5.out.2 HL5.out.1 (s_branch _ _ _ _ _ _ _)).mono ?_
              rintro e W8 ⟨rfl, hb8⟩
              have U0 := Lib.hid (hT0.out.next hb8)
              have U1 := Lib.hid (hT1.out.next hb8)
              have U5 := Lib.hid (bj hT5.out hb8)
              obtain ⟨q0, q1, q2, q3⟩ := SW.cells U0.out
              obtain ⟨r0, r1, r2, r3⟩ := SW.cells U1.out
              clear hb8
              clear k0 k1 k2 k3 k4 k5 k6
              cases hbr : brOp l5.op with
              | false =>
                go_wp2_with fail
                exact ⟨⟨k + 1, HLT.out, by rw [hkw]; rfl, U0, U1, U5⟩, s_less hkw HLT.out⟩
              | true =>
                have hbL : brOp (L.getD k default).op = true := by rw [HGD.out]; exact hbr
                have CL := Lib.hid (fun W (s1 : SW w W W6.heap.size (asm L) AW2 cW2 AK2 cK2 AP2 cP2) (hb : Below w5.heap.size w5 W) => s_longC B1.out (fun l hl => (HLW.out l hl).1) HLT.out hbL s1 (S5.out.ln.below hb) S5.out.cap (HL.out.below s1.bel))
                have HBL := Lib.hid hbL
                clear hbL
                go_wp2_with fail
                refine (CL.out _ U1.out U5.out).mono ?_
                rintro e W9 ⟨rfl, hb9⟩
                have V0 := Lib.hid (U0.out.next hb9)
                have V1 := Lib.hid (U1.out.next hb9)
                have V5 := Lib.hid (bj U5.out hb9)
                obtain ⟨q0, q1, q2, q3⟩ := SW.cells V0.out
                obtain ⟨r0, r1, r2, r3⟩ := SW.cells V1.out
                clear hb9
                cases hf : (fin L).1.getD k false with
                | false =>
                  go_wp2_with fail
                  exact ⟨⟨k + 1, HLT.out, by rw [hkw]; rfl, V0, V1, V5⟩, s_less hkw HLT.out⟩
                | true =>
                  obtain ⟨hbl, hfl⟩ := B4.out k HBL.out hf
                  rw [HSH.out] at hbl hfl
                  have CM := Lib.hid (fun W (s1 : SW w W W1.heap.size (asm ls) AW cW AK cK AP cP) => s_longC HE.out (fun l hl => (HWF.out l hl).1) HM.out hbl s1 (HLN.out.below s1.bel) HC.out (HL.out.below s1.bel))
                  rw [hfl] at CM
                  clear hbl hfl
                  go_wp2_with fail
                  refine (CM.out _ V0.out).mono ?_
                  rintro e W10 ⟨rfl, hb10⟩
                  have X0 := Lib.hid (V0.out.next hb10)
                  have X1 := Lib.hid (V1.out.next hb10)
                  have X5 := Lib.hid (bj V5.out hb10)
                  obtain ⟨q0, q1, q2, q3⟩ := SW.cells X0.out
                  obtain ⟨r0, r1, r2, r3⟩ := SW.cells X1.out
                  clear hb10
                  go_wp2_with fail
                  exact ⟨⟨k + 1, HLT.out, by rw [hkw]; rfl, X0, X1, X5⟩, s_less hkw HLT.out⟩
          · have hkn : k = L.length := by omega
            subst hkn
            clear hlt
            go_wp2_with fail
            refine (live_any _ (HL.out.below hT0.out.bel)).mono ?_
            rintro e w8 ⟨rfl, hb8⟩
            have HB8 := Lib.hid (bj hT0.out.bel hb8)
            clear hb8
            go_wp2_with fail
            go_ret
            exact ⟨rfl, by repeat (first | exact HB8.out | apply pw_below_drewN)⟩
      · cases hg : goOp l.op with
        | true =>
          go_wp2_with fail
          refine (live_any _ (HL.out.below S3.out.bel)).mono ?_
          rintro e w4 ⟨rfl, hb4⟩
          have HB4 := Lib.hid (bj (S3.out.bel) hb4)
          clear hb4
          go_wp2_with fail
          go_ret
          exact ⟨rfl, by repeat (first | exact HB4.out | apply pw_below_drewN)⟩
        | false =>
          by_cases h42 : l.op = 42
          · have p1 : (l.op != 42) = false := by rw [h42]; rfl
            clear h42
            go_wp2_with fail
            refine (live_any _ (HL.out.below S3.out.bel)).mono ?_
            rintro e w4 ⟨rfl, hb4⟩
            have HB4 := Lib.hid (bj (S3.out.bel) hb4)
            clear hb4
            go_wp2_with fail
            go_ret
            exact ⟨rfl, by repeat (first | exact HB4.out | apply pw_below_drewN)⟩
          · have p1 : (l.op != 42) = true := bne_iff_ne.mpr h42
            have p2 : (l.op != 2) = false := by
              unfold plainB at hpb
              rw [o1, hg, p1] at hpb
              simpa using hpb
            clear h42 hpb
            go_wp2_with fail
            refine (live_any _ (HL.out.below S3.out.bel)).mono ?_
            rintro e w4 ⟨rfl, hb4⟩
            have HB4 := Lib.hid (bj (S3.out.bel) hb4)
            clear hb4
            go_wp2_with fail
            go_ret
            exact ⟨rfl, by repeat (first | exact HB4.out | apply pw_below_drewN)⟩
  · have e1 : ((asm ls).err == 0) = false := beq_eq_false_iff_ne.mpr he
    have e2 : ((asm ls).err != 0) = true := bne_iff_ne.mpr he
    go_wp2_with fail
    refine (live_any _ (HL.out.below S1.out.bel)).mono ?_
    rintro e w2 ⟨rfl, hb2⟩
    have S2 := Lib.hid (S1.out.next hb2)
    obtain ⟨q0, q1, q2, q3⟩ := SW.cells S2.out
    clear hb2
    go_wp2_with fail
    go_ret
    exact ⟨by first | rfl | simp [*], by repeat (first | exact S2.out.bel | apply pw_below_drewN)⟩

end Go.Proofs.YtamimnaafiphcaaDoor.PR1S
