/- list.text: walked. -/
import Derived.Test.YtlhgfhmdhmgmpaaGreatDoorLiE
import Derived.Outline
set_option linter.unusedVariables false
set_option linter.unusedSimpArgs false
namespace Go.Proofs.YtlhgfhmdhmgmpaaGreatDoor
open Go.RowKit Go.Proofs.YtlhgfhmdhmgmpaaGreatDoorW.PrintWords Go.Joins Go.Maps

theorem lineM_new (w : World) (l : Line) (A : Option Addr) (c : Nat) (hr : kInt.C w A l.list.length l.list) : LineM (w.alloc (lineO l (.slice A l.list.length c))) w.heap.size l A c :=
  ⟨heap_alloc_new w _, Kd.C_below hr ((Below.refl _ _).alloc (Nat.le_refl _) _)⟩

set_option maxHeartbeats 4000000 in
set_option maxRecDepth 100000 in
theorem text_label (l : Line) (A : Option Addr) (c : Nat) (w : World) (hL : LLaid w) (hr : kInt.C w A l.list.length l.list) (hwf : WfL l) (h0 : l.op = 0) :
    Calls Tryz.prog 23 #[lineV l (.slice A l.list.length c)] w fun e w' => e = .returned (.string ⟨((76 :: Lib.itoa l.label) ++ [58]).toArray⟩) ∧ Below w.heap.size w w' := by
  have f0 : (l.op == 0) = true := beq_iff_eq.mpr h0
  have hM := lineM_new w l A c hr
  have HP := Lib.hid (written_part .place w.heap.size l A c _ (hL.below ((Below.refl _ _).alloc (Nat.le_refl _) _)) hM hwf trivial)
  have hlen := itoa_len l.label hwf.l0 hwf.l1
  have HL := Lib.hid hL
  clear hL hr hwf h0 hM
  unfold lineV
  unfold lineO at HP
  go_enter Tryz.func23, Tryz.ntmps23
  go_wp2_with fail
  refine HP.out.mono ?_
  rintro e w3 ⟨rfl, hb3⟩
  have HB3 := Lib.hid (bt hb3)
  have hl2 : (9223372036854775807 < (Lib.itoa l.label).length + 1 + 1) = False := eq_false (by omega)
  have hp : partT l .place = 76 :: Lib.itoa l.label := rfl
  rw [hp]
  clear hb3 HP hp
  go_wp2_with fail
  go_ret
  exact ⟨congrArg (fun x => Ending.returned (.string x)) (ba_cat (76 :: Lib.itoa l.label) [58]), HB3.out⟩

theorem OwnS.one {B : Nat} (W : World) (x : ByteArray) {g : Nat} (hg : g = W.heap.size) (hB : B ≤ W.heap.size) : OwnS (W.alloc (.cells #[.string x] 9)) B (.slice (some ⟨g, 0, none⟩) 1 1) [x] := by
  subst hg
  exact ⟨rfl, .inr ⟨W.heap.size, 1, #[.string x], rfl, hB, heap_alloc_new W _, Nat.le_refl _, by unfold maxLen; decide, rfl, rfl⟩⟩

theorem own_new {v v' : Value} {h g : Nat} (hat : v'.ownBlock = v.ownBlock ∨ v'.ownBlock = some h) (hn : v.ownBlock ≠ some g) (hlt : g < h) : v'.ownBlock ≠ some g := by
  rcases hat with e | e
  · rw [e]; exact hn
  · rw [e]; intro e2; injection e2 with e2; omega

theorem PCells.below {w w' : World} {b B : Nat} {A : Option Addr} {ps : List Part} (h : PCells w b B A ps) (hb : Below w.heap.size w w') : PCells w' b B A ps := fun i p hi => by
  obtain ⟨g, h1, h2, h3⟩ := h i p hi
  exact ⟨g, h1, h2, kp hb h3⟩

theorem PCells.grown {w w' : World} {b B : Nat} {A : Option Addr} {ps : List Part} {row : Option Nat} (h : PCells w b B A ps) (hg : w.grownBy w' row) (hne : ∀ (i : Nat) (p : Part), ps[i]? = some p → ∀ g, A = some ⟨g, 0, none⟩ → some g ≠ row) : PCells w' b B A ps := fun i p hi => by
  obtain ⟨g, h1, h2, h3⟩ := h i p hi
  refine ⟨g, h1, h2, ?_⟩
  have hb := hg.block g (lt_of_cell h3) (hne i p hi g h1)
  have : w'.cell? ⟨g, i, none⟩ = w.cell? ⟨g, i, none⟩ := by simp only [World.cell?, hb]
  rw [this]; exact h3

theorem opNames_short : opNames.all (fun x => decide (x.length ≤ 4)) = true := by kernel_rfl

theorem nameS_len (k : Nat) : (nameS k).data.toList.length ≤ 4 := by
  show (opNames.getD k []).length ≤ 4
  rw [List.getD_eq_getElem?_getD]
  cases h : opNames[k]? with
  | none => exact Nat.zero_le _
  | some x => exact of_decide_eq_true (List.all_eq_true.1 opNames_short x (List.mem_of_getElem? h))

set_option maxHeartbeats 4000000 in
set_option maxRecDepth 100000 in
theorem text_other (l : Line) (A : Option Addr) (c : Nat) (w : World) (hL : LLaid w) (hr : kInt.C w A l.list.length l.list) (hwf : WfL l) (h0 : 1 ≤ l.op) (h1 : l.op ≤ 48) (hf : fitsP l = true) :
    Calls Tryz.prog 23 #[lineV l (.slice A l.list.length c)] w fun e w' => e = .returned (.string ⟨(Lib.join (opNames.getD (l.op.toNat - 1) [] :: (partsP l.op).map (partT l)) [32]).toArray⟩) ∧ Below w.heap.size w w' := by
  obtain ⟨k, hk⟩ : ∃ k : Nat, l.op = (k : Int) + 1 := ⟨l.op.toNat - 1, by omega⟩
  have hk48 : k < 48 := by omega
  have f0 : ((k : Int) + 1 == 0) = false := beq_eq_false_iff_ne.mpr (by omega)
  have hM := lineM_new w l A c hr
  have HL := Lib.hid hL
  obtain ⟨W1, hW1⟩ : ∃ W1, W1 = w.alloc (lineO l (.slice A l.list.length c)) := ⟨_, rfl⟩
  have hB1 : Below w.heap.size w W1 := by rw [hW1]; exact (Below.refl _ _).alloc (Nat.le_refl _) _
  have hlt1 : w.heap.size < W1.heap.size := by rw [hW1]; simp
  rw [← hW1] at hM
  have hc0 : W1.cell? ⟨w.heap.size, 0, none⟩ = some (.int .i64 ((k : Int) + 1)) := by rw [cell_of_block hM.blk, ← hk]; rfl
  have HM := Lib.hid hM
  have HK := Lib.hid hk
  have HB1 := Lib.hid hB1
  have HL1 := Lib.hid (hL.below hB1)
  have HW1 := Lib.hid hW1
  have HWF := Lib.hid hwf
  have HFT := Lib.hid hf
  clear hL hr h0 h1 hM hW1 hB1 hwf hf
  unfold lineV
  rw [hk]
  clear hk
  go_enter Tryz.func23, Tryz.ntmps23
  go_upto_region 3 with fail
  have hWW : w.alloc (.cells #[.int .i64 ((k : Int) + 1), .int .i64 l.a, .int .i64 l.b, .int .i64 l.imm, .int .u32 l.n, .int .i64 l.label, .slice A l.list.length c] 49) = W1 := by rw [HW1.out]; unfold lineO; rw [HK.out]
  rw [hWW]
  clear hWW
  have hkw : IntKind.i64.wrap ((k : Int) + 1 - 1) = (k : Int) := by rw [show (k : Int) + 1 - 1 = k by omega]; exact IntWalk.i64_in _ (by omega)
  have hkw2 : IntKind.i64.wrap (k : Int) = (k : Int) := IntWalk.i64_in _ (by omega)
  have hk0 : (0 : Int) ≤ (k : Int) := Int.natCast_nonneg _
  have hk1 : (k : Int) < 48 := by omega
  have hnm := names_cell k hk48
  go_cut [3] from 14 to 20 (fun s wx => Hid (OwnS wx W1.heap.size s [nameS k]) ∧ Hid (Below W1.heap.size W1 wx))
  case first =>
    go_region_with ((go_at_call 51; refine (fields_names _ (by kernel_rfl) _ ?_).mono ?_; exact HL1.out.below ((Below.refl _ _).drew); rintro e w' ⟨rfl, rfl⟩))
    all_goals go_wp2_with fail
    all_goals go_meet
    all_goals exact ⟨Lib.hid (OwnS.one (W1.alloc namesO) (nameS k) (by simp) (by simp)), Lib.hid (Below.drew (((Below.refl _ _).alloc (Nat.le_refl _) _).alloc (by simp) _))⟩
  case rest =>
    obtain ⟨hO2, hB2⟩ := hcut
    have hc2 := kp hB2.out hc0
    have hwb := hB2.out.size
    have HM2 := Lib.hid (HM.out.below hB2.out)
    have HC2 := Lib.hid hc2
    clear hc0 hkw hkw2 hnm hc2
    go_wp2_with fail
    refine (parts_any w.heap.size ((k : Int) + 1) wc HC2.out).mono ?_
    rintro e w3 ⟨A8, c8, rfl, hcells, hb3⟩
    obtain ⟨ps, hps⟩ : ∃ ps, ps = partsP ((k : Int) + 1) := ⟨_, rfl⟩
    have hp3 : ps.length ≤ 3 := by rw [hps]; exact partsP_len _
    rw [← hps] at hcells
    have HPS := Lib.hid hps
    have HPC := Lib.hid (show PCells w3 w.heap.size wc.heap.size A8 ps from hcells)
    have HM3 := Lib.hid (HM2.out.below hb3)
    have HO3 := Lib.hid (hO2.out.below hb3)
    have HB3 := Lib.hid (bj hB2.out hb3)
    have HN3 := Lib.hid (show ∀ g, wc.heap.size ≤ g → u3.ownBlock ≠ some g from fun g hg e => by have := own_lt hO2.out g e; omega)
    have HOK := Lib.hid (show ∀ p ∈ ps, PartOk l p from fun p hp => partOk_of HFT.out (by rw [HK.out, ← HPS.out]; exact hp))
    clear hcells hb3 hO2 hB2 hps
    rw [← HPS.out]
    go_wp2_with fail
    go_loopw [3, 23] (fun v s wr => ∃ j : Nat, j ≤ ps.length ∧ s = .int .i64 j ∧ Hid (OwnS wr W1.heap.size v (nameS k :: (ps.take j).map fun p => ⟨(partT l p).toArray⟩)) ∧ Hid (∀ (i : Nat) (p : Part), ps[i]? = some p → ∀ g, A8 = some ⟨g, 0, none⟩ → v.ownBlock ≠ some g) ∧ Hid (PCells wr w.heap.size wc.heap.size A8 ps) ∧ Hid (LineM wr w.heap.size l A c) ∧ Hid (Below W1.heap.size W1 wr)) (fun _ s _ => ps.length - (intOf s).toNat)
    case atStart =>
      exact ⟨0, Nat.zero_le _, rfl, HO3, Lib.hid (fun i p hi g hA => HN3.out g (by obtain ⟨g', h1, h2, _⟩ := HPC.out i p hi; rw [hA] at h1; cases h1; exact h2)), HPC, HM3, HB3⟩
    case round =>
      obtain ⟨j, hj, rfl, hO, hN, hP, hM, hB⟩ := hrel
      by_cases hlt : j < ps.length
      · obtain ⟨g, hA, hg, hcx⟩ := hP.out j _ (List.getElem?_eq_getElem hlt)
        have HPK := Lib.hid (List.getElem?_eq_getElem hlt : ps[j]? = some ps[j])
        generalize ps[j] = p at hcx HPK
        subst hA
        have hx0 : (0 : Int) ≤ (j : Int) := Int.natCast_nonneg _
        have hx1 : (j : Int) < (ps.length : Int) := by omega
        have HW := Lib.hid (written_part p w.heap.size l A c wr (HL1.out.below hB.out) hM.out HWF.out (HOK.out p (List.mem_of_getElem? HPK.out)))
        go_wp2_with fail
        refine HW.out.mono ?_
        rintro e w4 ⟨rfl, hb4⟩
        have hb5 := hb4.alloc (Nat.le_trans (Nat.le_refl _) hb4.size) (.cells #[.string ⟨(partT l p).toArray⟩] 9)
        have HB5 := Lib.hid (bj hB.out hb5)
        have HO5 := Lib.hid (hO.out.below hb5)
        have HP5 := Lib.hid (hP.out.below hb5)
        have HG5 := Lib.hid (show g < wr.heap.size from lt_of_cell hcx)
        have HS5 := Lib.hid hb5.size
        have HL5 := Lib.hid (show (nameS k :: (ps.take j).map fun p => (⟨(partT l p).toArray⟩ : ByteArray)).length + 1 ≤ 1000000000 by rw [List.length_cons, List.length_map, List.length_take]; omega)
        have HTS := Lib.hid (show (nameS k :: (ps.take j).map fun p => (⟨(partT l p).toArray⟩ : ByteArray)) ++ [⟨(partT l p).toArray⟩] = nameS k :: (ps.take (j + 1)).map fun p => (⟨(partT l p).toArray⟩ : ByteArray) by rw [take_snoc HPK.out, List.map_append]; rfl)
        clear hb4 hb5 HW hcx
        go_wp2_with (at_builtin; refine as_list rfl (.tmp 27) (.tmp 30) rfl W1.heap.size u3 _ rfl HO5.out ⟨w4.heap.size, 0, none⟩ 1 ⟨(partT l p).toArray⟩ rfl (kn 0 rfl) HL5.out HB5.out.size ?_; intro v6 w6 ho6 hg6 hat6; rw [HTS.out] at ho6; have HO6 := Lib.hid ho6; have HB6 := Lib.hid (HB5.out.grown hg6 HB5.out.size (base_le_of HO5.out)); have HP6 := Lib.hid (HP5.out.grown hg6 (fun i q hi g' hA => by cases hA; exact fun e => hN.out i q hi g rfl e.symm)); have HN6 := Lib.hid (show ∀ (i : Nat) (q : Part), ps[i]? = some q → ∀ g', some (⟨g, 0, none⟩ : Addr) = some ⟨g', 0, none⟩ → v6.ownBlock ≠ some g' from fun i q hi g' hA => by cases hA; exact own_new hat6 (hN.out i q hi g rfl) (by have := HG5.out; have := HS5.out; omega)); clear ho6 hg6 hat6)
        go_roundw
        case rel => exact ⟨j + 1, hlt, by go_num, HO6, HN6, HP6, Lib.hid (HM.out.below HB6.out), HB6⟩
        case measure => simp [intOf]; omega
      · have hje : j = ps.length := by omega
        subst hje
        clear hlt
        rw [List.take_length] at hO
        have HJ := Lib.hid (hO.out.open_ (by simp))
        have hjl := join_len 10000 ((nameS k :: ps.map fun p => (⟨(partT l p).toArray⟩ : ByteArray)).map (·.data.toList)) (fun y hy => by
          rw [List.map_cons, List.mem_cons, List.map_map, List.mem_map] at hy
          rcases hy with rfl | ⟨p, hp, rfl⟩
          · exact Nat.le_trans (nameS_len k) (by decide)
          · exact partT_len HWF.out (HOK.out p hp))
        have hll : (nameS k :: ps.map fun p => (⟨(partT l p).toArray⟩ : ByteArray)).length = ps.length + 1 := by rw [List.length_cons, List.length_map]
        rw [List.length_map, hll] at hjl
        have HJL := Lib.hid hjl
        clear hjl hO
        obtain ⟨g, c9, rfl, hg1, hg2, hg3, hg4⟩ := HJ.out
        rw [hll] at hg3
        have HC := Lib.hid (Tryz.strings_Join g 0 c9 (nameS k :: ps.map fun p => (⟨(partT l p).toArray⟩ : ByteArray)) ⟨#[32]⟩ wr hg4 hg2 (by rw [hll]; omega) (by rw [hll]; exact hg3) (by have : (⟨#[32]⟩ : ByteArray).data.toList = [32] := rfl; rw [this]; have := HJL.out; have : (10000 + 1) * (ps.length + 1) ≤ 10001 * 4 := Nat.mul_le_mul_left _ (by omega); omega))
        rw [hll] at HC
        clear hg1 hg2 hg3 hg4
        rw [hll]
        clear hll
        go_wp2_with fail
        refine HC.out.mono ?_
        rintro e w4 ⟨rfl, hb4⟩
        have HB4 := Lib.hid (bj HB1.out (bj hB.out hb4))
        clear hb4
        go_wp2_with fail
        go_ret
        refine ⟨?_, HB4.out⟩
        rw [← HPS.out, show ((k : Int) + 1).toNat - 1 = k by omega]
        rfl

end Go.Proofs.YtlhgfhmdhmgmpaaGreatDoor
