/- list.line of an instruction: walked. -/
import Derived.Test.YtlhgfhmdhmgmpaaGreatDoorLiTZ
import Derived.Test.YtlhgfhmdhmgmpaaGreatDoorLiAZ
import Derived.Outline
set_option linter.unusedVariables false
set_option linter.unusedSimpArgs false
namespace Go.Proofs.YtlhgfhmdhmgmpaaGreatDoor
open Go.RowKit Go.Proofs.YtlhgfhmdhmgmpaaGreatDoorW.PrintWords Go.Joins Go.Maps

def namesB : List ByteArray := opNames.map fun l => ⟨l.toArray⟩
theorem namesB_len : namesB.length = 48 := by unfold namesB; rw [List.length_map, opNames_len]

/-- The Op of a name; 0: of none. -/
def opOf (s : ByteArray) : Int := 1 + Lib.idxOfS namesB s

def newL (k : Int) : Line := ⟨k, 0, 0, 0, 0, 0, []⟩

theorem names_cell' (k : Nat) (hk : k < 48) {g : Nat} {W : World} (hg : g = W.heap.size) : (W.alloc namesO).cell? ⟨g, k, none⟩ = some (.string (nameS k)) := by
  subst hg
  exact names_cell k hk W

theorem index_at (s : ByteArray) (g : Nat) (w : World) (hc : ∀ j, j < 48 → w.cell? ⟨g, j, none⟩ = some (.string (nameS j))) :
    Calls Tryz.prog 62 #[.slice (some ⟨g, 0, none⟩) 48 48, .string s] w fun e w' => e = .returned (.int .i64 (Lib.idxOfS namesB s)) ∧ w' = w := by
  have h := Tryz.slices_Index_string g 0 48 48 namesB s w (by rw [namesB_len]; decide) (by decide) (fun j hj => by
    rw [namesB_len] at hj
    rw [Nat.zero_add, hc j hj]
    have hj' : j < opNames.length := by rw [opNames_len]; exact hj
    simp [nameS, namesB, List.getD_eq_getElem?_getD, List.getElem?_eq_getElem hj'])
  rw [List.take_of_length_le (by rw [namesB_len]; decide)] at h
  exact h

theorem idxFrom_rng (x : ByteArray) : ∀ (l : List ByteArray) (i : Nat), Lib.idxFromS l x i = -1 ∨ ((i : Int) ≤ Lib.idxFromS l x i ∧ Lib.idxFromS l x i < (i : Int) + l.length)
  | [], i => .inl rfl
  | z :: r, i => by
    rw [Lib.idxFromS]
    split
    · exact .inr ⟨Int.le_refl _, by simp only [List.length_cons]; omega⟩
    · rcases idxFrom_rng x r (i + 1) with h | ⟨h1, h2⟩
      · exact .inl h
      · exact .inr ⟨by omega, by simp only [List.length_cons]; omega⟩

theorem idx_rng (s : ByteArray) : -1 ≤ Lib.idxOfS namesB s ∧ Lib.idxOfS namesB s < 48 := by
  have := idxFrom_rng s namesB 0
  rw [namesB_len] at this
  unfold Lib.idxOfS
  rcases this with h | h <;> omega

theorem add_block (ad : Addr) (i : Nat) : (ad.add i).block = ad.block := by unfold Addr.add; split <;> rfl

theorem heap7 {w : World} {R b : Nat} {a0 a1 a2 a3 a4 a5 a6 : Value} (h : b ≠ R) :
    (((((((w.setCell ⟨R, 0, none⟩ a0).setCell ⟨R, 1, none⟩ a1).setCell ⟨R, 2, none⟩ a2).setCell ⟨R, 3, none⟩ a3).setCell ⟨R, 4, none⟩ a4).setCell ⟨R, 5, none⟩ a5).setCell ⟨R, 6, none⟩ a6).heap[b]? = w.heap[b]? := by
  have k : ∀ (W : World) o v, (W.setCell ⟨R, o, none⟩ v).heap[b]? = W.heap[b]? := fun W o v => by
    unfold World.setCell
    simp [Array.getElem?_modify, Ne.symm h]
  rw [k, k, k, k, k, k, k]

/-- A line that is no label. -/
def lineI (s : ByteArray) (r : List ByteArray) : Option Line :=
  if opOf s = 0 then none else (takeF (newL (opOf s)) (partsP (opOf s)) r).bind fun x => if (decide (x.2 = []) && mayP x.1) = true then some x.1 else none

theorem lineX_new {W : World} {g : Nat} (hg : g = W.heap.size) (k : Int) : LineX (W.alloc (.cells #[.int .i64 k, .int .i64 0, .int .i64 0, .int .i64 0, .int .u32 0, .int .i64 0, .slice none 0 0] 49)) g (newL k) (.slice none 0 0) := by
  subst hg
  exact heap_alloc_new W _

theorem WS.below {w w' : World} {B : Nat} {v : Value} {ws : List ByteArray} (h : WS w B v ws) (hb : Below w.heap.size w w') : WS w' B v ws := by
  obtain ⟨A, c, h1, h2, h3, h4⟩ := h
  exact ⟨A, c, h1, h2, h3, fun j x hx => by obtain ⟨ad, e, hc⟩ := h4 j x hx; exact ⟨ad, e, pw_cell_below hb hc⟩⟩

theorem lineX_alloc {W : World} {g : Nat} {l : Line} {v : Value} (h : LineX W g l v) (o : Obj) : LineX (W.alloc o) g l v := (Below.heap_alloc W o g (Array.getElem?_eq_some_iff.1 h).1).trans h

theorem lineX_drew {W : World} {g : Nat} {l : Line} {v : Value} (h : LineX W g l v) : LineX W.drew g l v := h

set_option maxHeartbeats 4000000 in
set_option maxRecDepth 100000 in
theorem line_other (ad : Addr) (c : Nat) (s : ByteArray) (r : List ByteArray) (w : World) (hL : LLaid w) (hw : WS w w.heap.size (.slice (some ad) (s :: r).length c) (s :: r)) (hsz : ∀ x ∈ s :: r, x.size ≤ 281474976710656) (hlen : r.length ≤ 4294967296) (h16 : 8 + 1 ≤ w.heap.size) (hnot : Lib.hasSuffix s.data.toList [58] = false ∨ r ≠ []) :
    Calls Tryz.prog 29 #[.slice (some ad) (s :: r).length c] w (LineR (lineI s r) w) := by
  obtain ⟨A, c', e0, hc, hbb, hce⟩ := hw
  cases e0
  have hs0 : w.cell? ad = some (.string s) := by obtain ⟨ad', e1, h1⟩ := hce 0 s rfl; cases e1; exact h1
  have HL := Lib.hid hL
  have HS0 := Lib.hid hs0
  have HCE := Lib.hid hce
  have HSZ := Lib.hid hsz
  have HBB := Lib.hid (hbb ad rfl)
  have HC := Lib.hid hc
  have hss := hsz s (by simp)
  have HCS := Lib.hid (fun W => Tryz.strings_CutSuffix s ⟨#[58]⟩ W (by omega))
  have e1 : (⟨#[58]⟩ : ByteArray).data.toList = [58] := rfl
  rw [e1] at HCS
  obtain ⟨n, hn⟩ : ∃ n, n = (s :: r).length := ⟨_, rfl⟩
  have hn1 : 1 ≤ n := by rw [hn]; simp
  have hnn : Lib.hasSuffix s.data.toList [58] = false ∨ n ≠ 1 := by
    rcases hnot with h | h
    · exact .inl h
    · refine .inr ?_
      rw [hn, List.length_cons]
      intro e
      exact h (List.eq_nil_of_length_eq_zero (by omega))
  have hnc : n ≤ c := by rw [hn]; exact hc
  have HN := Lib.hid hn
  rw [← hn]
  have hz : (0 : Int) < (n : Int) := by omega
  have hsw := ka (.cells #[.int .i64 0, .int .i64 0, .int .i64 0, .int .i64 0, .int .u32 0, .int .i64 0, .slice none 0 0] 49) hs0
  generalize Lib.hasSuffix s.data.toList [58] = q at HCS hnn
  clear hL hs0 hce hsz hbb hc hss e1 hn hnot
  go_enter Tryz.func29, Tryz.ntmps29
  go_upto_region 2 with (go_at_call 60; refine (HCS.out _).mono ?_; rintro e w' ⟨rfl, rfl⟩)
  obtain ⟨W1, hW1⟩ : ∃ W1, W1 = w.alloc (.cells #[.int .i64 0, .int .i64 0, .int .i64 0, .int .i64 0, .int .u32 0, .int .i64 0, .slice none 0 0] 49) := ⟨_, rfl⟩
  rw [← hW1]
  rw [← hW1] at hsw
  have hb1 : Below w.heap.size w W1 := by rw [hW1]; exact (Below.refl _ _).alloc (Nat.le_refl _) _
  have hR1 : W1.heap[w.heap.size]? = some (.cells #[.int .i64 0, .int .i64 0, .int .i64 0, .int .i64 0, .int .u32 0, .int .i64 0, .slice none 0 0] 49 (0, 0)) := by rw [hW1]; exact heap_alloc_new w _
  have hz1 : w.heap.size < W1.heap.size := by rw [hW1]; simp
  have HB1 := Lib.hid hb1
  have HR1 := Lib.hid hR1
  have HL1 := Lib.hid (HL.out.below hb1)
  clear hW1 hb1 hR1
  go_cut [26] from 21 to 26 (fun s26 wx => s26 = .bool false ∧ W1 = wx)
  case first =>
    cases q with
    | false =>
      go_wp2_with fail
      go_meet
      exact ⟨rfl, rfl⟩
    | true =>
      have hd : ((n : Int) == 1) = false := beq_eq_false_iff_ne.mpr (fun e => hnn.elim (fun h => by cases h) (fun h => h (by omega)))
      go_wp2_with fail
      go_meet
      exact ⟨rfl, rfl⟩
  case rest =>
    obtain ⟨rfl, rfl⟩ := hcut
    obtain ⟨I, hI⟩ : ∃ I, I = Lib.idxOfS namesB s := ⟨_, rfl⟩
    have hI0 := (idx_rng s).1
    have hI1 := (idx_rng s).2
    rw [← hI] at hI0 hI1
    have HI := Lib.hid hI
    clear hI hnn
    have hkw : IntKind.i64.wrap (1 + I) = 1 + I := IntWalk.i64_in _ (by omega)
    have p1 := fun o => ka o hsw
    have p2 := fun o o' => ka o' (ka o hsw)
    have HIX := Lib.hid (index_at s)
    rw [← HI.out] at HIX
    go_upto_region 6 with fail
    go_cut [9] from 40 to 46 (fun s9 wx => Hid (∃ g, s9 = .pointer (some ⟨g, 0, none⟩) ∧ W1.heap.size ≤ g ∧ LineX wx g (newL (1 + I)) (.slice none 0 0) ∧ Below W1.heap.size W1 wx))
    case first =>
      go_region_with (first | (go_at_call 51; refine (fields_names _ (by kernel_rfl) _ ?_).mono ?_; refine HL1.out.below ?_; (with_reducible repeat (first | exact Below.refl _ _ | refine Below.drew ?_ | refine Below.alloc ?_ (Nat.le_refl _) _)); rintro e w' ⟨rfl, rfl⟩) | (go_at_call 62; refine (HIX.out _ _ ?_).mono ?_; (intro j hj; simp only [World.cell?_drew]; first | (with_reducible exact names_cell' j hj (by simp)) | (with_reducible exact ka _ (names_cell' j hj (by simp)))); rintro e w' ⟨rfl, rfl⟩))
      all_goals go_wp2_with fail
      all_goals go_meet
      all_goals exact Lib.hid ⟨_, rfl, by first | exact Nat.le_refl _ | exact Nat.le_succ _, by with_reducible first | exact lineX_drew (lineX_new (by simp) _) | exact lineX_drew (lineX_alloc (lineX_new (by simp) _) _), by with_reducible exact Below.drew (((Below.refl _ _).alloc (Nat.le_refl _) _).alloc (by simp) _)⟩
    case rest =>
      obtain ⟨g, rfl, hg, hx, hb⟩ := hcut.out
      have hR := (hb.block _ hz1).trans HR1.out
      have hgR : g ≠ w.heap.size := by omega
      have x0 := cell_of_block hx 0
      have x1 := cell_of_block hx 1
      have x2 := cell_of_block hx 2
      have x3 := cell_of_block hx 3
      have x4 := cell_of_block hx 4
      have x5 := cell_of_block hx 5
      have x6 := cell_of_block hx 6
      have HX := Lib.hid hx
      have HB := Lib.hid hb
      have HR := Lib.hid hR
      have HG := Lib.hid hg
      clear hx hb hR p1 p2 hcut hkw hsw HIX hg
      unfold newL at x0 x1 x2 x3 x4 x5 x6
      simp only [List.getElem?_toArray, List.getElem?_cons_succ, List.getElem?_cons_zero] at x0 x1 x2 x3 x4 x5 x6
      have hop : opOf s = 1 + I := by unfold opOf; rw [HI.out]
      have HOP := Lib.hid hop
      clear hop
      by_cases hI2 : I = -1
      · have hd : (1 + I == 0) = true := by rw [hI2]; rfl
        have HE := Lib.hid (show lineI s r = none by unfold lineI; rw [if_pos (by rw [HOP.out, hI2]; rfl)])
        clear hI2
        have r0 := cell_of_block HR.out 0
        have gr0 := unfrozen_of_block HR.out 0
        have r1 := cell_of_block HR.out 1
        have gr1 := unfrozen_of_block HR.out 1
        have r2 := cell_of_block HR.out 2
        have gr2 := unfrozen_of_block HR.out 2
        have r3 := cell_of_block HR.out 3
        have gr3 := unfrozen_of_block HR.out 3
        have r4 := cell_of_block HR.out 4
        have gr4 := unfrozen_of_block HR.out 4
        have r5 := cell_of_block HR.out 5
        have gr5 := unfrozen_of_block HR.out 5
        have r6 := cell_of_block HR.out 6
        have gr6 := unfrozen_of_block HR.out 6
        simp only [List.getElem?_toArray, List.getElem?_cons_succ, List.getElem?_cons_zero] at r0 r1 r2 r3 r4 r5 r6
        go_wp2_with fail
        refine bodyPost_ret (results_ct rfl _ _ w.heap.size 49 #[.int .i64 (1 + I), .int .i64 0, .int .i64 0, .int .i64 0, .int .u32 0, .int .i64 0, .slice none 0 0] (0, 0) _ rfl (by (with_reducible repeat (first | refine blk_drewN ?_ _ | refine blk_drew ?_)); exact set7 HR.out _ _ _ _ _ _ _) Tryz.underlying49 rfl (by kernel_rfl)) rfl ?_
        exact ⟨false, newL (1 + I), .slice none 0 0, rfl, HE.out, ⟨_, _, _, rfl⟩, (fun h => by cases h), by (with_reducible repeat (first | refine Below.drew ?_ | refine pw_below_drewN ?_ _)); exact below7 (HB1.out.trans (HB.out.mono HB1.out.size)) (Nat.le_refl _) _ _ _ _ _ _ _⟩
      · have hd : (1 + I == 0) = false := beq_eq_false_iff_ne.mpr (by omega)
        obtain ⟨ad', hif, hce2⟩ := ws_tail HC.out HCE.out
        have hWr : WS w g (.slice (some ad') (n - 1) (c - 1)) r := by
          refine ⟨some ad', c - 1, ?_, ?_, fun a ha => ?_, fun j y hy => ⟨ad', rfl, hce2 j y hy⟩⟩
          · rw [HN.out, List.length_cons, Nat.add_sub_cancel]
          · have := HC.out; rw [List.length_cons] at this; omega
          · cases ha
            have h2 : ad'.block = ad.block := by
              split at hif
              · cases hif; rfl
              · cases hif; rfl
            rw [h2]; have := HBB.out; have := HG.out; omega
        have HWR := Lib.hid (show ∀ V, V = .slice (if c = 1 then some ad else some (ad.add 1)) (n - 1) (c - 1) → WS wc g V r from fun V hV => by rw [hV, hif]; exact hWr.below (HB1.out.trans (HB.out.mono HB1.out.size)))
        clear hif hce2 hWr
        go_upto_region 10 with fail
        obtain ⟨V, hV⟩ : ∃ V, V = Value.slice (if c = 1 then some ad else some ⟨ad.block, ad.off + 1, none⟩) (n - 1) (c - 1) := ⟨_, rfl⟩
        rw [← hV]
        have HWV := Lib.hid (HWR.out V (by rw [hV]; rfl))
        clear hV
        go_wp2_with fail
        refine (parts_any g (1 + I) wc x0).mono ?_
        rintro e w3 ⟨A8, c8, rfl, hcells, hb3⟩
        obtain ⟨ps, hps⟩ : ∃ ps, ps = partsP (1 + I) := ⟨_, rfl⟩
        have hp3 : ps.length ≤ 3 := by rw [hps]; exact partsP_len _
        rw [← hps] at hcells
        have HPS := Lib.hid hps
        have hgw : g < wc.heap.size := (Array.getElem?_eq_some_iff.1 HX.out).1
        have HPC := Lib.hid (show PCells w3 g wc.heap.size A8 ps from hcells)
        have HX3 := Lib.hid (show LineX w3 g (newL (1 + I)) (.slice none 0 0) from (hb3.block g hgw).trans HX.out)
        have HW3 := Lib.hid (HWV.out.below hb3)
        have HB3 := Lib.hid (show Below w.heap.size w w3 from bj (HB1.out.trans (HB.out.mono HB1.out.size)) hb3)
        have HR3 := Lib.hid ((hb3.block _ (Array.getElem?_eq_some_iff.1 HR.out).1).trans HR.out)
        have hg16 : 8 + 1 ≤ g := by have := HG.out; omega
        have hws3 : w.heap.size < w3.heap.size := by have := hb3.size; have := HG.out; omega
        have hgw3 : g < w3.heap.size := Nat.lt_of_lt_of_le hgw hb3.size
        clear hcells hb3 hps x0 x1 x2 x3 x4 x5 x6
        rw [← HPS.out]
        go_wp2_with fail
        go_loopw [10, 55] (fun v10 s55 wr => ∃ (k : Nat) (lk : Line) (vk : Value) (wsk : List ByteArray), k ≤ ps.length ∧ s55 = .int .i64 k ∧ Hid (WS wr g v10 wsk) ∧ Hid (takeF (newL (1 + I)) ps r = takeF lk (ps.drop k) wsk) ∧ Hid (LineX wr g lk vk) ∧ Hid ((vk = .slice none 0 0 ∧ lk.list = []) ∨ (k = ps.length ∧ ∃ A c, vk = .slice A lk.list.length c ∧ (lk.list.length ≤ c ∧ ∀ ad, A = some ad → g < ad.block) ∧ KO wr A c lk.list.length lk.list)) ∧ Hid ((∀ x ∈ wsk, x ∈ r) ∧ wsk.length ≤ r.length) ∧ Hid (Just g w3 wr)) (fun _ s _ => ps.length - (intOf s).toNat)
        case atStart => exact ⟨0, newL (1 + I), _, r, Nat.zero_le _, rfl, HW3, Lib.hid rfl, HX3, Lib.hid (.inl ⟨rfl, rfl⟩), Lib.hid ⟨fun x hx => hx, Nat.le_refl _⟩, Lib.hid (Just.of_below (Below.refl _ _))⟩
        case round =>
          obtain ⟨k, lk, vk, wsk, hk, rfl, hW, hT, hX, hLs, hS, hJ⟩ := hrel
          have HBr := Lib.hid (show Below w.heap.size w wr from HB3.out.trans (hJ.out.below (by have := HG.out; omega) (Nat.le_of_lt hws3)))
          have HRr := Lib.hid ((hJ.out.block _ hws3 (fun e => hgR e.symm)).trans HR3.out)
          by_cases hlt : k < ps.length
          · obtain ⟨gp, hA, hgp, hcx⟩ := HPC.out k _ (List.getElem?_eq_getElem hlt)
            have HPK := Lib.hid (List.getElem?_eq_getElem hlt : ps[k]? = some ps[k])
            generalize ps[k] = p at hcx HPK
            subst hA
            have hcr := hJ.out.cell hcx (by show gp ≠ g; omega)
            have hx0 : (0 : Int) ≤ (k : Int) := Int.natCast_nonneg _
            have hx1 : (k : Int) < (ps.length : Int) := by omega
            obtain ⟨hvk, hlk⟩ : vk = .slice none 0 0 ∧ lk.list = [] := by
              rcases hLs.out with h | ⟨h, _⟩
              · exact h
              · omega
            subst hvk
            have HLr := Lib.hid ((HL.out.below HB3.out).below16 (hJ.out.below hg16 (by omega)))
            have HTK := Lib.hid (takes_any p g lk u10 wsk wr HLr.out hX.out hlk (fun o e => partsP_reg (1 + I) o (by rw [← HPS.out, ← e]; exact List.mem_of_getElem? HPK.out)) hW.out (fun x hx => HSZ.out x (List.mem_cons_of_mem _ (hS.out.1 x hx))) (Nat.le_trans hS.out.2 hlen) hg16)
            clear hcx hlk
            go_wp2_with fail
            refine HTK.out.mono ?_
            rintro e w4 ⟨ok, v', l', ws', vl, rfl, ⟨Al, nl, cl, rfl⟩, hx4, ht4, hw4, hl4, hj4⟩
            have HX4 := Lib.hid hx4
            have HT4 := Lib.hid ht4
            have HW4 := Lib.hid hw4
            have HL4 := Lib.hid hl4
            have HJ4 := Lib.hid (hJ.out.trans hj4)
            clear hx4 ht4 hw4 hl4 hj4 hcr HTK
            cases ok with
            | true =>
              have hsub := takeP_sub HT4.out
              have HSUB := Lib.hid hsub
              clear hsub
              go_wp2_with fail
              go_roundw
              case rel => exact ⟨k + 1, l', .slice Al nl cl, ws', hlt, by go_num, Lib.hid (HW4.out trivial), Lib.hid (hT.out.trans (takeF_step HPK.out HT4.out)), HX4, Lib.hid (by
                  by_cases hp : p = .places
                  · exact .inr ⟨by rw [HPS.out]; exact places_last _ k (by rw [← HPS.out, HPK.out, hp]), (HL4.out trivial).2 hp⟩
                  · exact .inl ((HL4.out trivial).1 hp)), Lib.hid ⟨fun x hx => hS.out.1 x (HSUB.out.1 x hx), Nat.le_trans HSUB.out.2 hS.out.2⟩, HJ4⟩
              case measure => simp [intOf]; omega
            | false =>
              have HE := Lib.hid (show lineI s r = none by unfold lineI; rw [if_neg (by rw [HOP.out]; omega), HOP.out, ← HPS.out, hT.out, takeF_fail HPK.out HT4.out]; rfl)
              have HR4 := Lib.hid ((HJ4.out.block _ hws3 (fun e => hgR e.symm)).trans HR3.out)
              have HB4 := Lib.hid (show Below w.heap.size w w4 from HB3.out.trans (HJ4.out.below (by have := HG.out; omega) (Nat.le_of_lt hws3)))
              have x0 := cell_of_block HX4.out 0
              have x1 := cell_of_block HX4.out 1
              have x2 := cell_of_block HX4.out 2
              have x3 := cell_of_block HX4.out 3
              have x4 := cell_of_block HX4.out 4
              have x5 := cell_of_block HX4.out 5
              have x6 := cell_of_block HX4.out 6
              simp only [List.getElem?_toArray, List.getElem?_cons_succ, List.getElem?_cons_zero] at x0 x1 x2 x3 x4 x5 x6
              have r0 := cell_of_block HR4.out 0
              have gr0 := unfrozen_of_block HR4.out 0
              have r1 := cell_of_block HR4.out 1
              have gr1 := unfrozen_of_block HR4.out 1
              have r2 := cell_of_block HR4.out 2
              have gr2 := unfrozen_of_block HR4.out 2
              have r3 := cell_of_block HR4.out 3
              have gr3 := unfrozen_of_block HR4.out 3
              have r4 := cell_of_block HR4.out 4
              have gr4 := unfrozen_of_block HR4.out 4
              have r5 := cell_of_block HR4.out 5
              have gr5 := unfrozen_of_block HR4.out 5
              have r6 := cell_of_block HR4.out 6
              have gr6 := unfrozen_of_block HR4.out 6
              simp only [List.getElem?_toArray, List.getElem?_cons_succ, List.getElem?_cons_zero] at r0 r1 r2 r3 r4 r5 r6
              go_wp2_with fail
              refine bodyPost_ret (results_ct rfl _ _ w.heap.size 49 #[.int .i64 l'.op, .int .i64 l'.a, .int .i64 l'.b, .int .i64 l'.imm, .int .u32 l'.n, .int .i64 l'.label, .slice Al nl cl] (0, 0) _ rfl (by (with_reducible repeat (first | refine blk_drewN ?_ _ | refine blk_drew ?_)); exact set7 HR4.out _ _ _ _ _ _ _) Tryz.underlying49 rfl (by kernel_rfl)) rfl ?_
              exact ⟨false, l', .slice Al nl cl, rfl, HE.out, ⟨_, _, _, rfl⟩, (fun h => by cases h), by (with_reducible repeat (first | refine Below.drew ?_ | refine pw_below_drewN ?_ _)); exact below7 HB4.out (Nat.le_refl _) _ _ _ _ _ _ _⟩
          · have hke : k = ps.length := by omega
            subst hke
            clear hlt
            rw [List.drop_length, takeF] at hT
            obtain ⟨Al, cl, rfl, hfar, hkc⟩ : ∃ Al cl, vk = .slice Al lk.list.length cl ∧ (lk.list.length ≤ cl ∧ ∀ ad, Al = some ad → g < ad.block) ∧ KO wr Al cl lk.list.length lk.list := by
              rcases hLs.out with ⟨h1, h2⟩ | ⟨_, A, c, h1, h2, h3⟩
              · exact ⟨none, 0, by rw [h1, h2]; rfl, ⟨by rw [h2]; exact Nat.le_refl _, (fun ad e => by cases e)⟩, by rw [h2]; exact KO.nil wr⟩
              · exact ⟨A, c, h1, h2, h3⟩
            obtain ⟨Ar, cr, rfl, _, _, _⟩ := hW.out
            have HKC := Lib.hid hkc
            have HFAR := Lib.hid (show ∀ ad, Al = some ad → w.heap.size < ad.block from fun ad e => by have := hfar.2 ad e; have := HG.out; omega)
            have HCP := Lib.hid hfar.1
            clear hfar
            have HLI := Lib.hid (show lineI s r = if (decide (wsk = []) && mayP lk) = true then some lk else none by unfold lineI; rw [if_neg (by rw [HOP.out]; omega), HOP.out, ← HPS.out, hT.out]; rfl)
            have HLr := Lib.hid ((HL.out.below HB3.out).below16 (hJ.out.below hg16 (by omega)))
            clear hkc
            have x0 := cell_of_block hX.out 0
            have x1 := cell_of_block hX.out 1
            have x2 := cell_of_block hX.out 2
            have x3 := cell_of_block hX.out 3
            have x4 := cell_of_block hX.out 4
            have x5 := cell_of_block hX.out 5
            have x6 := cell_of_block hX.out 6
            simp only [List.getElem?_toArray, List.getElem?_cons_succ, List.getElem?_cons_zero] at x0 x1 x2 x3 x4 x5 x6
            have r0 := cell_of_block HRr.out 0
            have gr0 := unfrozen_of_block HRr.out 0
            have r1 := cell_of_block HRr.out 1
            have gr1 := unfrozen_of_block HRr.out 1
            have r2 := cell_of_block HRr.out 2
            have gr2 := unfrozen_of_block HRr.out 2
            have r3 := cell_of_block HRr.out 3
            have gr3 := unfrozen_of_block HRr.out 3
            have r4 := cell_of_block HRr.out 4
            have gr4 := unfrozen_of_block HRr.out 4
            have r5 := cell_of_block HRr.out 5
            have gr5 := unfrozen_of_block HRr.out 5
            have r6 := cell_of_block HRr.out 6
            have gr6 := unfrozen_of_block HRr.out 6
            simp only [List.getElem?_toArray, List.getElem?_cons_succ, List.getElem?_cons_zero] at r0 r1 r2 r3 r4 r5 r6
            cases wsk with
            | cons sx rx =>
              have hd2 : ((((sx :: rx).length : Nat) : Int) == 0) = false := beq_eq_false_iff_ne.mpr (by simp only [List.length_cons]; omega)
              have HE := Lib.hid (show lineI s r = none by rw [HLI.out]; rfl)
              obtain ⟨m, hm⟩ : ∃ m, m = (sx :: rx).length := ⟨_, rfl⟩
              rw [← hm] at hd2 ⊢
              clear hm
              go_wp2_with fail
              go_region
              all_goals go_wp2_with fail
              all_goals refine bodyPost_ret (results_ct rfl _ _ w.heap.size 49 #[.int .i64 lk.op, .int .i64 lk.a, .int .i64 lk.b, .int .i64 lk.imm, .int .u32 lk.n, .int .i64 lk.label, .slice Al lk.list.length cl] (0, 0) _ rfl (by (with_reducible repeat (first | refine blk_drewN ?_ _ | refine blk_drew ?_)); exact set7 HRr.out _ _ _ _ _ _ _) Tryz.underlying49 rfl (by kernel_rfl)) rfl ?_
              all_goals exact ⟨false, lk, .slice Al lk.list.length cl, rfl, HE.out, ⟨_, _, _, rfl⟩, (fun h => by cases h), by (with_reducible repeat (first | refine Below.drew ?_ | refine pw_below_drewN ?_ _)); exact below7 HBr.out (Nat.le_refl _) _ _ _ _ _ _ _⟩
            | nil =>
              have HE := Lib.hid (show lineI s r = if mayP lk = true then some lk else none by rw [HLI.out]; rfl)
              have hm := may_any lk Al cl wr.drew (HLr.out.below ((Below.refl _ _).drew)) (Kd.C_below HKC.out.1 ((Below.refl _ _).drew))
              unfold lineV at hm
              have HM := Lib.hid hm
              clear hm
              rw [show ([] : List ByteArray).length = 0 from rfl]
              go_wp2_with fail
              go_region_with ((go_at_call 21; refine HM.out.mono ?_; rintro e w6 ⟨rfl, hb6⟩; have y0 := kp hb6 x0; have s0 := kp hb6 r0; have h0 := kpf hb6 r0 gr0; have y1 := kp hb6 x1; have s1 := kp hb6 r1; have h1 := kpf hb6 r1 gr1; have y2 := kp hb6 x2; have s2 := kp hb6 r2; have h2 := kpf hb6 r2 gr2; have y3 := kp hb6 x3; have s3 := kp hb6 r3; have h3 := kpf hb6 r3 gr3; have y4 := kp hb6 x4; have s4 := kp hb6 r4; have h4 := kpf hb6 r4 gr4; have y5 := kp hb6 x5; have s5 := kp hb6 r5; have h5 := kpf hb6 r5 gr5; have y6 := kp hb6 x6; have s6 := kp hb6 r6; have h6 := kpf hb6 r6 gr6; have HB6 := Lib.hid (show Below w.heap.size w w6 from bj (HBr.out.drew) hb6); have HR6 := Lib.hid ((hb6.block _ (Array.getElem?_eq_some_iff.1 HRr.out).1).trans HRr.out); have HK6 := Lib.hid (show KO w6 Al cl lk.list.length lk.list from KO.below (KO.below HKC.out ((Below.refl _ _).drew)) hb6); clear hb6))
              all_goals go_wp2_with fail
              all_goals refine bodyPost_ret (results_ct rfl _ _ w.heap.size 49 #[.int .i64 lk.op, .int .i64 lk.a, .int .i64 lk.b, .int .i64 lk.imm, .int .u32 lk.n, .int .i64 lk.label, .slice Al lk.list.length cl] (0, 0) _ rfl (by (with_reducible repeat (first | refine blk_drewN ?_ _ | refine blk_drew ?_)); exact set7 HR6.out _ _ _ _ _ _ _) Tryz.underlying49 rfl (by kernel_rfl)) rfl ?_
              all_goals exact ⟨mayP lk, lk, .slice Al lk.list.length cl, rfl, HE.out, ⟨_, _, _, rfl⟩, (fun _ => ⟨Al, cl, rfl, ⟨HCP.out, (fun ad e => Nat.le_of_lt (HFAR.out ad e))⟩, KO.keep HK6.out (fun ad e => heap7 (by have := HFAR.out ad e; omega))⟩), by (with_reducible repeat (first | refine Below.drew ?_ | refine pw_below_drewN ?_ _)); exact below7 HB6.out (Nat.le_refl _) _ _ _ _ _ _ _⟩

end Go.Proofs.YtlhgfhmdhmgmpaaGreatDoor
