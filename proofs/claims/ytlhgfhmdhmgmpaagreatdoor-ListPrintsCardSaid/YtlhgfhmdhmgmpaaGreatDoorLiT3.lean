/- list.takes of labels: walked. -/
import Derived.Test.YtlhgfhmdhmgmpaaGreatDoorLiT2
import Derived.Test.YtlhgfhmdhmgmpaaGreatDoorAp
import Derived.WalkSmall
set_option linter.unusedVariables false
set_option linter.unusedSimpArgs false
namespace Go.Proofs.YtlhgfhmdhmgmpaaGreatDoor
open Go.RowKit Go.Proofs.YtlhgfhmdhmgmpaaGreatDoorW.PrintWords Go.Joins Go.Maps
attribute [local go_sem] as_places_places

/-- What takes answers of labels. -/
def TakesP (b : Nat) (l : Line) (ws : List ByteArray) (w : World) (e : Ending) (w' : World) : Prop :=
  ∃ (ok : Bool) (l' : Line) (v : Value), e = .returned (.tuple #[.slice none 0 0, .bool ok]) ∧ (∃ A n c, v = .slice A n c) ∧ LineX w' b l' v ∧ takeP l .places ws = (if ok = true then some (l', []) else none) ∧ (ok = true → ∃ A c, v = .slice A l'.list.length c ∧ (l'.list.length ≤ c ∧ ∀ ad, A = some ad → b < ad.block) ∧ kInt.C w' A l'.list.length l'.list) ∧ Just b w w'

abbrev OwnI (w : World) (B : Nat) (v : Value) (xs : List Int) : Prop := w.ownsRow B 3 1 v xs.length (xs.map (Value.int .i64))

theorem LineX.set_list {w : World} {b : Nat} {l : Line} {v : Value} (hx : LineX w b l v) (ns : List Int) (u : Value) : LineX (w.setCell ⟨b, 6, none⟩ u) b { l with list := ns } u := by
  unfold LineX at *
  rw [block_setCell hx _]
  rfl

theorem OwnI.slice {w : World} {B : Nat} {v : Value} {xs : List Int} (h : OwnI w B v xs) : ∃ A c, v = .slice A xs.length c := by
  rcases h.2 with ⟨rfl, h0⟩ | ⟨g, cap, cur, rfl, _⟩
  · exact ⟨none, 0, by rw [h0]⟩
  · exact ⟨_, _, rfl⟩

theorem reps_ints (k : IntKind) (xs : List Int) : Reps (fun x cs => cs = [Value.int k x]) 1 xs (xs.map (Value.int k)) := by
  refine ⟨by simp, fun j p hj => ?_⟩
  have hlt := (List.getElem?_eq_some_iff.1 hj).1
  have he := (List.getElem?_eq_some_iff.1 hj).2
  rw [Nat.mul_one]
  have : (xs.map (Value.int k)).drop j = Value.int k p :: (xs.map (Value.int k)).drop (j + 1) := by
    rw [List.drop_eq_getElem_cons (by simpa using hlt)]
    simp [he]
  rw [this]
  rfl

theorem LLaid.big2 {w : World} (h : LLaid w) : 8 + 1 ≤ w.heap.size := by
  obtain ⟨_, h, _⟩ := h.er
  exact lt_of_cell h

theorem LLaid.below16 {w w' : World} (h : LLaid w) (hb : Below (8 + 1) w w') : LLaid w' := by
  have hc : ∀ (g i : Nat) v, g < 8 + 1 → w.cell? ⟨g, i, none⟩ = some v → w'.cell? ⟨g, i, none⟩ = some v := fun g i v hg hv => by
    rw [hb.cell (p := ⟨g, i, none⟩) hg]; exact hv
  obtain ⟨s, hs, hs2⟩ := h.es
  obtain ⟨r, hr, hr2⟩ := h.er
  exact ⟨⟨Nat.lt_of_lt_of_le h.forms.1 hb.size, fun i hi => hc _ i _ (by decide) (h.forms.2 i hi)⟩, Go.var?_below hb gPow (by decide) h.pow, Go.var?_below hb gSpc (by decide) h.spc, Nat.lt_of_lt_of_le h.big hb.size, ⟨s, hc _ 0 _ (by decide) hs, hs2⟩, ⟨r, hc _ 0 _ (by decide) hr, hr2⟩⟩

theorem own_cap {w : World} {B : Nat} {A : Option Addr} {n c : Nat} {e sz : Nat} {xs : List Value} (h : w.ownsRow B e sz (.slice A n c) n xs) : n ≤ c := by
  rcases h.2 with ⟨h1, h2⟩ | ⟨g, cap, cur, h1, _, _, h3, _⟩
  · cases h1; exact Nat.le_refl _
  · cases h1; exact h3

theorem OwnI.reads {w : World} {B : Nat} {A : Option Addr} {c : Nat} {xs : List Int} (h : OwnI w B (.slice A xs.length c) xs) : kInt.C w A xs.length xs := by
  obtain ⟨A', c', e, hr⟩ := own_reads_row h (reps_ints .i64 xs) rfl
  cases e
  exact hr

theorem labs_snoc : ∀ (xs : List ByteArray) (k : Nat) (s : ByteArray) (ns : List Int), xs[k]? = some s → (signedP s.data.toList 76).2 = true →
    labsP xs = (labsP (xs.drop k)).map (ns ++ ·) → labsP xs = (labsP (xs.drop (k + 1))).map ((ns ++ [(signedP s.data.toList 76).1]) ++ ·) := by
  intro xs k s ns hk hs h
  have hlt := (List.getElem?_eq_some_iff.1 hk).1
  have e : xs.drop k = s :: xs.drop (k + 1) := by
    rw [List.drop_eq_getElem_cons hlt]
    have := (List.getElem?_eq_some_iff.1 hk).2
    rw [this]
  rw [h, e, labsP, if_pos hs, Option.map_map]
  congr 1
  funext x
  simp

theorem labs_fail (xs : List ByteArray) (k : Nat) (s : ByteArray) (ns : List Int) (hk : xs[k]? = some s) (hs : (signedP s.data.toList 76).2 = false) (h : labsP xs = (labsP (xs.drop k)).map (ns ++ ·)) : labsP xs = none := by
  have hlt := (List.getElem?_eq_some_iff.1 hk).1
  have e : xs.drop k = s :: xs.drop (k + 1) := by
    rw [List.drop_eq_getElem_cons hlt]
    have := (List.getElem?_eq_some_iff.1 hk).2
    rw [this]
  rw [h, e, labsP, if_neg (by rw [hs]; simp)]
  rfl

theorem grown_blk {w w' : World} {row : Option Nat} {k : Nat} {o : Obj} (hg : w.grownBy w' row) (h : w.heap[k]? = some o) (hne : some k ≠ row) : w'.heap[k]? = some o := (hg.block k (Array.getElem?_eq_some_iff.1 h).1 hne).trans h

theorem grown_cell {w w' : World} {row : Option Nat} {p : Addr} {v : Value} (hg : w.grownBy w' row) (h : w.cell? p = some v) (hne : some p.block ≠ row) : w'.cell? p = some v := by
  have hb := hg.block p.block (lt_of_cell h) hne
  simp only [World.cell?, hb] at h ⊢
  exact h

theorem Just.grown {b : Nat} {w w1 w' : World} {row : Option Nat} (h : Just b w w1) (hg : w1.grownBy w' row) (hr : ∀ k, row = some k → w.heap.size ≤ k) : Just b w w' :=
  ⟨hg.os.trans h.os, hg.tape.trans h.tape, hg.output.trans h.output, Nat.le_trans h.size hg.size, fun k hk hne => (hg.block k (Nat.lt_of_lt_of_le hk h.size) (fun e => by have := hr k e.symm; omega)).trans (h.block k hk hne)⟩

theorem own_far {w : World} {B e size n b : Nat} {v : Value} {xs : List Value} (h : w.ownsRow B e size v n xs) (hb : b < B) (o : Nat) (u : Value) : (w.setCell ⟨b, o, none⟩ u).ownsRow B e size v n xs := by
  refine ⟨h.1, ?_⟩
  rcases h.2 with h0 | ⟨g, cap, cur, hv, hg0, hg, rest⟩
  · exact .inl h0
  · exact .inr ⟨g, cap, cur, hv, hg0, (Below.heap_setCell _ _ _ _ (by show g ≠ b; omega)).trans hg, rest⟩

theorem ownI_of {w : World} {B : Nat} {v : Value} {ns : List Int} {n : Int} (h : w.ownsRow B 3 1 v (ns.length + 1) ((ns ++ [n]).map (Value.int .i64))) : OwnI w B v (ns ++ [n]) := by
  rw [OwnI, List.length_append]; exact h

theorem infoInt : (Tryz.prog.info? 3).map (fun i => (i.zero, i.size, i.bytes)) = some (some (.int .i64 0), 1, 8) := by kernel_rfl

set_option maxHeartbeats 4000000 in
set_option maxRecDepth 100000 in
theorem takes_places (b : Nat) (l : Line) (V : Value) (ws : List ByteArray) (w : World) (hL : LLaid w) (hx : LineX w b l (.slice none 0 0)) (hl : l.list = []) (hw : WS w b V ws) (hsz : ∀ s ∈ ws, s.size ≤ 281474976710656) (hlen : ws.length ≤ 4294967296) (hb16 : 8 + 1 ≤ b) :
    Calls Tryz.prog 63 #[pv b .places, V] w (TakesP b l ws w) := by
  obtain ⟨A, c, rfl, hc, hbb, hcells⟩ := hw
  show Calls Tryz.prog _ #[.iface 95 (.agg #[.pointer (some ⟨b, 6, none⟩)]), _] w _
  have hbl : b < w.heap.size := (Array.getElem?_eq_some_iff.1 hx).1
  obtain ⟨W0, hW0⟩ : ∃ W0, W0 = w.alloc (.cells #[.pointer (some ⟨b, 6, none⟩)] 95) := ⟨_, rfl⟩
  have hB0 : Below w.heap.size w W0 := by rw [hW0]; exact (Below.refl _ _).alloc (Nat.le_refl _) _
  have hz0 : w.heap.size < W0.heap.size := by rw [hW0]; simp
  have hp0 : W0.cell? ⟨w.heap.size, 0, none⟩ = some (.pointer (some ⟨b, 6, none⟩)) := by rw [hW0]; exact kn 0 rfl
  have HX0 := Lib.hid (show LineX W0 b l (.slice none 0 0) from (hB0.block b hbl).trans hx)
  have HB0 := Lib.hid hB0
  have HP0 := Lib.hid hp0
  have HL := Lib.hid hL
  have HSZ := Lib.hid hsz
  have HCE := Lib.hid hcells
  have HBB := Lib.hid hbb
  have HW0 := Lib.hid hW0
  have HLL := Lib.hid hl
  clear hL hx hsz hcells hbb hW0 hB0 hp0 hl hc
  go_enter Tryz.func63, Tryz.ntmps63
  go_wp2_with fail
  rw [← HW0.out]
  go_loopw [26] (fun s wr => ∃ (k : Nat) (ns : List Int) (v : Value), k ≤ ws.length ∧ s = .int .i64 k ∧ Hid (ns.length = k) ∧ Hid (labsP ws = (labsP (ws.drop k)).map (ns ++ ·)) ∧ Hid (LineX wr b { l with list := ns } v) ∧ Hid (OwnI wr W0.heap.size v ns) ∧ Hid (Just b W0 wr)) (fun s _ => ws.length - (intOf s).toNat)
  case atStart => exact ⟨0, [], .slice none 0 0, Nat.zero_le _, rfl, Lib.hid rfl, Lib.hid (by simp), Lib.hid (by rw [show ({ l with list := [] } : Line) = l by rw [← HLL.out]]; exact HX0.out), Lib.hid (own_nil _ _ _ _), Lib.hid (Just.of_below (Below.refl _ _))⟩
  case round =>
    obtain ⟨k, ns, v, hk, rfl, hns, hlab, hX, hO, hJ⟩ := hrel
    have q0 := hJ.out.cell HP0.out (by simp; omega)
    by_cases hlt : k < ws.length
    · obtain ⟨ad, hA, hcx⟩ := HCE.out k _ (List.getElem?_eq_getElem hlt)
      have HKS := Lib.hid (List.getElem?_eq_getElem hlt : ws[k]? = some ws[k])
      have hmem : ws[k] ∈ ws := List.getElem_mem hlt
      generalize ws[k] = s at hcx HKS hmem
      subst hA
      have hadb : (ad.add k).block = ad.block := by unfold Addr.add; split <;> rfl
      have hcx2 := hJ.out.cell (kp HB0.out hcx) (by have := HBB.out ad rfl; omega)
      have hx0 : (0 : Int) ≤ (k : Int) := Int.natCast_nonneg _
      have hx1 : (k : Int) < (ws.length : Int) := by omega
      have HLr := Lib.hid ((HL.out.below HB0.out).below16 (hJ.out.below hb16 (Nat.le_trans HL.out.big2 (Nat.le_of_lt hz0))))
      have HC := Lib.hid (signed_any s 76 wr HLr.out (HSZ.out s hmem))
      generalize hV : signedP s.data.toList 76 = VV at HC
      have HVV := Lib.hid hV
      obtain ⟨n, f⟩ := VV
      simp only at HC
      clear hV hcx hmem
      obtain ⟨A9, c9, rfl⟩ := hO.out.slice
      have q1 := cell_of_block hX.out 6
      have q2 := unfrozen_of_block hX.out 6
      simp only [List.getElem?_toArray, List.getElem?_cons_succ, List.getElem?_cons_zero] at q1
      go_wp2_with fail
      refine HC.out.mono ?_
      rintro e w1 ⟨rfl, hb1⟩
      have HB1 := Lib.hid hb1
      replace q0 := kp hb1 q0
      replace q2 := kpf hb1 q1 q2
      replace q1 := kp hb1 q1
      clear hb1 hcx2
      cases f with
      | false =>
        have HF := Lib.hid (labs_fail ws k s ns HKS.out (by rw [HVV.out]) hlab.out)
        go_wp2_with fail
        go_ret2
        exact ⟨false, _, _, rfl, ⟨_, _, _, rfl⟩, (HB1.out.block b (Array.getElem?_eq_some_iff.1 hX.out).1).trans hX.out, by show (labsP ws).map _ = _; rw [HF.out]; rfl, (fun h => by cases h), (Just.of_below HB0.out).trans (hJ.out.trans (Just.of_below HB1.out))⟩
      | true =>
        go_wp2_with fail
        have hba : Below w1.heap.size w1 (w1.alloc (.cells #[.int .i64 n] 3)) := (Below.refl _ _).alloc (Nat.le_refl _) _
        have q0a := kp hba q0
        have q1a := kp hba q1
        have q2a := kpf hba q1 q2
        have hw1s := Nat.le_trans hJ.out.size HB1.out.size
        have OA := Lib.hid (show OwnI (w1.alloc (.cells #[.int .i64 n] 3)) W0.heap.size (.slice A9 ns.length c9) ns from li_own_below (li_own_below hO.out HB1.out) hba)
        have XA := Lib.hid (show LineX (w1.alloc (.cells #[.int .i64 n] 3)) b { l with list := ns } (.slice A9 ns.length c9) from (hba.block b (Nat.lt_of_lt_of_le (Array.getElem?_eq_some_iff.1 hX.out).1 HB1.out.size)).trans ((HB1.out.block b (Array.getElem?_eq_some_iff.1 hX.out).1).trans hX.out))
        have JA := Lib.hid (show Just b W0 (w1.alloc (.cells #[.int .i64 n] 3)).drew from hJ.out.trans (Just.of_below ((HB1.out.alloc HB1.out.size _).drew)))
        have BA := Lib.hid (show W0.heap.size ≤ (w1.alloc (.cells #[.int .i64 n] 3)).heap.size from JA.out.size)
        have on := one_new w1 .i64 n 3
        have ON := Lib.hid on
        have hnl : ns.length + 1 ≤ 5000000000 := by have := hns.out; omega
        clear on hba
        go_region_law (refine ap_step 35 3 (k := .i64) (bytes := 8) Tryz.underlying35 infoInt (by decide) rfl (.tmp 42) (.tmp 44) rfl W0.heap.size (.slice A9 ns.length c9) ns.length ns rfl OA.out ⟨w1.heap.size, 0, none⟩ 1 1 [n] rfl rfl ON.out (by decide) hnl BA.out ?_; intro gq capq w2 ho hg _ _; have hrow := base_le_of OA.out; have r0 := grown_cell hg q0a (fun e => by have := hrow _ e.symm; simp at this; omega); have r1 := grown_cell hg q1a (fun e => by have := hrow _ e.symm; simp at this; omega); have HX2 := Lib.hid (show LineX w2 b { l with list := ns } (.slice A9 ns.length c9) from grown_blk hg XA.out (fun e => by have := hrow _ e.symm; omega)); have r2 := unfrozen_of_block HX2.out 6; have HJ2 := Lib.hid (JA.out.grown hg hrow); have HO2 := Lib.hid ho; clear ho hg hrow)
        all_goals
          go_wp2_with fail
          go_roundw
          case rel => exact ⟨k + 1, ns ++ [n], _, hlt, by go_num, Lib.hid (by rw [List.length_append, hns.out]; rfl), Lib.hid (by have := labs_snoc ws k s ns HKS.out (by rw [HVV.out]) hlab.out; rw [HVV.out] at this; exact this), Lib.hid (HX2.out.set_list (ns ++ [n]) _), Lib.hid (own_far (ownI_of HO2.out) (by have := HB0.out.size; omega) _ _), Lib.hid (HJ2.out.set 6 _)⟩
          case measure => simp [intOf]; omega
    · have hke : k = ws.length := by omega
      subst hke
      clear hlt
      have HF := Lib.hid (show labsP ws = some ns by rw [hlab.out, List.drop_length]; simp [labsP])
      go_wp2_with fail
      go_ret2
      obtain ⟨A9, c9, rfl⟩ := hO.out.slice
      exact ⟨true, _, _, rfl, ⟨_, _, _, rfl⟩, hX.out, by show (labsP ws).map _ = _; rw [HF.out]; rfl, fun _ => ⟨A9, c9, rfl, ⟨own_cap hO.out, fun ad e => by have := base_le_of hO.out ad.block (by rw [e]; rfl); omega⟩, OwnI.reads hO.out⟩, (Just.of_below HB0.out).trans hJ.out⟩

end Go.Proofs.YtlhgfhmdhmgmpaaGreatDoor
