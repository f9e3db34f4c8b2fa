/- relax's answer: words of an instruction and its data are laid down. -/
import Derived.Test.YtlhgfhmdhmgmpaaGreatDoorRxI
import Derived.Test.YtlhgfhmdhmgmpaaGreatDoorEncB
import Derived.Test.YtlhgfhmdhmgmpaaGreatDoorAp
namespace Go.Proofs.YtlhgfhmdhmgmpaaGreatDoor
open Go.RowKit Go.Proofs.YtlhgfhmdhmgmpaaGreatDoorW.PrintWords Go.Maps Go.Joins

theorem word_any (op a b c : Int) (w : World) (hL : Laid w) : Calls Tryz.prog 113 #[.agg #[.int .i64 op, .int .i64 a, .int .i64 b, .int .i64 c]] w fun e w' => e = .returned (.int .u32 (enc op a b c).1) ∧ Below w.heap.size w w' := by
  have E := Lib.hid (fun (W : World) (h : Laid W) => encode_any op a b c W h)
  generalize enc op a b c = r at E ⊢
  go_enter Tryz.func113, Tryz.ntmps113
  go_wp2_with fail
  have k0 : (w.alloc (.cells #[.int .i64 op, .int .i64 a, .int .i64 b, .int .i64 c] 99)).cell? ⟨w.heap.size, 0, none⟩ = some (.int .i64 op) := kn 0 rfl
  have k1 : (w.alloc (.cells #[.int .i64 op, .int .i64 a, .int .i64 b, .int .i64 c] 99)).cell? ⟨w.heap.size, 1, none⟩ = some (.int .i64 a) := kn 1 rfl
  have k2 : (w.alloc (.cells #[.int .i64 op, .int .i64 a, .int .i64 b, .int .i64 c] 99)).cell? ⟨w.heap.size, 2, none⟩ = some (.int .i64 b) := kn 2 rfl
  have k3 : (w.alloc (.cells #[.int .i64 op, .int .i64 a, .int .i64 b, .int .i64 c] 99)).cell? ⟨w.heap.size, 3, none⟩ = some (.int .i64 c) := kn 3 rfl
  have hL1 := Laid.below hL ((Below.refl _ w).alloc (Nat.le_refl _) (.cells #[.int .i64 op, .int .i64 a, .int .i64 b, .int .i64 c] 99))
  refine (E.out _ hL1).mono ?_
  rintro e w1 ⟨rfl, hb1⟩
  go_wp2_with fail
  go_ret
  exact ⟨rfl, bt hb1⟩

/-- Words that come as data: none, or a row that is not the answer's. -/
def DataAt (w : World) (own : Option Nat) (dv : Value) (data : List Int) : Prop :=
  (data = [] ∧ dv = .slice none 0 0) ∨ ∃ ad c, dv = .slice (some ad) data.length c ∧ 0 < data.length ∧ (∀ j u, (data.map (Value.int .u32))[j]? = some u → w.cell? (ad.add j) = some u) ∧ ad.block < w.heap.size ∧ own ≠ some ad.block

theorem adb (a : Addr) (n : Nat) : (a.add n).block = a.block := by unfold Addr.add; split <;> rfl

set_option maxRecDepth 100000 in
set_option maxHeartbeats 4000000 in
theorem puts_any (op a b c kind : Int) (data : List Int) (w : World) (B h : Nat) (ws ks : List Int) (pv : Value) (r : Int) (wv kv dv : Value)
    (hL : Laid w) (o : OI w B h ws ks pv r wv kv) (hBs : B ≤ w.heap.size) (hd : DataAt w wv.ownBlock dv data) (hw : ws.length ≤ 40000000) (hk : ks.length ≤ 40000000) (hdl : data.length ≤ 40000000) :
    Calls Tryz.prog 85 #[.pointer (some ⟨h, 0, none⟩), .agg #[.int .i64 op, .int .i64 a, .int .i64 b, .int .i64 c], .int .i64 kind, dv] w
      fun e w' => e = .returned (.tuple #[]) ∧ (∃ wv' kv', OI w' B h (ws ++ (enc op a b c).1 :: data) (ks ++ 1 :: List.replicate data.length kind) pv r wv' kv') ∧ Only B h w w' := by
  have E := Lib.hid (fun (W : World) (h : Laid W) => word_any op a b c W h)
  generalize (enc op a b c).1 = x at E ⊢
  obtain ⟨AW, cW, rfl⟩ := o.wShape
  obtain ⟨AK, cK, rfl⟩ := o.kShape
  have HO := Lib.hid o
  have HL := Lib.hid hL
  have HD := Lib.hid hd
  have q0 := o.d0
  have z0 := o.z0
  clear o hL hd
  go_enter Tryz.func85, Tryz.ntmps85
  go_wp2_with fail
  have hb0 : Below w.heap.size w (w.alloc (.cells #[.int .i64 op, .int .i64 a, .int .i64 b, .int .i64 c] 99)) := (Below.refl _ _).alloc (Nat.le_refl _) _
  have c0 : (w.alloc (.cells #[.int .i64 op, .int .i64 a, .int .i64 b, .int .i64 c] 99)).cell? ⟨w.heap.size, 0, none⟩ = some (.int .i64 op) := kn 0 rfl
  have c1 : (w.alloc (.cells #[.int .i64 op, .int .i64 a, .int .i64 b, .int .i64 c] 99)).cell? ⟨w.heap.size, 1, none⟩ = some (.int .i64 a) := kn 1 rfl
  have c2 : (w.alloc (.cells #[.int .i64 op, .int .i64 a, .int .i64 b, .int .i64 c] 99)).cell? ⟨w.heap.size, 2, none⟩ = some (.int .i64 b) := kn 2 rfl
  have c3 : (w.alloc (.cells #[.int .i64 op, .int .i64 a, .int .i64 b, .int .i64 c] 99)).cell? ⟨w.heap.size, 3, none⟩ = some (.int .i64 c) := kn 3 rfl
  replace q0 := kp hb0 q0
  replace z0 : (w.alloc (.cells #[.int .i64 op, .int .i64 a, .int .i64 b, .int .i64 c] 99)).frozen? ⟨h, 0, none⟩ = false := by
    rw [hb0.frozen (Array.getElem?_eq_some_iff.1 HO.out.blk).1]
    exact z0
  generalize w.heap.size = C at c0 c1 c2 c3
  generalize (w.alloc (.cells #[.int .i64 op, .int .i64 a, .int .i64 b, .int .i64 c] 99)) = W at hb0 c0 c1 c2 c3 q0 z0 ⊢
  have hW := hb0.size
  have HO1 := Lib.hid (HO.out.below hb0)
  have HL1 := Lib.hid (HL.out.below hb0)
  have FIN : Hid (∀ w1, Below W.drew.heap.size W.drew w1 → ∀ w2, (w1.alloc (.cells #[Value.int .u32 x] 47)).grownBy w2 (Value.slice AW ws.length cW).ownBlock → ∀ g n cap, n = (ws ++ x :: data).length →
      w2.ownsRow B 47 1 (.slice (some ⟨g, 0, none⟩) n cap) n ((ws ++ x :: data).map (Value.int .u32)) →
      (∃ wv', OI (w2.setCell ⟨h, 0, none⟩ (.slice (some ⟨g, 0, none⟩) n cap)) B h (ws ++ x :: data) ks pv r wv' (.slice AK ks.length cK)) ∧ Only B h W (w2.setCell ⟨h, 0, none⟩ (.slice (some ⟨g, 0, none⟩) n cap))) := Lib.hid (by
    intro w1 hb1 w2 hg g n cap hn how
    subst hn
    have hBW : B ≤ W.heap.size := Nat.le_trans hBs hW
    have o3 := (HO1.out.drew.below hb1).below ((Below.refl _ w1).alloc (Nat.le_refl _) (Obj.cells #[Value.int .u32 x] 47))
    refine ⟨⟨_, o3.putW hg how⟩, (Only.grown (w' := w1.alloc (Obj.cells #[Value.int .u32 x] 47)) ?_ hg hBW ?_).set 0 _⟩
    · exact (((Only.refl B h W).drew).below hb1 hBW).alloc _ hBW
    · intro k hk
      exact own_base o3.ow k hk)
  go_cut [] (fun w' => (∃ wv', OI w' B h (ws ++ x :: data) ks pv r wv' (.slice AK ks.length cK)) ∧ Only B h W w')
  case first =>
    --DEV<
    rcases HD.out with ⟨rfl, rfl⟩ | ⟨ad, cD, rfl, hpos, hcells, hlt, hne⟩
    · go_region_law (first
        | (go_simp; go_at_call 113; refine (E.out _ (by have := HL1.out; exact this)).mono ?_; rintro e w1 ⟨rfl, hb1⟩; have HO2 := Lib.hid (HO1.out.drew.below hb1); have q1 := HO2.out.d0; have q1a := ka (.cells #[Value.int .u32 x] 47) q1)
        | (refine ap_none 34 47 (k := .u32) (bytes := 4) Tryz.underlying34 (by kernel_rfl) rfl (.tmp 16) (.tmp 17) rfl B _ _ _ rfl hown1 rfl ?_)
        | (refine ap_step 34 47 (k := .u32) (bytes := 4) Tryz.underlying34 (by kernel_rfl) (by decide) rfl (.tmp 12) (.tmp 15) rfl B (.slice AW ws.length cW) ws.length ws rfl (pw_own_below (HO1.out.drew.below hb1).ow ((Below.refl _ _).alloc (Nat.le_refl _) _)) ⟨w1.heap.size, 0, none⟩ 1 1 [x] rfl rfl (one_new _ _ _ _) (by decide) (by omega) (by have := hb1.size; rw [World.size_alloc]; rw [World.size_drew] at this; omega) ?_; intro g1 cap1 w2 hown1 hg1 hat1 hlt1; have hq := ((HO2.out.below ((Below.refl _ _).alloc (Nat.le_refl _) _)).wGrown hg1).1; have q2 := cell_of_block hq 0; have z2 := unfrozen_of_block hq 0))
      all_goals
        go_wp2_with fail
        go_meet
        exact FIN.out w1 hb1 w2 hg1 g1 _ cap1 (by simp) hown1
    · have CELLS : Hid (∀ w1, Below W.drew.heap.size W.drew w1 → ∀ w2, (w1.alloc (.cells #[Value.int .u32 x] 47)).grownBy w2 (Value.slice AW ws.length cW).ownBlock → ∀ j u, (data.map (Value.int .u32))[j]? = some u → w2.cell? (ad.add j) = some u) := Lib.hid (by
        intro w1 hb1 w2 hg j u hu
        have h1 := ka (.cells #[Value.int .u32 x] 47) (kp hb1 (kp hb0.drew (hcells j u hu)))
        rw [hg.cell_far _ (lt_of_cell h1) (by rw [adb]; exact fun e => hne e.symm)]
        exact h1)
      go_region_law (first
        | (go_simp; go_at_call 113; refine (E.out _ (by have := HL1.out; exact this)).mono ?_; rintro e w1 ⟨rfl, hb1⟩; have HO2 := Lib.hid (HO1.out.drew.below hb1); have q1 := HO2.out.d0; have q1a := ka (.cells #[Value.int .u32 x] 47) q1)
        | (refine ap_step 34 47 (k := .u32) (bytes := 4) Tryz.underlying34 (by kernel_rfl) (by decide) rfl (.tmp 16) (.tmp 17) rfl B _ (ws.length + 1) (ws ++ [x]) rfl hown1 ad data.length cD data rfl rfl (CELLS.out w1 hb1 w2 hg1) hpos (by omega) (by have := hg1.size; have := hb1.size; rw [World.size_alloc] at *; rw [World.size_drew] at *; omega) ?_; intro g2 cap2 w3 hown2 hg2 hat2 hlt2; have hg3 := hg1.andThen hg2 (fun j hj => by cases hj; rcases hat1 with e | e; exact .inr e; exact .inl (by rw [e]; exact Nat.le_refl _)); have hq3 := ((HO2.out.below ((Below.refl _ _).alloc (Nat.le_refl _) _)).wGrown hg3).1; have q3 := cell_of_block hq3 0; have z3 := unfrozen_of_block hq3 0)
        | (refine ap_step 34 47 (k := .u32) (bytes := 4) Tryz.underlying34 (by kernel_rfl) (by decide) rfl (.tmp 12) (.tmp 15) rfl B (.slice AW ws.length cW) ws.length ws rfl (pw_own_below (HO1.out.drew.below hb1).ow ((Below.refl _ _).alloc (Nat.le_refl _) _)) ⟨w1.heap.size, 0, none⟩ 1 1 [x] rfl rfl (one_new _ _ _ _) (by decide) (by omega) (by have := hb1.size; rw [World.size_alloc]; rw [World.size_drew] at this; omega) ?_; intro g1 cap1 w2 hown1 hg1 hat1 hlt1; have hq := ((HO2.out.below ((Below.refl _ _).alloc (Nat.le_refl _) _)).wGrown hg1).1; have q2 := cell_of_block hq 0; have z2 := unfrozen_of_block hq 0))
      all_goals
        go_wp2_with fail
        go_meet
        exact FIN.out w1 hb1 w3 hg3 g2 _ cap2 (by simp; omega) (by simpa using hown2)
    --DEV>
  case rest =>
    obtain ⟨⟨wv', HA⟩, HB⟩ := hcut
    obtain ⟨AW', cW', rfl⟩ := HA.wShape
    have r1 := HA.d1
    have y1 := HA.z1
    replace HA := Lib.hid HA
    replace HB := Lib.hid HB
    have hBW : B ≤ W.heap.size := Nat.le_trans hBs hW
    clear c0 c1 c2 c3 q0 z0 FIN HO HO1 HL HL1
    obtain ⟨AD, cD, rfl⟩ : ∃ A c, dv = .slice A data.length c := by
      rcases HD.out with ⟨rfl, rfl⟩ | ⟨ad, cD, rfl, _⟩
      · exact ⟨_, _, rfl⟩
      · exact ⟨_, _, rfl⟩
    clear HD
    have hsz : B ≤ wc.heap.size := Nat.le_trans (Nat.le_trans hBs hW) HB.out.size
    go_wp2_with (at_builtin; refine ap_list 35 3 (k := .i64) (bytes := 8) Tryz.underlying35 (by kernel_rfl) (by decide) rfl (.tmp 25) (.tmp 26) rfl B _ ks.length ks rfl (pw_own_below HA.out.ok ((Below.refl _ _).alloc (Nat.le_refl _) _)) ⟨wc.heap.size, 0, none⟩ 1 1 [1] rfl rfl (one_new _ _ _ _) (by decide) (by omega) (by rw [World.size_alloc]; omega) ?_; intro g1 cap1 w2 hown1 hg1 hat1 hlt1; have hq := ((HA.out.below ((Below.refl _ _).alloc (Nat.le_refl _) _)).kGrown hg1).1; have q2 := cell_of_block hq 1; have z2 := unfrozen_of_block hq 1)
    have hA2 := (HA.out.below ((Below.refl _ _).alloc (Nat.le_refl _) _)).putK (ks' := ks ++ [1]) hg1 (by simpa using hown1)
    have hB2 := (Only.grown (HB.out.alloc _ hBW) hg1 hBW (fun k hk => own_base (pw_own_below HA.out.ok ((Below.refl _ _).alloc (Nat.le_refl _) (Obj.cells #[Value.int .i64 1] 3))) k hk)).set 1 (.slice (some ⟨g1, 0, none⟩) (ks.length + 1) cap1)
    clear r1 y1 hq q2 z2 hown1 hg1 hat1 hlt1
    have HA2 := Lib.hid hA2
    have HB2 := Lib.hid hB2
    clear HA HB hA2 hB2 hsz
    generalize (w2.setCell ⟨h, 1, none⟩ (Value.slice (some ⟨g1, 0, none⟩) (ks.length + 1) cap1)) = W2 at HA2 HB2 ⊢
    go_loopw [32] (fun s wr => ∃ j : Nat, j ≤ data.length ∧ s = .int .i64 j ∧ Hid (∃ kv', OI wr B h (ws ++ x :: data) (ks ++ 1 :: List.replicate j kind) pv r (.slice AW' (ws ++ x :: data).length cW') kv') ∧ Hid (Only B h W wr)) (fun s _ => data.length - (intOf s).toNat)
    case atStart => exact ⟨0, Nat.zero_le _, rfl, Lib.hid ⟨_, HA2.out⟩, HB2⟩
    case round =>
      obtain ⟨j, hj, rfl, hXX, HB⟩ := hrel
      obtain ⟨kv', HA⟩ := hXX.out
      clear hXX
      clear HA2 HB2
      obtain ⟨AK', cK', rfl⟩ := HA.kShape
      have hkl : (ks ++ 1 :: List.replicate j kind).length ≤ 100000000 := by simp; omega
      have hkj : ks ++ 1 :: List.replicate (j + 1) kind = (ks ++ 1 :: List.replicate j kind) ++ [kind] := by
        rw [List.replicate_succ', List.append_assoc]
        rfl
      by_cases hlt : j < data.length
      · have r1 := HA.d1
        have y1 := HA.z1
        have hsz : B ≤ wr.heap.size := Nat.le_trans hBW HB.out.size
        replace HA := Lib.hid HA
        replace hkj := Lib.hid hkj
        generalize ks ++ 1 :: List.replicate j kind = kk at HA hkl hkj r1 y1 ⊢
        go_wp2_with (at_builtin; refine ap_list 35 3 (k := .i64) (bytes := 8) Tryz.underlying35 (by kernel_rfl) (by decide) rfl (.tmp 38) (.tmp 40) rfl B _ kk.length kk rfl (pw_own_below HA.out.ok ((Below.refl _ _).alloc (Nat.le_refl _) _)) ⟨wr.heap.size, 0, none⟩ 1 1 [kind] rfl rfl (one_new _ _ _ _) (by decide) (by omega) (by rw [World.size_alloc]; omega) ?_; intro g1 cap1 w2 hown1 hg1 hat1 hlt1; have hq := ((HA.out.below ((Below.refl _ _).alloc (Nat.le_refl _) _)).kGrown hg1).1; have q2 := cell_of_block hq 1; have z2 := unfrozen_of_block hq 1)
        have hA2 := (HA.out.below ((Below.refl _ _).alloc (Nat.le_refl _) _)).putK (ks' := kk ++ [kind]) hg1 (by simpa using hown1)
        have hB2 := (Only.grown (HB.out.alloc _ hBW) hg1 hBW (fun k hk => own_base (pw_own_below HA.out.ok ((Below.refl _ _).alloc (Nat.le_refl _) (Obj.cells #[Value.int .i64 kind] 3))) k hk)).set 1 (.slice (some ⟨g1, 0, none⟩) (kk.length + 1) cap1)
        clear r1 y1 hq q2 z2 hown1 hg1 hat1 hlt1
        have HA2 := Lib.hid hA2
        have HB2 := Lib.hid hB2
        clear HA HB hA2 hB2 hsz
        generalize (w2.setCell ⟨h, 1, none⟩ (Value.slice (some ⟨g1, 0, none⟩) (kk.length + 1) cap1)) = W2 at HA2 HB2 ⊢
        go_roundw
        case rel => exact ⟨j + 1, by omega, by go_num, Lib.hid ⟨_, by rw [hkj.out]; exact HA2.out⟩, HB2⟩
        case measure => simp [intOf]; omega
      · have hjd : j = data.length := by omega
        subst hjd
        have HAB := Lib.hid (show (∃ wv' kv', OI wr B h (ws ++ x :: data) (ks ++ 1 :: List.replicate data.length kind) pv r wv' kv') ∧ Only B h w wr from ⟨⟨_, _, HA⟩, Only.trans (Only.below (Only.refl B h w) hb0 hBs) HB.out⟩)
        clear HA HB hkj hkl
        go_wp2_with fail
        go_end0
        exact ⟨rfl, HAB.out⟩

end Go.Proofs.YtlhgfhmdhmgmpaaGreatDoor
