/- Are two of relax's answers the same: walked. -/
import Derived.Test.YtlhgfhmdhmgmpaaGreatDoorRxL
namespace Go.Proofs.YtlhgfhmdhmgmpaaGreatDoor
open Go.RowKit Go.Proofs.YtlhgfhmdhmgmpaaGreatDoorW.PrintWords Go.Maps Go.Joins

/-- A slice reads as these numbers. -/
def Nums (w : World) (k : IntKind) (v : Value) (xs : List Int) : Prop :=
  ∃ A c, v = .slice A xs.length c ∧ xs.length ≤ 100000000 ∧ ∀ i, i < xs.length → ∃ ad, A = some ad ∧ w.cell? (ad.add i) = some (.int k (xs.getD i 0))

theorem Nums.below {w w' : World} {k : IntKind} {v : Value} {xs : List Int} (h : Nums w k v xs) (hb : Below w.heap.size w w') : Nums w' k v xs := by
  obtain ⟨A, c, e, hn, hc⟩ := h
  refine ⟨A, c, e, hn, fun i hi => ?_⟩
  obtain ⟨ad, e2, h2⟩ := hc i hi
  exact ⟨ad, e2, kp hb h2⟩

theorem Nums.own {w : World} {k : IntKind} {B : Nat} {e : TypeId} {v : Value} {xs : List Int} (h : w.ownsRow B e 1 v xs.length (xs.map (Value.int k))) (hn : xs.length ≤ 100000000) : Nums w k v xs := by
  rcases h.2 with ⟨rfl, h0⟩ | ⟨g, cap, cur, rfl, _⟩
  · exact ⟨none, 0, by rw [h0], hn, fun i hi => by omega⟩
  · refine ⟨some ⟨g, 0, none⟩, cap, rfl, hn, fun i hi => ⟨_, rfl, ?_⟩⟩
    have hadd : (⟨g, 0, none⟩ : Addr).add i = ⟨g, i, none⟩ := by unfold Addr.add; split <;> simp_all
    rw [hadd, World.ownsRow.cellAt h i (by omega)]
    simp [List.getD, List.getElem?_eq_getElem hi]

theorem Nums.blk {w : World} {k : IntKind} {b : Nat} {t : TypeId} {fr : Nat × Nat} (xs : List Int) (h : w.heap[b]? = some (.cells (xs.map (Value.int k)).toArray t fr)) (hn : xs.length ≤ 100000000) : Nums w k (.slice (some ⟨b, 0, none⟩) xs.length xs.length) xs := by
  refine ⟨some ⟨b, 0, none⟩, xs.length, rfl, hn, fun i hi => ⟨_, rfl, ?_⟩⟩
  have hadd : (⟨b, 0, none⟩ : Addr).add i = ⟨b, i, none⟩ := by unfold Addr.add; split <;> simp_all
  rw [hadd, cell_of_block h i]
  simp [List.getD, List.getElem?_eq_getElem hi]

def Agree (a b : List Int) (k : Nat) : Prop := ∀ i, i < k → a.getD i 0 = b.getD i 0

theorem agree_eq {a b : List Int} (hl : a.length = b.length) (h : Agree a b a.length) : a = b := by
  apply List.ext_getElem hl
  intro i h1 h2
  have := h i h1
  simpa [List.getD, h1, h2] using this

theorem Agree.succ {a b : List Int} {k : Nat} (h : Agree a b k) (he : a.getD k 0 = b.getD k 0) : Agree a b (k + 1) := by
  intro i hi
  by_cases e : i = k
  · subst e; exact he
  · exact h i (by omega)

structure AsmRd (w : World) (W K P : List Int) (wv kv pv : Value) : Prop where
  nw : Nums w .u32 wv W
  nk : Nums w .i64 kv K
  np : Nums w .i64 pv P

theorem AsmRd.below {w w' : World} {W K P : List Int} {wv kv pv : Value} (h : AsmRd w W K P wv kv pv) (hb : Below w.heap.size w w') : AsmRd w' W K P wv kv pv := ⟨h.nw.below hb, h.nk.below hb, h.np.below hb⟩

set_option maxRecDepth 100000 in
set_option maxHeartbeats 4000000 in
theorem same_any (W K P W' K' P' : List Int) (r r' : Int) (wv kv pv wv' kv' pv' : Value) (w : World) (h : AsmRd w W K P wv kv pv) (h' : AsmRd w W' K' P' wv' kv' pv') :
    Calls Tryz.prog 20 #[.agg #[wv, kv, pv, .int .i64 r], .agg #[wv', kv', pv', .int .i64 r']] w fun e w' => e = .returned (.bool (decide (r = r' ∧ W = W' ∧ K = K' ∧ P = P'))) ∧ Below w.heap.size w w' := by
  obtain ⟨A1, c1, rfl, n1, -⟩ := id h.nw
  obtain ⟨A2, c2, rfl, n2, -⟩ := id h.nk
  obtain ⟨A3, c3, rfl, n3, -⟩ := id h.np
  obtain ⟨B1, d1, rfl, m1, -⟩ := id h'.nw
  obtain ⟨B2, d2, rfl, m2, -⟩ := id h'.nk
  obtain ⟨B3, d3, rfl, m3, -⟩ := id h'.np
  have HA := Lib.hid h
  have HB := Lib.hid h'
  clear h h'
  generalize hans : decide (r = r' ∧ W = W' ∧ K = K' ∧ P = P') = ans
  have HANS := Lib.hid hans
  clear hans
  have NO : Hid (¬ (r = r' ∧ W = W' ∧ K = K' ∧ P = P') → ans = false) := Lib.hid (fun hn => by rw [← HANS.out]; exact decide_eq_false hn)
  go_enter Tryz.func20, Tryz.ntmps20
  go_wp2_with fail
  all_goals try (rename_i hx; go_ret; refine ⟨by rw [NO.out (by rintro ⟨rfl, rfl, rfl, rfl⟩; first | exact hx rfl | simp at hx)]; rfl, by go_grown⟩; done)
  rename (W.length : Int) = (W'.length : Int) => q1
  rename (K.length : Int) = (K'.length : Int) => q2
  rename ((P.length : Int) != (P'.length : Int)) = false => q3
  have q4 : (P.length : Int) = (P'.length : Int) := by simpa using q3
  have l1 : Hid (W.length = W'.length) := Lib.hid (by omega)
  have l2 : Hid (K.length = K'.length) := Lib.hid (by omega)
  have l3 : Hid (P.length = P'.length) := Lib.hid (by omega)
  clear q1 q2 q3 q4
  have e1 : r = r' := by assumption
  subst e1
  have hbA : Below w.heap.size w (w.alloc (.cells #[.slice A1 W.length c1, .slice A2 K.length c2, .slice A3 P.length c3, .int .i64 r] 43)) := (Below.refl _ _).alloc (Nat.le_refl _) _
  have hsA : (w.alloc (.cells #[.slice A1 W.length c1, .slice A2 K.length c2, .slice A3 P.length c3, .int .i64 r] 43)).heap.size = w.heap.size + 1 := World.size_alloc _ _
  have a0 : (w.alloc (.cells #[.slice A1 W.length c1, .slice A2 K.length c2, .slice A3 P.length c3, .int .i64 r] 43)).cell? ⟨w.heap.size, 0, none⟩ = some (.slice A1 W.length c1) := kn 0 rfl
  have a1 : (w.alloc (.cells #[.slice A1 W.length c1, .slice A2 K.length c2, .slice A3 P.length c3, .int .i64 r] 43)).cell? ⟨w.heap.size, 1, none⟩ = some (.slice A2 K.length c2) := kn 1 rfl
  have a2 : (w.alloc (.cells #[.slice A1 W.length c1, .slice A2 K.length c2, .slice A3 P.length c3, .int .i64 r] 43)).cell? ⟨w.heap.size, 2, none⟩ = some (.slice A3 P.length c3) := kn 2 rfl
  generalize (w.alloc (.cells #[.slice A1 W.length c1, .slice A2 K.length c2, .slice A3 P.length c3, .int .i64 r] 43)) = WA at hbA hsA a0 a1 a2 ⊢
  have hbB : Below WA.heap.size WA (WA.alloc (.cells #[.slice B1 W'.length d1, .slice B2 K'.length d2, .slice B3 P'.length d3, .int .i64 r] 43)) := (Below.refl _ _).alloc (Nat.le_refl _) _
  have b0 : (WA.alloc (.cells #[.slice B1 W'.length d1, .slice B2 K'.length d2, .slice B3 P'.length d3, .int .i64 r] 43)).cell? ⟨WA.heap.size, 0, none⟩ = some (.slice B1 W'.length d1) := kn 0 rfl
  have b1 : (WA.alloc (.cells #[.slice B1 W'.length d1, .slice B2 K'.length d2, .slice B3 P'.length d3, .int .i64 r] 43)).cell? ⟨WA.heap.size, 1, none⟩ = some (.slice B2 K'.length d2) := kn 1 rfl
  have b2 : (WA.alloc (.cells #[.slice B1 W'.length d1, .slice B2 K'.length d2, .slice B3 P'.length d3, .int .i64 r] 43)).cell? ⟨WA.heap.size, 2, none⟩ = some (.slice B3 P'.length d3) := kn 2 rfl
  rw [hsA] at b0 b1 b2
  replace a0 := kp hbB a0
  replace a1 := kp hbB a1
  replace a2 := kp hbB a2
  replace hbB := bj hbA hbB
  generalize (WA.alloc (.cells #[.slice B1 W'.length d1, .slice B2 K'.length d2, .slice B3 P'.length d3, .int .i64 r] 43)) = WB at hbB a0 a1 a2 b0 b1 b2 ⊢
  clear hbA hsA
  have F : Hid (∀ W3, Below WB.heap.size WB W3 → AsmRd W3 W K P (.slice A1 W.length c1) (.slice A2 K.length c2) (.slice A3 P.length c3) ∧ AsmRd W3 W' K' P' (.slice B1 W'.length d1) (.slice B2 K'.length d2) (.slice B3 P'.length d3) ∧
      (W3.cell? ⟨w.heap.size, 0, none⟩ = some (.slice A1 W.length c1) ∧ W3.cell? ⟨w.heap.size, 1, none⟩ = some (.slice A2 K.length c2) ∧ W3.cell? ⟨w.heap.size, 2, none⟩ = some (.slice A3 P.length c3)) ∧
      (W3.cell? ⟨w.heap.size + 1, 0, none⟩ = some (.slice B1 W'.length d1) ∧ W3.cell? ⟨w.heap.size + 1, 1, none⟩ = some (.slice B2 K'.length d2) ∧ W3.cell? ⟨w.heap.size + 1, 2, none⟩ = some (.slice B3 P'.length d3)) ∧ Below w.heap.size w W3) :=
    Lib.hid fun W3 hb => ⟨HA.out.below (bj hbB hb), HB.out.below (bj hbB hb), ⟨kp hb a0, kp hb a1, kp hb a2⟩, ⟨kp hb b0, kp hb b1, kp hb b2⟩, bj hbB hb⟩
  clear a0 a1 a2 b0 b1 b2 hbB HA HB
  have HB0 := Lib.hid (Below.refl WB.heap.size WB)
  go_loopw [5] (fun s wr => ∃ k : Nat, k ≤ W.length ∧ s = .int .i64 k ∧ Hid (Agree W W' k) ∧ Hid (Below WB.heap.size WB wr)) (fun s _ => W.length - (intOf s).toNat)
  case atStart => exact ⟨0, Nat.zero_le _, rfl, Lib.hid (fun i hi => absurd hi (Nat.not_lt_zero i)), HB0⟩
  case round =>
    obtain ⟨k, hk, rfl, hG, hB⟩ := hrel
    obtain ⟨ha, hb, ⟨a0, a1, a2⟩, ⟨b0, b1, b2⟩, hw⟩ := F.out wr hB.out
    have HW := Lib.hid hw
    clear hw
    by_cases hlt : k < W.length
    · have hx := ha.nw
      have hy := hb.nw
      obtain ⟨_, _, ex, _, hx⟩ := hx
      obtain ⟨_, _, ey, _, hy⟩ := hy
      obtain ⟨p, ep, kx⟩ := hx k hlt
      obtain ⟨q, eq, ky⟩ := hy k (by have := l1.out; omega)
      cases ex
      cases ey
      clear hx hy ha hb
      have hi0 : (0 : Int) ≤ (k : Int) := Int.natCast_nonneg _
      have hi1 : (k : Int) < (W.length : Int) := by omega
      have hi2 : (k : Int) < (W'.length : Int) := by have := l1.out; omega
      subst ep
      subst eq
      by_cases he : W.getD k 0 = W'.getD k 0
      · have HG := Lib.hid (hG.out.succ he)
        rw [← he] at ky
        generalize W.getD k 0 = x at kx ky
        clear he
        go_wp2_with fail
        go_quiet (fail)
        go_wp2_with fail
        exact ⟨⟨k + 1, by omega, by go_num, HG, Lib.hid (hB.out.trans ((bdnX wr _).mono hB.out.size))⟩, by simp [intOf]; omega⟩
      · have HE := Lib.hid (show ¬ W = W' from fun e => he (by rw [e]))
        replace he : (W.getD k 0 != W'.getD k 0) = true := by simpa using he
        generalize W.getD k 0 = x at kx he
        generalize W'.getD k 0 = y at ky he
        go_wp2_with fail
        go_quiet (fail)
        go_wp2_with fail
        go_ret
        exact ⟨by rw [NO.out (fun h => HE.out h.2.1)]; rfl, HW.out.trans ((bdnX wr _).mono HW.out.size)⟩
    · have hkn : k = W.length := by omega
      subst hkn
      have EQnw := Lib.hid (agree_eq l1.out hG.out)
      have HB0 := hB
      clear hG ha hb

      obtain ⟨_, _, ⟨a0, a1, a2⟩, ⟨b0, b1, b2⟩, _⟩ := F.out _ HB0.out
      clear HW
      go_wp2_with fail
      go_loopw [6] (fun s wr => ∃ k : Nat, k ≤ K.length ∧ s = .int .i64 k ∧ Hid (Agree K K' k) ∧ Hid (Below WB.heap.size WB wr)) (fun s _ => K.length - (intOf s).toNat)
      case atStart => exact ⟨0, Nat.zero_le _, rfl, Lib.hid (fun i hi => absurd hi (Nat.not_lt_zero i)), HB0⟩
      case round =>
        obtain ⟨k, hk, rfl, hG, hB⟩ := hrel
        obtain ⟨ha, hb, ⟨a0, a1, a2⟩, ⟨b0, b1, b2⟩, hw⟩ := F.out wr hB.out
        have HW := Lib.hid hw
        clear hw
        by_cases hlt : k < K.length
        · have hx := ha.nk
          have hy := hb.nk
          obtain ⟨_, _, ex, _, hx⟩ := hx
          obtain ⟨_, _, ey, _, hy⟩ := hy
          obtain ⟨p, ep, kx⟩ := hx k hlt
          obtain ⟨q, eq, ky⟩ := hy k (by have := l2.out; omega)
          cases ex
          cases ey
          clear hx hy ha hb
          have hi0 : (0 : Int) ≤ (k : Int) := Int.natCast_nonneg _
          have hi1 : (k : Int) < (K.length : Int) := by omega
          have hi2 : (k : Int) < (K'.length : Int) := by have := l2.out; omega
          subst ep
          subst eq
          by_cases he : K.getD k 0 = K'.getD k 0
          · have HG := Lib.hid (hG.out.succ he)
            rw [← he] at ky
            generalize K.getD k 0 = x at kx ky
            clear he
            go_wp2_with fail
            go_quiet (fail)
            go_wp2_with fail
            exact ⟨⟨k + 1, by omega, by go_num, HG, Lib.hid (hB.out.trans ((bdnX wr _).mono hB.out.size))⟩, by simp [intOf]; omega⟩
          · have HE := Lib.hid (show ¬ K = K' from fun e => he (by rw [e]))
            replace he : (K.getD k 0 != K'.getD k 0) = true := by simpa using he
            generalize K.getD k 0 = x at kx he
            generalize K'.getD k 0 = y at ky he
            go_wp2_with fail
            go_quiet (fail)
            go_wp2_with fail
            go_ret
            exact ⟨by rw [NO.out (fun h => HE.out h.2.2.1)]; rfl, HW.out.trans ((bdnX wr _).mono HW.out.size)⟩
        · have hkn : k = K.length := by omega
          subst hkn
          have EQnk := Lib.hid (agree_eq l2.out hG.out)
          have HB0 := hB
          clear hG ha hb

          obtain ⟨_, _, ⟨a0, a1, a2⟩, ⟨b0, b1, b2⟩, _⟩ := F.out _ HB0.out
          clear HW
          go_wp2_with fail
          go_loopw [7] (fun s wr => ∃ k : Nat, k ≤ P.length ∧ s = .int .i64 k ∧ Hid (Agree P P' k) ∧ Hid (Below WB.heap.size WB wr)) (fun s _ => P.length - (intOf s).toNat)
          case atStart => exact ⟨0, Nat.zero_le _, rfl, Lib.hid (fun i hi => absurd hi (Nat.not_lt_zero i)), HB0⟩
          case round =>
            obtain ⟨k, hk, rfl, hG, hB⟩ := hrel
            obtain ⟨ha, hb, ⟨a0, a1, a2⟩, ⟨b0, b1, b2⟩, hw⟩ := F.out wr hB.out
            have HW := Lib.hid hw
            clear hw
            by_cases hlt : k < P.length
            · have hx := ha.np
              have hy := hb.np
              obtain ⟨_, _, ex, _, hx⟩ := hx
              obtain ⟨_, _, ey, _, hy⟩ := hy
              obtain ⟨p, ep, kx⟩ := hx k hlt
              obtain ⟨q, eq, ky⟩ := hy k (by have := l3.out; omega)
              cases ex
              cases ey
              clear hx hy ha hb
              have hi0 : (0 : Int) ≤ (k : Int) := Int.natCast_nonneg _
              have hi1 : (k : Int) < (P.length : Int) := by omega
              have hi2 : (k : Int) < (P'.length : Int) := by have := l3.out; omega
              subst ep
              subst eq
              by_cases he : P.getD k 0 = P'.getD k 0
              · have HG := Lib.hid (hG.out.succ he)
                rw [← he] at ky
                generalize P.getD k 0 = x at kx ky
                clear he
                go_wp2_with fail
                go_quiet (fail)
                go_wp2_with fail
                exact ⟨⟨k + 1, by omega, by go_num, HG, Lib.hid (hB.out.trans ((bdnX wr _).mono hB.out.size))⟩, by simp [intOf]; omega⟩
              · have HE := Lib.hid (show ¬ P = P' from fun e => he (by rw [e]))
                replace he : (P.getD k 0 != P'.getD k 0) = true := by simpa using he
                generalize P.getD k 0 = x at kx he
                generalize P'.getD k 0 = y at ky he
                go_wp2_with fail
                go_quiet (fail)
                go_wp2_with fail
                go_ret
                exact ⟨by rw [NO.out (fun h => HE.out h.2.2.2)]; rfl, HW.out.trans ((bdnX wr _).mono HW.out.size)⟩
            · have hkn : k = P.length := by omega
              subst hkn
              have EQnp := Lib.hid (agree_eq l3.out hG.out)
              have HB0 := hB
              clear hG ha hb

              have hw := HW.out
              go_wp2_with fail
              go_ret
              have ht : ans = true := HANS.out.symm.trans (decide_eq_true (by refine ⟨?_, EQnw.out, EQnk.out, EQnp.out⟩; trivial))
              exact ⟨by rw [ht]; rfl, hw⟩



end Go.Proofs.YtlhgfhmdhmgmpaaGreatDoor
