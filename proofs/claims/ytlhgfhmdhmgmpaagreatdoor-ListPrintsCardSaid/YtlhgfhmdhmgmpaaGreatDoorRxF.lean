import Derived.Test.YtlhgfhmdhmgmpaaGreatDoorRxE
namespace Go.Proofs.YtlhgfhmdhmgmpaaGreatDoor
open Go.RowKit Go.Proofs.YtlhgfhmdhmgmpaaGreatDoorW.PrintWords Go.Maps

/-- What the map holds when these labels have been seen. -/
def seenMap (seen : List Int) : Int → Option Int := fun x => if x ∈ seen then some 0 else none

structure RefI (w wr : World) (g mb : Nat) (A : Option Addr) (n c : Nat) (ls : List Line) (k : Nat) (seen : List Int) : Prop where
  c0 : wr.cell? ⟨g, 0, none⟩ = some (.slice A n c)
  c1 : wr.cell? ⟨g, 1, none⟩ = some (.map (some mb))
  lines : Lines wr (.slice A n c) ls
  map : IMap wr mb k (seenMap seen)
  laid : Laid wr
  grown : w.grownBy wr (some mb)
  scan : ref1 [] 0 ls = ref1 seen k (ls.drop k)

theorem RefI.below {w wr w' : World} {g mb : Nat} {A : Option Addr} {n c : Nat} {ls : List Line} {k : Nat} {seen : List Int} (h : RefI w wr g mb A n c ls k seen) (hb : Below wr.heap.size wr w') : RefI w w' g mb A n c ls k seen :=
  ⟨kp hb h.c0, kp hb h.c1, h.lines.below hb, h.map.below hb, h.laid.below hb, World.grownBy.trans h.grown (grown_of_below hb _), h.scan⟩

theorem Ints.grown {w w' : World} {v : Value} {xs : List Int} {row : Nat} (h : Ints w v xs) (hg : w.grownBy w' (some row)) (hm : ∃ es clock, w.heap[row]? = some (.map es clock)) : Ints w' v xs := by
  obtain ⟨A, c, e, hl, hn, hc⟩ := h
  refine ⟨A, c, e, hl, hn, fun hp => ?_⟩
  obtain ⟨ad, eA, hcells⟩ := hc hp
  refine ⟨ad, eA, fun j p hj => ?_⟩
  obtain ⟨cs, hs, hk, hcell⟩ := hcells j p hj
  refine ⟨cs, hs, hk, fun i u hu => hg.cell (hcell i u hu) ?_⟩
  intro eb
  obtain ⟨es, clock, hb⟩ := hm
  have := hcell i u hu
  injection eb with eb
  simp only [World.cell?, eb, hb] at this
  cases this

theorem map_block {w : World} {b n : Nat} {f : Int → Option Int} (h : IMap w b n f) : ∃ es clock, w.heap[b]? = some (.map es clock) := by
  obtain ⟨D, ⟨es, clock, hb, _⟩, _⟩ := h
  exact ⟨es, clock, hb⟩

/-- A cell is no part of a map's block. -/
theorem cell_map {w w' : World} {p : Addr} {v : Value} {b n : Nat} {f : Int → Option Int} (h : w.cell? p = some v) (hM : IMap w b n f) (hg : w.grownBy w' (some b)) : w'.cell? p = some v := by
  refine hg.cell h ?_
  intro eb
  obtain ⟨es, clock, hb⟩ := map_block hM
  injection eb with eb
  simp only [World.cell?, eb, hb] at h
  cases h

theorem Lines.stored {w w' : World} {v : Value} {ls : List Line} {b n : Nat} {f : Int → Option Int} (h : Lines w v ls) (hM : IMap w b n f) (hg : w.grownBy w' (some b)) : Lines w' v ls := by
  obtain ⟨A, c, e, hl, hn, hc⟩ := h
  refine ⟨A, c, e, hl, hn, fun hp => ?_⟩
  obtain ⟨ad, eA, hcells⟩ := hc hp
  refine ⟨ad, eA, fun j l hj => ?_⟩
  obtain ⟨cs, hs, hk, hcell⟩ := hcells j l hj
  refine ⟨cs, hs, ?_, fun i u hu => cell_map (hcell i u hu) hM hg⟩
  obtain ⟨c0, r0, e0, h0, c1, r1, e1, h1, c2, r2, e2, h2, c3, r3, e3, h3, c4, r4, e4, h4, c5, r5, e5, h5, hx⟩ := hk
  refine ⟨c0, r0, e0, h0, c1, r1, e1, h1, c2, r2, e2, h2, c3, r3, e3, h3, c4, r4, e4, h4, c5, r5, e5, h5, ?_⟩
  obtain ⟨A', c', ex, hlx, hr⟩ := hx
  have hI : Ints w (.slice A' l.list.length c') l.list := ⟨A', c', rfl, hr⟩
  obtain ⟨A2, c2', ey, hr2⟩ := hI.grown hg (map_block hM)
  injection ey with ey1 ey2 ey3
  exact ⟨A', c', ex, hlx, ey1 ▸ hr2⟩

theorem RefI.stored {w wr w' : World} {g mb : Nat} {A : Option Addr} {n c : Nat} {ls : List Line} {k : Nat} {seen : List Int} {x : Int} (h : RefI w wr g mb A n c ls k seen) (hg : wr.grownBy w' (some mb)) (hm0 : mb ≠ 1)
    (hM : IMap w' mb (k + 1) (fun y => if y = x then some 0 else seenMap seen y)) (hs : ref1 [] 0 ls = ref1 (x :: seen) (k + 1) (ls.drop (k + 1))) : RefI w w' g mb A n c ls (k + 1) (x :: seen) :=
  ⟨cell_map h.c0 h.map hg, cell_map h.c1 h.map hg, h.lines.stored h.map hg, hM.congr (fun y => by unfold seenMap; by_cases e : y = x <;> simp [e]), h.laid.grown hg hm0, World.grownBy.trans h.grown hg, hs⟩

theorem RefI.next {w wr : World} {g mb : Nat} {A : Option Addr} {n c : Nat} {ls : List Line} {k : Nat} {seen : List Int} (h : RefI w wr g mb A n c ls k seen) (hs : ref1 [] 0 ls = ref1 seen (k + 1) (ls.drop (k + 1))) : RefI w wr g mb A n c ls (k + 1) seen :=
  ⟨h.c0, h.c1, h.lines, h.map.mono (Nat.le_succ _), h.laid, h.grown, hs⟩

theorem RefI.drew {w wr : World} {g mb : Nat} {A : Option Addr} {n c : Nat} {ls : List Line} {k : Nat} {seen : List Int} (h : RefI w wr g mb A n c ls k seen) : RefI w wr.drew g mb A n c ls k seen :=
  h.below ((Below.refl _ _).drew)

theorem ints_one (w : World) (x : Int) (t : TypeId) (g : Nat) (hg : g = w.heap.size) : Ints (w.alloc (.cells #[.int .i64 x] t)) (.slice (some ⟨g, 0, none⟩) 1 1) [x] := by
  subst hg
  refine ⟨_, _, rfl, rfl, by simp, fun _ => ⟨_, rfl, fun j p hj => ?_⟩⟩
  rcases j with _ | j
  · obtain rfl : x = p := by simpa using hj
    refine ⟨[.int .i64 x], rfl, rfl, fun i u hu => ?_⟩
    rcases i with _ | i
    · obtain rfl : Value.int .i64 x = u := by simpa using hu
      exact kn 0 rfl
    · simp at hu
  · simp at hj

set_option maxRecDepth 100000 in
set_option maxHeartbeats 4000000 in
theorem refused_any (g mb : Nat) (w : World) (A : Option Addr) (n c : Nat) (ls : List Line) (h0 : RefI w w g mb A n c ls 0 []) (hwf : ∀ l ∈ ls, (Lit.int .i64 l.label).wf = true ∧ ∀ x ∈ l.list, (Lit.int .i64 x).wf = true) (hm0 : mb ≠ 1) (_hmg : mb ≠ g) :
    Calls Tryz.prog 40 #[.pointer (some ⟨g, 0, none⟩)] w fun e w' => e = .returned (.tuple #[.int .i64 ((refusedP ls).1 : Nat), .int .i64 (refusedP ls).2]) ∧
      w.grownBy w' (some mb) ∧ ((refusedP ls).2 = 0 → ∃ seen, ref1 [] 0 ls = .inr seen ∧ RefI w w' g mb A n c ls n seen) := by
  have hn := h0.lines.len
  have c0 := h0.c0
  have H0 := Lib.hid h0
  have HW := Lib.hid hwf
  have hg := lt_of_cell c0
  simp only [] at hg
  clear h0 hwf
  by_cases hbig : 60000 < n
  · have e : refusedP ls = (0, 2) := by unfold refusedP; rw [if_pos (by omega)]
    rw [e]
    go_enter Tryz.func40, Tryz.ntmps40
    go_wp2
    go_ret2
    exact ⟨rfl, World.grownBy.refl _ _, fun h => absurd h (by decide)⟩
  · have e : refusedP ls = (match ref1 [] 0 ls with | .inl e => e | .inr seen => ref2 seen 0 ls) := by unfold refusedP; rw [if_neg (by omega)]; try rfl
    have E := Lib.hid e
    clear e
    go_enter Tryz.func40, Tryz.ntmps40
    go_wp2_with fail
    go_loopw [26] (fun s wr => ∃ (k : Nat) (seen : List Int), k ≤ n ∧ s = .int .i64 k ∧ Hid (RefI w wr g mb A n c ls k seen)) (fun s _ => n - (intOf s).toNat)
    case atStart => exact ⟨0, [], Nat.zero_le _, rfl, H0.out⟩
    case round =>
      obtain ⟨k, seen, hk, rfl, hR⟩ := hrel
      have r0 := hR.out.c0
      have r1 := hR.out.c1
      have hgr := lt_of_cell r0
      simp only [] at hgr
      by_cases hlt : k < n
      · obtain ⟨ad, l, v, hA, hl, ⟨k0, k1, k2, k3, k4, k5, k6⟩, hv⟩ := hR.out.lines.at_ k hlt
        have hdrop : ls.drop k = l :: ls.drop (k + 1) := by
          rw [List.drop_eq_getElem_cons (by omega)]
          congr 1
          exact Option.some.inj ((List.getElem?_eq_getElem _).symm.trans hl)
        have hsc := hR.out.scan
        rw [hdrop] at hsc
        have hmem : l ∈ ls := List.mem_of_getElem? hl
        obtain ⟨AL, cL, rfl, hr⟩ := hv
        have HV := Lib.hid (show Ints wr (.slice AL l.list.length cL) l.list from ⟨AL, cL, rfl, hr⟩)
        have hwl := (HW.out l hmem).1
        clear hr hl hdrop hmem
        subst hA
        by_cases hop : l.op < 0 ∨ 48 < l.op
        · have hfin : ref1 [] 0 ls = .inl (k, 170) := by rw [hsc]; unfold ref1; rw [if_pos hop]
          have HF := Lib.hid (show refusedP ls = (k, 170) by rw [E.out, hfin])
          clear hsc hfin
          rcases hop with hop | hop
          all_goals
            go_wp2_with fail
            all_goals go_ret2
            all_goals exact ⟨by rw [HF.out]; rfl, World.grownBy.trans hR.out.grown (grown_of_below (by go_grown) _), fun h => by rw [HF.out] at h; simp at h⟩
        · have hop1 : 0 ≤ l.op := by omega
          have hop2 : l.op ≤ 48 := by omega
          have hd : decide (48 < l.op) = false := decide_eq_false (by omega)
          have hop' : ¬ (l.op < 0 ∨ 48 < l.op) := hop
          have HFit := Lib.hid (fun W hW hI => fits_any l (.slice AL l.list.length cL) W hW hI)
          by_cases hfit : fitsB l = false
          · have hfin : ref1 [] 0 ls = .inl (k, 171) := by rw [hsc]; unfold ref1; rw [if_neg hop, if_pos hfit]
            have HF := Lib.hid (show refusedP ls = (k, 171) by rw [E.out, hfin])
            rw [hfit] at HFit
            clear hsc hfin hop hop' hfit
            go_wp2_with fail
            have hbx : Below wr.heap.size wr (wr.alloc (.cells #[.int .i64 l.op, .int .i64 l.a, .int .i64 l.b, .int .i64 l.imm, .int .u32 l.n, .int .i64 l.label, .slice AL l.list.length cL] 49)) := (Below.refl _ _).alloc (Nat.le_refl _) _
            refine (HFit.out _ (hR.out.laid.below hbx) (HV.out.below hbx)).mono ?_
            rintro e w1 ⟨rfl, hb1⟩
            have hb2 := bt hb1
            have hs2 := hb2.size
            go_wp2_with fail
            go_ret2
            exact ⟨by rw [HF.out]; rfl, World.grownBy.trans hR.out.grown (grown_of_below (by go_grown) _), fun h => by rw [HF.out] at h; simp at h⟩
          · have hfit' : fitsB l = true := by simpa using hfit
            rw [hfit'] at HFit
            by_cases hz : l.op = 0
            · by_cases hs : l.label ∈ seen
              · have hfin : ref1 [] 0 ls = .inl (k, 172) := by rw [hsc]; unfold ref1; rw [if_neg hop, if_neg hfit, if_pos hz, if_pos hs]
                have HF := Lib.hid (show refusedP ls = (k, 172) by rw [E.out, hfin])
                have hz' : (l.op == 0) = true := by simpa using hz
                clear hsc hfin hop hop' hfit hfit' hz
                go_wp2_with fail
                have hbx : Below wr.heap.size wr (wr.alloc (.cells #[.int .i64 l.op, .int .i64 l.a, .int .i64 l.b, .int .i64 l.imm, .int .u32 l.n, .int .i64 l.label, .slice AL l.list.length cL] 49)) := (Below.refl _ _).alloc (Nat.le_refl _) _
                refine (HFit.out _ (hR.out.laid.below hbx) (HV.out.below hbx)).mono ?_
                rintro e w1 ⟨rfl, hb1⟩
                have b0 : w1.cell? ⟨wr.heap.size, 0, none⟩ = some (.int .i64 l.op) := kp hb1 (kn 0 rfl)
                have b5 : w1.cell? ⟨wr.heap.size, 5, none⟩ = some (.int .i64 l.label) := kp hb1 (kn 5 rfl)
                have hb2 := bt hb1
                have hs2 := hb2.size
                have hR1 := Lib.hid (hR.out.below hb2)
                have q1 := hR1.out.c1
                have hlk : ∀ m, (Instr.lookup 74 (.map (some mb)) (.int .i64 l.label) true).run Tryz.prog (w1.drewN m) = .ok (.tuple #[.int .i64 0, .bool true]) (w1.drewN m) := fun m => by
                  have := (hR1.out.map.drewN m).look_ok l.label hwl
                  simpa [seenMap, hs] using this
                clear hb1
                go_wp2_with fail
                go_quiet (fail)
                go_wp2_with fail
                go_ret2
                exact ⟨by rw [HF.out]; rfl, World.grownBy.trans hR1.out.grown (grown_of_below (bdnX _ _) _), fun h => by rw [HF.out] at h; simp at h⟩
              · have hnext : ref1 [] 0 ls = ref1 (l.label :: seen) (k + 1) (ls.drop (k + 1)) := by rw [hsc]; conv => lhs; unfold ref1; rw [if_neg hop, if_neg hfit, if_pos hz, if_neg hs]
                have HN := Lib.hid hnext
                have hz' : (l.op == 0) = true := by simpa using hz
                clear hsc hnext hop hop' hfit hfit' hz
                go_wp2_with fail
                have hbx : Below wr.heap.size wr (wr.alloc (.cells #[.int .i64 l.op, .int .i64 l.a, .int .i64 l.b, .int .i64 l.imm, .int .u32 l.n, .int .i64 l.label, .slice AL l.list.length cL] 49)) := (Below.refl _ _).alloc (Nat.le_refl _) _
                refine (HFit.out _ (hR.out.laid.below hbx) (HV.out.below hbx)).mono ?_
                rintro e w1 ⟨rfl, hb1⟩
                have b0 : w1.cell? ⟨wr.heap.size, 0, none⟩ = some (.int .i64 l.op) := kp hb1 (kn 0 rfl)
                have b5 : w1.cell? ⟨wr.heap.size, 5, none⟩ = some (.int .i64 l.label) := kp hb1 (kn 5 rfl)
                have hb2 := bt hb1
                have hs2 := hb2.size
                have hR1 := Lib.hid (hR.out.below hb2)
                have q1 := hR1.out.c1
                have hlk : ∀ m, (Instr.lookup 74 (.map (some mb)) (.int .i64 l.label) true).run Tryz.prog (w1.drewN m) = .ok (.tuple #[.int .i64 0, .bool false]) (w1.drewN m) := fun m => by
                  have := (hR1.out.map.drewN m).look_ok l.label hwl
                  simpa [seenMap, hs] using this
                clear hb1 hs
                go_wp2_with fail
                go_quiet (fail)
                have hR2 := hR1.out.below (bdnX w1 nq)
                replace b0 := kp (bdnX w1 nq) b0
                replace b5 := kp (bdnX w1 nq) b5
                have hs3 : wr.heap.size ≤ (w1.drewN nq).heap.size := hs2
                generalize w1.drewN nq = W2 at hR2 b0 b5 hs3 ⊢
                obtain ⟨W3, hst, hM3, hg3⟩ := hR2.drew.map.store l.label 0 hwl (by decide) (by unfold maxLen; omega)
                replace q1 := hR2.c1
                have HR3 := Lib.hid (hR2.drew.stored hg3 hm0 hM3 HN.out)
                clear hM3 hg3 hR2 hlk hR1 hb2 hs2
                go_wp2_with fail
                go_region
                go_wp2_with fail
                go_roundw
                case rel => exact ⟨k + 1, l.label :: seen, by omega, by go_num, HR3⟩
                case measure => simp [intOf]; omega
            · have hz' : (l.op == 0) = false := by simpa using hz
              have hnext : ref1 [] 0 ls = ref1 seen (k + 1) (ls.drop (k + 1)) := by rw [hsc]; conv => lhs; unfold ref1; rw [if_neg hop, if_neg hfit, if_neg hz]
              have HN := Lib.hid hnext
              clear hsc hnext hop hop' hfit hfit' hz
              go_wp2_with fail
              have hbx : Below wr.heap.size wr (wr.alloc (.cells #[.int .i64 l.op, .int .i64 l.a, .int .i64 l.b, .int .i64 l.imm, .int .u32 l.n, .int .i64 l.label, .slice AL l.list.length cL] 49)) := (Below.refl _ _).alloc (Nat.le_refl _) _
              refine (HFit.out _ (hR.out.laid.below hbx) (HV.out.below hbx)).mono ?_
              rintro e w1 ⟨rfl, hb1⟩
              have b0 : w1.cell? ⟨wr.heap.size, 0, none⟩ = some (.int .i64 l.op) := kp hb1 (kn 0 rfl)
              have b5 : w1.cell? ⟨wr.heap.size, 5, none⟩ = some (.int .i64 l.label) := kp hb1 (kn 5 rfl)
              have hb2 := bt hb1
              have hs2 := hb2.size
              have hR1 := Lib.hid (hR.out.below hb2)
              have q1 := hR1.out.c1
              have HR3 := Lib.hid (hR1.out.next HN.out)
              clear hb1
              go_wp2_with fail
              go_roundw
              case rel => exact ⟨k + 1, seen, by omega, by go_num, HR3⟩
              case measure => simp [intOf]; omega
      · have hkn : k = n := by omega
        subst hkn
        have hsc := hR.out.scan
        rw [List.drop_of_length_le (by omega)] at hsc
        have hsc2 : ref1 [] 0 ls = .inr seen := by rw [hsc]; unfold ref1; rfl
        have HS := Lib.hid hsc2
        have HF := Lib.hid (show refusedP ls = ref2 seen 0 ls by rw [E.out, hsc2])
        have HR := Lib.hid hR.out
        clear hsc hsc2
        go_wp2_with fail
        go_loopw [71] (fun s wx => ∃ j : Nat, j ≤ k ∧ s = .int .i64 j ∧ Hid (RefI w wx g mb A k c ls k seen) ∧ Hid (ref2 seen 0 ls = ref2 seen j (ls.drop j))) (fun s _ => k - (intOf s).toNat)
        case atStart => exact ⟨0, Nat.zero_le _, rfl, HR.out, Lib.hid rfl⟩
        case round =>
          obtain ⟨j, hj, rfl, hX, hY⟩ := hrel
          have r0' := hX.out.c0
          by_cases hjk : j < k
          · obtain ⟨ad, l, v, hA, hl, ⟨k0, k1, k2, k3, k4, k5, k6⟩, hv⟩ := hX.out.lines.at_ j hjk
            have hdrop : ls.drop j = l :: ls.drop (j + 1) := by
              rw [List.drop_eq_getElem_cons (by omega)]
              congr 1
              exact Option.some.inj ((List.getElem?_eq_getElem _).symm.trans hl)
            have hsc := hY.out
            rw [hdrop] at hsc
            have hwl := HW.out l (List.mem_of_getElem? hl)
            have hwt : ∀ x ∈ targets l, (Lit.int .i64 x).wf = true := by
              unfold targets
              split
              · intro x hx
                rw [List.mem_singleton.1 hx]
                exact hwl.1
              · exact hwl.2
            have HWT := Lib.hid hwt
            have HSC := Lib.hid hsc
            obtain ⟨AL, cL, rfl, hr⟩ := hv
            have hlm : l.list.length ≤ 9223372036854775807 := hr.2.1
            have HV := Lib.hid (show Ints wr (.slice AL l.list.length cL) l.list from ⟨AL, cL, rfl, hr⟩)
            clear hr hl hdrop hsc hwl hwt hY
            subst hA
            go_upto_if 80 with (go_at_call 81; refine (goes_any _ _).mono ?_; rintro e w' ⟨rfl, rfl⟩)
            have hbx : Below wr.heap.size wr (wr.alloc (.cells #[.int .i64 l.op, .int .i64 l.a, .int .i64 l.b, .int .i64 l.imm, .int .u32 l.n, .int .i64 l.label, .slice AL l.list.length cL] 49)) := (Below.refl _ _).alloc (Nat.le_refl _) _
            have hX1 := Lib.hid (hX.out.below hbx)
            have hV1 := Lib.hid (HV.out.below hbx)
            go_cut [10] (fun v wc => Hid (Ints wc v (targets l)) ∧ Hid (RefI w wc g mb (some ad) k c ls k seen))
            case first =>
              go_wp2_with fail
              · have hgo : goOp l.op = true := by assumption
                have HT := Lib.hid (show targets l = [l.label] by unfold targets; rw [if_pos hgo])
                go_meet
                exact ⟨Lib.hid (by rw [HT.out]; exact ints_one _ _ _ _ (by simp)), Lib.hid (hX1.out.below ((Below.refl _ _).alloc (Nat.le_refl _) _))⟩
              · have hgo : goOp l.op = false := by assumption
                have HT := Lib.hid (show targets l = l.list by unfold targets; rw [if_neg (by rw [hgo]; decide)])
                go_meet
                exact ⟨Lib.hid (by rw [HT.out]; exact hV1.out), hX1⟩
            case rest =>
              obtain ⟨hI, hR2⟩ := hcut
              obtain ⟨AT, cT, rfl, hr⟩ := hI.out
              have HI := Lib.hid (show Ints wc (.slice AT (targets l).length cT) (targets l) from ⟨AT, cT, rfl, hr⟩)
              have hm : (targets l).length ≤ 9223372036854775807 := hr.2.1
              clear hr hI
              have q1 := hR2.out.c1
              have q0 := hR2.out.c0
              have hlk : ∀ x ∈ targets l, (Instr.lookup 74 (.map (some mb)) (.int .i64 x) true).run Tryz.prog wc = .ok (.tuple #[.int .i64 0, .bool (decide (x ∈ seen))]) wc := fun x hx => by
                have := hR2.out.map.look_ok x (HWT.out x hx)
                by_cases hs : x ∈ seen <;> simpa [seenMap, hs] using this
              have HLK := Lib.hid hlk
              clear hlk
              generalize hT : targets l = T at HI hm HLK HSC HWT
              go_wp2_with fail
              go_loop [86] (fun s => ∃ m : Nat, m ≤ T.length ∧ s = .int .i64 m ∧ Hid (∀ x ∈ T.take m, x ∈ seen)) (fun s => T.length - (intOf s).toNat)
              case atStart => exact ⟨0, Nat.zero_le _, rfl, Lib.hid (fun x hx => by simp at hx)⟩
              case round =>
                obtain ⟨m, hm2, rfl, hall⟩ := hrel
                by_cases hlt2 : m < T.length
                · obtain ⟨ad2, x, hA2, hx, kx⟩ := HI.out.at_ m hlt2
                  subst hA2
                  have hmem : x ∈ T := List.mem_of_getElem? hx
                  have hlx := HLK.out x hmem
                  by_cases hs : x ∈ seen
                  · have hnext : ∀ y ∈ T.take (m + 1), y ∈ seen := fun y hy => by
                      rw [List.take_add_one, hx] at hy
                      rcases List.mem_append.1 hy with hy | hy
                      · exact hall.out y hy
                      · simp at hy
                        subst hy
                        exact hs
                    have HN := Lib.hid hnext
                    rw [decide_eq_true hs] at hlx
                    clear hnext hall hs hx hmem
                    go_wp2_with fail
                    go_round
                    case rel => exact ⟨m + 1, by omega, by go_num, HN⟩
                    case measure => simp [intOf]; omega
                  · have hF : refusedP ls = (j, 173) := by
                      rw [HF.out, HSC.out]
                      unfold ref2
                      rw [hT, if_neg]
                      rw [List.all_eq_true]
                      intro h
                      exact hs (by simpa using h x hmem)
                    have HF2 := Lib.hid hF
                    rw [decide_eq_false hs] at hlx
                    clear hF hall hs hx hmem
                    go_wp2_with fail
                    go_ret2
                    exact ⟨by rw [HF2.out]; rfl, hR2.out.grown, fun h => by rw [HF2.out] at h; simp at h⟩
                · have hmT : m = T.length := by omega
                  have hnext : ref2 seen 0 ls = ref2 seen (j + 1) (ls.drop (j + 1)) := by
                    rw [HSC.out]
                    conv => lhs; unfold ref2
                    rw [hT, if_pos]
                    rw [List.all_eq_true]
                    intro x hx
                    have := hall.out
                    rw [hmT, List.take_length] at this
                    simpa using this x hx
                  have HN := Lib.hid hnext
                  clear hnext hall hmT
                  go_wp2_with fail
                  go_roundw
                  case rel => exact ⟨j + 1, by omega, by go_num, hR2, HN⟩
                  case measure => simp [intOf]; omega
          · have hF : refusedP ls = (0, 0) := by
              rw [HF.out, hY.out, List.drop_of_length_le (by omega)]
              rfl
            have HF2 := Lib.hid hF
            clear hF
            go_wp2_with fail
            go_ret2
            exact ⟨by rw [HF2.out]; rfl, hX.out.grown, fun _ => ⟨seen, HS.out, hX.out⟩⟩

end Go.Proofs.YtlhgfhmdhmgmpaaGreatDoor
