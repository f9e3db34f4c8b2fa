/- Texts joined: EmG EmH EmI. -/
import Derived.Test.YtamimnaafiphcaaDoorEmZ1
set_option linter.unusedVariables false
set_option linter.unusedSimpArgs false
namespace Go.Proofs.YtamimnaafiphcaaDoor
open Go.RowKit Go.Proofs.YtamimnaafiphcaaDoorW.PrintWords Go.Maps Go.Joins

section
variable {w0 w9 w : World} {g mb : Nat} {A : Option Addr} {n c : Nat} {ws : List Int} {m : Mach} {cv ov : Value}

set_option maxRecDepth 100000 in
set_option maxHeartbeats 4000000 in
theorem jump_jtab (h : MI w0 w9 w g mb A n c ws m cv ov) (a b : Nat) (imm nx : Int) (ha : a < 12) (hn : -1099511527776 ≤ nx ∧ nx ≤ 1099511527776) :
    Calls Tryd.prog 91 #[.pointer (some ⟨g, 0, none⟩), .agg #[.int .i64 42, .int .i64 a, .int .i64 b, .int .i64 imm], .int .i64 nx] w (Stp w0 w9 g mb A n c ws (jumpP ws m 42 a b imm nx)) := by
  rw [show jumpP ws m 42 a b imm nx = (match wordAt ws nx with | none => trapM m 5 | some v => if v ≤ m.r.getD a 0 then trapM m 7 else (match wordAt ws (nx + 1 + m.r.getD a 0) with | none => trapM m 5 | some t => ({ m with place := t }, none))) by unfold jumpP; rw [if_neg (by decide), if_neg (by decide), if_neg (by decide), if_pos rfl]; rfl]
  obtain ⟨W, hW, hbW, j0, j1, j2, j3⟩ := code_box w 42 a b imm
  have H := Lib.hid (h.below hbW)
  have a0 : (0 : Int) ≤ (a : Int) := Int.natCast_nonneg _
  have a1 : (a : Int) < 12 := by omega
  clear h hbW
  obtain ⟨hn1, hn2⟩ := hn
  have ra := H.out.rng a
  have ka := H.out.cR a ha
  generalize m.r.getD a 0 = va at ra ka ⊢
  obtain ⟨ra0, ra1⟩ := ra
  cases hv : wordAt ws nx with
  | none =>
    have HN := Lib.hid (fun W' (hM : MI w0 w9 W' g mb A n c ws m cv ov) => word_no hM hv ⟨by omega, by omega⟩)
    clear hv
    go_enter Tryd.func91, Tryd.ntmps91
    go_wp2_with fail
    go_region_with (go_at_call 73; refine (HN.out _ (by first | exact H.out | exact H.out.drew)).mono ?_; rintro e w1 ⟨rfl, rfl⟩; refine spare Tryd.prog w ⟨rfl, Stp.trap (by first | exact H.out | exact H.out.drew) 2 5⟩ ?_)
    all_goals trivial
  | some v =>
    have hr := wordAt_rng H.out.wf hv
    have HY := Lib.hid (fun W' (hM : MI w0 w9 W' g mb A n c ws m cv ov) => word_yes hM hv)
    obtain ⟨r0, r1⟩ := hr
    clear hv
    by_cases hle : v ≤ va
    · simp only [if_pos hle]
      have d1 : decide (v ≤ va) = true := decide_eq_true hle
      clear hle
      go_enter Tryd.func91, Tryd.ntmps91
      go_wp2_with fail
      go_quiet ((go_at_call 73; exact Calls.quiet_of_same ((HY.out _ (by first | exact H.out | exact H.out.drewN _)).mono fun e w' h => ⟨h.1, h.2.symm⟩)))
      go_wp2_with (go_at_call 74; refine (trap_any _ _).mono ?_; rintro e w1 ⟨rfl, rfl⟩)
      exact ⟨rfl, Stp.trap (H.out.drewN _) 2 7⟩
    · simp only [if_neg hle]
      have d1 : decide (v ≤ va) = false := decide_eq_false hle
      have hlt : va < v := by omega
      clear hle
      have s1 : IntKind.i64.wrap (nx + 1) = nx + 1 := IntWalk.i64_in _ (by omega)
      have s3 : IntKind.i64.wrap va = va := IntWalk.i64_in _ (by omega)
      have s2 : IntKind.i64.wrap (nx + 1 + va) = nx + 1 + va := IntWalk.i64_in _ (by omega)
      cases ht : wordAt ws (nx + 1 + va) with
      | none =>
        have HN := Lib.hid (fun W' (hM : MI w0 w9 W' g mb A n c ws m cv ov) => word_no hM ht ⟨by omega, by omega⟩)
        clear ht hlt
        go_enter Tryd.func91, Tryd.ntmps91
        go_wp2_with fail
        go_quiet ((go_at_call 73; exact Calls.quiet_of_same ((HY.out _ (by first | exact H.out | exact H.out.drewN _)).mono fun e w' h => ⟨h.1, h.2.symm⟩)))
        go_wp2_with fail
        go_region_with (go_at_call 73; (with_reducible refine (HN.out _ (H.out.drewN _)).mono ?_); rintro e w1 ⟨rfl, rfl⟩; refine spare Tryd.prog w ⟨rfl, Stp.trap (H.out.drewN _) 2 5⟩ ?_)
        all_goals trivial
      | some t =>
        have htr := wordAt_rng H.out.wf ht
        have HT := Lib.hid (fun W' (hM : MI w0 w9 W' g mb A n c ws m cv ov) => word_yes hM ht)
        obtain ⟨t0, t1⟩ := htr
        clear ht hlt
        go_enter Tryd.func91, Tryd.ntmps91
        go_wp2_with fail
        go_quiet ((go_at_call 73; exact Calls.quiet_of_same ((HY.out _ (by first | exact H.out | exact H.out.drewN _)).mono fun e w' h => ⟨h.1, h.2.symm⟩)))
        have s4 : IntKind.i64.wrap t = t := IntWalk.i64_in _ (by omega)
        have f16 := H.out.free 16
        have k16 := H.out.c16
        go_wp2_with fail
        go_region_with (go_at_call 73; (with_reducible refine (HT.out _ (H.out.drewN _)).mono ?_); rintro e w1 ⟨rfl, rfl⟩)
        all_goals
          go_wp2_with fail
          go_end0
          exact Stp.fin ((H.out.drewN _).setPlace t ⟨by omega, by omega⟩)
end

end Go.Proofs.YtamimnaafiphcaaDoor

namespace Go.Proofs.YtamimnaafiphcaaDoor
open Go.RowKit Go.Proofs.YtamimnaafiphcaaDoorW.PrintWords Go.Maps Go.Joins

theorem ownShape {w : World} {B e : Nat} {v : Value} {n : Nat} {xs : List Value} (o : w.ownsRow B e 1 v n xs) : ∃ A c, v = .slice A n c := by
  rcases o.2 with ⟨rfl, hn⟩ | ⟨g, cap, cur, rfl, _⟩
  · exact ⟨none, 0, by rw [hn]⟩
  · exact ⟨_, cap, rfl⟩

theorem tyInts : Tryd.prog.underlying 25 = some (.slice 3) := Tryd.underlying25
theorem infoInt : (Tryd.prog.info? 3).map (fun i => (i.zero, i.size, i.bytes)) = some (some (.int .i64 0), 1, 8) := by kernel_rfl

section
variable {w0 w9 w : World} {g mb : Nat} {A : Option Addr} {n c : Nat} {ws : List Int} {m : Mach} {cv ov : Value}

set_option maxRecDepth 100000 in
set_option maxHeartbeats 4000000 in
theorem jump_call (h : MI w0 w9 w g mb A n c ws m cv ov) (a b : Nat) (imm nx : Int) (hn : -1099511527776 ≤ nx ∧ nx ≤ 1099511527776) :
    Calls Tryd.prog 91 #[.pointer (some ⟨g, 0, none⟩), .agg #[.int .i64 43, .int .i64 a, .int .i64 b, .int .i64 imm], .int .i64 nx] w (Stp w0 w9 g mb A n c ws (jumpP ws m 43 a b imm nx)) := by
  rw [show jumpP ws m 43 a b imm nx = (match wordAt ws nx with | none => trapM m 5 | some v => if m.calls.length = 50 then trapM m 3 else ({ m with calls := m.calls ++ [nx + 1], place := v }, none)) by unfold jumpP; rw [if_neg (by decide), if_neg (by decide), if_neg (by decide), if_neg (by decide), if_pos rfl]; rfl]
  obtain ⟨W, hW, hbW, j0, j1, j2, j3⟩ := code_box w 43 a b imm
  have H := Lib.hid (h.below hbW)
  clear h hbW
  obtain ⟨hn1, hn2⟩ := hn
  have k15 := H.out.c15
  have f15 := H.out.free 15
  obtain ⟨Ac, cc, ec⟩ := ownShape H.out.calls
  have hlen : m.calls.length ≤ 50 := H.out.ok.nc
  rw [ec] at k15
  cases hv : wordAt ws nx with
  | none =>
    have HN := Lib.hid (fun W' (hM : MI w0 w9 W' g mb A n c ws m cv ov) => word_no hM hv ⟨by omega, by omega⟩)
    clear hv ec
    go_enter Tryd.func91, Tryd.ntmps91
    go_wp2_with (go_at_call 73; refine (HN.out _ H.out).mono ?_; rintro e w1 ⟨rfl, rfl⟩)
    exact ⟨rfl, Stp.trap H.out 2 5⟩
  | some v =>
    have hr := wordAt_rng H.out.wf hv
    have HY := Lib.hid (fun W' (hM : MI w0 w9 W' g mb A n c ws m cv ov) => word_yes hM hv)
    obtain ⟨r0, r1⟩ := hr
    clear hv
    by_cases h50 : m.calls.length = 50
    · simp only [if_pos h50]
      have d1 : ((m.calls.length : Int) == 50) = true := by simp; omega
      clear ec h50
      go_enter Tryd.func91, Tryd.ntmps91
      go_wp2_with (first | (go_at_call 73; refine (HY.out _ H.out).mono ?_; rintro e w1 ⟨rfl, rfl⟩) | (go_at_call 74; refine (trap_any _ _).mono ?_; rintro e w1 ⟨rfl, rfl⟩))
      exact ⟨rfl, Stp.trap H.out 2 3⟩
    · simp only [if_neg h50]
      have d1 : ((m.calls.length : Int) == 50) = false := by simp; omega
      have hl : m.calls.length < 50 := by omega
      have OW := Lib.hid H.out.calls
      rw [ec] at OW
      have EC := Lib.hid ec
      clear ec h50
      go_enter Tryd.func91, Tryd.ntmps91
      have HA := Lib.hid (H.out.alloc (.cells #[.int .i64 (nx + 1)] 3))
      have OA := Lib.hid (show (W.alloc (.cells #[.int .i64 (nx + 1)] 3)).ownsRow w9.heap.size 3 1 (.slice Ac m.calls.length cc) m.calls.length (m.calls.map (Value.int .i64)) by rw [← EC.out]; exact HA.out.calls)
      have BA := Lib.hid HA.out.s9
      go_wp2_with (first | (go_at_call 73; refine (HY.out _ H.out).mono ?_; rintro e w1 ⟨rfl, rfl⟩) | (at_builtin; refine ap_list 25 3 tyInts infoInt (by decide) rfl (.tmp 116) (.tmp 119) rfl w9.heap.size (.slice Ac m.calls.length cc) m.calls.length m.calls rfl OA.out ⟨W.heap.size, 0, none⟩ 1 1 [nx + 1] rfl rfl (one_new W .i64 (nx + 1) _) (by decide) (by omega) BA.out ?_; intro gq capq w2 ho hg _ _; rw [← EC.out] at hg; have hp := Lib.hid (HA.out.pushCalls hg ho ⟨by omega, by omega⟩ hl); have q15 := (World.cell?_of_block (a := ⟨g, 15, none⟩) (HA.out.farC hg)).trans HA.out.c15; have e15 := (World.frozen?_of_block (a := ⟨g, 15, none⟩) (HA.out.farC hg)).trans (HA.out.free 15); have k16 := hp.out.c16; have f16 := hp.out.free 16; clear ho hg))
      go_end0
      exact Stp.fin (hp.out.setPlace _ ⟨by omega, by omega⟩)

set_option maxRecDepth 100000 in
set_option maxHeartbeats 4000000 in
theorem jump_ret (h : MI w0 w9 w g mb A n c ws m cv ov) (a b : Nat) (imm nx : Int) :
    Calls Tryd.prog 91 #[.pointer (some ⟨g, 0, none⟩), .agg #[.int .i64 44, .int .i64 a, .int .i64 b, .int .i64 imm], .int .i64 nx] w (Stp w0 w9 g mb A n c ws (jumpP ws m 44 a b imm nx)) := by
  rw [show jumpP ws m 44 a b imm nx = (if m.calls.length = 0 then trapM m 8 else ({ m with place := m.calls.getD (m.calls.length - 1) 0, calls := m.calls.take (m.calls.length - 1) }, none)) by unfold jumpP; rw [if_neg (by decide), if_neg (by decide), if_neg (by decide), if_neg (by decide), if_neg (by decide), if_pos rfl]]
  obtain ⟨W, hW, hbW, j0, j1, j2, j3⟩ := code_box w 44 a b imm
  have H := Lib.hid (h.below hbW)
  clear h hbW
  have k15 := H.out.c15
  have f15 := H.out.free 15
  have k16 := H.out.c16
  have f16 := H.out.free 16
  obtain ⟨Ac, cc, ec⟩ := ownShape H.out.calls
  have hlen : m.calls.length ≤ 50 := H.out.ok.nc
  rw [ec] at k15
  by_cases h0 : m.calls.length = 0
  · simp only [if_pos h0]
    rw [h0] at k15
    clear ec hlen
    go_enter Tryd.func91, Tryd.ntmps91
    go_wp2_with (go_at_call 74; refine (trap_any _ _).mono ?_; rintro e w1 ⟨rfl, rfl⟩)
    exact ⟨rfl, Stp.trap H.out 2 8⟩
  · simp only [if_neg h0]
    obtain ⟨l, hl⟩ : ∃ l, m.calls.length = l + 1 := ⟨m.calls.length - 1, by omega⟩
    have hx := H.out.calls
    rw [ec] at hx
    obtain ⟨q, eA, hcap, hcm⟩ : ∃ q, Ac = some ⟨q, 0, none⟩ ∧ m.calls.length ≤ cc ∧ cc ≤ maxLen := by
      rcases hx.2 with ⟨_, h2⟩ | ⟨q, cap, cur, e, _, _, hn, hm, _⟩
      · omega
      · injection e with e1 e2 e3
        subst e3
        exact ⟨q, e1, hn, hm⟩
    subst eA
    have hqg : q ≠ g := (H.out.cg q (by rw [ec]; rfl)).1
    have hqg' : ¬ q = g := hqg
    have hgq : ¬ g = q := fun e => hqg e.symm
    have kx := World.ownsRow.cellAt hx l (by omega)
    have hw := H.out.ok.wc (m.calls.getD l 0) (by rw [List.getD_eq_getElem?_getD, List.getElem?_eq_getElem (by omega)]; exact List.getElem_mem _)
    rw [List.getElem?_map, show m.calls[l]? = some (m.calls.getD l 0) by rw [List.getD_eq_getElem?_getD, List.getElem?_eq_getElem (by omega)]; rfl, Option.map_some] at kx
    have HP := Lib.hid ((H.out.popCalls q cc ec (by omega)).setPlace (m.calls.getD l 0) hw)
    have HQ := Lib.hid ((H.out.setPlace (m.calls.getD l 0) hw).popCalls q cc ec (by show 0 < m.calls.length; omega))
    rw [hl] at k15 HP HQ hcap ⊢
    rw [Nat.add_sub_cancel] at HP HQ ⊢
    generalize m.calls.getD l 0 = x at kx HP HQ hw ⊢
    generalize m.calls.take l = tk at HP HQ ⊢
    have l0 : (0 : Int) ≤ (l : Int) := Int.natCast_nonneg _
    have l1 : (l : Int) < ((l + 1 : Nat) : Int) := by omega
    have l2 : (l : Int) ≤ (cc : Int) := by omega
    unfold maxLen at hcm
    have hl50 : l < 50 := by omega
    clear ec h0 hx hw hl hlen
    go_enter Tryd.func91, Tryd.ntmps91
    go_wp2_with fail
    go_region
    all_goals
      go_end0
      first
      | exact Stp.fin HQ.out.drew
      | exact Stp.fin HP.out.drew
end

end Go.Proofs.YtamimnaafiphcaaDoor

namespace Go.Proofs.YtamimnaafiphcaaDoor
open Go.RowKit Go.Proofs.YtamimnaafiphcaaDoorW.PrintWords Go.Maps Go.Joins

section
variable {w0 w9 w : World} {g mb : Nat} {A : Option Addr} {n c : Nat} {ws : List Int} {m : Mach} {cv ov : Value}

theorem jump_any (h : MI w0 w9 w g mb A n c ws m cv ov) (op : Int) (a b : Nat) (imm nx : Int) (ho : op = 2 ∨ 30 ≤ op ∧ op ≤ 44) (ha : a < 12) (hb : b < 12) (hi : -32768 ≤ imm ∧ imm ≤ 32767) (hn : -1099511527776 ≤ nx ∧ nx ≤ 1099511527776) :
    Calls Tryd.prog 91 #[.pointer (some ⟨g, 0, none⟩), .agg #[.int .i64 op, .int .i64 a, .int .i64 b, .int .i64 imm], .int .i64 nx] w (Stp w0 w9 g mb A n c ws (jumpP ws m op a b imm nx)) := by
  by_cases hb' : op ≤ 39 ∧ 30 ≤ op
  · exact jump_br h op a b imm nx ⟨hb'.2, hb'.1⟩ ha hb hi hn
  have : op = 2 ∨ op = 40 ∨ op = 41 ∨ op = 42 ∨ op = 43 ∨ op = 44 := by omega
  rcases this with rfl | rfl | rfl | rfl | rfl | rfl
  · exact jump_lit h a b imm nx ha hn
  · exact jump_jmp h a b imm nx hi hn
  · exact jump_jml h a b imm nx hn
  · exact jump_jtab h a b imm nx ha hn
  · exact jump_call h a b imm nx hn
  · exact jump_ret h a b imm nx

/-- The beginning of does: the code is boxed, the place is the next one. -/
theorem does_start (h : MI w0 w9 w g mb A n c ws m cv ov) (hp : -1099511527777 ≤ m.place ∧ m.place ≤ 1099511527775) (op : Int) (a b : Nat) (imm : Int) (ha : a < 12) (hb : b < 12) :
    ∃ W W1 : World, w.alloc (.cells #[.int .i64 op, .int .i64 a, .int .i64 b, .int .i64 imm] 44) = W ∧ W.setCell ⟨g, 16, none⟩ (.int .i64 (m.place + 1)) = W1 ∧
      W.cell? ⟨g, 16, none⟩ = some (.int .i64 m.place) ∧ W.frozen? ⟨g, 16, none⟩ = false ∧
      W1.cell? ⟨w.heap.size, 0, none⟩ = some (.int .i64 op) ∧ W1.cell? ⟨w.heap.size, 1, none⟩ = some (.int .i64 a) ∧ W1.cell? ⟨w.heap.size, 2, none⟩ = some (.int .i64 b) ∧ W1.cell? ⟨w.heap.size, 3, none⟩ = some (.int .i64 imm) ∧
      W1.cell? ⟨g, 1 + a, none⟩ = some (.int .u32 (m.r.getD a 0)) ∧ W1.cell? ⟨g, 1 + b, none⟩ = some (.int .u32 (m.r.getD b 0)) ∧ W1.frozen? ⟨g, 1 + a, none⟩ = false ∧
      Hid (MI w0 w9 W1 g mb A n c ws { m with place := m.place + 1 } cv ov) := by
  obtain ⟨W, hW, hbW, j0, j1, j2, j3⟩ := code_box w op a b imm
  have H := h.below hbW
  have H1 := H.setPlace (m.place + 1) ⟨by omega, by omega⟩
  have hg : g < w.heap.size := (Array.getElem?_eq_some_iff.1 h.blkG).1
  have far : ∀ i v, W.cell? ⟨w.heap.size, i, none⟩ = some v → (W.setCell ⟨g, 16, none⟩ (.int .i64 (m.place + 1))).cell? ⟨w.heap.size, i, none⟩ = some v := fun i v hc => by
    rw [World.cell?_setCell_other _ _ _ _ (by simp <;> omega)]; exact hc
  exact ⟨W, _, hW, rfl, H.c16, H.free 16, far _ _ j0, far _ _ j1, far _ _ j2, far _ _ j3, H1.cR a ha, H1.cR b hb, H1.free _, Lib.hid H1⟩

end

end Go.Proofs.YtamimnaafiphcaaDoor
