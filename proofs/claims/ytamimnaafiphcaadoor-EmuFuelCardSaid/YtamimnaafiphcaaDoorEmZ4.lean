/- Texts joined: EmO EmR EmS EmP. -/
import Derived.Test.YtamimnaafiphcaaDoorEmZ3
import Derived.Laws.MakeOwn
import Derived.Laws.CopyRow
import Derived.Laws.IdiomCopy
import Derived.Laws.BytesArg
import Derived.Deep.RegionHeld3
import Derived.StillTailTactics
set_option linter.unusedVariables false
set_option linter.unusedSimpArgs false
namespace Go.Proofs.YtamimnaafiphcaaDoor
open Go.RowKit Go.Proofs.YtamimnaafiphcaaDoorW.PrintWords Go.Maps Go.Joins

def stepP (ws : List Int) (m : Mach) : Mach × Option (Int × Int) :=
  match wordAt ws m.place with
  | none => ({ m with steps := m.steps + 1 }, some (2, 5))
  | some v => if (dec v).2 = 0 then doesP ws { m with steps := m.steps + 1 } (dec v).1.1 (dec v).1.2.1.toNat (dec v).1.2.2.1.toNat (dec v).1.2.2.2 else ({ m with steps := m.steps + 1 }, some (2, 4))

def runP (ws : List Int) : Nat → Mach → Mach × (Int × Int)
  | 0, m => (m, (3, 0))
  | k + 1, m => match stepP ws m with
    | (m', none) => runP ws k m'
    | (m', some s) => (m', s)

theorem st_ite {c : Prop} [Decidable c] {x y : Mach × Option (Int × Int)} {s : Int} (h1 : x.1.steps = s) (h2 : y.1.steps = s) : (if c then x else y).1.steps = s := by
  by_cases h : c
  · rw [if_pos h]; exact h1
  · rw [if_neg h]; exact h2

theorem jumpP_steps (ws : List Int) (m : Mach) (op : Int) (a b : Nat) (imm nx : Int) : (jumpP ws m op a b imm nx).1.steps = m.steps := by
  unfold jumpP trapM
  repeat' first | exact rfl | refine st_ite ?_ ?_ | split

theorem doesP_steps (ws : List Int) (m : Mach) (op : Int) (a b : Nat) (imm : Int) : (doesP ws m op a b imm).1.steps = m.steps := by
  unfold doesP
  simp only []
  repeat' first | exact rfl | exact jumpP_steps _ _ _ _ _ _ _ | refine st_ite ?_ ?_ | split

theorem bd_ok : ∀ k, k < 49 → tbl.getD k 9 = 9 ∨ (1 ≤ k ∧ 0 ≤ (bd (tbl.getD k 9)).1.1 ∧ (bd (tbl.getD k 9)).1.2 ≤ 11 ∧ 0 ≤ (bd (tbl.getD k 9)).2.1.1 ∧ (bd (tbl.getD k 9)).2.1.2 ≤ 11 ∧ (5 ≤ k → k ≤ 23 → 0 ≤ (bd (tbl.getD k 9)).2.2.1 ∧ (bd (tbl.getD k 9)).2.2.2 ≤ 11)) := by decide

theorem within_iff {lo hi n : Int} (h : within lo hi n = true) : lo ≤ n ∧ n ≤ hi := by
  unfold within at h
  simpa using h

theorem dec_ok {v : Int} (hv : W32 v) (h : (dec v).2 = 0) : (1 ≤ (dec v).1.1 ∧ (dec v).1.1 ≤ 48) ∧ (0 ≤ (dec v).1.2.1 ∧ (dec v).1.2.1 < 12) ∧ (0 ≤ (dec v).1.2.2.1 ∧ (dec v).1.2.2.1 < 12) ∧ (-32768 ≤ (dec v).1.2.2.2 ∧ (dec v).1.2.2.2 ≤ 32767) ∧
    (5 ≤ (dec v).1.1 ∧ (dec v).1.1 ≤ 23 → 0 ≤ (dec v).1.2.2.2 ∧ (dec v).1.2.2.2 < 12) := by
  obtain ⟨h0, h1⟩ := hv
  unfold dec at h ⊢
  simp only [] at h ⊢
  by_cases he : (enc (v / 16777216) (v / 1048576 % 16) (v / 65536 % 16) (i16 v)).2 = 0
  · rw [if_pos he]
    have h16 : -32768 ≤ i16 v ∧ i16 v ≤ 32767 := by unfold i16; omega
    generalize i16 v = c at he h16 ⊢
    generalize v / 1048576 % 16 = a at he ⊢
    generalize v / 65536 % 16 = b at he ⊢
    have ho : 0 ≤ v / 16777216 := by omega
    generalize v / 16777216 = op at he ho ⊢
    unfold enc at he
    by_cases h9 : formOf op = 9
    · rw [if_pos h9] at he; cases he
    rw [if_neg h9] at he
    by_cases hk : okA (formOf op) a b c = true
    · unfold okA at hk
      rw [Bool.and_eq_true, Bool.and_eq_true] at hk
      obtain ⟨⟨ka, kb⟩, kc⟩ := hk
      have ka := within_iff ka
      have kb := within_iff kb
      have kc := within_iff kc
      unfold formOf at h9 ka kb kc
      by_cases h49 : 0 ≤ op ∧ op < 49
      · rw [if_pos h49] at h9 ka kb kc
        obtain ⟨k, rfl⟩ : ∃ k : Nat, op = k := ⟨op.toNat, by omega⟩
        rw [Int.toNat_natCast] at h9 ka kb kc
        rcases bd_ok k (by omega) with hh | ⟨b1, b2, b3, b4, b5, b6⟩
        · exact absurd hh h9
        · refine ⟨⟨by show (1 : Int) ≤ k; omega, by show (k : Int) ≤ 48; omega⟩, ⟨by show 0 ≤ a; omega, by show a < 12; omega⟩, ⟨by show 0 ≤ b; omega, by show b < 12; omega⟩, h16, fun hh => ?_⟩
          have hh' : 5 ≤ (k : Int) ∧ (k : Int) ≤ 23 := hh
          have := b6 (by omega) (by omega)
          exact ⟨by show 0 ≤ c; omega, by show c < 12; omega⟩
      · rw [if_neg h49] at h9; exact absurd rfl h9
    · rw [if_neg hk] at he; cases he
  · rw [if_neg he] at h
    exact absurd h he

section
variable {w0 w9 w : World} {g mb : Nat} {A : Option Addr} {n c : Nat} {ws : List Int} {m : Mach} {cv ov : Value}

theorem MI.restart (h : MI w0 w9 w g mb A n c ws m (.slice none 0 0) (.slice none 0 0)) (hc : m.calls = []) (ho : m.out = []) : MI w0 w w g mb A n c ws m (.slice none 0 0) (.slice none 0 0) :=
  { h with
    calls := by rw [hc]; exact World.ownsRow_nil _ _ _ _
    out := by rw [ho]; exact World.ownsRow_nil _ _ _ _
    s09 := h.bel.size
    s9 := Nat.le_refl _
    fr := fun _ _ _ _ => rfl }

/-- What goes comes to. -/
def GP (w0 : World) (g : Nat) (res : Mach × (Int × Int)) (e : Ending) (w' : World) : Prop :=
  ∃ ov, e = .returned (.agg #[.int .i64 res.2.1, .int .u32 res.2.2]) ∧ w'.cell? ⟨g, 17, none⟩ = some ov ∧ w'.ownsRow w0.heap.size 5 1 ov res.1.out.length (res.1.out.map (Value.int .u8)) ∧
    w'.cell? ⟨g, 18, none⟩ = some (.int .i64 res.1.steps) ∧ Below w0.heap.size w0 w' ∧ MOk res.1

theorem own_lower {w : World} {b b' e s n : Nat} {v : Value} {xs : List Value} (o : w.ownsRow b e s v n xs) (h : b' ≤ b) : w.ownsRow b' e s v n xs := by
  refine ⟨o.1, ?_⟩
  rcases o.2 with h1 | ⟨g, cap, cur, h1, h2, h3⟩
  · exact .inl h1
  · exact .inr ⟨g, cap, cur, h1, Nat.le_trans h h2, h3⟩

theorem GP.of (h : MI w0 w9 w g mb A n c ws m cv ov) (hb : Nat) (h1 : hb < w9.heap.size) (h2 : w0.heap.size ≤ hb) (h3 : hb ≠ g) (u v : Value) (k x : Int) : GP w0 g (m, (k, x)) (.returned (.agg #[.int .i64 k, .int .u32 x])) ((w.setCell ⟨hb, 0, none⟩ u).setCell ⟨hb, 1, none⟩ v) := by
  have far : ∀ i, ((w.setCell ⟨hb, 0, none⟩ u).setCell ⟨hb, 1, none⟩ v).cell? ⟨g, i, none⟩ = w.cell? ⟨g, i, none⟩ := fun i => by
    rw [World.cell?_setCell_other _ _ _ _ (by simp <;> omega), World.cell?_setCell_other _ _ _ _ (by simp <;> omega)]
  have ho : ∀ k, ov.ownBlock = some k → k ≠ hb := fun k hk e => by have := own_base h.out k hk; omega
  exact ⟨ov, rfl, (far 17).trans h.c17, own_lower (own_move (own_move h.out (fun k hk => Below.heap_setCell w ⟨hb, 0, none⟩ _ k (ho k hk))) (fun k hk => Below.heap_setCell _ ⟨hb, 1, none⟩ _ k (ho k hk))) h.s09, (far 18).trans h.c18, (h.bel.setCell h2 _).setCell h2 _, h.ok⟩

theorem how_cells {w : World} {hb : Nat} (k x : Int) (h : w.heap[hb]? = some (.cells #[.int .i64 0, .int .u32 0] 100 (0, 0))) (o : Obj) :
    (((w.setCell ⟨hb, 0, none⟩ (.int .i64 k)).setCell ⟨hb, 1, none⟩ (.int .u32 x)).alloc o).cell? ⟨hb, 0, none⟩ = some (.int .i64 k) ∧ (((w.setCell ⟨hb, 0, none⟩ (.int .i64 k)).setCell ⟨hb, 1, none⟩ (.int .u32 x)).alloc o).cell? ⟨hb, 1, none⟩ = some (.int .u32 x) := by
  have h1 := block_setCell (i := 1) (block_setCell (i := 0) h (.int .i64 k)) (.int .u32 x)
  exact ⟨ka o (cell_of_block h1 0), ka o (cell_of_block h1 1)⟩

theorem GP.below {res : Mach × (Int × Int)} {e : Ending} {w' : World} (h : GP w0 g res e w) (hb : Below w.heap.size w w') : GP w0 g res e w' := by
  obtain ⟨ov, h1, h2, h3, h4, h5, h6⟩ := h
  exact ⟨ov, h1, kp hb h2, own_move h3 (fun k hk => hb.block k (own_lt h3 k hk)), kp hb h4, h5.trans (hb.mono h5.size), h6⟩

set_option maxRecDepth 100000 in
set_option maxHeartbeats 4000000 in
theorem emuGoes_any (h : MI w0 w9 w g mb A n c ws m (.slice none 0 0) (.slice none 0 0)) (hL : Laid w0) (hcl : m.calls = []) (hou : m.out = []) (fuel : Nat) (hf : fuel ≤ 1000000) (hs : m.steps = 0) :
    Calls Tryd.prog 58 #[.pointer (some ⟨g, 0, none⟩), .int .i64 fuel] w (GP w0 g (runP ws fuel m)) := by
  have hmf : ∀ (fn : Fn) (first cap : Array Value) (w : World), (Instr.makeFunc fn first cap).run Tryd.prog w = .ok (.func fn first cap) w := fun _ _ _ _ => rfl
  have hgw : g < w.heap.size := (Array.getElem?_eq_some_iff.1 h.blkG).1
  have hmw : mb < w.heap.size := (Array.getElem?_eq_some_iff.1 h.blkM).1
  have hw0 : w0.heap.size ≤ w.heap.size := h.bel.size
  obtain ⟨W, hW⟩ : ∃ W : World, w.alloc (.cells #[.int .i64 0, .int .u32 0] 100) = W := ⟨_, rfl⟩
  have H0 := Lib.hid ((h.alloc (.cells #[.int .i64 0, .int .u32 0] 100)).restart hcl hou)
  have hblk : (w.alloc (.cells #[.int .i64 0, .int .u32 0] 100)).heap[w.heap.size]? = some (.cells #[.int .i64 0, .int .u32 0] 100 (0, 0)) := heap_alloc_new w _
  have hsz : w.heap.size < (w.alloc (.cells #[.int .i64 0, .int .u32 0] 100)).heap.size := by rw [World.size_alloc]; omega
  rw [hW] at H0 hblk hsz
  have HB := Lib.hid (fun w3 m3 cv3 ov3 (hM : MI w0 W w3 g mb A n c ws m3 cv3 ov3) => (hM.fr w.heap.size hsz (by omega) (by omega)).trans hblk)
  have HF := Lib.hid (fun w3 m3 cv3 ov3 (hM : MI w0 W w3 g mb A n c ws m3 cv3 ov3) u v k x => GP.of hM w.heap.size hsz hw0 (by omega) u v k x)
  have HL := Lib.hid (fun w3 m3 cv3 ov3 (hM : MI w0 W w3 g mb A n c ws m3 cv3 ov3) => Laid.below hL hM.bel)
  generalize hR : runP ws fuel m = R
  have HR := Lib.hid hR
  have HS := Lib.hid hs
  clear h hcl hou hL hblk hsz hs hR hgw hmw hw0
  go_enter_defers Tryd.func58, Tryd.ntmps58
  go_wp2
  go_loopg [] fuel (fun k wr => ∃ (m' : Mach) (cv ov : Value), Hid (MI w0 W wr g mb A n c ws m' cv ov) ∧ Hid (m'.steps + k = fuel) ∧ Hid (runP ws k m' = R))
  case atStart => exact ⟨m, _, _, H0, Lib.hid (by rw [HS.out]; omega), HR⟩
  case round =>
    obtain ⟨m', cv, ov, HM, HK, HQ⟩ := hrel
    have k18 := HM.out.c18
    have f18 := HM.out.free 18
    have k16 := HM.out.c16
    clear HR HS H0
    cases gk with
    | zero =>
      have d1 : decide (m'.steps < (fuel : Int)) = false := by have := HK.out; simp; omega
      have q0 : wr.cell? ⟨w.heap.size, 0, none⟩ = some (.int .i64 0) := cell_of_block (HB.out wr _ _ _ HM.out) 0
      have q1 : wr.cell? ⟨w.heap.size, 1, none⟩ = some (.int .u32 0) := cell_of_block (HB.out wr _ _ _ HM.out) 1
      have f0 : wr.frozen? ⟨w.heap.size, 0, none⟩ = false := unfrozen_of_block (HB.out wr _ _ _ HM.out) 0
      have f1 : wr.frozen? ⟨w.heap.size, 1, none⟩ = false := unfrozen_of_block (HB.out wr _ _ _ HM.out) 1
      have hun := Tryd.underlying100
      go_wp2_with fail
      refine leaves_cons (f := 72) (args := #[.pointer (some ⟨w.heap.size, 0, none⟩)]) (by simp) (by simp [go_sem]) ?_
      refine (catch_idle _ _).mono ?_
      rintro e u' w'' ⟨rfl, rfl, rfl⟩
      have G := HF.out wr m' cv ov HM.out (.int .i64 3) (.int .u32 0) 3 0
      have eR : R = (m', (3, 0)) := HQ.out.symm
      rw [← eR] at G
      simp [Leaves, settle, results, Tryd.results58, go_sem, q0, q1]
      exact G
    | succ k =>
      have d1 : decide (m'.steps < (fuel : Int)) = true := by have := HK.out; simp; omega
      have hst := HM.out.ok.ws
      have hno := HM.out.ok.no
      have hpl := HM.out.ok.wp
      have hK := HK.out
      obtain ⟨w1, hw1⟩ : ∃ w1 : World, wr.setCell ⟨g, 18, none⟩ (.int .i64 (m'.steps + 1)) = w1 := ⟨_, rfl⟩
      have H1 := Lib.hid (HM.out.setSteps (m'.steps + 1) ⟨by omega, by omega⟩ (by omega))
      rw [hw1] at H1
      have k16b := H1.out.c16
      obtain ⟨hs0, hs1⟩ := hst
      cases hv : wordAt ws m'.place with
      | none =>
        have eR : (({ m' with steps := m'.steps + 1 } : Mach), ((2 : Int), (5 : Int))) = R := by rw [← HQ.out]; unfold runP stepP; rw [hv]
        have CW := Lib.hid (word_no H1.out (p := m'.place) hv ⟨by omega, by omega⟩)
        have ER := Lib.hid eR
        clear eR hv hno hpl hK
        go_wp2_with (go_at_call 73; refine CW.out.mono ?_; rintro e w3 ⟨rfl, rfl⟩)
        refine leaves_cons (f := 72) (args := #[.pointer (some ⟨w.heap.size, 0, none⟩)]) (by simp) (by simp [go_sem]) ?_
        refine (catch_stop w.heap.size 2 5 0 0 [] _ (HB.out _ _ _ _ H1.out)).mono ?_
        rintro e u' w'' ⟨rfl, rfl, rfl⟩
        have G := (HF.out _ _ _ _ H1.out (.int .i64 2) (.int .u32 5) 2 5).below ((Below.refl _ _).alloc (Nat.le_refl _) (.cells #[.int .i64 2, .int .u32 5] 100))
        rw [ER.out] at G
        obtain ⟨q0, q1⟩ := how_cells 2 5 (HB.out _ _ _ _ H1.out) (.cells #[.int .i64 2, .int .u32 5] 100)
        simp [Leaves, settle, results, Tryd.results58, go_sem, q0, q1]
        exact G
      | some v =>
        have hvr := wordAt_rng H1.out.wf hv
        have CW := Lib.hid (word_yes H1.out (p := m'.place) hv)
        have CD := Lib.hid (decode_any v w1 (HL.out _ _ _ _ H1.out) hvr.1 hvr.2)
        have hpr : -1099511527777 ≤ m'.place ∧ m'.place ≤ 1099511527775 := by
          obtain ⟨q, e1, e2, _⟩ := wordAt_some hv
          have := H1.out.nw
          omega
        by_cases hz : (dec v).2 = 0
        · obtain ⟨o1, oa, ob, oi, orr⟩ := dec_ok hvr hz
          have eS : stepP ws m' = doesP ws { m' with steps := m'.steps + 1 } (dec v).1.1 (dec v).1.2.1.toNat (dec v).1.2.2.1.toNat (dec v).1.2.2.2 := by unfold stepP; rw [hv]; exact if_pos hz
          obtain ⟨a, ea⟩ : ∃ a : Nat, (dec v).1.2.1 = a := ⟨(dec v).1.2.1.toNat, by omega⟩
          obtain ⟨b, eb⟩ : ∃ b : Nat, (dec v).1.2.2.1 = b := ⟨(dec v).1.2.2.1.toNat, by omega⟩
          rw [ea, eb, Int.toNat_natCast, Int.toNat_natCast] at eS
          rw [ea] at oa CD
          rw [eb] at ob CD
          rw [hz] at CD
          have CX := Lib.hid (fun w3 cv3 ov3 (hM : MI w0 W w3 g mb A n c ws { m' with steps := m'.steps + 1 } cv3 ov3) => does_any hM hpr (dec v).1.1 a b (dec v).1.2.2.2 o1 (by omega) (by omega) oi orr (by show (m'.out.length : Int) < m'.steps + 1; omega))
          have eT : ∀ r, doesP ws { m' with steps := m'.steps + 1 } (dec v).1.1 a b (dec v).1.2.2.2 = r → stepP ws m' = r := fun r h => eS.trans h
          have eK := doesP_steps ws { m' with steps := m'.steps + 1 } (dec v).1.1 a b (dec v).1.2.2.2
          generalize doesP ws { m' with steps := m'.steps + 1 } (dec v).1.1 a b (dec v).1.2.2.2 = res at CX eT eK
          replace eT := eT res rfl
          generalize (dec v).1.1 = op at CD CX
          generalize (dec v).1.2.2.2 = imm at CD CX
          obtain ⟨m2, rr⟩ := res
          have ET := Lib.hid eT
          have EK := Lib.hid eK
          clear eT eK eS ea eb o1 oa ob oi orr hz hvr hv hno hpl hpr
          cases rr with
          | none =>
            have HKK := Lib.hid hK
            clear hK
            go_wp2_with (first
              | (go_at_call 73; refine CW.out.mono ?_; rintro e w3 ⟨rfl, rfl⟩)
              | (go_at_call 56; refine CD.out.mono ?_; rintro e w3 ⟨rfl, hb3⟩; have H3 := Lib.hid (H1.out.below hb3); clear hb3)
              | (go_at_call 75; refine (CX.out _ _ _ (H3.out.alloc _)).mono ?_; rintro e w4 ⟨cv4, ov4, hM4, rfl⟩; have H4 := Lib.hid hM4; clear hM4))
            go_roundg k
            case measure => omega
            case rel => exact ⟨m2, cv4, ov4, H4, Lib.hid (by have h1 := HKK.out; have h2 : m2.steps = m'.steps + 1 := EK.out; omega), Lib.hid (by have e := HQ.out; unfold runP at e; rw [ET.out] at e; exact e)⟩
          | some kx =>
            obtain ⟨sk, sx⟩ := kx
            have ER := Lib.hid (show (m2, (sk, sx)) = R by rw [← HQ.out]; unfold runP; rw [ET.out])
            clear hK
            go_wp2_with (first
              | (go_at_call 73; refine CW.out.mono ?_; rintro e w3 ⟨rfl, rfl⟩)
              | (go_at_call 56; refine CD.out.mono ?_; rintro e w3 ⟨rfl, hb3⟩; have H3 := Lib.hid (H1.out.below hb3); clear hb3)
              | (go_at_call 75; refine (CX.out _ _ _ (H3.out.alloc _)).mono ?_; rintro e w4 ⟨cv4, ov4, hM4, rfl⟩; have H4 := Lib.hid hM4; clear hM4))
            refine leaves_cons (f := 72) (args := #[.pointer (some ⟨w.heap.size, 0, none⟩)]) (by simp) (by simp [go_sem]) ?_
            refine (catch_stop w.heap.size sk sx 0 0 [] _ (HB.out _ _ _ _ H4.out)).mono ?_
            rintro e u' w'' ⟨rfl, rfl, rfl⟩
            have G := (HF.out _ _ _ _ H4.out (.int .i64 sk) (.int .u32 sx) sk sx).below ((Below.refl _ _).alloc (Nat.le_refl _) (.cells #[.int .i64 sk, .int .u32 sx] 100))
            rw [ER.out] at G
            obtain ⟨q0, q1⟩ := how_cells sk sx (HB.out _ _ _ _ H4.out) (.cells #[.int .i64 sk, .int .u32 sx] 100)
            simp [Leaves, settle, results, Tryd.results58, go_sem, q0, q1]
            exact G
        · have eR : (({ m' with steps := m'.steps + 1 } : Mach), ((2 : Int), (4 : Int))) = R := by rw [← HQ.out]; unfold runP stepP; rw [hv]; simp only [if_neg hz]
          have ER := Lib.hid eR
          have dz : ((dec v).2 != 0) = true := by simpa using hz
          generalize (dec v).2 = er at CD dz
          generalize (dec v).1.1 = op at CD
          generalize (dec v).1.2.1 = a at CD
          generalize (dec v).1.2.2.1 = b at CD
          generalize (dec v).1.2.2.2 = imm at CD
          clear eR hz hvr hv hno hpl hK hpr
          go_wp2_with (first
            | (go_at_call 73; refine CW.out.mono ?_; rintro e w3 ⟨rfl, rfl⟩)
            | (go_at_call 56; refine CD.out.mono ?_; rintro e w3 ⟨rfl, hb3⟩; have H3 := Lib.hid (H1.out.below hb3); clear hb3)
            | (go_at_call 74; refine (trap_any _ _).mono ?_; rintro e w4 ⟨rfl, rfl⟩))
          refine leaves_cons (f := 72) (args := #[.pointer (some ⟨w.heap.size, 0, none⟩)]) (by simp) (by simp [go_sem]) ?_
          refine (catch_stop w.heap.size 2 4 0 0 [] _ (HB.out _ _ _ _ (H3.out.alloc (.cells #[.int .i64 op, .int .i64 a, .int .i64 b, .int .i64 imm] 44)))).mono ?_
          rintro e u' w'' ⟨rfl, rfl, rfl⟩
          have G := (HF.out _ _ _ _ (H3.out.alloc (.cells #[.int .i64 op, .int .i64 a, .int .i64 b, .int .i64 imm] 44)) (.int .i64 2) (.int .u32 4) 2 4).below ((Below.refl _ _).alloc (Nat.le_refl _) (.cells #[.int .i64 2, .int .u32 4] 100))
          rw [ER.out] at G
          obtain ⟨q0, q1⟩ := how_cells 2 4 (HB.out _ _ _ _ (H3.out.alloc (.cells #[.int .i64 op, .int .i64 a, .int .i64 b, .int .i64 imm] 44))) (.cells #[.int .i64 2, .int .u32 4] 100)
          simp [Leaves, settle, results, Tryd.results58, go_sem, q0, q1]
          exact G
end

end Go.Proofs.YtamimnaafiphcaaDoor

namespace Go.Proofs.YtamimnaafiphcaaDoor
open Go.RowKit Go.Proofs.YtamimnaafiphcaaDoorW.PrintWords Go.Maps Go.Joins

def mem0 (ds : List Int) : List Int := ds ++ List.replicate (524288 - ds.length) 0

def mach0 (ds : List Int) (entry : Int) (inp : ByteArray) : Mach := ⟨List.replicate 12 0, mem0 ds, inp, [], entry, [], 0⟩

theorem made_u32 (n : Nat) : madeCells #[Value.int .u32 0] n = ((List.replicate n (0 : Int)).map (Value.int .u32)).toArray := by
  apply Array.toList_inj.1
  rw [toList_madeCells_one]
  simp

/-- The machine's memory, made. -/
theorem make_mem : ∃ MZ : Array Value, MZ = ((List.replicate 524288 (0 : Int)).map (Value.int .u32)).toArray ∧ ∀ W : World, (Instr.makeSlice 24 (.int .i64 524288) (.int .i64 524288)).run Tryd.prog W = .ok (.slice (some ⟨W.heap.size, 0, none⟩) 524288 524288) (W.alloc (.cells MZ 38)) := by
  refine ⟨_, rfl, fun W => ?_⟩
  have hinfo : (Tryd.prog.info? 38).map (fun i => (i.zero, i.size, i.bytes)) = some (some (.int .u32 0), 1, 4) := by kernel_rfl
  obtain ⟨i, hi, hz, hs, hb⟩ := infoOf hinfo
  have := run_make W 24 38 i (.int .u32 0) Tryd.underlying24 hi hz .i64 .i64 524288 524288 (by decide) (by decide) (by rw [hb]; decide) (by decide)
  rw [this, hs, ← made_u32]
  rfl

section
variable {w : World}

theorem mi_start {W : World} {g mb : Nat} {A : Option Addr} {n c : Nat} {ws ds : List Int} {entry : Int} {inp : ByteArray} (hw : Kd.C (Kd.int .u32) w A n ws) (hg : W.heap[g]? = some (.cells (gCells A n c mb (.slice none 0 0) (.slice none 0 0) (mach0 ds entry inp)).toArray 98 (0, 0)))
    (hm : W.heap[mb]? = some (.cells ((mem0 ds).map (Value.int .u32)).toArray 38 (0, 0))) (hb : Below w.heap.size w W) (g0 : w.heap.size ≤ g) (m0 : w.heap.size ≤ mb) (gm : g ≠ mb) (wf : ∀ x ∈ ws, W32 x) (df : ∀ x ∈ ds, W32 x) (nw : ws.length ≤ 65536) (nd : ds.length ≤ 524288)
    (he : 0 ≤ entry ∧ entry < 65536) (hi : inp.size ≤ 10000) : MI w W W g mb A n c ws (mach0 ds entry inp) (.slice none 0 0) (.slice none 0 0) :=
  { blkG := hg
    blkM := hm
    words := hw
    calls := World.ownsRow_nil _ _ _ _
    out := World.ownsRow_nil _ _ _ _
    bel := hb
    g0 := g0
    m0 := m0
    gm := gm
    s09 := hb.size
    s9 := Nat.le_refl _
    fr := fun _ _ _ _ => rfl
    wf := wf
    nw := nw
    ok := { nr := by show (List.replicate 12 (0 : Int)).length = 12; rfl
            wr := fun x hx => by have := List.eq_of_mem_replicate (show x ∈ List.replicate 12 (0 : Int) from hx); subst this; exact ⟨by decide, by decide⟩
            nm := by show (mem0 ds).length = 524288; unfold mem0; rw [List.length_append, List.length_replicate]; omega
            wm := fun x hx => by
              rcases List.mem_append.1 (show x ∈ ds ++ List.replicate (524288 - ds.length) 0 from hx) with hx | hx
              · exact df x hx
              · have := List.eq_of_mem_replicate hx; subst this; exact ⟨by decide, by decide⟩
            nc := Nat.zero_le _
            wc := fun x hx => absurd hx (by simp [mach0])
            wp := ⟨by show _ ≤ entry; omega, by show entry ≤ _; omega⟩
            ws := ⟨Int.le_refl _, by show (0 : Int) ≤ 1000000; decide⟩
            no := Int.le_refl _
            wi := hi } }

theorem splice_zeros (N : Nat) (ds : List Int) : (((List.replicate N (0 : Int)).map (Value.int .u32)).toArray.toList.take 0 ++ ds.map (Value.int .u32) ++ ((List.replicate N (0 : Int)).map (Value.int .u32)).toArray.toList.drop (0 + ds.length)).toArray = ((ds ++ List.replicate (N - ds.length) 0).map (Value.int .u32)).toArray := by
  simp [List.map_append, List.drop_replicate]

theorem copy_mem {W : World} {mb : Nat} {MZ : Array Value} (eMZ : MZ = ((List.replicate 524288 (0 : Int)).map (Value.int .u32)).toArray) (hm : W.heap[mb]? = some (.cells MZ 38 (0, 0))) (hb : Below w.heap.size w W) (m0 : w.heap.size ≤ mb) (AD : Option Addr) (cD : Nat) (ds : List Int) (hd : Kd.C (Kd.int .u32) w AD ds.length ds) (hn : ds.length ≤ 524288) :
    ∃ W9, (Builtin.copy_ #[24, 24] 3 #[.slice (some ⟨mb, 0, none⟩) 524288 524288, .slice AD ds.length cD]).run Tryd.prog W = .ok (goInt ds.length) W9 ∧ W9.heap[mb]? = some (.cells ((mem0 ds).map (Value.int .u32)).toArray 38 (0, 0)) ∧ (∀ k, k ≠ mb → W9.heap[k]? = W.heap[k]?) ∧ Below w.heap.size w W9 := by
  have hs1 : (Tryd.prog.info? 38).map (·.size) = some 1 := by kernel_rfl
  by_cases h0 : ds.length = 0
  · obtain rfl : ds = [] := List.eq_nil_of_length_eq_zero h0
    refine ⟨W, run_copy_none W 24 24 3 38 _ AD 524288 524288 0 cD Tryd.underlying24 hs1 rfl, ?_, fun _ _ => rfl, hb⟩
    rw [hm, eMZ]
    rfl
  · obtain ⟨ad, rfl, hh⟩ := hd.2.2 (by omega)
    have hc : ∀ j u, (ds.map (Value.int .u32))[j]? = some u → W.cell? (ad.add j) = some u := fun j u hj => by
      rw [List.getElem?_map, Option.map_eq_some_iff] at hj
      obtain ⟨x, hx, rfl⟩ := hj
      obtain ⟨cs, _, hk, hcell⟩ := hh j x hx
      have hk' : cs = [Value.int .u32 x] := hk
      subst hk'
      have h1 := hcell 0 _ rfl
      rw [show j * (Kd.int .u32).sz + 0 = j from by show j * 1 + 0 = j; omega] at h1
      rw [hb.cell (lt_of_cell h1)]
      exact h1
    have hmin : (ds.map (Value.int .u32)).length = Nat.min ds.length 524288 := by rw [List.length_map]; exact (Nat.min_eq_left hn).symm
    have hr := run_copy_row W 24 24 3 38 mb 0 524288 524288 ad ds.length cD MZ 38 (ds.map (Value.int .u32)) Tryd.underlying24 hs1 hm hmin hc (by rw [eMZ, List.size_toArray, List.length_map, List.length_map, List.length_replicate, Nat.zero_add]; exact hn) (fun v hv => by obtain ⟨x, _, rfl⟩ := List.mem_map.1 hv; rfl) (P := Tryd.prog)
    rw [List.length_map] at hr
    refine ⟨_, hr, ?_, fun k hk => setRow_other _ _ _ _ hk, hb.trans ⟨rfl, rfl, rfl, by simp [World.setRow], fun k hk => setRow_other _ mb k _ (by omega)⟩⟩
    rw [setRow_heap _ mb _ _ _ _ hm]
    rw [eMZ, splice_zeros]
    rfl

theorem out_string {W : World} {B : Nat} {v : Value} {xs : List Int} (o : W.ownsRow B 5 1 v xs.length (xs.map (Value.int .u8))) : (convert 96 9 v).run Tryd.prog W = .ok (.string (strOfNums xs)) W := by
  rcases o.2 with ⟨rfl, h0⟩ | ⟨q, cap, cur, rfl, _, _, _, _, _, _⟩
  · obtain rfl : xs = [] := List.eq_nil_of_length_eq_zero h0
    exact run_convert_bytes_nil W 96 5 Tryd.underlying96 Tryd.underlying5 0 0 9 Tryd.underlying9
  · refine run_convert_bytes_arg W 96 5 Tryd.underlying96 Tryd.underlying5 q 0 xs.length cap xs rfl (fun i hi => ?_) 9 Tryd.underlying9
    rw [Nat.zero_add, World.ownsRow.cellAt o i (by omega), List.getElem?_map, List.getElem?_eq_getElem hi]
    simp [List.getD, hi]

theorem two_new2 (X : World) (a b : Array Value) (ta tb : TypeId) : ((X.alloc (.cells a ta)).alloc (.cells b tb)).drew.heap[X.heap.size]? = some (.cells a ta (0, 0)) ∧ ((X.alloc (.cells a ta)).alloc (.cells b tb)).drew.heap[X.heap.size + 1]? = some (.cells b tb (0, 0)) ∧ Below X.heap.size X ((X.alloc (.cells a ta)).alloc (.cells b tb)).drew := by
  have h1 : (X.alloc (.cells a ta)).heap[X.heap.size]? = some (.cells a ta (0, 0)) := heap_alloc_new X _
  have h2 : ((X.alloc (.cells a ta)).alloc (.cells b tb)).heap[X.heap.size + 1]? = some (.cells b tb (0, 0)) := by
    have := heap_alloc_new (X.alloc (.cells a ta)) (.cells b tb)
    rwa [World.size_alloc] at this
  refine ⟨?_, h2, bj ((Below.refl _ _).alloc (Nat.le_refl _) _) (((Below.refl _ _).alloc (Nat.le_refl _) _).drew)⟩
  exact below_blk (((Below.refl _ _).alloc (Nat.le_refl _) _).drew) h1

set_option maxRecDepth 100000 in
set_option maxHeartbeats 4000000 in
theorem run_walk (ws ks ds : List Int) (AW AK AD : Option Addr) (cW cK cD : Nat) (entry : Int) (inp : ByteArray) (fuel : Nat) (hL : Laid w) (hw : Kd.C (Kd.int .u32) w AW ws.length ws) (hd : Kd.C (Kd.int .u32) w AD ds.length ds)
    (wf : ∀ x ∈ ws, W32 x) (df : ∀ x ∈ ds, W32 x) (hn : 1 ≤ ws.length ∧ ws.length ≤ 65536) (hnd : ds.length ≤ 524288) (he : 0 ≤ entry ∧ entry < ws.length) (hi : inp.size ≤ 10000) (hf : fuel ≤ 1000000)
    (hmay : ∀ W, Below w.heap.size w W → Calls Tryd.prog 57 #[.agg #[.slice AW ws.length cW, .slice AK ks.length cK, .slice AD ds.length cD, .int .i64 entry]] W fun e w' => e = .returned (.bool true) ∧ Below W.heap.size W w') :
    Calls Tryd.prog 36 #[.agg #[.slice AW ws.length cW, .slice AK ks.length cK, .slice AD ds.length cD, .int .i64 entry], .string inp, .int .i64 fuel] w fun e w' =>
      e = .returned (.tuple #[.agg #[.int .i64 (runP ws fuel (mach0 ds entry inp)).2.1, .int .u32 (runP ws fuel (mach0 ds entry inp)).2.2, .string (strOfNums (runP ws fuel (mach0 ds entry inp)).1.out), .int .i64 (runP ws fuel (mach0 ds entry inp)).1.steps], .int .i64 0]) ∧ Below w.heap.size w w' := by
  have HM := Lib.hid hmay
  have HD := Lib.hid hd
  have HX := Lib.hid (⟨hw, wf, df, hL⟩ : Kd.C (Kd.int .u32) w AW ws.length ws ∧ (∀ x ∈ ws, W32 x) ∧ (∀ x ∈ ds, W32 x) ∧ Laid w)
  obtain ⟨MZ, eMZ, hmk⟩ := make_mem
  have EMZ := Lib.hid eMZ
  clear hmay hd hw wf df hL eMZ
  generalize hR : runP ws fuel (mach0 ds entry inp) = R
  have ER := Lib.hid hR
  clear hR
  have hi' : (inp.size : Int) ≤ 10000 := by omega
  go_enter Tryd.func36, Tryd.ntmps36
  go_wp2_with fail
  have hb2 : Below w.heap.size w ((w.alloc (.cells #[.slice AW ws.length cW, .slice AK ks.length cK, .slice AD ds.length cD, .int .i64 entry] 59)).alloc (.cells #[.int .i64 0, .int .u32 0, .string ⟨#[]⟩, .int .i64 0] 62)) := ((Below.refl _ _).alloc (Nat.le_refl _) _).alloc (by simp) _
  refine (HM.out _ hb2).mono ?_
  rintro e w3 ⟨rfl, hb3⟩
  have i0 : w3.cell? ⟨w.heap.size, 0, none⟩ = some (.slice AW ws.length cW) := kp hb3 (ka _ (kn 0 rfl))
  have i2 : w3.cell? ⟨w.heap.size, 2, none⟩ = some (.slice AD ds.length cD) := kp hb3 (ka _ (kn 2 rfl))
  have i3 : w3.cell? ⟨w.heap.size, 3, none⟩ = some (.int .i64 entry) := kp hb3 (ka _ (kn 3 rfl))
  have blkO : w3.heap[w.heap.size + 1]? = some (.cells #[.int .i64 0, .int .u32 0, .string ⟨#[]⟩, .int .i64 0] 62 (0, 0)) := below_blk hb3 (by
    have := heap_alloc_new (w.alloc (.cells #[.slice AW ws.length cW, .slice AK ks.length cK, .slice AD ds.length cD, .int .i64 entry] 59)) (.cells #[.int .i64 0, .int .u32 0, .string ⟨#[]⟩, .int .i64 0] 62)
    rwa [World.size_alloc] at this)
  have hB3 := bj hb2 hb3
  have HB3 := Lib.hid hB3
  have BO := Lib.hid blkO
  have hz : w.heap.size + 1 < w3.heap.size := (Array.getElem?_eq_some_iff.1 blkO).1
  clear hb2 hb3 hB3 blkO HM
  go_wp2_with fail
  have n0 := ka (.cells MZ 38) i0
  have n2 := ka (.cells MZ 38) i2
  have n3 := ka (.cells MZ 38) i3
  go_region_held3 (fun w' => w'.cell? ⟨w.heap.size, 0, none⟩ = some (.slice AW ws.length cW) ∧ w'.cell? ⟨w.heap.size, 3, none⟩ = some (.int .i64 entry)) (go_keep) (fail)
  have T2 := two_new2 w3 MZ (gCells AW ws.length cW w3.heap.size (.slice none 0 0) (.slice none 0 0) (mach0 ds entry inp)).toArray 38 98
  obtain ⟨bM, bG, hb8⟩ := T2
  have eG : (gCells AW ws.length cW w3.heap.size (.slice none 0 0) (.slice none 0 0) (mach0 ds entry inp)).toArray = #[.slice AW ws.length cW, .int .u32 0, .int .u32 0, .int .u32 0, .int .u32 0, .int .u32 0, .int .u32 0, .int .u32 0, .int .u32 0, .int .u32 0, .int .u32 0, .int .u32 0, .int .u32 0, .slice (some ⟨w3.heap.size, 0, none⟩) 524288 524288, .string inp, .slice none 0 0, .int .i64 entry, .slice none 0 0, .int .i64 0] := rfl
  rw [eG] at bM bG hb8
  generalize ((w3.alloc (.cells MZ 38)).alloc (.cells #[.slice AW ws.length cW, .int .u32 0, .int .u32 0, .int .u32 0, .int .u32 0, .int .u32 0, .int .u32 0, .int .u32 0, .int .u32 0, .int .u32 0, .int .u32 0, .int .u32 0, .int .u32 0, .slice (some ⟨w3.heap.size, 0, none⟩) 524288 524288, .string inp, .slice none 0 0, .int .i64 entry, .slice none 0 0, .int .i64 0] 98)).drew = W8 at bM bG hb8 ⊢
  have i2b := kp hb8 i2
  have k13 : W8.cell? ⟨w3.heap.size + 1, 13, none⟩ = some (.slice (some ⟨w3.heap.size, 0, none⟩) 524288 524288) := cell_of_block bG 13
  have HB8 := Lib.hid hb8
  have BO8 := Lib.hid (below_blk hb8 BO.out)
  obtain ⟨W9, hcp, bM9, far9, hb9⟩ := copy_mem (w := w3) (W := W8.drew) EMZ.out bM (HB8.out.drew) (Nat.le_refl _) AD cD ds (Kd.C_below HD.out HB3.out) hnd
  have BM9 := Lib.hid bM9
  have FAR := Lib.hid far9
  have HB9 := Lib.hid hb9
  have BG := Lib.hid bG
  clear bM9 far9 hb9 bG bM hb8 n0 n2 n3 i0 i2 i3 hmk eG
  go_wp2_with fail
  go_region
  have hwz := HB9.out.size
  have MI9 := mi_start (w := w3) (W := W9) (g := w3.heap.size + 1) (mb := w3.heap.size) (c := cW) (ds := ds) (entry := entry) (inp := inp) (Kd.C_below HX.out.1 HB3.out) ((FAR.out _ (by omega)).trans BG.out) BM9.out HB9.out (by omega) (Nat.le_refl _) (by omega) HX.out.2.1 HX.out.2.2.1 hn.2 hnd ⟨he.1, by omega⟩ hi
  have GO0 := emuGoes_any MI9 (Laid.below HX.out.2.2.2 HB3.out) rfl rfl fuel hf rfl
  rw [ER.out] at GO0
  have GO := Lib.hid GO0
  clear hcp k13 i2b MI9 GO0
  go_wp2_with fail
  refine GO.out.mono ?_
  rintro e w5 ⟨ov, rfl, c17, own, c18, bel, hok⟩
  have BO5 := (bel.block (w.heap.size + 1) hz).trans BO.out
  have r0 : (w5.alloc (.cells #[.int .i64 R.2.1, .int .u32 R.2.2] 100)).cell? ⟨w.heap.size + 1, 0, none⟩ = some (.int .i64 0) := ka _ (cell_of_block BO5 0)
  have r1 : (w5.alloc (.cells #[.int .i64 R.2.1, .int .u32 R.2.2] 100)).cell? ⟨w.heap.size + 1, 1, none⟩ = some (.int .u32 0) := ka _ (cell_of_block BO5 1)
  have r2 : (w5.alloc (.cells #[.int .i64 R.2.1, .int .u32 R.2.2] 100)).cell? ⟨w.heap.size + 1, 2, none⟩ = some (.string ⟨#[]⟩) := ka _ (cell_of_block BO5 2)
  have r3 : (w5.alloc (.cells #[.int .i64 R.2.1, .int .u32 R.2.2] 100)).cell? ⟨w.heap.size + 1, 3, none⟩ = some (.int .i64 0) := ka _ (cell_of_block BO5 3)
  have s0 : (w5.alloc (.cells #[.int .i64 R.2.1, .int .u32 R.2.2] 100)).frozen? ⟨w.heap.size + 1, 0, none⟩ = false := kaf _ (cell_of_block BO5 0) (unfrozen_of_block BO5 0)
  have s1 : (w5.alloc (.cells #[.int .i64 R.2.1, .int .u32 R.2.2] 100)).frozen? ⟨w.heap.size + 1, 1, none⟩ = false := kaf _ (cell_of_block BO5 1) (unfrozen_of_block BO5 1)
  have s2 : (w5.alloc (.cells #[.int .i64 R.2.1, .int .u32 R.2.2] 100)).frozen? ⟨w.heap.size + 1, 2, none⟩ = false := kaf _ (cell_of_block BO5 2) (unfrozen_of_block BO5 2)
  have s3 : (w5.alloc (.cells #[.int .i64 R.2.1, .int .u32 R.2.2] 100)).frozen? ⟨w.heap.size + 1, 3, none⟩ = false := kaf _ (cell_of_block BO5 3) (unfrozen_of_block BO5 3)
  have d17 := ka (.cells #[.int .i64 R.2.1, .int .u32 R.2.2] 100) c17
  have d18 := ka (.cells #[.int .i64 R.2.1, .int .u32 R.2.2] 100) c18
  have x0 : (w5.alloc (.cells #[.int .i64 R.2.1, .int .u32 R.2.2] 100)).cell? ⟨w5.heap.size, 0, none⟩ = some (.int .i64 R.2.1) := kn 0 rfl
  have x1 : (w5.alloc (.cells #[.int .i64 R.2.1, .int .u32 R.2.2] 100)).cell? ⟨w5.heap.size, 1, none⟩ = some (.int .u32 R.2.2) := kn 1 rfl
  have hcv := out_string ((own.alloc (.cells #[.int .i64 R.2.1, .int .u32 R.2.2] 100)).drew)
  have BEL := Lib.hid ((bj HB3.out bel).alloc (by have := (bj HB3.out bel).size; omega) (.cells #[.int .i64 R.2.1, .int .u32 R.2.2] 100))
  have hz5 := bel.size
  obtain ⟨W6, hW6⟩ : ∃ W6 : World, w5.alloc (.cells #[.int .i64 R.2.1, .int .u32 R.2.2] 100) = W6 := ⟨_, rfl⟩
  have BO6 := Lib.hid (below_blk ((Below.refl _ w5).alloc (Nat.le_refl _) (.cells #[.int .i64 R.2.1, .int .u32 R.2.2] 100)) BO5)
  rw [hW6] at BO6
  rw [hW6] at r0 r1 r2 r3 s0 s1 s2 s3 d17 d18 x0 x1 hcv BEL
  clear c17 c18 own bel hok BO5
  have z1 : ¬ w.heap.size + 1 = w5.heap.size := by omega
  have z2 : ¬ w5.heap.size = w.heap.size + 1 := by omega
  have z3 : ¬ w.heap.size = w3.heap.size := by omega
  have z4 : ¬ w3.heap.size = w.heap.size := by omega
  go_wp2_with fail
  go_still_tail 14, (by kernel_rfl)
  go_wp2_with fail
  have y0 : ((((W6.setCell ⟨w.heap.size + 1, 0, none⟩ (.int .i64 R.2.1)).setCell ⟨w.heap.size + 1, 1, none⟩ (.int .u32 R.2.2)).setCell ⟨w.heap.size + 1, 2, none⟩ (.string (strOfNums R.1.out))).setCell ⟨w.heap.size + 1, 3, none⟩ (.int .i64 R.1.steps)).heap[w.heap.size + 1]? = some (.cells #[.int .i64 R.2.1, .int .u32 R.2.2, .string (strOfNums R.1.out), .int .i64 R.1.steps] 62 (0, 0)) := by
    have hb6 : W6.heap[w.heap.size + 1]? = some (.cells #[.int .i64 0, .int .u32 0, .string ⟨#[]⟩, .int .i64 0] 62 (0, 0)) := BO6.out
    exact block_setCell (block_setCell (block_setCell (block_setCell hb6 _) _) _) _
  have BB : Below w.heap.size w ((((W6.setCell ⟨w.heap.size + 1, 0, none⟩ (.int .i64 R.2.1)).setCell ⟨w.heap.size + 1, 1, none⟩ (.int .u32 R.2.2)).setCell ⟨w.heap.size + 1, 2, none⟩ (.string (strOfNums R.1.out))).setCell ⟨w.heap.size + 1, 3, none⟩ (.int .i64 R.1.steps)) :=
    Below.setCell (Below.setCell (Below.setCell (Below.setCell BEL.out (Nat.le_succ _) _) (Nat.le_succ _) _) (Nat.le_succ _) _) (Nat.le_succ _) _
  refine bodyPost_ret (results_ct rfl _ _ (w.heap.size + 1) 62 #[.int .i64 R.2.1, .int .u32 R.2.2, .string (strOfNums R.1.out), .int .i64 R.1.steps] (0, 0) _ rfl (by (with_reducible repeat (first | refine blk_drewN ?_ _ | refine blk_drew ?_ | refine blk_alloc ?_ _)); exact y0) Tryd.underlying62 rfl (by kernel_rfl)) rfl ⟨rfl, ?_⟩
  repeat (first | exact BB | refine Below.drew ?_)
end

end Go.Proofs.YtamimnaafiphcaaDoor

namespace Go.Proofs.YtamimnaafiphcaaDoor
open Go.RowKit Go.Proofs.YtamimnaafiphcaaDoorW.PrintWords Go.Maps Go.Joins

/-- The number that Run refuses with. -/
def runErr (b : Bool) (n : Nat) (f : Int) : Int := if b = false then 1 else if (n : Int) > 10000 then 2 else if f < 0 then 1 else if f > 1073741824 then 1 else 0

set_option maxRecDepth 100000 in
set_option maxHeartbeats 4000000 in
theorem run_refused {w : World} (AW AK AD : Option Addr) (nW nK nD cW cK cD : Nat) (entry : Int) (inp : ByteArray) (fuel : Int) (b : Bool) (h0 : runErr b inp.size fuel ≠ 0)
    (hmay : ∀ W, Below w.heap.size w W → Calls Tryd.prog 57 #[.agg #[.slice AW nW cW, .slice AK nK cK, .slice AD nD cD, .int .i64 entry]] W fun e w' => e = .returned (.bool b) ∧ Below W.heap.size W w') :
    Calls Tryd.prog 36 #[.agg #[.slice AW nW cW, .slice AK nK cK, .slice AD nD cD, .int .i64 entry], .string inp, .int .i64 fuel] w fun e w' =>
      e = .returned (.tuple #[.agg #[.int .i64 0, .int .u32 0, .string ⟨#[]⟩, .int .i64 0], .int .i64 (runErr b inp.size fuel)]) ∧ Below w.heap.size w w' := by
  have HM := Lib.hid hmay
  generalize hE : runErr b inp.size fuel = E at h0 ⊢
  have EE := Lib.hid (⟨hE, h0⟩ : runErr b inp.size fuel = E ∧ E ≠ 0)
  clear hmay hE h0
  go_enter Tryd.func36, Tryd.ntmps36
  go_wp2_with fail
  have hb2 : Below w.heap.size w ((w.alloc (.cells #[.slice AW nW cW, .slice AK nK cK, .slice AD nD cD, .int .i64 entry] 59)).alloc (.cells #[.int .i64 0, .int .u32 0, .string ⟨#[]⟩, .int .i64 0] 62)) := ((Below.refl _ _).alloc (Nat.le_refl _) _).alloc (by simp) _
  refine (HM.out _ hb2).mono ?_
  rintro e w3 ⟨rfl, hb3⟩
  have blkO : w3.heap[w.heap.size + 1]? = some (.cells #[.int .i64 0, .int .u32 0, .string ⟨#[]⟩, .int .i64 0] 62 (0, 0)) := below_blk hb3 (by
    have := heap_alloc_new (w.alloc (.cells #[.slice AW nW cW, .slice AK nK cK, .slice AD nD cD, .int .i64 entry] 59)) (.cells #[.int .i64 0, .int .u32 0, .string ⟨#[]⟩, .int .i64 0] 62)
    rwa [World.size_alloc] at this)
  have hB3 := bj hb2 hb3
  have HB3 := Lib.hid hB3
  have BO := Lib.hid blkO
  have r0 : w3.cell? ⟨w.heap.size + 1, 0, none⟩ = some (.int .i64 0) := cell_of_block blkO 0
  have r1 : w3.cell? ⟨w.heap.size + 1, 1, none⟩ = some (.int .u32 0) := cell_of_block blkO 1
  have r2 : w3.cell? ⟨w.heap.size + 1, 2, none⟩ = some (.string ⟨#[]⟩) := cell_of_block blkO 2
  have r3 : w3.cell? ⟨w.heap.size + 1, 3, none⟩ = some (.int .i64 0) := cell_of_block blkO 3
  have s0 : w3.frozen? ⟨w.heap.size + 1, 0, none⟩ = false := unfrozen_of_block blkO 0
  have s1 : w3.frozen? ⟨w.heap.size + 1, 1, none⟩ = false := unfrozen_of_block blkO 1
  have s2 : w3.frozen? ⟨w.heap.size + 1, 2, none⟩ = false := unfrozen_of_block blkO 2
  have s3 : w3.frozen? ⟨w.heap.size + 1, 3, none⟩ = false := unfrozen_of_block blkO 3
  have y0 : ((((w3.setCell ⟨w.heap.size + 1, 0, none⟩ (.int .i64 0)).setCell ⟨w.heap.size + 1, 1, none⟩ (.int .u32 0)).setCell ⟨w.heap.size + 1, 2, none⟩ (.string ⟨#[]⟩)).setCell ⟨w.heap.size + 1, 3, none⟩ (.int .i64 0)).heap[w.heap.size + 1]? = some (.cells #[.int .i64 0, .int .u32 0, .string ⟨#[]⟩, .int .i64 0] 62 (0, 0)) :=
    block_setCell (block_setCell (block_setCell (block_setCell blkO _) _) _) _
  have BB : Below w.heap.size w ((((w3.setCell ⟨w.heap.size + 1, 0, none⟩ (.int .i64 0)).setCell ⟨w.heap.size + 1, 1, none⟩ (.int .u32 0)).setCell ⟨w.heap.size + 1, 2, none⟩ (.string ⟨#[]⟩)).setCell ⟨w.heap.size + 1, 3, none⟩ (.int .i64 0)) :=
    Below.setCell (Below.setCell (Below.setCell (Below.setCell hB3 (Nat.le_succ _) _) (Nat.le_succ _) _) (Nat.le_succ _) _) (Nat.le_succ _) _
  have Y0 := Lib.hid y0
  have BBB := Lib.hid BB
  clear hb2 hb3 hB3 blkO HM y0 BB
  have key : (b = false ∧ E = 1) ∨ (b = true ∧ (inp.size : Int) > 10000 ∧ E = 2) ∨ (b = true ∧ (inp.size : Int) ≤ 10000 ∧ fuel < 0 ∧ E = 1) ∨ (b = true ∧ (inp.size : Int) ≤ 10000 ∧ 0 ≤ fuel ∧ fuel > 1073741824 ∧ E = 1) := by
    obtain ⟨h1, h2⟩ := EE.out
    unfold runErr at h1
    split at h1
    · exact Or.inl ⟨by assumption, h1.symm⟩
    · have hbt : b = true := by cases b <;> simp_all
      split at h1
      · exact Or.inr (Or.inl ⟨hbt, by assumption, h1.symm⟩)
      · split at h1
        · exact Or.inr (Or.inr (Or.inl ⟨hbt, by omega, by assumption, h1.symm⟩))
        · split at h1
          · exact Or.inr (Or.inr (Or.inr ⟨hbt, by omega, by omega, by assumption, h1.symm⟩))
          · exact absurd h1.symm h2
  clear EE
  rcases key with ⟨rfl, rfl⟩ | ⟨rfl, hs, rfl⟩ | ⟨rfl, hs, hf, rfl⟩ | ⟨rfl, hs, hf, hf2, rfl⟩
  all_goals go_wp2_with fail
  all_goals refine bodyPost_ret (results_ct rfl _ _ (w.heap.size + 1) 62 #[.int .i64 0, .int .u32 0, .string ⟨#[]⟩, .int .i64 0] (0, 0) _ rfl (by (with_reducible repeat (first | refine blk_drewN ?_ _ | refine blk_drew ?_ | refine blk_alloc ?_ _)); exact Y0.out) Tryd.underlying62 rfl (by kernel_rfl)) rfl ⟨rfl, ?_⟩
  all_goals repeat (first | exact BBB.out | refine Below.drew ?_)

end Go.Proofs.YtamimnaafiphcaaDoor

namespace Go.Proofs.YtamimnaafiphcaaDoor
open Go.RowKit Go.Maps Go.Joins

theorem trap_le {v : Int} (h : (dec v).2 = 0) (h48 : (dec v).1.1 = 48) : 0 ≤ (dec v).1.2.2.2 ∧ (dec v).1.2.2.2 ≤ 255 := by
  unfold dec at h h48 ⊢
  simp only [] at h h48 ⊢
  by_cases he : (enc (v / 16777216) (v / 1048576 % 16) (v / 65536 % 16) (i16 v)).2 = 0
  · rw [if_pos he] at h48 ⊢
    generalize i16 v = c at he h48 ⊢
    generalize v / 1048576 % 16 = a at he h48 ⊢
    generalize v / 65536 % 16 = b at he h48 ⊢
    generalize v / 16777216 = op at he h48 ⊢
    replace h48 : op = 48 := h48
    subst h48
    unfold enc at he
    rw [show formOf 48 = 8 from by decide] at he
    rw [if_neg (by decide)] at he
    by_cases hk : okA 8 a b c = true
    · unfold okA at hk
      rw [Bool.and_eq_true, Bool.and_eq_true] at hk
      obtain ⟨_, kc⟩ := hk
      have kc := within_iff kc
      rw [show (bd 8).2.2 = (0, 255) from by decide] at kc
      exact kc
    · rw [if_neg hk] at he; cases he
  · rw [if_neg he] at h
    exact absurd h he

/-- How a step may stop, and what it adds to the output. -/
def Fair (o : List Int) (x : Mach × Option (Int × Int)) : Prop :=
  (x.1.out = o ∨ ∃ z, x.1.out = o ++ [z]) ∧ ∀ k y, x.2 = some (k, y) → k = 1 ∨ k = 2 ∧ y ≤ 255

theorem fair_ite {c : Prop} [Decidable c] {x y : Mach × Option (Int × Int)} {o : List Int} (h1 : c → Fair o x) (h2 : ¬ c → Fair o y) : Fair o (if c then x else y) := by
  by_cases h : c
  · rw [if_pos h]; exact h1 h
  · rw [if_neg h]; exact h2 h

theorem fair_none {o : List Int} {m : Mach} (h : m.out = o) : Fair o (m, none) := ⟨Or.inl h, fun _ _ h => by cases h⟩
theorem fair_trap {o : List Int} {m : Mach} {x : Int} (h : m.out = o) (hx : x ≤ 255) : Fair o (m, some (2, x)) := ⟨Or.inl h, fun k y e => by cases e; exact Or.inr ⟨rfl, hx⟩⟩

theorem jumpP_fair (ws : List Int) (m : Mach) (op : Int) (a b : Nat) (imm nx : Int) : Fair m.out (jumpP ws m op a b imm nx) := by
  unfold jumpP trapM
  repeat' first | exact fair_none rfl | exact fair_trap rfl (by decide) | refine fair_ite (fun _ => ?_) (fun _ => ?_) | split

theorem doesP_fair (ws : List Int) (m : Mach) (op : Int) (a b : Nat) (imm : Int) (h : op = 48 → 0 ≤ imm ∧ imm ≤ 255) : Fair m.out (doesP ws m op a b imm) := by
  unfold doesP
  simp only []
  repeat' first | exact fair_none rfl | exact fair_trap rfl (by decide) | exact jumpP_fair ws { m with place := m.place + 1 } op a b imm (m.place + 1) | refine fair_ite (fun _ => ?_) (fun _ => ?_) | split
  · exact ⟨Or.inr ⟨_, rfl⟩, fun _ _ h => by cases h⟩
  · exact ⟨Or.inl rfl, fun k y e => by cases e; exact Or.inl rfl⟩
  · rename_i h48
    exact fair_trap rfl (by have := h h48; omega)

theorem stepP_fair (ws : List Int) (m : Mach) : Fair m.out (stepP ws m) := by
  unfold stepP
  cases wordAt ws m.place with
  | none => exact fair_trap rfl (by decide)
  | some v =>
    show Fair m.out (if (dec v).2 = 0 then _ else _)
    by_cases h : (dec v).2 = 0
    · rw [if_pos h]
      exact doesP_fair ws { m with steps := m.steps + 1 } _ _ _ _ (fun h48 => trap_le h h48)
    · rw [if_neg h]
      exact fair_trap rfl (by decide)

theorem stepP_steps (ws : List Int) (m : Mach) : (stepP ws m).1.steps = m.steps + 1 := by
  unfold stepP
  cases wordAt ws m.place with
  | none => rfl
  | some v =>
    show (if (dec v).2 = 0 then _ else _ : Mach × Option (Int × Int)).1.steps = _
    refine st_ite ?_ rfl
    exact doesP_steps ws { m with steps := m.steps + 1 } _ _ _ _

/-- What a run of k steps may come to. -/
theorem runP_ends (ws : List Int) : ∀ (k : Nat) (m : Mach), ((runP ws k m).2 = (3, 0) ∧ (runP ws k m).1.steps = m.steps + k ∨ ((runP ws k m).2.1 = 1 ∨ (runP ws k m).2.1 = 2 ∧ (runP ws k m).2.2 ≤ 255) ∧ m.steps + 1 ≤ (runP ws k m).1.steps ∧ (runP ws k m).1.steps ≤ m.steps + k) ∧
    m.out <+: (runP ws k m).1.out ∧ ((runP ws k m).1.out.length : Int) - m.out.length ≤ (runP ws k m).1.steps - m.steps
  | 0, m => ⟨Or.inl ⟨rfl, by show m.steps = m.steps + ((0 : Nat) : Int); omega⟩, List.prefix_refl _, by show (m.out.length : Int) - m.out.length ≤ m.steps - m.steps; omega⟩
  | k + 1, m => by
    obtain ⟨h1, h2⟩ := stepP_fair ws m
    have h3 := stepP_steps ws m
    rw [runP]
    generalize stepP ws m = s at h1 h2 h3 ⊢
    obtain ⟨m', s⟩ := s
    replace h3 : m'.steps = m.steps + 1 := h3
    replace h1 : m'.out = m.out ∨ ∃ z, m'.out = m.out ++ [z] := h1
    have hp : m.out <+: m'.out := by
      rcases h1 with h | ⟨z, h⟩
      · rw [h]; exact List.prefix_refl _
      · rw [h]; exact List.prefix_append _ _
    have hl : (m'.out.length : Int) ≤ m.out.length + 1 := by
      rcases h1 with h | ⟨z, h⟩ <;> rw [h]
      · omega
      · simp
    cases s with
    | none =>
      show ((runP ws k m').2 = (3, 0) ∧ (runP ws k m').1.steps = m.steps + ((k + 1 : Nat) : Int) ∨ ((runP ws k m').2.1 = 1 ∨ (runP ws k m').2.1 = 2 ∧ (runP ws k m').2.2 ≤ 255) ∧ m.steps + 1 ≤ (runP ws k m').1.steps ∧ (runP ws k m').1.steps ≤ m.steps + ((k + 1 : Nat) : Int)) ∧ m.out <+: (runP ws k m').1.out ∧ ((runP ws k m').1.out.length : Int) - m.out.length ≤ (runP ws k m').1.steps - m.steps
      obtain ⟨i1, i2, i3⟩ := runP_ends ws k m'
      refine ⟨?_, hp.trans i2, by omega⟩
      rcases i1 with ⟨i1, i4⟩ | ⟨i1, i4, i5⟩
      · exact Or.inl ⟨i1, by omega⟩
      · exact Or.inr ⟨i1, by omega, by omega⟩
    | some st =>
      obtain ⟨a, y⟩ := st
      show ((a, y) = (3, 0) ∧ m'.steps = m.steps + ((k + 1 : Nat) : Int) ∨ (a = 1 ∨ a = 2 ∧ y ≤ 255) ∧ m.steps + 1 ≤ m'.steps ∧ m'.steps ≤ m.steps + ((k + 1 : Nat) : Int)) ∧ m.out <+: m'.out ∧ (m'.out.length : Int) - m.out.length ≤ m'.steps - m.steps
      exact ⟨Or.inr ⟨h2 a y rfl, by omega, by omega⟩, hp, by omega⟩

/-- More fuel: the same end, once there is one. -/
theorem runP_same (ws : List Int) : ∀ (k : Nat) (m : Mach), (runP ws k m).2.1 ≠ 3 → ∀ k' : Nat, (runP ws k m).1.steps ≤ m.steps + k' → runP ws k' m = runP ws k m
  | 0, m, h, _, _ => absurd rfl h
  | k + 1, m, h, 0, hs => by
    exfalso
    rcases (runP_ends ws (k + 1) m).1 with ⟨h1, _⟩ | ⟨_, h1, _⟩
    · exact h (by rw [h1])
    · omega
  | k + 1, m, h, k' + 1, hs => by
    have h3 := stepP_steps ws m
    rw [runP] at h hs ⊢
    rw [runP]
    generalize stepP ws m = s at h h3 hs ⊢
    obtain ⟨m', s⟩ := s
    replace h3 : m'.steps = m.steps + 1 := h3
    cases s with
    | none => exact runP_same ws k m' h k' (by have : (runP ws k m').1.steps ≤ m.steps + ((k' + 1 : Nat) : Int) := hs; omega)
    | some st => rfl

/-- Less fuel than the run takes: it runs out, and its output is the run's beginning. -/
theorem runP_less (ws : List Int) : ∀ (k : Nat) (m : Mach) (k' : Nat), k' ≤ k → ((k' : Int) + m.steps < (runP ws k m).1.steps ∨ (runP ws k m).2.1 = 3) → (runP ws k' m).2 = (3, 0) ∧ (runP ws k' m).1.steps = m.steps + k' ∧ (runP ws k' m).1.out <+: (runP ws k m).1.out
  | k, m, 0, _, _ => ⟨rfl, by show m.steps = m.steps + ((0 : Nat) : Int); omega, (runP_ends ws k m).2.1⟩
  | 0, m, k' + 1, h, _ => absurd h (by omega)
  | k + 1, m, k' + 1, hk, hs => by
    have h3 := stepP_steps ws m
    obtain ⟨_, h2⟩ := stepP_fair ws m
    rw [runP] at hs ⊢
    rw [runP]
    generalize stepP ws m = s at h2 h3 hs ⊢
    obtain ⟨m', s⟩ := s
    replace h3 : m'.steps = m.steps + 1 := h3
    cases s with
    | none =>
      replace hs : ((k' + 1 : Nat) : Int) + m.steps < (runP ws k m').1.steps ∨ (runP ws k m').2.1 = 3 := hs
      obtain ⟨i1, i2, i3⟩ := runP_less ws k m' k' (by omega) (by rcases hs with hs | hs; exact Or.inl (by omega); exact Or.inr hs)
      exact ⟨i1, by show (runP ws k' m').1.steps = _; omega, i3⟩
    | some st =>
      obtain ⟨a, y⟩ := st
      exfalso
      replace hs : ((k' + 1 : Nat) : Int) + m.steps < m'.steps ∨ a = 3 := hs
      rcases hs with hs | hs
      · omega
      · rcases h2 a y rfl with h | ⟨h, _⟩ <;> omega

theorem wordAt_behind {ws : List Int} (vs : List Int) {p v : Int} (h : wordAt ws p = some v) : wordAt (ws ++ vs) p = some v := by
  unfold wordAt at h ⊢
  by_cases hp : 0 ≤ p ∧ p < ws.length
  · rw [if_pos hp] at h
    rw [if_pos (by rw [List.length_append]; omega), ← h]
    simp [List.getD, List.getElem?_append_left (show p.toNat < ws.length by omega)]
  · rw [if_neg hp] at h; cases h

/-- A step that is no trap reads no word behind the program. -/
def NoTrap (x : Mach × Option (Int × Int)) : Prop := ∀ y, x.2 ≠ some (2, y)

theorem jumpP_behind (ws vs : List Int) (m : Mach) (op : Int) (a b : Nat) (imm nx : Int) (h : NoTrap (jumpP ws m op a b imm nx)) : jumpP (ws ++ vs) m op a b imm nx = jumpP ws m op a b imm nx := by
  unfold jumpP trapM at h ⊢
  by_cases h2 : op = 2
  · rw [if_pos h2] at h ⊢; rw [if_pos h2]
    cases e : wordAt ws nx with
    | none => rw [e] at h; exact absurd rfl (h 5)
    | some v => rw [wordAt_behind vs e]
  rw [if_neg h2] at h ⊢; rw [if_neg h2]
  by_cases h40 : op = 40
  · rw [if_pos h40]; rw [if_pos h40]
  rw [if_neg h40] at h ⊢; rw [if_neg h40]
  by_cases h41 : op = 41
  · rw [if_pos h41] at h ⊢; rw [if_pos h41]
    cases e : wordAt ws nx with
    | none => rw [e] at h; exact absurd rfl (h 5)
    | some v => rw [wordAt_behind vs e]
  rw [if_neg h41] at h ⊢; rw [if_neg h41]
  by_cases h42 : op = 42
  · rw [if_pos h42] at h ⊢; rw [if_pos h42]
    cases e : wordAt ws nx with
    | none => rw [e] at h; exact absurd rfl (h 5)
    | some v =>
      rw [wordAt_behind vs e]
      rw [e] at h
      show (if v ≤ m.r.getD a 0 then _ else _) = (if v ≤ m.r.getD a 0 then _ else _)
      replace h : NoTrap (if v ≤ m.r.getD a 0 then (m, some (2, 7)) else (match wordAt ws (nx + 1 + m.r.getD a 0) with | none => (m, some (2, 5)) | some t => ({ m with place := t }, none))) := h
      by_cases hv : v ≤ m.r.getD a 0
      · rw [if_pos hv]; rw [if_pos hv]
      · rw [if_neg hv] at h ⊢; rw [if_neg hv]
        cases e2 : wordAt ws (nx + 1 + m.r.getD a 0) with
        | none => rw [e2] at h; exact absurd rfl (h 5)
        | some t => rw [wordAt_behind vs e2]
  rw [if_neg h42] at h ⊢; rw [if_neg h42]
  by_cases h43 : op = 43
  · rw [if_pos h43] at h ⊢; rw [if_pos h43]
    cases e : wordAt ws nx with
    | none => rw [e] at h; exact absurd rfl (h 5)
    | some v => rw [wordAt_behind vs e]
  rw [if_neg h43]; rw [if_neg h43]

theorem ite_same {α : Type} {c : Prop} [Decidable c] {x y x' y' : α} (h1 : c → x = x') (h2 : ¬ c → y = y') : (if c then x else y) = (if c then x' else y') := by
  by_cases h : c
  · rw [if_pos h, if_pos h]; exact h1 h
  · rw [if_neg h, if_neg h]; exact h2 h

theorem doesP_behind (ws vs : List Int) (m : Mach) (op : Int) (a b : Nat) (imm : Int) (h : NoTrap (doesP ws m op a b imm)) : doesP (ws ++ vs) m op a b imm = doesP ws m op a b imm := by
  have hj := jumpP_behind ws vs { m with place := m.place + 1 } op a b imm (m.place + 1)
  unfold doesP at h ⊢
  simp only [] at h ⊢
  generalize jumpP ws { m with place := m.place + 1 } op a b imm (m.place + 1) = J at hj h ⊢
  generalize jumpP (ws ++ vs) { m with place := m.place + 1 } op a b imm (m.place + 1) = J' at hj ⊢
  by_cases hJ : J' = J
  · rw [hJ]
  · have hn : ¬ NoTrap J := fun hh => hJ (hj hh)
    repeat' first | exact absurd h hn | rfl | (rw [if_pos (by assumption)]; done) | (refine ite_same (fun hc => ?_) (fun hc => ?_) <;> first | rw [if_pos hc] at h | rw [if_neg hc] at h)

theorem stepP_behind (ws vs : List Int) (m : Mach) (h : NoTrap (stepP ws m)) : stepP (ws ++ vs) m = stepP ws m := by
  unfold stepP at h ⊢
  cases e : wordAt ws m.place with
  | none => rw [e] at h; exact absurd rfl (h 5)
  | some v =>
    rw [wordAt_behind vs e]
    rw [e] at h
    show (if (dec v).2 = 0 then _ else _) = (if (dec v).2 = 0 then _ else _)
    replace h : NoTrap (if (dec v).2 = 0 then doesP ws { m with steps := m.steps + 1 } (dec v).1.1 (dec v).1.2.1.toNat (dec v).1.2.2.1.toNat (dec v).1.2.2.2 else ({ m with steps := m.steps + 1 }, some (2, 4))) := h
    by_cases hd : (dec v).2 = 0
    · rw [if_pos hd] at h ⊢; rw [if_pos hd]
      exact doesP_behind ws vs _ _ _ _ _ h
    · rw [if_neg hd]; rw [if_neg hd]

theorem runP_behind (ws vs : List Int) : ∀ (k : Nat) (m : Mach), (runP ws k m).2.1 = 1 → runP (ws ++ vs) k m = runP ws k m
  | 0, m, h => by exact absurd (show (3 : Int) = 1 from h) (by decide)
  | k + 1, m, h => by
    rw [runP] at h ⊢
    rw [runP]
    have hb : NoTrap (stepP ws m) := fun y hy => by
      generalize stepP ws m = s at h hy
      obtain ⟨m', s⟩ := s
      replace hy : s = some (2, y) := hy
      subst hy
      exact absurd (show (2 : Int) = 1 from h) (by decide)
    rw [stepP_behind ws vs m hb]
    generalize stepP ws m = s at h ⊢
    obtain ⟨m', s⟩ := s
    cases s with
    | none => exact runP_behind ws vs k m' h
    | some st => rfl

theorem mem0_zeros (ds : List Int) (z : Nat) (h : ds.length + z ≤ 524288) : mem0 (ds ++ List.replicate z 0) = mem0 ds := by
  unfold mem0
  rw [List.append_assoc, List.length_append, List.length_replicate, List.replicate_append_replicate]
  congr 2
  omega

end Go.Proofs.YtamimnaafiphcaaDoor
