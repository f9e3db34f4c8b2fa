/- The machine: does, op by op: memory, input, output, what is reckoned, jumps. -/
import Derived.Test.YtamimnaafiphcaaDoorEmZ2
import Derived.Laws.Closers25b
set_option linter.unusedVariables false
set_option linter.unusedSimpArgs false
namespace Go.Proofs.YtamimnaafiphcaaDoor
open Go.RowKit Go.Proofs.YtamimnaafiphcaaDoorW.PrintWords Go.Maps Go.Joins

theorem tyBytes : Tryd.prog.underlying 96 = some (.slice 5) := Tryd.underlying96
theorem infoByte : (Tryd.prog.info? 5).map (fun i => (i.zero, i.size, i.bytes)) = some (some (.int .u8 0), 1, 1) := by kernel_rfl

theorem w32_ite {c : Prop} [Decidable c] {x y : Int} (h1 : c → W32 x) (h2 : ¬ c → W32 y) : W32 (if c then x else y) := by
  by_cases h : c
  · rw [if_pos h]; exact h1 h
  · rw [if_neg h]; exact h2 h

theorem reck_rng {op a b v : Int} (ha : W32 a) (hb : W32 b) (h : reck op a b = some v) : W32 v := by
  unfold reck at h
  by_cases hz : (divOp op && b == 0) = true
  · rw [if_pos hz] at h; cases h
  rw [if_neg hz] at h
  obtain rfl := Option.some.inj h
  obtain ⟨a0, a1⟩ := ha
  obtain ⟨b0, b1⟩ := hb
  have one : ∀ x, W32 (oneB x) := fun x => by cases x <;> exact ⟨by decide, by decide⟩
  have sh : 0 ≤ a / 2 ^ (b % 32).toNat ∧ a / 2 ^ (b % 32).toNat < 4294967296 := by
    have hp : (0 : Int) < 2 ^ (b % 32).toNat := Int.pow_pos (by decide)
    exact ⟨Int.ediv_nonneg a0 (Int.le_of_lt hp), Int.lt_of_le_of_lt (Int.ediv_le_self _ a0) a1⟩
  have bl := fun o => (⟨bits_lo_u32 o a b, Int.lt_of_le_of_lt (bits_hi_u32 o a b) (by decide)⟩ : W32 (bits o IntKind.u32 a b))
  have md : ∀ x : Int, W32 (x % 4294967296) := fun x => ⟨by omega, by omega⟩
  have dv : op = 9 → W32 (a / b) := fun e => by
    have : ¬ b = 0 := fun eb => hz (by rw [e, eb]; rfl)
    exact ⟨Int.ediv_nonneg a0 b0, Int.lt_of_le_of_lt (Int.ediv_le_self _ a0) a1⟩
  have rm : op = 11 → W32 (a % b) := fun e => by
    have hb0 : ¬ b = 0 := fun eb => hz (by rw [e, eb]; rfl)
    exact ⟨Int.emod_nonneg _ hb0, Int.lt_trans (Int.emod_lt_of_pos _ (by omega)) b1⟩
  unfold reckV
  repeat' (refine w32_ite (fun _ => ?_) (fun _ => ?_))
  all_goals first | exact md _ | exact bl _ | exact one _ | exact sh | (apply dv; assumption) | (apply rm; assumption) | exact ⟨by decide, by decide⟩

section
variable {w0 w9 w : World} {g mb : Nat} {A : Option Addr} {n c : Nat} {ws : List Int} {m : Mach} {cv ov : Value}

theorem cell_drewN (w : World) (k : Nat) (p : Addr) : (w.drewN k).cell? p = w.cell? p := by
  induction k with
  | zero => rfl
  | succ k ih => exact ih

set_option maxRecDepth 100000 in
set_option maxHeartbeats 4000000 in
theorem does_ld (h : MI w0 w9 w g mb A n c ws m cv ov) (hp : -1099511527777 ≤ m.place ∧ m.place ≤ 1099511527775) (a b : Nat) (imm : Int) (ha : a < 12) (hb : b < 12) (hi : -32768 ≤ imm ∧ imm ≤ 32767) (q : Nat) (hq : memAt m b imm = q) (hq2 : q < 524288) :
    Calls Tryd.prog 75 #[.pointer (some ⟨g, 0, none⟩), .agg #[.int .i64 27, .int .i64 a, .int .i64 b, .int .i64 imm]] w (Stp w0 w9 g mb A n c ws ({ m with place := m.place + 1, r := m.r.set a (m.mem.getD q 0) }, none)) := by
  obtain ⟨W, W1, hW, hW1, k16, f16, j0, j1, j2, j3, ka, kb, fa, H⟩ := does_start h hp 27 a b imm ha hb
  have hm := h.rngM q
  have hM := H.out.cM q hq2
  have CA := Lib.hid (fun W' (hI : MI w0 w9 W' g mb A n c ws { m with place := m.place + 1 } cv ov) => at_in hI 27 a b imm hb hi q hq hq2)
  clear h hq
  obtain ⟨hp0, hp1⟩ := hp
  have a0 : (0 : Int) ≤ (a : Int) := Int.natCast_nonneg _
  have a1 : (a : Int) < 12 := by omega
  have b0 : (0 : Int) ≤ (b : Int) := Int.natCast_nonneg _
  have b1 : (b : Int) < 12 := by omega
  clear hi
  go_enter Tryd.func75, Tryd.ntmps75
  go_wp2_with fail
  go_quiet (fail)
  go_wp2_with fail
  refine (CA.out _ (H.out.drewN _)).mono ?_
  rintro e w3 ⟨rfl, hb3⟩
  have hz := (W1.drewN nq).heap.size
  have H3 := Lib.hid ((H.out.drewN nq).below hb3)
  have hM3 := kp hb3 (((cell_drewN W1 nq _).trans hM))
  have fa3 := H3.out.free (1 + a)
  have ka3 := H3.out.cR a ha
  clear hM hb3 ka fa
  go_wp2_with fail
  go_end0
  exact Stp.fin (H3.out.setR a ha _ hm)

set_option maxRecDepth 100000 in
set_option maxHeartbeats 4000000 in
theorem does_getc0 (h : MI w0 w9 w g mb A n c ws m cv ov) (hp : -1099511527777 ≤ m.place ∧ m.place ≤ 1099511527775) (a b : Nat) (imm : Int) (ha : a < 12) (hb : b < 12) (he : m.inp = ⟨#[]⟩) :
    Calls Tryd.prog 75 #[.pointer (some ⟨g, 0, none⟩), .agg #[.int .i64 45, .int .i64 a, .int .i64 b, .int .i64 imm]] w (Stp w0 w9 g mb A n c ws ({ m with place := m.place + 1, r := m.r.set a 4294967295 }, none)) := by
  obtain ⟨W, W1, hW, hW1, k16, f16, j0, j1, j2, j3, ka, kb, fa, H⟩ := does_start h hp 45 a b imm ha hb
  have CA := Lib.hid (fun W' (hI : MI w0 w9 W' g mb A n c ws { m with place := m.place + 1 } cv ov) => getc_none hI he)
  clear h he
  obtain ⟨hp0, hp1⟩ := hp
  have a0 : (0 : Int) ≤ (a : Int) := Int.natCast_nonneg _
  have a1 : (a : Int) < 12 := by omega
  have b0 : (0 : Int) ≤ (b : Int) := Int.natCast_nonneg _
  have b1 : (b : Int) < 12 := by omega
  go_enter Tryd.func75, Tryd.ntmps75
  go_wp2_with fail
  go_quiet (fail)
  go_wp2_with (go_at_call 89; refine (CA.out _ (H.out.drewN _)).mono ?_; rintro e w3 ⟨rfl, rfl⟩)
  go_end0
  exact Stp.fin ((H.out.drewN _).setR a ha _ ⟨by decide, by decide⟩)

set_option maxRecDepth 100000 in
set_option maxHeartbeats 4000000 in
theorem does_getc1 (h : MI w0 w9 w g mb A n c ws m cv ov) (hp : -1099511527777 ≤ m.place ∧ m.place ≤ 1099511527775) (a b : Nat) (imm : Int) (ha : a < 12) (hb : b < 12) (he : 0 < m.inp.size) :
    Calls Tryd.prog 75 #[.pointer (some ⟨g, 0, none⟩), .agg #[.int .i64 45, .int .i64 a, .int .i64 b, .int .i64 imm]] w (Stp w0 w9 g mb A n c ws ({ m with place := m.place + 1, inp := m.inp.extract 1 m.inp.size, r := m.r.set a (((m.inp[0]'he).toNat : Int) % 4294967296) }, none)) := by
  obtain ⟨W, W1, hW, hW1, k16, f16, j0, j1, j2, j3, ka, kb, fa, H⟩ := does_start h hp 45 a b imm ha hb
  have CA := Lib.hid (fun W' (hI : MI w0 w9 W' g mb A n c ws { m with place := m.place + 1 } cv ov) => getc_some hI he)
  have wi := h.ok.wi
  have hs : (m.inp.extract 1 m.inp.size).size ≤ 10000 := by rw [ByteArray.size_extract]; omega
  have HN := Lib.hid (fun k => (H.out.drewN k).setIn _ hs)
  clear h wi hs
  have bw : W32 (((m.inp[0]'he).toNat : Int) % 4294967296) := ⟨by omega, by omega⟩
  generalize ((m.inp[0]'he).toNat : Int) % 4294967296 = y at CA bw ⊢
  generalize m.inp.extract 1 m.inp.size = rest at CA HN ⊢
  obtain ⟨hp0, hp1⟩ := hp
  have a0 : (0 : Int) ≤ (a : Int) := Int.natCast_nonneg _
  have a1 : (a : Int) < 12 := by omega
  have b0 : (0 : Int) ≤ (b : Int) := Int.natCast_nonneg _
  have b1 : (b : Int) < 12 := by omega
  go_enter Tryd.func75, Tryd.ntmps75
  go_wp2_with fail
  go_quiet (fail)
  obtain ⟨W2, hW2⟩ : ∃ W2 : World, (W1.drewN nq).setCell ⟨g, 14, none⟩ (.string rest) = W2 := ⟨_, rfl⟩
  have H2 := Lib.hid (HN.out nq)
  rw [hW2] at H2
  have fa2 := H2.out.free (1 + a)
  have ka2 := H2.out.cR a ha
  go_wp2_with (go_at_call 89; refine (CA.out _ (H.out.drewN _)).mono ?_; rintro e w3 ⟨rfl, rfl⟩)
  go_end0
  exact Stp.fin (H2.out.setR a ha _ bw)

set_option maxRecDepth 100000 in
set_option maxHeartbeats 4000000 in
theorem does_reck (h : MI w0 w9 w g mb A n c ws m cv ov) (hp : -1099511527777 ≤ m.place ∧ m.place ≤ 1099511527775) (op : Int) (a b i : Nat) (ho : 5 ≤ op ∧ op ≤ 23) (ha : a < 12) (hb : b < 12) (hi : i < 12) :
    Calls Tryd.prog 75 #[.pointer (some ⟨g, 0, none⟩), .agg #[.int .i64 op, .int .i64 a, .int .i64 b, .int .i64 i]] w (Stp w0 w9 g mb A n c ws (match reck op (m.r.getD b 0) (m.r.getD i 0) with | none => ({ m with place := m.place + 1 }, some (2, 1)) | some v => ({ m with place := m.place + 1, r := m.r.set a v }, none))) := by
  obtain ⟨W, W1, hW, hW1, k16, f16, j0, j1, j2, j3, ka, kb, fa, H⟩ := does_start h hp op a b i ha hb
  have rb := h.rng b
  have ri := h.rng i
  have ki := H.out.cR i hi
  clear h
  obtain ⟨hp0, hp1⟩ := hp
  obtain ⟨ho0, ho1⟩ := ho
  have a0 : (0 : Int) ≤ (a : Int) := Int.natCast_nonneg _
  have a1 : (a : Int) < 12 := by omega
  have b0 : (0 : Int) ≤ (b : Int) := Int.natCast_nonneg _
  have b1 : (b : Int) < 12 := by omega
  have i0 : (0 : Int) ≤ (i : Int) := Int.natCast_nonneg _
  have i1 : (i : Int) < 12 := by omega
  have n1 : (op == 1) = false := by simp; omega
  have n3 : (op == 3) = false := by simp; omega
  have n24 : (op == 24) = false := by simp; omega
  have n25 : (op == 25) = false := by simp; omega
  have n26 : (op == 26) = false := by simp; omega
  have n4 : (op == 4) = false := by simp; omega
  have n27 : (op == 27) = false := by simp; omega
  have n28 : (op == 28) = false := by simp; omega
  have n29 : (op == 29) = false := by simp; omega
  have n45 : (op == 45) = false := by simp; omega
  have n46 : (op == 46) = false := by simp; omega
  have n47 : (op == 47) = false := by simp; omega
  have n48 : (op == 48) = false := by simp; omega
  have o5 : decide ((5 : Int) ≤ op) = true := decide_eq_true ho0
  have o23 : decide (op ≤ (23 : Int)) = true := decide_eq_true ho1
  generalize m.r.getD b 0 = vb at kb rb ⊢
  change W1.cell? _ = some (.int .u32 (m.r.getD i 0)) at ki
  generalize m.r.getD i 0 = vi at ki ri ⊢
  cases hv : reck op vb vi with
  | none =>
    have CR := Lib.hid (fun W' => reck_no op vb vi W' hv)
    clear hv rb ri ho0 ho1
    go_enter Tryd.func75, Tryd.ntmps75
    go_wp2_with fail
    go_quiet (fail)
    go_wp2_with fail
    go_region_with (go_at_call 90; refine (CR.out _).mono ?_; rintro e w3 ⟨rfl, rfl⟩; refine spare Tryd.prog w ⟨rfl, Stp.trap (H.out.drewN _) 2 1⟩ ?_)
    all_goals trivial
  | some v =>
    have hr := reck_rng rb ri hv
    have CR := Lib.hid (fun W' => reck_yes op vb vi W' ho0 ho1 rb ri v hv)
    clear hv rb ri ho0 ho1
    go_enter Tryd.func75, Tryd.ntmps75
    go_wp2_with fail
    go_quiet (fail)
    go_wp2_with fail
    go_region_with (go_at_call 90; refine (CR.out _).mono ?_; rintro e w3 ⟨rfl, rfl⟩)
    all_goals
      go_wp2_with fail
      refine bodyPost_ret (results_none rfl _ _ _) rfl ?_
      exact Stp.fin ((H.out.drewN _).setR a ha _ hr)
end

end Go.Proofs.YtamimnaafiphcaaDoor
