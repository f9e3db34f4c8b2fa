/- Texts joined: EmL EmN EmM2. -/
import Derived.Test.YtamimnaafiphcaaDoorEmJ
import Derived.Test.YtamimnaafiphcaaDoorEmK
import Derived.Test.YtamimnaafiphcaaDoorEmZ1
import Derived.Tactics2
import Derived.Defers
import Derived.Recover
import Derived.Laws.Pointers
import Derived.Lib.SmallJoins
set_option linter.unusedVariables false
set_option linter.unusedSimpArgs false
namespace Go.Proofs.YtamimnaafiphcaaDoor
open Go.RowKit Go.Proofs.YtamimnaafiphcaaDoorW.PrintWords Go.Maps Go.Joins

theorem size_drewN (w : World) (k : Nat) : (w.drewN k).heap.size = w.heap.size := by
  induction k with
  | zero => rfl
  | succ k ih => exact ih

section
variable {w0 w9 w : World} {g mb : Nat} {A : Option Addr} {n c : Nat} {ws : List Int} {m : Mach} {cv ov : Value}

set_option maxRecDepth 100000 in
set_option maxHeartbeats 4000000 in
theorem does_ldt (h : MI w0 w9 w g mb A n c ws m cv ov) (hp : -1099511527777 ≤ m.place ∧ m.place ≤ 1099511527775) (a b : Nat) (imm : Int) (ha : a < 12) (hb : b < 12) (hi : -32768 ≤ imm ∧ imm ≤ 32767) (hq2 : 524288 ≤ memAt m b imm) :
    Calls Tryd.prog 75 #[.pointer (some ⟨g, 0, none⟩), .agg #[.int .i64 27, .int .i64 a, .int .i64 b, .int .i64 imm]] w (Stp w0 w9 g mb A n c ws ({ m with place := m.place + 1 }, some (2, 6))) := by
  obtain ⟨W, W1, hW, hW1, k16, f16, j0, j1, j2, j3, ka, kb, fa, H⟩ := does_start h hp 27 a b imm ha hb
  have CA := Lib.hid (fun W' (hI : MI w0 w9 W' g mb A n c ws { m with place := m.place + 1 } cv ov) => at_out hI 27 a b imm hb hi _ rfl hq2)
  clear h hq2
  obtain ⟨hp0, hp1⟩ := hp
  have a0 : (0 : Int) ≤ (a : Int) := Int.natCast_nonneg _
  have a1 : (a : Int) < 12 := by omega
  have b0 : (0 : Int) ≤ (b : Int) := Int.natCast_nonneg _
  have b1 : (b : Int) < 12 := by omega
  clear hi
  go_enter Tryd.func75, Tryd.ntmps75
  go_wp2_with fail
  go_quiet (fail)
  go_wp2_with fail
  refine (CA.out _ (H.out.drewN _)).mono ?_
  rintro e w3 ⟨rfl, hb3⟩
  exact ⟨rfl, Stp.trap ((H.out.drewN nq).below hb3) 2 6⟩

set_option maxRecDepth 100000 in
set_option maxHeartbeats 4000000 in
theorem does_st (h : MI w0 w9 w g mb A n c ws m cv ov) (hp : -1099511527777 ≤ m.place ∧ m.place ≤ 1099511527775) (a b : Nat) (imm : Int) (ha : a < 12) (hb : b < 12) (hi : -32768 ≤ imm ∧ imm ≤ 32767) (q : Nat) (hq : memAt m b imm = q) (hq2 : q < 524288) :
    Calls Tryd.prog 75 #[.pointer (some ⟨g, 0, none⟩), .agg #[.int .i64 28, .int .i64 a, .int .i64 b, .int .i64 imm]] w (Stp w0 w9 g mb A n c ws ({ m with place := m.place + 1, mem := m.mem.set q (m.r.getD a 0) }, none)) := by
  obtain ⟨W, W1, hW, hW1, k16, f16, j0, j1, j2, j3, ka, kb, fa, H⟩ := does_start h hp 28 a b imm ha hb
  have ra := h.rng a
  have CA := Lib.hid (fun W' (hI : MI w0 w9 W' g mb A n c ws { m with place := m.place + 1 } cv ov) => at_in hI 28 a b imm hb hi q hq hq2)
  clear h hq
  obtain ⟨hp0, hp1⟩ := hp
  have a0 : (0 : Int) ≤ (a : Int) := Int.natCast_nonneg _
  have a1 : (a : Int) < 12 := by omega
  have b0 : (0 : Int) ≤ (b : Int) := Int.natCast_nonneg _
  have b1 : (b : Int) < 12 := by omega
  have HR := Lib.hid ra
  clear hi ra
  go_enter Tryd.func75, Tryd.ntmps75
  go_wp2_with fail
  go_quiet (fail)
  go_wp2_with fail
  go_region_with (go_at_call 88; (with_reducible refine (CA.out _ (H.out.drewN _)).mono ?_); rintro e w3 ⟨rfl, hb3⟩; have H3 := Lib.hid ((H.out.drewN (nq + 1)).below hb3); have ka3 := H3.out.cR a ha; have f3 := H3.out.fM q; have m3 := H3.out.cM q hq2; clear hb3)
  all_goals
    go_wp2_with fail
    go_end0
    exact Stp.fin (H3.out.setMem q _ HR.out)

set_option maxRecDepth 100000 in
set_option maxHeartbeats 4000000 in
theorem does_stt (h : MI w0 w9 w g mb A n c ws m cv ov) (hp : -1099511527777 ≤ m.place ∧ m.place ≤ 1099511527775) (a b : Nat) (imm : Int) (ha : a < 12) (hb : b < 12) (hi : -32768 ≤ imm ∧ imm ≤ 32767) (hq2 : 524288 ≤ memAt m b imm) :
    Calls Tryd.prog 75 #[.pointer (some ⟨g, 0, none⟩), .agg #[.int .i64 28, .int .i64 a, .int .i64 b, .int .i64 imm]] w (Stp w0 w9 g mb A n c ws ({ m with place := m.place + 1 }, some (2, 6))) := by
  obtain ⟨W, W1, hW, hW1, k16, f16, j0, j1, j2, j3, ka, kb, fa, H⟩ := does_start h hp 28 a b imm ha hb
  have CA := Lib.hid (fun W' (hI : MI w0 w9 W' g mb A n c ws { m with place := m.place + 1 } cv ov) => at_out hI 28 a b imm hb hi _ rfl hq2)
  clear h hq2
  obtain ⟨hp0, hp1⟩ := hp
  have a0 : (0 : Int) ≤ (a : Int) := Int.natCast_nonneg _
  have a1 : (a : Int) < 12 := by omega
  have b0 : (0 : Int) ≤ (b : Int) := Int.natCast_nonneg _
  have b1 : (b : Int) < 12 := by omega
  clear hi
  go_enter Tryd.func75, Tryd.ntmps75
  go_wp2_with fail
  go_quiet (fail)
  go_wp2_with fail
  go_region_with (go_at_call 88; (with_reducible refine (CA.out _ (H.out.drewN _)).mono ?_); rintro e w3 ⟨rfl, hb3⟩; refine spare Tryd.prog w ⟨rfl, Stp.trap ((H.out.drewN (nq + 1)).below hb3) 2 6⟩ ?_)
  all_goals trivial

set_option maxRecDepth 100000 in
set_option maxHeartbeats 4000000 in
theorem does_putc (h : MI w0 w9 w g mb A n c ws m cv ov) (hp : -1099511527777 ≤ m.place ∧ m.place ≤ 1099511527775) (a b : Nat) (imm : Int) (ha : a < 12) (hb : b < 12) (hl : (m.out.length : Int) < m.steps) :
    Calls Tryd.prog 75 #[.pointer (some ⟨g, 0, none⟩), .agg #[.int .i64 46, .int .i64 a, .int .i64 b, .int .i64 imm]] w (Stp w0 w9 g mb A n c ws ({ m with place := m.place + 1, out := m.out ++ [m.r.getD a 0 % 256] }, none)) := by
  obtain ⟨W, W1, hW, hW1, k16, f16, j0, j1, j2, j3, ka, kb, fa, H⟩ := does_start h hp 46 a b imm ha hb
  have k17 := H.out.c17
  have f17 := H.out.free 17
  obtain ⟨Ao, co, eo⟩ := ownShape H.out.out
  rw [eo] at k17
  have hlo : m.out.length ≤ 1000000 := by have := h.ok.ws; have := h.ok.no; omega
  generalize m.r.getD a 0 = va at ka ⊢
  clear h
  obtain ⟨hp0, hp1⟩ := hp
  have a0 : (0 : Int) ≤ (a : Int) := Int.natCast_nonneg _
  have a1 : (a : Int) < 12 := by omega
  have b0 : (0 : Int) ≤ (b : Int) := Int.natCast_nonneg _
  have b1 : (b : Int) < 12 := by omega
  have EO := Lib.hid eo
  clear eo
  go_enter Tryd.func75, Tryd.ntmps75
  go_wp2_with fail
  go_quiet (fail)
  go_wp2_with fail
  have HA := Lib.hid ((H.out.drewN (nq + 1)).alloc (.cells #[.int .u8 (va % 256)] 5))
  have OA := Lib.hid (show ((W1.drewN (nq + 1)).alloc (.cells #[.int .u8 (va % 256)] 5)).ownsRow w9.heap.size 5 1 (.slice Ao m.out.length co) m.out.length (m.out.map (Value.int .u8)) by rw [← EO.out]; exact HA.out.out)
  have k17a := HA.out.c17
  rw [EO.out] at k17a
  have BA := Lib.hid HA.out.s9
  have on := one_new (W1.drewN (nq + 1)) .u8 (va % 256) 5
  rw [size_drewN] at on
  have ON := Lib.hid on
  clear on
  have e8 : IntKind.u8.wrap va = va % 256 := by simp [IntKind.wrap, IntKind.bits, IntKind.signed]
  go_region_law (refine ap_step 96 5 (k := .u8) (bytes := 1) tyBytes infoByte (by decide) rfl (.tmp 133) (.tmp 138) rfl w9.heap.size (.slice Ao m.out.length co) m.out.length m.out rfl OA.out ⟨W1.heap.size, 0, none⟩ 1 1 [va % 256] rfl rfl ON.out (by decide) (by omega) BA.out ?_; intro gq capq w2 ho hg _ _; rw [← EO.out] at hg; have hp := Lib.hid (HA.out.pushOut hg ho hl); have q17 := (World.cell?_of_block (a := ⟨g, 17, none⟩) (HA.out.farO hg)).trans HA.out.c17; have e17 := (World.frozen?_of_block (a := ⟨g, 17, none⟩) (HA.out.farO hg)).trans (HA.out.free 17); clear ho hg)
  all_goals
    go_wp2_with fail
    go_end0
    exact Stp.fin hp.out
end

end Go.Proofs.YtamimnaafiphcaaDoor

namespace Go.Proofs.YtamimnaafiphcaaDoor
open Go.RowKit Go.Joins

theorem catch_idle (p : Addr) (w : World) :
    CallsD Tryd.prog 72 #[.pointer (some p)] .returning w fun e u' w' => e = .returned (.tuple #[]) ∧ u' = .returning ∧ w' = w := by
  refine callsD_of_wpS Tryd.func72 rfl fun c₀ cs hu => ?_
  apply wpS_seq
  apply wpS_region
  simp [wpOpsS, go_sem, recoverD, hu, Tryd.ntmps72, Exit.thenS]
  refine wpS_of_wp ?_
  go_wp2
  cases c₀
  simp_all [bodyPostS, results, Tryd.results72]

set_option maxRecDepth 100000 in
theorem catch_stop (hb : Nat) (k x k0 x0 : Int) (older : List PanicEntry) (w : World) (h : w.heap[hb]? = some (.cells #[.int .i64 k0, .int .u32 x0] 100 (0, 0))) :
    CallsD Tryd.prog 72 #[.pointer (some ⟨hb, 0, none⟩)] (.panicking ({ v := .iface 100 (.agg #[.int .i64 k, .int .u32 x]), recovered := false } :: older)) w fun e u' w' =>
      e = .returned (.tuple #[]) ∧ u' = .panicking ({ v := .iface 100 (.agg #[.int .i64 k, .int .u32 x]), recovered := true } :: older) ∧ w' = ((w.setCell ⟨hb, 0, none⟩ (.int .i64 k)).setCell ⟨hb, 1, none⟩ (.int .u32 x)).alloc (.cells #[.int .i64 k, .int .u32 x] 100) := by
  have hlt : hb < w.heap.size := (Array.getElem?_eq_some_iff.1 h).1
  refine callsD_of_wpS Tryd.func72 rfl fun c₀ cs hu => ?_
  apply wpS_seq
  apply wpS_region
  simp [wpOpsS, go_sem, recoverD, hu, Tryd.ntmps72, Exit.thenS]
  refine wpS_of_wp ?_
  have ha : ∀ (p v : Value), (#[p] ++ (Array.replicate 10 undef).setIfInBounds 3 v) = #[p, undef, undef, undef, v, undef, undef, undef, undef, undef, undef] := fun _ _ => rfl
  rw [ha]
  clear ha
  have hta : ∀ (v : Value) (W : World), (Instr.typeAssert (.iface 100 v) 20 100 true).run Tryd.prog W = .ok (.tuple #[v, .bool true]) W := fun v W => by rfl
  have hun := Tryd.underlying100
  have q0 : w.cell? ⟨hb, 0, none⟩ = some (.int .i64 k0) := cell_of_block h 0
  have q1 : w.cell? ⟨hb, 1, none⟩ = some (.int .u32 x0) := cell_of_block h 1
  have g0 : w.frozen? ⟨hb, 0, none⟩ = false := unfrozen_of_block h 0
  have g1 : w.frozen? ⟨hb, 1, none⟩ = false := unfrozen_of_block h 1
  have q0a : (w.alloc (.cells #[.int .i64 k, .int .u32 x] 100)).cell? ⟨hb, 0, none⟩ = some (.int .i64 k0) := ka _ q0
  have q1a : (w.alloc (.cells #[.int .i64 k, .int .u32 x] 100)).cell? ⟨hb, 1, none⟩ = some (.int .u32 x0) := ka _ q1
  have g0a : (w.alloc (.cells #[.int .i64 k, .int .u32 x] 100)).frozen? ⟨hb, 0, none⟩ = false := kaf _ q0 g0
  have g1a : (w.alloc (.cells #[.int .i64 k, .int .u32 x] 100)).frozen? ⟨hb, 1, none⟩ = false := kaf _ q1 g1
  have r1 : ((w.setCell ⟨hb, 0, none⟩ (.int .i64 k)).alloc (.cells #[.int .i64 k, .int .u32 x] 100)).cell? ⟨hb, 1, none⟩ = some (.int .u32 x0) := ka _ (by rw [World.cell?_setCell_other _ _ _ _ (by simp)]; exact q1)
  go_wp2
  refine ⟨rfl, _, rfl, .tuple #[], ?_, rfl, rfl, rfl⟩
  simp [results, Tryd.results72]

end Go.Proofs.YtamimnaafiphcaaDoor

namespace Go.Proofs.YtamimnaafiphcaaDoor
open Go.RowKit Go.Proofs.YtamimnaafiphcaaDoorW.PrintWords Go.Maps Go.Joins

def doesP (ws : List Int) (m : Mach) (op : Int) (a b : Nat) (imm : Int) : Mach × Option (Int × Int) :=
  let m1 := { m with place := m.place + 1 }
  if op = 1 then ({ m with place := m.place + 1, r := m.r.set a (imm % 4294967296) }, none) else
  if op = 3 then ({ m with place := m.place + 1, r := m.r.set a (m.r.getD b 0) }, none) else
  if op = 24 then ({ m with place := m.place + 1, r := m.r.set a (-(m.r.getD b 0) % 4294967296) }, none) else
  if op = 25 then ({ m with place := m.place + 1, r := m.r.set a (bits BinOp.xor IntKind.u32 IntKind.u32.max (m.r.getD b 0)) }, none) else
  if op = 26 then ({ m with place := m.place + 1, r := m.r.set a (m.r.getD b 0 % 256) }, none) else
  if op = 4 then ({ m with place := m.place + 1, r := m.r.set a ((m.r.getD b 0 + imm) % 4294967296) }, none) else
  if op = 27 then (if 524288 ≤ memAt m b imm then (m1, some (2, 6)) else ({ m with place := m.place + 1, r := m.r.set a (m.mem.getD (memAt m b imm).toNat 0) }, none)) else
  if op = 28 then (if 524288 ≤ memAt m b imm then (m1, some (2, 6)) else ({ m with place := m.place + 1, mem := m.mem.set (memAt m b imm).toNat (m.r.getD a 0) }, none)) else
  if op = 29 then (if m.r.getD b 0 ≤ m.r.getD a 0 then (m1, some (2, 2)) else (m1, none)) else
  if op = 45 then (if he : 0 < m.inp.size then ({ m with place := m.place + 1, inp := m.inp.extract 1 m.inp.size, r := m.r.set a (((m.inp[0]'he).toNat : Int) % 4294967296) }, none) else ({ m with place := m.place + 1, r := m.r.set a 4294967295 }, none)) else
  if op = 46 then ({ m with place := m.place + 1, out := m.out ++ [m.r.getD a 0 % 256] }, none) else
  if op = 47 then (m1, some (1, m.r.getD a 0)) else
  if op = 48 then (m1, some (2, imm % 4294967296)) else
  if 5 ≤ op ∧ op ≤ 23 then (match reck op (m.r.getD b 0) (m.r.getD imm.toNat 0) with | none => (m1, some (2, 1)) | some v => ({ m with place := m.place + 1, r := m.r.set a v }, none)) else
  jumpP ws m1 op a b imm (m.place + 1)

section
variable {w0 w9 w : World} {g mb : Nat} {A : Option Addr} {n c : Nat} {ws : List Int} {m : Mach} {cv ov : Value}

theorem memAt_lo (m : Mach) (b : Nat) (imm : Int) : 0 ≤ memAt m b imm := by unfold memAt; omega

set_option maxRecDepth 100000 in
set_option maxHeartbeats 4000000 in
theorem does_jump (h : MI w0 w9 w g mb A n c ws m cv ov) (hp : -1099511527777 ≤ m.place ∧ m.place ≤ 1099511527775) (op : Int) (a b : Nat) (imm : Int) (ho : op = 2 ∨ 30 ≤ op ∧ op ≤ 44) (ha : a < 12) (hb : b < 12) (hi : -32768 ≤ imm ∧ imm ≤ 32767) :
    Calls Tryd.prog 75 #[.pointer (some ⟨g, 0, none⟩), .agg #[.int .i64 op, .int .i64 a, .int .i64 b, .int .i64 imm]] w (Stp w0 w9 g mb A n c ws (jumpP ws { m with place := m.place + 1 } op a b imm (m.place + 1))) := by
  obtain ⟨W, W1, hW, hW1, k16, f16, j0, j1, j2, j3, ka, kb, fa, H⟩ := does_start h hp op a b imm ha hb
  have CJ := Lib.hid (fun W' (hI : MI w0 w9 W' g mb A n c ws { m with place := m.place + 1 } cv ov) => jump_any hI op a b imm (m.place + 1) ho ha hb hi ⟨by omega, by omega⟩)
  clear h hi
  generalize jumpP ws { m with place := m.place + 1 } op a b imm (m.place + 1) = res at CJ ⊢
  obtain ⟨hp0, hp1⟩ := hp
  have a0 : (0 : Int) ≤ (a : Int) := Int.natCast_nonneg _
  have a1 : (a : Int) < 12 := by omega
  have b0 : (0 : Int) ≤ (b : Int) := Int.natCast_nonneg _
  have b1 : (b : Int) < 12 := by omega
  have n1 : (op == 1) = false := by simp; omega
  have n3 : (op == 3) = false := by simp; omega
  have n24 : (op == 24) = false := by simp; omega
  have n25 : (op == 25) = false := by simp; omega
  have n26 : (op == 26) = false := by simp; omega
  have n4 : (op == 4) = false := by simp; omega
  have n27 : (op == 27) = false := by simp; omega
  have n28 : (op == 28) = false := by simp; omega
  have n29 : (op == 29) = false := by simp; omega
  have n45 : (op == 45) = false := by simp; omega
  have n46 : (op == 46) = false := by simp; omega
  have n47 : (op == 47) = false := by simp; omega
  have n48 : (op == 48) = false := by simp; omega
  obtain ⟨m2, rr⟩ := res
  rcases ho with ho | ⟨ho0, ho1⟩
  · have o5 : decide ((5 : Int) ≤ op) = false := by simp; omega
    clear ho
    cases rr with
    | none =>
      go_enter Tryd.func75, Tryd.ntmps75
      go_wp2_with fail
      go_quiet (fail)
      go_wp2_with (go_at_call 91; refine (CJ.out _ (H.out.drewN _)).mono ?_; rintro e w3 ⟨cv2, ov2, hM, rfl⟩)
      go_end0
      exact Stp.fin hM
    | some kx =>
      obtain ⟨k, x⟩ := kx
      go_enter Tryd.func75, Tryd.ntmps75
      go_wp2_with fail
      go_quiet (fail)
      go_wp2_with (go_at_call 91; refine (CJ.out _ (H.out.drewN _)).mono ?_; rintro e w3 ⟨cv2, ov2, hM, rfl⟩)
      exact ⟨rfl, Stp.trap hM k x⟩
  · have o5 : decide ((5 : Int) ≤ op) = true := by simp; omega
    have o23 : decide (op ≤ (23 : Int)) = false := by simp; omega
    clear ho0 ho1
    cases rr with
    | none =>
      go_enter Tryd.func75, Tryd.ntmps75
      go_wp2_with fail
      go_quiet (fail)
      go_wp2_with (go_at_call 91; refine (CJ.out _ (H.out.drewN _)).mono ?_; rintro e w3 ⟨cv2, ov2, hM, rfl⟩)
      go_end0
      exact Stp.fin hM
    | some kx =>
      obtain ⟨k, x⟩ := kx
      go_enter Tryd.func75, Tryd.ntmps75
      go_wp2_with fail
      go_quiet (fail)
      go_wp2_with (go_at_call 91; refine (CJ.out _ (H.out.drewN _)).mono ?_; rintro e w3 ⟨cv2, ov2, hM, rfl⟩)
      exact ⟨rfl, Stp.trap hM k x⟩

theorem does_any (h : MI w0 w9 w g mb A n c ws m cv ov) (hp : -1099511527777 ≤ m.place ∧ m.place ≤ 1099511527775) (op : Int) (a b : Nat) (imm : Int) (ho : 1 ≤ op ∧ op ≤ 48) (ha : a < 12) (hb : b < 12) (hi : -32768 ≤ imm ∧ imm ≤ 32767) (hr : 5 ≤ op ∧ op ≤ 23 → 0 ≤ imm ∧ imm < 12) (hl : (m.out.length : Int) < m.steps) :
    Calls Tryd.prog 75 #[.pointer (some ⟨g, 0, none⟩), .agg #[.int .i64 op, .int .i64 a, .int .i64 b, .int .i64 imm]] w (Stp w0 w9 g mb A n c ws (doesP ws m op a b imm)) := by
  by_cases h1 : op = 1
  · subst h1; exact does_li h hp a b imm ha hb hi
  by_cases h3 : op = 3
  · subst h3; exact does_mov h hp a b imm ha hb hi
  by_cases h24 : op = 24
  · subst h24; exact does_neg h hp a b imm ha hb hi
  by_cases h25 : op = 25
  · subst h25; exact does_not h hp a b imm ha hb hi
  by_cases h26 : op = 26
  · subst h26; exact does_low h hp a b imm ha hb hi
  by_cases h4 : op = 4
  · subst h4; exact does_addi h hp a b imm ha hb hi
  by_cases h27 : op = 27
  · subst h27
    have e : doesP ws m 27 a b imm = (if 524288 ≤ memAt m b imm then ({ m with place := m.place + 1 }, some (2, 6)) else ({ m with place := m.place + 1, r := m.r.set a (m.mem.getD (memAt m b imm).toNat 0) }, none)) := rfl
    rw [e]
    have hlo := memAt_lo m b imm
    by_cases hq : 524288 ≤ memAt m b imm
    · rw [if_pos hq]; exact does_ldt h hp a b imm ha hb hi hq
    · rw [if_neg hq]; exact does_ld h hp a b imm ha hb hi (memAt m b imm).toNat (by omega) (by omega)
  by_cases h28 : op = 28
  · subst h28
    have e : doesP ws m 28 a b imm = (if 524288 ≤ memAt m b imm then ({ m with place := m.place + 1 }, some (2, 6)) else ({ m with place := m.place + 1, mem := m.mem.set (memAt m b imm).toNat (m.r.getD a 0) }, none)) := rfl
    rw [e]
    have hlo := memAt_lo m b imm
    by_cases hq : 524288 ≤ memAt m b imm
    · rw [if_pos hq]; exact does_stt h hp a b imm ha hb hi hq
    · rw [if_neg hq]; exact does_st h hp a b imm ha hb hi (memAt m b imm).toNat (by omega) (by omega)
  by_cases h29 : op = 29
  · subst h29
    have e : doesP ws m 29 a b imm = (if m.r.getD b 0 ≤ m.r.getD a 0 then ({ m with place := m.place + 1 }, some (2, 2)) else ({ m with place := m.place + 1 }, none)) := rfl
    rw [e]
    by_cases hq : m.r.getD b 0 ≤ m.r.getD a 0
    · rw [if_pos hq]; exact does_chkt h hp a b imm ha hb hi hq
    · rw [if_neg hq]; exact does_chk h hp a b imm ha hb hi hq
  by_cases h45 : op = 45
  · subst h45
    have e : doesP ws m 45 a b imm = (if he : 0 < m.inp.size then ({ m with place := m.place + 1, inp := m.inp.extract 1 m.inp.size, r := m.r.set a (((m.inp[0]'he).toNat : Int) % 4294967296) }, none) else ({ m with place := m.place + 1, r := m.r.set a 4294967295 }, none)) := rfl
    rw [e]
    by_cases hq : 0 < m.inp.size
    · rw [dif_pos hq]; exact does_getc1 h hp a b imm ha hb hq
    · rw [dif_neg hq]; exact does_getc0 h hp a b imm ha hb (by
        have hz : m.inp.size = 0 := by omega
        exact ByteArray.ext (Array.eq_empty_of_size_eq_zero hz))
  by_cases h46 : op = 46
  · subst h46; exact does_putc h hp a b imm ha hb hl
  by_cases h47 : op = 47
  · subst h47; exact does_exit h hp a b imm ha hb hi
  by_cases h48 : op = 48
  · subst h48; exact does_trap h hp a b imm ha hb hi
  have e0 : doesP ws m op a b imm = if 5 ≤ op ∧ op ≤ 23 then (match reck op (m.r.getD b 0) (m.r.getD imm.toNat 0) with | none => ({ m with place := m.place + 1 }, some (2, 1)) | some v => ({ m with place := m.place + 1, r := m.r.set a v }, none)) else jumpP ws { m with place := m.place + 1 } op a b imm (m.place + 1) := by
    unfold doesP
    simp only [h1, h3, h24, h25, h26, h4, h27, h28, h29, h45, h46, h47, h48, if_false]
  rw [e0]
  by_cases h5 : 5 ≤ op ∧ op ≤ 23
  · rw [if_pos h5]
    obtain ⟨i0, i1⟩ := hr h5
    obtain ⟨i, rfl⟩ : ∃ i : Nat, imm = i := ⟨imm.toNat, by omega⟩
    exact does_reck h hp op a b i h5 ha hb (by omega)
  · rw [if_neg h5]
    exact does_jump h hp op a b imm (by omega) ha hb hi
end

end Go.Proofs.YtamimnaafiphcaaDoor
