/- The law ListShows, plainly, and its contract. -/
import Derived.Test.YtlhgfhmdhmgmpaaGreatDoorPuSZ
import Derived.Test.YtlhgfhmdhmgmpaaGreatDoorPZ3B
set_option linter.unusedVariables false
set_option linter.unusedSimpArgs false
namespace Go.Proofs.YtlhgfhmdhmgmpaaGreatDoor.PZ3
open Go.RowKit Go.Proofs.YtlhgfhmdhmgmpaaGreatDoorW.PrintWords Go.Proofs.YtlhgfhmdhmgmpaaGreatDoorW.PrintLast Go.Proofs.YtlhgfhmdhmgmpaaGreatDoorW.PrintMore

theorem copy18_f {W K D : List Int} {e : Int} (hW : W.length < 35184372088832) (hK : K.length < 17592186044416) (hD : D.length < 35184372088832) : switchbacklaw18_Copy.f W K D e = some (W, K, D, e) := by
  unfold switchbacklaw18_Copy.f
  rw [if_pos (by simpa using hW), if_pos (by simpa using hK), if_pos (by simpa using hD)]
  rfl

section
variable (W K D : List Int) (e : Int)

theorem same_l2 (hD : D.length ≤ 1000000000) : ∀ (n i : Nat), D.length - i = n → i ≤ D.length → Ev (fun k => switchbacklaw18_Same.l2 k (i : Int) W K D e W K D e) true := by
  intro n
  induction n with
  | zero =>
    intro i hn hi
    refine Ev.step (f := fun _ => some true) (fun k => ?_) (Ev.now _)
    rw [switchbacklaw18_Same.l2, if_neg (by omega)]
  | succ n ih =>
    intro i hn hi
    refine Ev.step (f := fun k => switchbacklaw18_Same.l2 k ((i + 1 : Nat) : Int) W K D e W K D e) (fun k => ?_) (ih (i + 1) (by omega) (by omega))
    rw [switchbacklaw18_Same.l2, if_pos (by omega), if_pos (by omega), if_pos (by omega), if_pos rfl, show wrap64 ((i : Int) + 1) = ((i + 1 : Nat) : Int) by unfold wrap64; omega]

theorem same_l1 (hK : K.length ≤ 1000000000) (hD : D.length ≤ 1000000000) : ∀ (n i : Nat), K.length - i = n → i ≤ K.length → Ev (fun k => switchbacklaw18_Same.l1 k (i : Int) W K D e W K D e) true := by
  intro n
  induction n with
  | zero =>
    intro i hn hi
    refine Ev.step (f := fun k => switchbacklaw18_Same.l2 k 0 W K D e W K D e) (fun k => ?_) (same_l2 W K D e hD D.length 0 (by omega) (by omega))
    rw [switchbacklaw18_Same.l1, if_neg (by omega)]
  | succ n ih =>
    intro i hn hi
    refine Ev.step (f := fun k => switchbacklaw18_Same.l1 k ((i + 1 : Nat) : Int) W K D e W K D e) (fun k => ?_) (ih (i + 1) (by omega) (by omega))
    rw [switchbacklaw18_Same.l1, if_pos (by omega), if_pos (by omega), if_pos (by omega), if_pos rfl, show wrap64 ((i : Int) + 1) = ((i + 1 : Nat) : Int) by unfold wrap64; omega]

theorem same_l0 (hW : W.length ≤ 1000000000) (hK : K.length ≤ 1000000000) (hD : D.length ≤ 1000000000) : ∀ (n i : Nat), W.length - i = n → i ≤ W.length → Ev (fun k => switchbacklaw18_Same.l0 k (i : Int) W K D e W K D e) true := by
  intro n
  induction n with
  | zero =>
    intro i hn hi
    refine Ev.step (f := fun k => switchbacklaw18_Same.l1 k 0 W K D e W K D e) (fun k => ?_) (same_l1 W K D e hK hD K.length 0 (by omega) (by omega))
    rw [switchbacklaw18_Same.l0, if_neg (by omega)]
  | succ n ih =>
    intro i hn hi
    refine Ev.step (f := fun k => switchbacklaw18_Same.l0 k ((i + 1 : Nat) : Int) W K D e W K D e) (fun k => ?_) (ih (i + 1) (by omega) (by omega))
    rw [switchbacklaw18_Same.l0, if_pos (by omega), if_pos (by omega), if_pos (by omega), if_pos rfl, show wrap64 ((i : Int) + 1) = ((i + 1 : Nat) : Int) by unfold wrap64; omega]

theorem same18_f (hW : W.length ≤ 1000000000) (hK : K.length ≤ 1000000000) (hD : D.length ≤ 1000000000) : Ev (fun k => switchbacklaw18_Same.f k W K D e W K D e) true := by
  unfold switchbacklaw18_Same.f
  simp only [if_true]
  refine Ev.step (f := fun k => switchbacklaw18_Same.l0 k 0 W K D e W K D e) (fun k => ?_) (same_l0 W K D e hW hK hD W.length 0 (by omega) (by omega))
  rw [switchbacklaw18_Same.j0, if_neg (by simp)]
end

theorem shows_f (W K D : List Int) (e : Int) (hW : W.length ≤ 1100000) (hK : K.length ≤ 1000000000) (hD : D.length ≤ 1100000) (w1 : W.all inW = true) (w2 : D.all inW = true) (h0 : -9223372036854775808 ≤ e) (h1 : e ≤ 9223372036854775807) : Ev (fun k => switchbacklaw22_ListShows.f k W K D e) true := by
  obtain ⟨n, hn⟩ := same18_f W K D e (by omega) hK (by omega)
  refine ⟨n, fun k hk => ?_⟩
  show switchbacklaw22_ListShows.f k W K D e = some true
  have e1 : list_Show.f W K D e = some ⟨(showP W K D e).toArray⟩ := by unfold list_Show.f; exact if_pos ⟨w1, w2, h0, h1, hW, hK, hD⟩
  have e2 : switchbackref22_Show.f W K D e = some ⟨(showP W K D e).toArray⟩ := by unfold switchbackref22_Show.f; exact if_pos ⟨w1, w2, h0, h1, hW, hK, hD⟩
  unfold switchbacklaw22_ListShows.f
  rw [copy18_f (by omega) (by omega) (by omega), Option.bind_some, e1, Option.bind_some]
  unfold switchbacklaw22_live.f
  rw [Option.bind_some, if_pos rfl, e2, Option.bind_some, if_pos rfl]
  have := hn k hk
  simp only at this
  rw [this]
  rfl

theorem shows_row (W K D : List Int) (e : Int) {A0 A1 A2 : Option Addr} {c0 c1 c2 : Nat} (w : World) (hL : SLaid w) (l0 : Kd.C (Kd.int .u32) w A0 W.length W) (w0 : ∀ y ∈ W, (Lit.int .u32 y).wf = true) (k0 : W.length ≤ c0) (l1 : Kd.C (Kd.int .i64) w A1 K.length K) (k1 : K.length ≤ c1) (l2 : Kd.C (Kd.int .u32) w A2 D.length D) (w2 : ∀ y ∈ D, (Lit.int .u32 y).wf = true) (k2 : D.length ≤ c2) (we : (Lit.int .i64 e).wf = true)
    (hW : W.length ≤ 1100000) (hK : K.length ≤ 1100000) (hD : D.length ≤ 1100000) :
    Calls Tryz.prog 5 #[.agg #[.slice A0 W.length c0, .slice A1 K.length c1, .slice A2 D.length c2, .int .i64 e]] w fun e w' => e = .returned (.bool true) ∧ Below w.heap.size w w' := by
  have hu : ∀ (l : List Int), (∀ y ∈ l, (Lit.int .u32 y).wf = true) → l.all inW = true := fun l h => List.all_eq_true.2 fun y hy => by
    have := bounds_u32 (h y hy)
    unfold inW
    simp only [Bool.and_eq_true, decide_eq_true_eq]
    omega
  have he := bounds_i64 we
  obtain ⟨k, hk⟩ := (shows_f W K D e hW (by omega) hD (hu W w0) (hu D w2) he.1 he.2).rounds
  exact switchbacklaw22_ListShows.calls k A0 c0 W A1 c1 K A2 c2 D e true w l0 k0 l1 k1 l2 k2 (Aside0.mk hL) hk

end Go.Proofs.YtlhgfhmdhmgmpaaGreatDoor.PZ3
