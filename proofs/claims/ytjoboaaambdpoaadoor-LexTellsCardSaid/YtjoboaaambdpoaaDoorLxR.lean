/- lex's scanner: char: walked. Printed by gen_lxr.py. -/
import Derived.Test.YtjoboaaambdpoaaDoorLxQ
set_option linter.unusedVariables false
set_option linter.unusedSimpArgs false
namespace Go.Proofs.YtjoboaaambdpoaaDoor
open Go.RowKit Go.Proofs.YtjoboaaambdpoaaDoorW.PrintWords Go.Maps Go.Joins

/-- A character's number, and its bytes (0: none); a b d: the bytes behind the quote. -/
def charP (sz k : Nat) (a b d : Int) : Int × Int :=
  if sz ≤ k + 2 ∨ a = 39 ∨ a = 10 then (0, 0)
  else if a ≠ 92 then (if b ≠ 39 then (0, 0) else (a, 3))
  else if sz ≤ k + 3 ∨ d ≠ 39 then (0, 0)
  else if b = 110 then (10, 4) else if b = 116 then (9, 4) else if b = 114 then (13, 4) else if b = 48 then (0, 4)
  else if b = 92 ∨ b = 39 ∨ b = 34 then (b, 4) else (0, 0)

set_option maxRecDepth 100000 in
set_option maxHeartbeats 8000000 in
theorem char_any (g : Nat) (src : ByteArray) (k : Nat) (sl : Value) (w : World) (h : Sc w g src k sl) (hs : src.size ≤ 1000000) (hk : k ≤ src.size) :
    Calls Tryd.prog 31 #[.pointer (some ⟨g, 0, none⟩)] w fun e w' => e = .returned (.tuple #[.int .u32 (charP src.size k (bz src ((k : Int) + 1)) (bz src ((k : Int) + 2)) (bz src ((k : Int) + 3))).1, .int .i64 (charP src.size k (bz src ((k : Int) + 1)) (bz src ((k : Int) + 2)) (bz src ((k : Int) + 3))).2]) ∧ ∃ m, w' = w.drewN m := by
  have H := Lib.hid h
  clear h
  have k0 := H.out.c0
  have k1 := H.out.c1
  obtain ⟨a, ha⟩ : ∃ a, a = bz src ((k : Int) + 1) := ⟨_, rfl⟩
  obtain ⟨b, hb⟩ : ∃ b, b = bz src ((k : Int) + 2) := ⟨_, rfl⟩
  obtain ⟨d, hd⟩ : ∃ d, d = bz src ((k : Int) + 3) := ⟨_, rfl⟩
  have P1 := Lib.hid (fun W (h : Sc W g src k sl) => show Calls Tryd.prog 23 #[.pointer (some ⟨g, 0, none⟩), .int .i64 1] W fun e w' => e = .returned (.int .u8 a) ∧ ∃ m, w' = W.drewN m from by rw [ha]; exact peek_draw g src k 1 sl W h hs hk (by decide))
  have P2 := Lib.hid (fun W (h : Sc W g src k sl) => show Calls Tryd.prog 23 #[.pointer (some ⟨g, 0, none⟩), .int .i64 2] W fun e w' => e = .returned (.int .u8 b) ∧ ∃ m, w' = W.drewN m from by rw [hb]; exact peek_draw g src k 2 sl W h hs hk (by decide))
  have P3 := Lib.hid (fun W (h : Sc W g src k sl) => show Calls Tryd.prog 23 #[.pointer (some ⟨g, 0, none⟩), .int .i64 3] W fun e w' => e = .returned (.int .u8 d) ∧ ∃ m, w' = W.drewN m from by rw [hd]; exact peek_draw g src k 3 sl W h hs hk (by decide))
  have hra := bt_range src ((k : Int) + 1)
  rw [show Go.Proofs.YtjoboaaambdpoaaDoorW.PrintWords.bt src ((k : Int) + 1) = a from ha.symm] at hra
  rw [← ha, ← hb, ← hd]
  obtain ⟨R, hR⟩ : ∃ R, R = charP src.size k a b d := ⟨_, rfl⟩
  rw [← hR]
  have HR := Lib.hid hR
  clear hR ha hb hd
  have hwa : IntKind.u32.wrap a = a := by rw [IntKind.wrap_u32]; omega
  have hw2 : IntKind.i64.wrap ((k : Int) + 2) = (k : Int) + 2 := IntWalk.i64_in _ (by omega)
  have hw3 : IntKind.i64.wrap ((k : Int) + 3) = (k : Int) + 3 := IntWalk.i64_in _ (by omega)
  clear hra
  go_enter Tryd.func31, Tryd.ntmps31
  by_cases e1 : src.size ≤ k + 2
  · have i1 : (src.size : Int) ≤ (k : Int) + 2 := by omega
    have HN := Lib.hid (show R = (0, 0) by rw [HR.out]; unfold charP; rw [if_pos (.inl e1)])
    clear HR
    go_wp2_with (first | (go_at_call 23; refine (P1.out _ (by repeat (first | exact H.out | apply Sc.drewN))).mono ?_; rintro e w' ⟨rfl, m, rfl⟩))
    go_quiet (fail)
    go_wp2_with (first | (go_at_call 23; refine (P2.out _ (by repeat (first | exact H.out | apply Sc.drewN))).mono ?_; rintro e w' ⟨rfl, m, rfl⟩))
    go_ret2
    exact ⟨by rw [HN.out]; first | rfl | (simp; done) | (simp [*]; done), by first | exact ⟨_, rfl⟩ | exact ⟨_, by simp only [World.drewN_drewN]; rfl⟩⟩
  · have i1 : ¬ (src.size : Int) ≤ (k : Int) + 2 := by omega
    have d1 : decide ((src.size : Int) ≤ (k : Int) + 2) = false := decide_eq_false i1
    by_cases a39 : a = 39
    · subst a39
      have HN := Lib.hid (show R = (0, 0) by rw [HR.out]; unfold charP; rw [if_pos (.inr (.inl rfl))])
      clear HR
      go_wp2_with (first | (go_at_call 23; refine (P1.out _ (by repeat (first | exact H.out | apply Sc.drewN))).mono ?_; rintro e w' ⟨rfl, m, rfl⟩))
      go_quiet (fail)
      go_wp2_with (first | (go_at_call 23; refine (P2.out _ (by repeat (first | exact H.out | apply Sc.drewN))).mono ?_; rintro e w' ⟨rfl, m, rfl⟩))
      go_ret2
      exact ⟨by rw [HN.out]; first | rfl | (simp; done) | (simp [*]; done), by first | exact ⟨_, rfl⟩ | exact ⟨_, by simp only [World.drewN_drewN]; rfl⟩⟩
    · by_cases a10 : a = 10
      · subst a10
        have HN := Lib.hid (show R = (0, 0) by rw [HR.out]; unfold charP; rw [if_pos (.inr (.inr rfl))])
        clear HR
        go_wp2_with (first | (go_at_call 23; refine (P1.out _ (by repeat (first | exact H.out | apply Sc.drewN))).mono ?_; rintro e w' ⟨rfl, m, rfl⟩))
        go_quiet (fail)
        go_wp2_with (first | (go_at_call 23; refine (P2.out _ (by repeat (first | exact H.out | apply Sc.drewN))).mono ?_; rintro e w' ⟨rfl, m, rfl⟩))
        go_ret2
        exact ⟨by rw [HN.out]; first | rfl | (simp; done) | (simp [*]; done), by first | exact ⟨_, rfl⟩ | exact ⟨_, by simp only [World.drewN_drewN]; rfl⟩⟩
      · have n1 : ¬ (src.size ≤ k + 2 ∨ a = 39 ∨ a = 10) := by omega
        by_cases a92 : a = 92
        · subst a92
          by_cases e3 : src.size ≤ k + 3
          · have i3 : (src.size : Int) ≤ (k : Int) + 3 := by omega
            have HN := Lib.hid (show R = (0, 0) by rw [HR.out]; unfold charP; rw [if_neg n1, if_neg (by simp), if_pos (.inl e3)])
            clear HR
            go_wp2_with (first | (go_at_call 23; refine (P1.out _ (by repeat (first | exact H.out | apply Sc.drewN))).mono ?_; rintro e w' ⟨rfl, m, rfl⟩))
            go_quiet (fail)
            go_wp2_with (first | (go_at_call 23; refine (P2.out _ (by repeat (first | exact H.out | apply Sc.drewN))).mono ?_; rintro e w' ⟨rfl, m, rfl⟩))
            go_quiet (first | (go_at_call 23; refine ((P3.out _ (by repeat (first | exact H.out | apply Sc.drewN))).mono fun e w' h => ⟨h.1, ?_⟩); obtain ⟨m, hm⟩ := h.2; (try simp only [World.drewN_drewN, Nat.add_assoc] at hm ⊢); exact ⟨_, hm⟩))
            go_wp2_with (first | (go_at_call 23; refine (P2.out _ (by repeat (first | exact H.out | apply Sc.drewN))).mono ?_; rintro e w' ⟨rfl, m, rfl⟩))
            go_ret2
            exact ⟨by rw [HN.out]; first | rfl | (simp; done) | (simp [*]; done), by first | exact ⟨_, rfl⟩ | exact ⟨_, by simp only [World.drewN_drewN]; rfl⟩⟩
          · have i3 : ¬ (src.size : Int) ≤ (k : Int) + 3 := by omega
            have d3 : decide ((src.size : Int) ≤ (k : Int) + 3) = false := decide_eq_false i3
            by_cases d39 : d = 39
            · subst d39
              have n3 : ¬ (src.size ≤ k + 3 ∨ (39 : Int) ≠ 39) := by omega
              have HR2 := Lib.hid (show R = (if b = 110 then (10, 4) else if b = 116 then (9, 4) else if b = 114 then (13, 4) else if b = 48 then (0, 4) else if b = 92 ∨ b = 39 ∨ b = 34 then (b, 4) else (0, 0)) by rw [HR.out]; unfold charP; rw [if_neg n1, if_neg (by simp), if_neg n3])
              clear HR
              have hbs : b = 110 ∨ b = 116 ∨ b = 114 ∨ b = 48 ∨ b = 92 ∨ b = 39 ∨ b = 34 ∨ (b ≠ 110 ∧ b ≠ 116 ∧ b ≠ 114 ∧ b ≠ 48 ∧ b ≠ 92 ∧ b ≠ 39 ∧ b ≠ 34) := by omega
              rcases hbs with rfl | rfl | rfl | rfl | rfl | rfl | rfl | ⟨b1, b2, b3, b4, b5, b6, b7⟩
              · have HN := Lib.hid (show R = (10, 4) by rw [HR2.out]; rfl)
                clear HR2
                go_wp2_with (first | (go_at_call 23; refine (P1.out _ (by repeat (first | exact H.out | apply Sc.drewN))).mono ?_; rintro e w' ⟨rfl, m, rfl⟩))
                go_quiet (fail)
                go_wp2_with (first | (go_at_call 23; refine (P2.out _ (by repeat (first | exact H.out | apply Sc.drewN))).mono ?_; rintro e w' ⟨rfl, m, rfl⟩))
                go_quiet (first | (go_at_call 23; refine ((P3.out _ (by repeat (first | exact H.out | apply Sc.drewN))).mono fun e w' h => ⟨h.1, ?_⟩); obtain ⟨m, hm⟩ := h.2; (try simp only [World.drewN_drewN, Nat.add_assoc] at hm ⊢); exact ⟨_, hm⟩))
                go_wp2_with (first | (go_at_call 23; refine (P2.out _ (by repeat (first | exact H.out | apply Sc.drewN))).mono ?_; rintro e w' ⟨rfl, m, rfl⟩))
                go_ret2
                exact ⟨by rw [HN.out]; first | rfl | (simp; done) | (simp [*]; done), by first | exact ⟨_, rfl⟩ | exact ⟨_, by simp only [World.drewN_drewN]; rfl⟩⟩
              · have HN := Lib.hid (show R = (9, 4) by rw [HR2.out]; rfl)
                clear HR2
                go_wp2_with (first | (go_at_call 23; refine (P1.out _ (by repeat (first | exact H.out | apply Sc.drewN))).mono ?_; rintro e w' ⟨rfl, m, rfl⟩))
                go_quiet (fail)
                go_wp2_with (first | (go_at_call 23; refine (P2.out _ (by repeat (first | exact H.out | apply Sc.drewN))).mono ?_; rintro e w' ⟨rfl, m, rfl⟩))
                go_quiet (first | (go_at_call 23; refine ((P3.out _ (by repeat (first | exact H.out | apply Sc.drewN))).mono fun e w' h => ⟨h.1, ?_⟩); obtain ⟨m, hm⟩ := h.2; (try simp only [World.drewN_drewN, Nat.add_assoc] at hm ⊢); exact ⟨_, hm⟩))
                go_wp2_with (first | (go_at_call 23; refine (P2.out _ (by repeat (first | exact H.out | apply Sc.drewN))).mono ?_; rintro e w' ⟨rfl, m, rfl⟩))
                go_ret2
                exact ⟨by rw [HN.out]; first | rfl | (simp; done) | (simp [*]; done), by first | exact ⟨_, rfl⟩ | exact ⟨_, by simp only [World.drewN_drewN]; rfl⟩⟩
              · have HN := Lib.hid (show R = (13, 4) by rw [HR2.out]; rfl)
                clear HR2
                go_wp2_with (first | (go_at_call 23; refine (P1.out _ (by repeat (first | exact H.out | apply Sc.drewN))).mono ?_; rintro e w' ⟨rfl, m, rfl⟩))
                go_quiet (fail)
                go_wp2_with (first | (go_at_call 23; refine (P2.out _ (by repeat (first | exact H.out | apply Sc.drewN))).mono ?_; rintro e w' ⟨rfl, m, rfl⟩))
                go_quiet (first | (go_at_call 23; refine ((P3.out _ (by repeat (first | exact H.out | apply Sc.drewN))).mono fun e w' h => ⟨h.1, ?_⟩); obtain ⟨m, hm⟩ := h.2; (try simp only [World.drewN_drewN, Nat.add_assoc] at hm ⊢); exact ⟨_, hm⟩))
                go_wp2_with (first | (go_at_call 23; refine (P2.out _ (by repeat (first | exact H.out | apply Sc.drewN))).mono ?_; rintro e w' ⟨rfl, m, rfl⟩))
                go_ret2
                exact ⟨by rw [HN.out]; first | rfl | (simp; done) | (simp [*]; done), by first | exact ⟨_, rfl⟩ | exact ⟨_, by simp only [World.drewN_drewN]; rfl⟩⟩
              · have HN := Lib.hid (show R = (0, 4) by rw [HR2.out]; rfl)
                clear HR2
                go_wp2_with (first | (go_at_call 23; refine (P1.out _ (by repeat (first | exact H.out | apply Sc.drewN))).mono ?_; rintro e w' ⟨rfl, m, rfl⟩))
                go_quiet (fail)
                go_wp2_with (first | (go_at_call 23; refine (P2.out _ (by repeat (first | exact H.out | apply Sc.drewN))).mono ?_; rintro e w' ⟨rfl, m, rfl⟩))
                go_quiet (first | (go_at_call 23; refine ((P3.out _ (by repeat (first | exact H.out | apply Sc.drewN))).mono fun e w' h => ⟨h.1, ?_⟩); obtain ⟨m, hm⟩ := h.2; (try simp only [World.drewN_drewN, Nat.add_assoc] at hm ⊢); exact ⟨_, hm⟩))
                go_wp2_with (first | (go_at_call 23; refine (P2.out _ (by repeat (first | exact H.out | apply Sc.drewN))).mono ?_; rintro e w' ⟨rfl, m, rfl⟩))
                go_ret2
                exact ⟨by rw [HN.out]; first | rfl | (simp; done) | (simp [*]; done), by first | exact ⟨_, rfl⟩ | exact ⟨_, by simp only [World.drewN_drewN]; rfl⟩⟩
              · have HN := Lib.hid (show R = (92, 4) by rw [HR2.out]; rfl)
                clear HR2
                go_wp2_with (first | (go_at_call 23; refine (P1.out _ (by repeat (first | exact H.out | apply Sc.drewN))).mono ?_; rintro e w' ⟨rfl, m, rfl⟩))
                go_quiet (fail)
                go_wp2_with (first | (go_at_call 23; refine (P2.out _ (by repeat (first | exact H.out | apply Sc.drewN))).mono ?_; rintro e w' ⟨rfl, m, rfl⟩))
                go_quiet (first | (go_at_call 23; refine ((P3.out _ (by repeat (first | exact H.out | apply Sc.drewN))).mono fun e w' h => ⟨h.1, ?_⟩); obtain ⟨m, hm⟩ := h.2; (try simp only [World.drewN_drewN, Nat.add_assoc] at hm ⊢); exact ⟨_, hm⟩))
                go_wp2_with (first | (go_at_call 23; refine (P2.out _ (by repeat (first | exact H.out | apply Sc.drewN))).mono ?_; rintro e w' ⟨rfl, m, rfl⟩))
                go_ret2
                exact ⟨by rw [HN.out]; first | rfl | (simp; done) | (simp [*]; done), by first | exact ⟨_, rfl⟩ | exact ⟨_, by simp only [World.drewN_drewN]; rfl⟩⟩
              · have HN := Lib.hid (show R = (39, 4) by rw [HR2.out]; rfl)
                clear HR2
                go_wp2_with (first | (go_at_call 23; refine (P1.out _ (by repeat (first | exact H.out | apply Sc.drewN))).mono ?_; rintro e w' ⟨rfl, m, rfl⟩))
                go_quiet (fail)
                go_wp2_with (first | (go_at_call 23; refine (P2.out _ (by repeat (first | exact H.out | apply Sc.drewN))).mono ?_; rintro e w' ⟨rfl, m, rfl⟩))
                go_quiet (first | (go_at_call 23; refine ((P3.out _ (by repeat (first | exact H.out | apply Sc.drewN))).mono fun e w' h => ⟨h.1, ?_⟩); obtain ⟨m, hm⟩ := h.2; (try simp only [World.drewN_drewN, Nat.add_assoc] at hm ⊢); exact ⟨_, hm⟩))
                go_wp2_with (first | (go_at_call 23; refine (P2.out _ (by repeat (first | exact H.out | apply Sc.drewN))).mono ?_; rintro e w' ⟨rfl, m, rfl⟩))
                go_ret2
                exact ⟨by rw [HN.out]; first | rfl | (simp; done) | (simp [*]; done), by first | exact ⟨_, rfl⟩ | exact ⟨_, by simp only [World.drewN_drewN]; rfl⟩⟩
              · have HN := Lib.hid (show R = (34, 4) by rw [HR2.out]; rfl)
                clear HR2
                go_wp2_with (first | (go_at_call 23; refine (P1.out _ (by repeat (first | exact H.out | apply Sc.drewN))).mono ?_; rintro e w' ⟨rfl, m, rfl⟩))
                go_quiet (fail)
                go_wp2_with (first | (go_at_call 23; refine (P2.out _ (by repeat (first | exact H.out | apply Sc.drewN))).mono ?_; rintro e w' ⟨rfl, m, rfl⟩))
                go_quiet (first | (go_at_call 23; refine ((P3.out _ (by repeat (first | exact H.out | apply Sc.drewN))).mono fun e w' h => ⟨h.1, ?_⟩); obtain ⟨m, hm⟩ := h.2; (try simp only [World.drewN_drewN, Nat.add_assoc] at hm ⊢); exact ⟨_, hm⟩))
                go_wp2_with (first | (go_at_call 23; refine (P2.out _ (by repeat (first | exact H.out | apply Sc.drewN))).mono ?_; rintro e w' ⟨rfl, m, rfl⟩))
                go_ret2
                exact ⟨by rw [HN.out]; first | rfl | (simp; done) | (simp [*]; done), by first | exact ⟨_, rfl⟩ | exact ⟨_, by simp only [World.drewN_drewN]; rfl⟩⟩
              · have HN := Lib.hid (show R = (0, 0) by rw [HR2.out, if_neg b1, if_neg b2, if_neg b3, if_neg b4, if_neg (by simp [b5, b6, b7])])
                clear HR2
                go_wp2_with (first | (go_at_call 23; refine (P1.out _ (by repeat (first | exact H.out | apply Sc.drewN))).mono ?_; rintro e w' ⟨rfl, m, rfl⟩))
                go_quiet (fail)
                go_wp2_with (first | (go_at_call 23; refine (P2.out _ (by repeat (first | exact H.out | apply Sc.drewN))).mono ?_; rintro e w' ⟨rfl, m, rfl⟩))
                go_quiet (first | (go_at_call 23; refine ((P3.out _ (by repeat (first | exact H.out | apply Sc.drewN))).mono fun e w' h => ⟨h.1, ?_⟩); obtain ⟨m, hm⟩ := h.2; (try simp only [World.drewN_drewN, Nat.add_assoc] at hm ⊢); exact ⟨_, hm⟩))
                go_wp2_with (first | (go_at_call 23; refine (P2.out _ (by repeat (first | exact H.out | apply Sc.drewN))).mono ?_; rintro e w' ⟨rfl, m, rfl⟩))
                go_ret2
                exact ⟨by rw [HN.out]; first | rfl | (simp; done) | (simp [*]; done), by first | exact ⟨_, rfl⟩ | exact ⟨_, by simp only [World.drewN_drewN]; rfl⟩⟩
            · skip
              have HN := Lib.hid (show R = (0, 0) by rw [HR.out]; unfold charP; rw [if_neg n1, if_neg (by simp), if_pos (.inr d39)])
              clear HR
              go_wp2_with (first | (go_at_call 23; refine (P1.out _ (by repeat (first | exact H.out | apply Sc.drewN))).mono ?_; rintro e w' ⟨rfl, m, rfl⟩))
              go_quiet (fail)
              go_wp2_with (first | (go_at_call 23; refine (P2.out _ (by repeat (first | exact H.out | apply Sc.drewN))).mono ?_; rintro e w' ⟨rfl, m, rfl⟩))
              go_quiet (first | (go_at_call 23; refine ((P3.out _ (by repeat (first | exact H.out | apply Sc.drewN))).mono fun e w' h => ⟨h.1, ?_⟩); obtain ⟨m, hm⟩ := h.2; (try simp only [World.drewN_drewN, Nat.add_assoc] at hm ⊢); exact ⟨_, hm⟩))
              go_wp2_with (first | (go_at_call 23; refine (P2.out _ (by repeat (first | exact H.out | apply Sc.drewN))).mono ?_; rintro e w' ⟨rfl, m, rfl⟩))
              go_ret2
              exact ⟨by rw [HN.out]; first | rfl | (simp; done) | (simp [*]; done), by first | exact ⟨_, rfl⟩ | exact ⟨_, by simp only [World.drewN_drewN]; rfl⟩⟩
        · have q39 : (a == 39) = false := by simpa using a39
          have q10 : (a == 10) = false := by simpa using a10
          have qc : ((a == 39) = true ∨ (a == 10) = true) = False := by rw [q39, q10]; simp
          have q92 : (a != 92) = true := by simpa using a92
          by_cases b39 : b = 39
          · subst b39
            have HN := Lib.hid (show R = (a, 3) by rw [HR.out]; unfold charP; rw [if_neg n1, if_pos a92, if_neg (by simp)])
            clear HR
            go_wp2_with (first | (go_at_call 23; refine (P1.out _ (by repeat (first | exact H.out | apply Sc.drewN))).mono ?_; rintro e w' ⟨rfl, m, rfl⟩))
            go_quiet (fail)
            go_wp2_with (first | (go_at_call 23; refine (P2.out _ (by repeat (first | exact H.out | apply Sc.drewN))).mono ?_; rintro e w' ⟨rfl, m, rfl⟩))
            go_ret2
            exact ⟨by rw [HN.out]; first | rfl | (simp; done) | (simp [*]; done), by first | exact ⟨_, rfl⟩ | exact ⟨_, by simp only [World.drewN_drewN]; rfl⟩⟩
          · have q3 : (b != 39) = true := by simpa using b39
            have HN := Lib.hid (show R = (0, 0) by rw [HR.out]; unfold charP; rw [if_neg n1, if_pos a92, if_pos b39])
            clear HR
            go_wp2_with (first | (go_at_call 23; refine (P1.out _ (by repeat (first | exact H.out | apply Sc.drewN))).mono ?_; rintro e w' ⟨rfl, m, rfl⟩))
            go_quiet (fail)
            go_wp2_with (first | (go_at_call 23; refine (P2.out _ (by repeat (first | exact H.out | apply Sc.drewN))).mono ?_; rintro e w' ⟨rfl, m, rfl⟩))
            go_ret2
            exact ⟨by rw [HN.out]; first | rfl | (simp; done) | (simp [*]; done), by first | exact ⟨_, rfl⟩ | exact ⟨_, by simp only [World.drewN_drewN]; rfl⟩⟩

end Go.Proofs.YtjoboaaambdpoaaDoor
