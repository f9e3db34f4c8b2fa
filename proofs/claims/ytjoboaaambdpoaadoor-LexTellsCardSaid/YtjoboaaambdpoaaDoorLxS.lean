/- lex's scanner: sign: walked. Printed by gen_lxs.py. -/
import Derived.Test.YtjoboaaambdpoaaDoorLxR
set_option linter.unusedVariables false
set_option linter.unusedSimpArgs false
namespace Go.Proofs.YtjoboaaambdpoaaDoor
open Go.RowKit Go.Proofs.YtjoboaaambdpoaaDoorW.PrintWords Go.Maps Go.Joins

/-- How many bytes the sign has that begins with c, p and q behind it; 0: none. -/
def signP (c p q : Int) : Int :=
  if c = 60 ∨ c = 62 then (if p = c then (if q = 61 then 3 else 2) else if p = 61 then 2 else 1)
  else if c = 61 ∨ c = 33 ∨ c = 42 ∨ c = 47 ∨ c = 37 ∨ c = 94 then (if p = 61 then 2 else 1)
  else if c = 43 ∨ c = 45 ∨ c = 38 ∨ c = 124 then (if p = c ∨ p = 61 then 2 else 1)
  else if c = 126 ∨ c = 63 ∨ c = 58 ∨ c = 59 ∨ c = 44 ∨ c = 40 ∨ c = 41 ∨ c = 91 ∨ c = 93 ∨ c = 123 ∨ c = 125 then 1 else 0

set_option maxRecDepth 100000 in
set_option maxHeartbeats 8000000 in
theorem sign_any (g : Nat) (src : ByteArray) (k : Nat) (sl : Value) (w : World) (h : Sc w g src k sl) (hs : src.size ≤ 1000000) (hk : k ≤ src.size) :
    Calls Tryd.prog 32 #[.pointer (some ⟨g, 0, none⟩)] w fun e w' => e = .returned (.int .i64 (signP (bz src ((k : Int) + 0)) (bz src ((k : Int) + 1)) (bz src ((k : Int) + 2)))) ∧ ∃ m, w' = w.drewN m := by
  have H := Lib.hid h
  clear h
  obtain ⟨c, hc⟩ : ∃ c, c = bz src ((k : Int) + 0) := ⟨_, rfl⟩
  obtain ⟨p, hp⟩ : ∃ p, p = bz src ((k : Int) + 1) := ⟨_, rfl⟩
  obtain ⟨q, hq⟩ : ∃ q, q = bz src ((k : Int) + 2) := ⟨_, rfl⟩
  have P0 := Lib.hid (fun W (h : Sc W g src k sl) => show Calls Tryd.prog 23 #[.pointer (some ⟨g, 0, none⟩), .int .i64 0] W fun e w' => e = .returned (.int .u8 c) ∧ ∃ m, w' = W.drewN m from by rw [hc]; exact peek_draw g src k 0 sl W h hs hk (by decide))
  have P1 := Lib.hid (fun W (h : Sc W g src k sl) => show Calls Tryd.prog 23 #[.pointer (some ⟨g, 0, none⟩), .int .i64 1] W fun e w' => e = .returned (.int .u8 p) ∧ ∃ m, w' = W.drewN m from by rw [hp]; exact peek_draw g src k 1 sl W h hs hk (by decide))
  have P2 := Lib.hid (fun W (h : Sc W g src k sl) => show Calls Tryd.prog 23 #[.pointer (some ⟨g, 0, none⟩), .int .i64 2] W fun e w' => e = .returned (.int .u8 q) ∧ ∃ m, w' = W.drewN m from by rw [hq]; exact peek_draw g src k 2 sl W h hs hk (by decide))
  rw [← hc, ← hp, ← hq]
  obtain ⟨R, hR⟩ : ∃ R, R = signP c p q := ⟨_, rfl⟩
  rw [← hR]
  have HR := Lib.hid hR
  clear hR hc hp hq
  go_enter Tryd.func32, Tryd.ntmps32
  by_cases hsome : c = 60 ∨ c = 62 ∨ c = 61 ∨ c = 33 ∨ c = 42 ∨ c = 47 ∨ c = 37 ∨ c = 94 ∨ c = 43 ∨ c = 45 ∨ c = 38 ∨ c = 124 ∨ c = 126 ∨ c = 63 ∨ c = 58 ∨ c = 59 ∨ c = 44 ∨ c = 40 ∨ c = 41 ∨ c = 91 ∨ c = 93 ∨ c = 123 ∨ c = 125
  · rcases hsome with rfl | rfl | rfl | rfl | rfl | rfl | rfl | rfl | rfl | rfl | rfl | rfl | rfl | rfl | rfl | rfl | rfl | rfl | rfl | rfl | rfl | rfl | rfl
    · skip
      by_cases h1 : p = 60
      · subst h1
        by_cases h2 : q = 61
        · subst h2
          have HN := Lib.hid (show R = 3 by rw [HR.out]; rfl)
          clear HR
          go_wp2_with (first | (go_at_call 23; (with_reducible refine (P0.out _ (by repeat (first | exact H.out | apply Sc.drewN))).mono ?_); rintro e w' ⟨rfl, m, rfl⟩) | (go_at_call 23; (with_reducible refine (P1.out _ (by repeat (first | exact H.out | apply Sc.drewN))).mono ?_); rintro e w' ⟨rfl, m, rfl⟩) | (go_at_call 23; (with_reducible refine (P2.out _ (by repeat (first | exact H.out | apply Sc.drewN))).mono ?_); rintro e w' ⟨rfl, m, rfl⟩))
          go_ret
          exact ⟨by rw [HN.out]; first | rfl | (simp; done) | (simp [*]; done), by first | exact ⟨_, rfl⟩ | exact ⟨_, by simp only [World.drewN_drewN]; rfl⟩⟩
        · have b2 : (q == 61) = false := by simpa using h2
          have HN := Lib.hid (show R = 2 by rw [HR.out]; simp [signP, h2])
          clear HR
          go_wp2_with (first | (go_at_call 23; (with_reducible refine (P0.out _ (by repeat (first | exact H.out | apply Sc.drewN))).mono ?_); rintro e w' ⟨rfl, m, rfl⟩) | (go_at_call 23; (with_reducible refine (P1.out _ (by repeat (first | exact H.out | apply Sc.drewN))).mono ?_); rintro e w' ⟨rfl, m, rfl⟩) | (go_at_call 23; (with_reducible refine (P2.out _ (by repeat (first | exact H.out | apply Sc.drewN))).mono ?_); rintro e w' ⟨rfl, m, rfl⟩))
          go_ret
          exact ⟨by rw [HN.out]; first | rfl | (simp; done) | (simp [*]; done), by first | exact ⟨_, rfl⟩ | exact ⟨_, by simp only [World.drewN_drewN]; rfl⟩⟩
      · have b1 : (p == 60) = false := by simpa using h1
        by_cases h2 : p = 61
        · subst h2
          have HN := Lib.hid (show R = 2 by rw [HR.out]; rfl)
          clear HR
          go_wp2_with (first | (go_at_call 23; (with_reducible refine (P0.out _ (by repeat (first | exact H.out | apply Sc.drewN))).mono ?_); rintro e w' ⟨rfl, m, rfl⟩) | (go_at_call 23; (with_reducible refine (P1.out _ (by repeat (first | exact H.out | apply Sc.drewN))).mono ?_); rintro e w' ⟨rfl, m, rfl⟩) | (go_at_call 23; (with_reducible refine (P2.out _ (by repeat (first | exact H.out | apply Sc.drewN))).mono ?_); rintro e w' ⟨rfl, m, rfl⟩))
          go_ret
          exact ⟨by rw [HN.out]; first | rfl | (simp; done) | (simp [*]; done), by first | exact ⟨_, rfl⟩ | exact ⟨_, by simp only [World.drewN_drewN]; rfl⟩⟩
        · have b2 : (p == 61) = false := by simpa using h2
          have HN := Lib.hid (show R = 1 by rw [HR.out]; simp [signP, h1, h2])
          clear HR
          go_wp2_with (first | (go_at_call 23; (with_reducible refine (P0.out _ (by repeat (first | exact H.out | apply Sc.drewN))).mono ?_); rintro e w' ⟨rfl, m, rfl⟩) | (go_at_call 23; (with_reducible refine (P1.out _ (by repeat (first | exact H.out | apply Sc.drewN))).mono ?_); rintro e w' ⟨rfl, m, rfl⟩) | (go_at_call 23; (with_reducible refine (P2.out _ (by repeat (first | exact H.out | apply Sc.drewN))).mono ?_); rintro e w' ⟨rfl, m, rfl⟩))
          go_ret
          exact ⟨by rw [HN.out]; first | rfl | (simp; done) | (simp [*]; done), by first | exact ⟨_, rfl⟩ | exact ⟨_, by simp only [World.drewN_drewN]; rfl⟩⟩
    · skip
      by_cases h1 : p = 62
      · subst h1
        by_cases h2 : q = 61
        · subst h2
          have HN := Lib.hid (show R = 3 by rw [HR.out]; rfl)
          clear HR
          go_wp2_with (first | (go_at_call 23; (with_reducible refine (P0.out _ (by repeat (first | exact H.out | apply Sc.drewN))).mono ?_); rintro e w' ⟨rfl, m, rfl⟩) | (go_at_call 23; (with_reducible refine (P1.out _ (by repeat (first | exact H.out | apply Sc.drewN))).mono ?_); rintro e w' ⟨rfl, m, rfl⟩) | (go_at_call 23; (with_reducible refine (P2.out _ (by repeat (first | exact H.out | apply Sc.drewN))).mono ?_); rintro e w' ⟨rfl, m, rfl⟩))
          go_ret
          exact ⟨by rw [HN.out]; first | rfl | (simp; done) | (simp [*]; done), by first | exact ⟨_, rfl⟩ | exact ⟨_, by simp only [World.drewN_drewN]; rfl⟩⟩
        · have b2 : (q == 61) = false := by simpa using h2
          have HN := Lib.hid (show R = 2 by rw [HR.out]; simp [signP, h2])
          clear HR
          go_wp2_with (first | (go_at_call 23; (with_reducible refine (P0.out _ (by repeat (first | exact H.out | apply Sc.drewN))).mono ?_); rintro e w' ⟨rfl, m, rfl⟩) | (go_at_call 23; (with_reducible refine (P1.out _ (by repeat (first | exact H.out | apply Sc.drewN))).mono ?_); rintro e w' ⟨rfl, m, rfl⟩) | (go_at_call 23; (with_reducible refine (P2.out _ (by repeat (first | exact H.out | apply Sc.drewN))).mono ?_); rintro e w' ⟨rfl, m, rfl⟩))
          go_ret
          exact ⟨by rw [HN.out]; first | rfl | (simp; done) | (simp [*]; done), by first | exact ⟨_, rfl⟩ | exact ⟨_, by simp only [World.drewN_drewN]; rfl⟩⟩
      · have b1 : (p == 62) = false := by simpa using h1
        by_cases h2 : p = 61
        · subst h2
          have HN := Lib.hid (show R = 2 by rw [HR.out]; rfl)
          clear HR
          go_wp2_with (first | (go_at_call 23; (with_reducible refine (P0.out _ (by repeat (first | exact H.out | apply Sc.drewN))).mono ?_); rintro e w' ⟨rfl, m, rfl⟩) | (go_at_call 23; (with_reducible refine (P1.out _ (by repeat (first | exact H.out | apply Sc.drewN))).mono ?_); rintro e w' ⟨rfl, m, rfl⟩) | (go_at_call 23; (with_reducible refine (P2.out _ (by repeat (first | exact H.out | apply Sc.drewN))).mono ?_); rintro e w' ⟨rfl, m, rfl⟩))
          go_ret
          exact ⟨by rw [HN.out]; first | rfl | (simp; done) | (simp [*]; done), by first | exact ⟨_, rfl⟩ | exact ⟨_, by simp only [World.drewN_drewN]; rfl⟩⟩
        · have b2 : (p == 61) = false := by simpa using h2
          have HN := Lib.hid (show R = 1 by rw [HR.out]; simp [signP, h1, h2])
          clear HR
          go_wp2_with (first | (go_at_call 23; (with_reducible refine (P0.out _ (by repeat (first | exact H.out | apply Sc.drewN))).mono ?_); rintro e w' ⟨rfl, m, rfl⟩) | (go_at_call 23; (with_reducible refine (P1.out _ (by repeat (first | exact H.out | apply Sc.drewN))).mono ?_); rintro e w' ⟨rfl, m, rfl⟩) | (go_at_call 23; (with_reducible refine (P2.out _ (by repeat (first | exact H.out | apply Sc.drewN))).mono ?_); rintro e w' ⟨rfl, m, rfl⟩))
          go_ret
          exact ⟨by rw [HN.out]; first | rfl | (simp; done) | (simp [*]; done), by first | exact ⟨_, rfl⟩ | exact ⟨_, by simp only [World.drewN_drewN]; rfl⟩⟩
    · skip
      by_cases h2 : p = 61
      · subst h2
        have HN := Lib.hid (show R = 2 by rw [HR.out]; rfl)
        clear HR
        go_wp2_with (first | (go_at_call 23; (with_reducible refine (P0.out _ (by repeat (first | exact H.out | apply Sc.drewN))).mono ?_); rintro e w' ⟨rfl, m, rfl⟩) | (go_at_call 23; (with_reducible refine (P1.out _ (by repeat (first | exact H.out | apply Sc.drewN))).mono ?_); rintro e w' ⟨rfl, m, rfl⟩) | (go_at_call 23; (with_reducible refine (P2.out _ (by repeat (first | exact H.out | apply Sc.drewN))).mono ?_); rintro e w' ⟨rfl, m, rfl⟩))
        go_ret
        exact ⟨by rw [HN.out]; first | rfl | (simp; done) | (simp [*]; done), by first | exact ⟨_, rfl⟩ | exact ⟨_, by simp only [World.drewN_drewN]; rfl⟩⟩
      · have b2 : (p == 61) = false := by simpa using h2
        have HN := Lib.hid (show R = 1 by rw [HR.out]; simp [signP, h2])
        clear HR
        go_wp2_with (first | (go_at_call 23; (with_reducible refine (P0.out _ (by repeat (first | exact H.out | apply Sc.drewN))).mono ?_); rintro e w' ⟨rfl, m, rfl⟩) | (go_at_call 23; (with_reducible refine (P1.out _ (by repeat (first | exact H.out | apply Sc.drewN))).mono ?_); rintro e w' ⟨rfl, m, rfl⟩) | (go_at_call 23; (with_reducible refine (P2.out _ (by repeat (first | exact H.out | apply Sc.drewN))).mono ?_); rintro e w' ⟨rfl, m, rfl⟩))
        go_ret
        exact ⟨by rw [HN.out]; first | rfl | (simp; done) | (simp [*]; done), by first | exact ⟨_, rfl⟩ | exact ⟨_, by simp only [World.drewN_drewN]; rfl⟩⟩
    · skip
      by_cases h2 : p = 61
      · subst h2
        have HN := Lib.hid (show R = 2 by rw [HR.out]; rfl)
        clear HR
        go_wp2_with (first | (go_at_call 23; (with_reducible refine (P0.out _ (by repeat (first | exact H.out | apply Sc.drewN))).mono ?_); rintro e w' ⟨rfl, m, rfl⟩) | (go_at_call 23; (with_reducible refine (P1.out _ (by repeat (first | exact H.out | apply Sc.drewN))).mono ?_); rintro e w' ⟨rfl, m, rfl⟩) | (go_at_call 23; (with_reducible refine (P2.out _ (by repeat (first | exact H.out | apply Sc.drewN))).mono ?_); rintro e w' ⟨rfl, m, rfl⟩))
        go_ret
        exact ⟨by rw [HN.out]; first | rfl | (simp; done) | (simp [*]; done), by first | exact ⟨_, rfl⟩ | exact ⟨_, by simp only [World.drewN_drewN]; rfl⟩⟩
      · have b2 : (p == 61) = false := by simpa using h2
        have HN := Lib.hid (show R = 1 by rw [HR.out]; simp [signP, h2])
        clear HR
        go_wp2_with (first | (go_at_call 23; (with_reducible refine (P0.out _ (by repeat (first | exact H.out | apply Sc.drewN))).mono ?_); rintro e w' ⟨rfl, m, rfl⟩) | (go_at_call 23; (with_reducible refine (P1.out _ (by repeat (first | exact H.out | apply Sc.drewN))).mono ?_); rintro e w' ⟨rfl, m, rfl⟩) | (go_at_call 23; (with_reducible refine (P2.out _ (by repeat (first | exact H.out | apply Sc.drewN))).mono ?_); rintro e w' ⟨rfl, m, rfl⟩))
        go_ret
        exact ⟨by rw [HN.out]; first | rfl | (simp; done) | (simp [*]; done), by first | exact ⟨_, rfl⟩ | exact ⟨_, by simp only [World.drewN_drewN]; rfl⟩⟩
    · skip
      by_cases h2 : p = 61
      · subst h2
        have HN := Lib.hid (show R = 2 by rw [HR.out]; rfl)
        clear HR
        go_wp2_with (first | (go_at_call 23; (with_reducible refine (P0.out _ (by repeat (first | exact H.out | apply Sc.drewN))).mono ?_); rintro e w' ⟨rfl, m, rfl⟩) | (go_at_call 23; (with_reducible refine (P1.out _ (by repeat (first | exact H.out | apply Sc.drewN))).mono ?_); rintro e w' ⟨rfl, m, rfl⟩) | (go_at_call 23; (with_reducible refine (P2.out _ (by repeat (first | exact H.out | apply Sc.drewN))).mono ?_); rintro e w' ⟨rfl, m, rfl⟩))
        go_ret
        exact ⟨by rw [HN.out]; first | rfl | (simp; done) | (simp [*]; done), by first | exact ⟨_, rfl⟩ | exact ⟨_, by simp only [World.drewN_drewN]; rfl⟩⟩
      · have b2 : (p == 61) = false := by simpa using h2
        have HN := Lib.hid (show R = 1 by rw [HR.out]; simp [signP, h2])
        clear HR
        go_wp2_with (first | (go_at_call 23; (with_reducible refine (P0.out _ (by repeat (first | exact H.out | apply Sc.drewN))).mono ?_); rintro e w' ⟨rfl, m, rfl⟩) | (go_at_call 23; (with_reducible refine (P1.out _ (by repeat (first | exact H.out | apply Sc.drewN))).mono ?_); rintro e w' ⟨rfl, m, rfl⟩) | (go_at_call 23; (with_reducible refine (P2.out _ (by repeat (first | exact H.out | apply Sc.drewN))).mono ?_); rintro e w' ⟨rfl, m, rfl⟩))
        go_ret
        exact ⟨by rw [HN.out]; first | rfl | (simp; done) | (simp [*]; done), by first | exact ⟨_, rfl⟩ | exact ⟨_, by simp only [World.drewN_drewN]; rfl⟩⟩
    · skip
      by_cases h2 : p = 61
      · subst h2
        have HN := Lib.hid (show R = 2 by rw [HR.out]; rfl)
        clear HR
        go_wp2_with (first | (go_at_call 23; (with_reducible refine (P0.out _ (by repeat (first | exact H.out | apply Sc.drewN))).mono ?_); rintro e w' ⟨rfl, m, rfl⟩) | (go_at_call 23; (with_reducible refine (P1.out _ (by repeat (first | exact H.out | apply Sc.drewN))).mono ?_); rintro e w' ⟨rfl, m, rfl⟩) | (go_at_call 23; (with_reducible refine (P2.out _ (by repeat (first | exact H.out | apply Sc.drewN))).mono ?_); rintro e w' ⟨rfl, m, rfl⟩))
        go_ret
        exact ⟨by rw [HN.out]; first | rfl | (simp; done) | (simp [*]; done), by first | exact ⟨_, rfl⟩ | exact ⟨_, by simp only [World.drewN_drewN]; rfl⟩⟩
      · have b2 : (p == 61) = false := by simpa using h2
        have HN := Lib.hid (show R = 1 by rw [HR.out]; simp [signP, h2])
        clear HR
        go_wp2_with (first | (go_at_call 23; (with_reducible refine (P0.out _ (by repeat (first | exact H.out | apply Sc.drewN))).mono ?_); rintro e w' ⟨rfl, m, rfl⟩) | (go_at_call 23; (with_reducible refine (P1.out _ (by repeat (first | exact H.out | apply Sc.drewN))).mono ?_); rintro e w' ⟨rfl, m, rfl⟩) | (go_at_call 23; (with_reducible refine (P2.out _ (by repeat (first | exact H.out | apply Sc.drewN))).mono ?_); rintro e w' ⟨rfl, m, rfl⟩))
        go_ret
        exact ⟨by rw [HN.out]; first | rfl | (simp; done) | (simp [*]; done), by first | exact ⟨_, rfl⟩ | exact ⟨_, by simp only [World.drewN_drewN]; rfl⟩⟩
    · skip
      by_cases h2 : p = 61
      · subst h2
        have HN := Lib.hid (show R = 2 by rw [HR.out]; rfl)
        clear HR
        go_wp2_with (first | (go_at_call 23; (with_reducible refine (P0.out _ (by repeat (first | exact H.out | apply Sc.drewN))).mono ?_); rintro e w' ⟨rfl, m, rfl⟩) | (go_at_call 23; (with_reducible refine (P1.out _ (by repeat (first | exact H.out | apply Sc.drewN))).mono ?_); rintro e w' ⟨rfl, m, rfl⟩) | (go_at_call 23; (with_reducible refine (P2.out _ (by repeat (first | exact H.out | apply Sc.drewN))).mono ?_); rintro e w' ⟨rfl, m, rfl⟩))
        go_ret
        exact ⟨by rw [HN.out]; first | rfl | (simp; done) | (simp [*]; done), by first | exact ⟨_, rfl⟩ | exact ⟨_, by simp only [World.drewN_drewN]; rfl⟩⟩
      · have b2 : (p == 61) = false := by simpa using h2
        have HN := Lib.hid (show R = 1 by rw [HR.out]; simp [signP, h2])
        clear HR
        go_wp2_with (first | (go_at_call 23; (with_reducible refine (P0.out _ (by repeat (first | exact H.out | apply Sc.drewN))).mono ?_); rintro e w' ⟨rfl, m, rfl⟩) | (go_at_call 23; (with_reducible refine (P1.out _ (by repeat (first | exact H.out | apply Sc.drewN))).mono ?_); rintro e w' ⟨rfl, m, rfl⟩) | (go_at_call 23; (with_reducible refine (P2.out _ (by repeat (first | exact H.out | apply Sc.drewN))).mono ?_); rintro e w' ⟨rfl, m, rfl⟩))
        go_ret
        exact ⟨by rw [HN.out]; first | rfl | (simp; done) | (simp [*]; done), by first | exact ⟨_, rfl⟩ | exact ⟨_, by simp only [World.drewN_drewN]; rfl⟩⟩
    · skip
      by_cases h2 : p = 61
      · subst h2
        have HN := Lib.hid (show R = 2 by rw [HR.out]; rfl)
        clear HR
        go_wp2_with (first | (go_at_call 23; (with_reducible refine (P0.out _ (by repeat (first | exact H.out | apply Sc.drewN))).mono ?_); rintro e w' ⟨rfl, m, rfl⟩) | (go_at_call 23; (with_reducible refine (P1.out _ (by repeat (first | exact H.out | apply Sc.drewN))).mono ?_); rintro e w' ⟨rfl, m, rfl⟩) | (go_at_call 23; (with_reducible refine (P2.out _ (by repeat (first | exact H.out | apply Sc.drewN))).mono ?_); rintro e w' ⟨rfl, m, rfl⟩))
        go_ret
        exact ⟨by rw [HN.out]; first | rfl | (simp; done) | (simp [*]; done), by first | exact ⟨_, rfl⟩ | exact ⟨_, by simp only [World.drewN_drewN]; rfl⟩⟩
      · have b2 : (p == 61) = false := by simpa using h2
        have HN := Lib.hid (show R = 1 by rw [HR.out]; simp [signP, h2])
        clear HR
        go_wp2_with (first | (go_at_call 23; (with_reducible refine (P0.out _ (by repeat (first | exact H.out | apply Sc.drewN))).mono ?_); rintro e w' ⟨rfl, m, rfl⟩) | (go_at_call 23; (with_reducible refine (P1.out _ (by repeat (first | exact H.out | apply Sc.drewN))).mono ?_); rintro e w' ⟨rfl, m, rfl⟩) | (go_at_call 23; (with_reducible refine (P2.out _ (by repeat (first | exact H.out | apply Sc.drewN))).mono ?_); rintro e w' ⟨rfl, m, rfl⟩))
        go_ret
        exact ⟨by rw [HN.out]; first | rfl | (simp; done) | (simp [*]; done), by first | exact ⟨_, rfl⟩ | exact ⟨_, by simp only [World.drewN_drewN]; rfl⟩⟩
    · skip
      by_cases h1 : p = 43
      · subst h1
        have HN := Lib.hid (show R = 2 by rw [HR.out]; rfl)
        clear HR
        go_wp2_with (first | (go_at_call 23; (with_reducible refine (P0.out _ (by repeat (first | exact H.out | apply Sc.drewN))).mono ?_); rintro e w' ⟨rfl, m, rfl⟩) | (go_at_call 23; (with_reducible refine (P1.out _ (by repeat (first | exact H.out | apply Sc.drewN))).mono ?_); rintro e w' ⟨rfl, m, rfl⟩) | (go_at_call 23; (with_reducible refine (P2.out _ (by repeat (first | exact H.out | apply Sc.drewN))).mono ?_); rintro e w' ⟨rfl, m, rfl⟩))
        go_ret
        exact ⟨by rw [HN.out]; first | rfl | (simp; done) | (simp [*]; done), by first | exact ⟨_, rfl⟩ | exact ⟨_, by simp only [World.drewN_drewN]; rfl⟩⟩
      · have b1 : (p == 43) = false := by simpa using h1
        by_cases h2 : p = 61
        · subst h2
          have HN := Lib.hid (show R = 2 by rw [HR.out]; rfl)
          clear HR
          go_wp2_with (first | (go_at_call 23; (with_reducible refine (P0.out _ (by repeat (first | exact H.out | apply Sc.drewN))).mono ?_); rintro e w' ⟨rfl, m, rfl⟩) | (go_at_call 23; (with_reducible refine (P1.out _ (by repeat (first | exact H.out | apply Sc.drewN))).mono ?_); rintro e w' ⟨rfl, m, rfl⟩) | (go_at_call 23; (with_reducible refine (P2.out _ (by repeat (first | exact H.out | apply Sc.drewN))).mono ?_); rintro e w' ⟨rfl, m, rfl⟩))
          go_ret
          exact ⟨by rw [HN.out]; first | rfl | (simp; done) | (simp [*]; done), by first | exact ⟨_, rfl⟩ | exact ⟨_, by simp only [World.drewN_drewN]; rfl⟩⟩
        · have b2 : (p == 61) = false := by simpa using h2
          have HN := Lib.hid (show R = 1 by rw [HR.out]; simp [signP, h1, h2])
          clear HR
          go_wp2_with (first | (go_at_call 23; (with_reducible refine (P0.out _ (by repeat (first | exact H.out | apply Sc.drewN))).mono ?_); rintro e w' ⟨rfl, m, rfl⟩) | (go_at_call 23; (with_reducible refine (P1.out _ (by repeat (first | exact H.out | apply Sc.drewN))).mono ?_); rintro e w' ⟨rfl, m, rfl⟩) | (go_at_call 23; (with_reducible refine (P2.out _ (by repeat (first | exact H.out | apply Sc.drewN))).mono ?_); rintro e w' ⟨rfl, m, rfl⟩))
          go_ret
          exact ⟨by rw [HN.out]; first | rfl | (simp; done) | (simp [*]; done), by first | exact ⟨_, rfl⟩ | exact ⟨_, by simp only [World.drewN_drewN]; rfl⟩⟩
    · skip
      by_cases h1 : p = 45
      · subst h1
        have HN := Lib.hid (show R = 2 by rw [HR.out]; rfl)
        clear HR
        go_wp2_with (first | (go_at_call 23; (with_reducible refine (P0.out _ (by repeat (first | exact H.out | apply Sc.drewN))).mono ?_); rintro e w' ⟨rfl, m, rfl⟩) | (go_at_call 23; (with_reducible refine (P1.out _ (by repeat (first | exact H.out | apply Sc.drewN))).mono ?_); rintro e w' ⟨rfl, m, rfl⟩) | (go_at_call 23; (with_reducible refine (P2.out _ (by repeat (first | exact H.out | apply Sc.drewN))).mono ?_); rintro e w' ⟨rfl, m, rfl⟩))
        go_ret
        exact ⟨by rw [HN.out]; first | rfl | (simp; done) | (simp [*]; done), by first | exact ⟨_, rfl⟩ | exact ⟨_, by simp only [World.drewN_drewN]; rfl⟩⟩
      · have b1 : (p == 45) = false := by simpa using h1
        by_cases h2 : p = 61
        · subst h2
          have HN := Lib.hid (show R = 2 by rw [HR.out]; rfl)
          clear HR
          go_wp2_with (first | (go_at_call 23; (with_reducible refine (P0.out _ (by repeat (first | exact H.out | apply Sc.drewN))).mono ?_); rintro e w' ⟨rfl, m, rfl⟩) | (go_at_call 23; (with_reducible refine (P1.out _ (by repeat (first | exact H.out | apply Sc.drewN))).mono ?_); rintro e w' ⟨rfl, m, rfl⟩) | (go_at_call 23; (with_reducible refine (P2.out _ (by repeat (first | exact H.out | apply Sc.drewN))).mono ?_); rintro e w' ⟨rfl, m, rfl⟩))
          go_ret
          exact ⟨by rw [HN.out]; first | rfl | (simp; done) | (simp [*]; done), by first | exact ⟨_, rfl⟩ | exact ⟨_, by simp only [World.drewN_drewN]; rfl⟩⟩
        · have b2 : (p == 61) = false := by simpa using h2
          have HN := Lib.hid (show R = 1 by rw [HR.out]; simp [signP, h1, h2])
          clear HR
          go_wp2_with (first | (go_at_call 23; (with_reducible refine (P0.out _ (by repeat (first | exact H.out | apply Sc.drewN))).mono ?_); rintro e w' ⟨rfl, m, rfl⟩) | (go_at_call 23; (with_reducible refine (P1.out _ (by repeat (first | exact H.out | apply Sc.drewN))).mono ?_); rintro e w' ⟨rfl, m, rfl⟩) | (go_at_call 23; (with_reducible refine (P2.out _ (by repeat (first | exact H.out | apply Sc.drewN))).mono ?_); rintro e w' ⟨rfl, m, rfl⟩))
          go_ret
          exact ⟨by rw [HN.out]; first | rfl | (simp; done) | (simp [*]; done), by first | exact ⟨_, rfl⟩ | exact ⟨_, by simp only [World.drewN_drewN]; rfl⟩⟩
    · skip
      by_cases h1 : p = 38
      · subst h1
        have HN := Lib.hid (show R = 2 by rw [HR.out]; rfl)
        clear HR
        go_wp2_with (first | (go_at_call 23; (with_reducible refine (P0.out _ (by repeat (first | exact H.out | apply Sc.drewN))).mono ?_); rintro e w' ⟨rfl, m, rfl⟩) | (go_at_call 23; (with_reducible refine (P1.out _ (by repeat (first | exact H.out | apply Sc.drewN))).mono ?_); rintro e w' ⟨rfl, m, rfl⟩) | (go_at_call 23; (with_reducible refine (P2.out _ (by repeat (first | exact H.out | apply Sc.drewN))).mono ?_); rintro e w' ⟨rfl, m, rfl⟩))
        go_ret
        exact ⟨by rw [HN.out]; first | rfl | (simp; done) | (simp [*]; done), by first | exact ⟨_, rfl⟩ | exact ⟨_, by simp only [World.drewN_drewN]; rfl⟩⟩
      · have b1 : (p == 38) = false := by simpa using h1
        by_cases h2 : p = 61
        · subst h2
          have HN := Lib.hid (show R = 2 by rw [HR.out]; rfl)
          clear HR
          go_wp2_with (first | (go_at_call 23; (with_reducible refine (P0.out _ (by repeat (first | exact H.out | apply Sc.drewN))).mono ?_); rintro e w' ⟨rfl, m, rfl⟩) | (go_at_call 23; (with_reducible refine (P1.out _ (by repeat (first | exact H.out | apply Sc.drewN))).mono ?_); rintro e w' ⟨rfl, m, rfl⟩) | (go_at_call 23; (with_reducible refine (P2.out _ (by repeat (first | exact H.out | apply Sc.drewN))).mono ?_); rintro e w' ⟨rfl, m, rfl⟩))
          go_ret
          exact ⟨by rw [HN.out]; first | rfl | (simp; done) | (simp [*]; done), by first | exact ⟨_, rfl⟩ | exact ⟨_, by simp only [World.drewN_drewN]; rfl⟩⟩
        · have b2 : (p == 61) = false := by simpa using h2
          have HN := Lib.hid (show R = 1 by rw [HR.out]; simp [signP, h1, h2])
          clear HR
          go_wp2_with (first | (go_at_call 23; (with_reducible refine (P0.out _ (by repeat (first | exact H.out | apply Sc.drewN))).mono ?_); rintro e w' ⟨rfl, m, rfl⟩) | (go_at_call 23; (with_reducible refine (P1.out _ (by repeat (first | exact H.out | apply Sc.drewN))).mono ?_); rintro e w' ⟨rfl, m, rfl⟩) | (go_at_call 23; (with_reducible refine (P2.out _ (by repeat (first | exact H.out | apply Sc.drewN))).mono ?_); rintro e w' ⟨rfl, m, rfl⟩))
          go_ret
          exact ⟨by rw [HN.out]; first | rfl | (simp; done) | (simp [*]; done), by first | exact ⟨_, rfl⟩ | exact ⟨_, by simp only [World.drewN_drewN]; rfl⟩⟩
    · skip
      by_cases h1 : p = 124
      · subst h1
        have HN := Lib.hid (show R = 2 by rw [HR.out]; rfl)
        clear HR
        go_wp2_with (first | (go_at_call 23; (with_reducible refine (P0.out _ (by repeat (first | exact H.out | apply Sc.drewN))).mono ?_); rintro e w' ⟨rfl, m, rfl⟩) | (go_at_call 23; (with_reducible refine (P1.out _ (by repeat (first | exact H.out | apply Sc.drewN))).mono ?_); rintro e w' ⟨rfl, m, rfl⟩) | (go_at_call 23; (with_reducible refine (P2.out _ (by repeat (first | exact H.out | apply Sc.drewN))).mono ?_); rintro e w' ⟨rfl, m, rfl⟩))
        go_ret
        exact ⟨by rw [HN.out]; first | rfl | (simp; done) | (simp [*]; done), by first | exact ⟨_, rfl⟩ | exact ⟨_, by simp only [World.drewN_drewN]; rfl⟩⟩
      · have b1 : (p == 124) = false := by simpa using h1
        by_cases h2 : p = 61
        · subst h2
          have HN := Lib.hid (show R = 2 by rw [HR.out]; rfl)
          clear HR
          go_wp2_with (first | (go_at_call 23; (with_reducible refine (P0.out _ (by repeat (first | exact H.out | apply Sc.drewN))).mono ?_); rintro e w' ⟨rfl, m, rfl⟩) | (go_at_call 23; (with_reducible refine (P1.out _ (by repeat (first | exact H.out | apply Sc.drewN))).mono ?_); rintro e w' ⟨rfl, m, rfl⟩) | (go_at_call 23; (with_reducible refine (P2.out _ (by repeat (first | exact H.out | apply Sc.drewN))).mono ?_); rintro e w' ⟨rfl, m, rfl⟩))
          go_ret
          exact ⟨by rw [HN.out]; first | rfl | (simp; done) | (simp [*]; done), by first | exact ⟨_, rfl⟩ | exact ⟨_, by simp only [World.drewN_drewN]; rfl⟩⟩
        · have b2 : (p == 61) = false := by simpa using h2
          have HN := Lib.hid (show R = 1 by rw [HR.out]; simp [signP, h1, h2])
          clear HR
          go_wp2_with (first | (go_at_call 23; (with_reducible refine (P0.out _ (by repeat (first | exact H.out | apply Sc.drewN))).mono ?_); rintro e w' ⟨rfl, m, rfl⟩) | (go_at_call 23; (with_reducible refine (P1.out _ (by repeat (first | exact H.out | apply Sc.drewN))).mono ?_); rintro e w' ⟨rfl, m, rfl⟩) | (go_at_call 23; (with_reducible refine (P2.out _ (by repeat (first | exact H.out | apply Sc.drewN))).mono ?_); rintro e w' ⟨rfl, m, rfl⟩))
          go_ret
          exact ⟨by rw [HN.out]; first | rfl | (simp; done) | (simp [*]; done), by first | exact ⟨_, rfl⟩ | exact ⟨_, by simp only [World.drewN_drewN]; rfl⟩⟩
    · skip
      have HN := Lib.hid (show R = 1 by rw [HR.out]; rfl)
      clear HR
      go_wp2_with (first | (go_at_call 23; (with_reducible refine (P0.out _ (by repeat (first | exact H.out | apply Sc.drewN))).mono ?_); rintro e w' ⟨rfl, m, rfl⟩) | (go_at_call 23; (with_reducible refine (P1.out _ (by repeat (first | exact H.out | apply Sc.drewN))).mono ?_); rintro e w' ⟨rfl, m, rfl⟩) | (go_at_call 23; (with_reducible refine (P2.out _ (by repeat (first | exact H.out | apply Sc.drewN))).mono ?_); rintro e w' ⟨rfl, m, rfl⟩))
      go_ret
      exact ⟨by rw [HN.out]; first | rfl | (simp; done) | (simp [*]; done), by first | exact ⟨_, rfl⟩ | exact ⟨_, by simp only [World.drewN_drewN]; rfl⟩⟩
    · skip
      have HN := Lib.hid (show R = 1 by rw [HR.out]; rfl)
      clear HR
      go_wp2_with (first | (go_at_call 23; (with_reducible refine (P0.out _ (by repeat (first | exact H.out | apply Sc.drewN))).mono ?_); rintro e w' ⟨rfl, m, rfl⟩) | (go_at_call 23; (with_reducible refine (P1.out _ (by repeat (first | exact H.out | apply Sc.drewN))).mono ?_); rintro e w' ⟨rfl, m, rfl⟩) | (go_at_call 23; (with_reducible refine (P2.out _ (by repeat (first | exact H.out | apply Sc.drewN))).mono ?_); rintro e w' ⟨rfl, m, rfl⟩))
      go_ret
      exact ⟨by rw [HN.out]; first | rfl | (simp; done) | (simp [*]; done), by first | exact ⟨_, rfl⟩ | exact ⟨_, by simp only [World.drewN_drewN]; rfl⟩⟩
    · skip
      have HN := Lib.hid (show R = 1 by rw [HR.out]; rfl)
      clear HR
      go_wp2_with (first | (go_at_call 23; (with_reducible refine (P0.out _ (by repeat (first | exact H.out | apply Sc.drewN))).mono ?_); rintro e w' ⟨rfl, m, rfl⟩) | (go_at_call 23; (with_reducible refine (P1.out _ (by repeat (first | exact H.out | apply Sc.drewN))).mono ?_); rintro e w' ⟨rfl, m, rfl⟩) | (go_at_call 23; (with_reducible refine (P2.out _ (by repeat (first | exact H.out | apply Sc.drewN))).mono ?_); rintro e w' ⟨rfl, m, rfl⟩))
      go_ret
      exact ⟨by rw [HN.out]; first | rfl | (simp; done) | (simp [*]; done), by first | exact ⟨_, rfl⟩ | exact ⟨_, by simp only [World.drewN_drewN]; rfl⟩⟩
    · skip
      have HN := Lib.hid (show R = 1 by rw [HR.out]; rfl)
      clear HR
      go_wp2_with (first | (go_at_call 23; (with_reducible refine (P0.out _ (by repeat (first | exact H.out | apply Sc.drewN))).mono ?_); rintro e w' ⟨rfl, m, rfl⟩) | (go_at_call 23; (with_reducible refine (P1.out _ (by repeat (first | exact H.out | apply Sc.drewN))).mono ?_); rintro e w' ⟨rfl, m, rfl⟩) | (go_at_call 23; (with_reducible refine (P2.out _ (by repeat (first | exact H.out | apply Sc.drewN))).mono ?_); rintro e w' ⟨rfl, m, rfl⟩))
      go_ret
      exact ⟨by rw [HN.out]; first | rfl | (simp; done) | (simp [*]; done), by first | exact ⟨_, rfl⟩ | exact ⟨_, by simp only [World.drewN_drewN]; rfl⟩⟩
    · skip
      have HN := Lib.hid (show R = 1 by rw [HR.out]; rfl)
      clear HR
      go_wp2_with (first | (go_at_call 23; (with_reducible refine (P0.out _ (by repeat (first | exact H.out | apply Sc.drewN))).mono ?_); rintro e w' ⟨rfl, m, rfl⟩) | (go_at_call 23; (with_reducible refine (P1.out _ (by repeat (first | exact H.out | apply Sc.drewN))).mono ?_); rintro e w' ⟨rfl, m, rfl⟩) | (go_at_call 23; (with_reducible refine (P2.out _ (by repeat (first | exact H.out | apply Sc.drewN))).mono ?_); rintro e w' ⟨rfl, m, rfl⟩))
      go_ret
      exact ⟨by rw [HN.out]; first | rfl | (simp; done) | (simp [*]; done), by first | exact ⟨_, rfl⟩ | exact ⟨_, by simp only [World.drewN_drewN]; rfl⟩⟩
    · skip
      have HN := Lib.hid (show R = 1 by rw [HR.out]; rfl)
      clear HR
      go_wp2_with (first | (go_at_call 23; (with_reducible refine (P0.out _ (by repeat (first | exact H.out | apply Sc.drewN))).mono ?_); rintro e w' ⟨rfl, m, rfl⟩) | (go_at_call 23; (with_reducible refine (P1.out _ (by repeat (first | exact H.out | apply Sc.drewN))).mono ?_); rintro e w' ⟨rfl, m, rfl⟩) | (go_at_call 23; (with_reducible refine (P2.out _ (by repeat (first | exact H.out | apply Sc.drewN))).mono ?_); rintro e w' ⟨rfl, m, rfl⟩))
      go_ret
      exact ⟨by rw [HN.out]; first | rfl | (simp; done) | (simp [*]; done), by first | exact ⟨_, rfl⟩ | exact ⟨_, by simp only [World.drewN_drewN]; rfl⟩⟩
    · skip
      have HN := Lib.hid (show R = 1 by rw [HR.out]; rfl)
      clear HR
      go_wp2_with (first | (go_at_call 23; (with_reducible refine (P0.out _ (by repeat (first | exact H.out | apply Sc.drewN))).mono ?_); rintro e w' ⟨rfl, m, rfl⟩) | (go_at_call 23; (with_reducible refine (P1.out _ (by repeat (first | exact H.out | apply Sc.drewN))).mono ?_); rintro e w' ⟨rfl, m, rfl⟩) | (go_at_call 23; (with_reducible refine (P2.out _ (by repeat (first | exact H.out | apply Sc.drewN))).mono ?_); rintro e w' ⟨rfl, m, rfl⟩))
      go_ret
      exact ⟨by rw [HN.out]; first | rfl | (simp; done) | (simp [*]; done), by first | exact ⟨_, rfl⟩ | exact ⟨_, by simp only [World.drewN_drewN]; rfl⟩⟩
    · skip
      have HN := Lib.hid (show R = 1 by rw [HR.out]; rfl)
      clear HR
      go_wp2_with (first | (go_at_call 23; (with_reducible refine (P0.out _ (by repeat (first | exact H.out | apply Sc.drewN))).mono ?_); rintro e w' ⟨rfl, m, rfl⟩) | (go_at_call 23; (with_reducible refine (P1.out _ (by repeat (first | exact H.out | apply Sc.drewN))).mono ?_); rintro e w' ⟨rfl, m, rfl⟩) | (go_at_call 23; (with_reducible refine (P2.out _ (by repeat (first | exact H.out | apply Sc.drewN))).mono ?_); rintro e w' ⟨rfl, m, rfl⟩))
      go_ret
      exact ⟨by rw [HN.out]; first | rfl | (simp; done) | (simp [*]; done), by first | exact ⟨_, rfl⟩ | exact ⟨_, by simp only [World.drewN_drewN]; rfl⟩⟩
    · skip
      have HN := Lib.hid (show R = 1 by rw [HR.out]; rfl)
      clear HR
      go_wp2_with (first | (go_at_call 23; (with_reducible refine (P0.out _ (by repeat (first | exact H.out | apply Sc.drewN))).mono ?_); rintro e w' ⟨rfl, m, rfl⟩) | (go_at_call 23; (with_reducible refine (P1.out _ (by repeat (first | exact H.out | apply Sc.drewN))).mono ?_); rintro e w' ⟨rfl, m, rfl⟩) | (go_at_call 23; (with_reducible refine (P2.out _ (by repeat (first | exact H.out | apply Sc.drewN))).mono ?_); rintro e w' ⟨rfl, m, rfl⟩))
      go_ret
      exact ⟨by rw [HN.out]; first | rfl | (simp; done) | (simp [*]; done), by first | exact ⟨_, rfl⟩ | exact ⟨_, by simp only [World.drewN_drewN]; rfl⟩⟩
    · skip
      have HN := Lib.hid (show R = 1 by rw [HR.out]; rfl)
      clear HR
      go_wp2_with (first | (go_at_call 23; (with_reducible refine (P0.out _ (by repeat (first | exact H.out | apply Sc.drewN))).mono ?_); rintro e w' ⟨rfl, m, rfl⟩) | (go_at_call 23; (with_reducible refine (P1.out _ (by repeat (first | exact H.out | apply Sc.drewN))).mono ?_); rintro e w' ⟨rfl, m, rfl⟩) | (go_at_call 23; (with_reducible refine (P2.out _ (by repeat (first | exact H.out | apply Sc.drewN))).mono ?_); rintro e w' ⟨rfl, m, rfl⟩))
      go_ret
      exact ⟨by rw [HN.out]; first | rfl | (simp; done) | (simp [*]; done), by first | exact ⟨_, rfl⟩ | exact ⟨_, by simp only [World.drewN_drewN]; rfl⟩⟩
    · skip
      have HN := Lib.hid (show R = 1 by rw [HR.out]; rfl)
      clear HR
      go_wp2_with (first | (go_at_call 23; (with_reducible refine (P0.out _ (by repeat (first | exact H.out | apply Sc.drewN))).mono ?_); rintro e w' ⟨rfl, m, rfl⟩) | (go_at_call 23; (with_reducible refine (P1.out _ (by repeat (first | exact H.out | apply Sc.drewN))).mono ?_); rintro e w' ⟨rfl, m, rfl⟩) | (go_at_call 23; (with_reducible refine (P2.out _ (by repeat (first | exact H.out | apply Sc.drewN))).mono ?_); rintro e w' ⟨rfl, m, rfl⟩))
      go_ret
      exact ⟨by rw [HN.out]; first | rfl | (simp; done) | (simp [*]; done), by first | exact ⟨_, rfl⟩ | exact ⟨_, by simp only [World.drewN_drewN]; rfl⟩⟩
  · simp only [not_or] at hsome
    obtain ⟨n60, n62, n61, n33, n42, n47, n37, n94, n43, n45, n38, n124, n126, n63, n58, n59, n44, n40, n41, n91, n93, n123, n125⟩ := hsome
    have HN := Lib.hid (show R = 0 by rw [HR.out]; simp [signP, n60, n62, n61, n33, n42, n47, n37, n94, n43, n45, n38, n124, n126, n63, n58, n59, n44, n40, n41, n91, n93, n123, n125])
    clear HR
    go_wp2_with (first | (go_at_call 23; (with_reducible refine (P0.out _ (by repeat (first | exact H.out | apply Sc.drewN))).mono ?_); rintro e w' ⟨rfl, m, rfl⟩) | (go_at_call 23; (with_reducible refine (P1.out _ (by repeat (first | exact H.out | apply Sc.drewN))).mono ?_); rintro e w' ⟨rfl, m, rfl⟩) | (go_at_call 23; (with_reducible refine (P2.out _ (by repeat (first | exact H.out | apply Sc.drewN))).mono ?_); rintro e w' ⟨rfl, m, rfl⟩))
    go_ret
    exact ⟨by rw [HN.out]; first | rfl | (simp; done) | (simp [*]; done), by first | exact ⟨_, rfl⟩ | exact ⟨_, by simp only [World.drewN_drewN]; rfl⟩⟩

end Go.Proofs.YtjoboaaambdpoaaDoor
