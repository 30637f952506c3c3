/-
  The modes: the document's answers (package ratlineref08), by the same functions on numbers. Conditions: as in the text on modes.
-/
import Derived.Test.YtghpildnajdlpaaDoorMode09
namespace Go.Proofs.YtghpildnajdlpaaDoor
open Go.RowKit
variable {W : World}

set_option maxHeartbeats 1000000 in
theorem mrfits_any (a b : Int) (x : Lt W) : Calls Tryd.prog 40 #[.int .i64 a, .int .i64 b] x.1 fun e w' => e = .returned (.bool (M.fits a b)) ∧ ∃ y : Lt W, w' = y.1 := by
  cases ha : M.right a
  · have HN := Lib.hid (show M.fits a b = false by simp [M.fits, ha])
    rcases M.right_false.1 ha with h | h
    · go_enter Tryd.func40, Tryd.ntmps40
      go_wp2
      go_ret
      exact ⟨by rw [HN.out]; rfl, x, rfl⟩
    · have hd : decide (a < 0) = false := decide_eq_false (by omega)
      have hd2 : decide (6 < a) = true := decide_eq_true (by omega)
      go_enter Tryd.func40, Tryd.ntmps40
      go_wp2
      go_ret
      exact ⟨by rw [HN.out]; rfl, x, rfl⟩
  obtain ⟨h3, h4⟩ := M.right_iff.1 ha
  have g1 : decide (a < 0) = false := decide_eq_false (by omega)
  have g2 : decide (6 < a) = false := decide_eq_false (by omega)
  cases hb : M.right b
  · have HN := Lib.hid (show M.fits a b = false by simp [M.fits, hb])
    rcases M.right_false.1 hb with h | h
    · go_enter Tryd.func40, Tryd.ntmps40
      go_wp2
      go_ret
      exact ⟨by rw [HN.out]; rfl, x, rfl⟩
    · have hd : decide (b < 0) = false := decide_eq_false (by omega)
      have hd2 : decide (6 < b) = true := decide_eq_true (by omega)
      go_enter Tryd.func40, Tryd.ntmps40
      go_wp2
      go_ret
      exact ⟨by rw [HN.out]; rfl, x, rfl⟩
  clear g1 g2
  rcases M.seven ha with rfl | rfl | rfl | rfl | rfl | rfl | rfl <;> rcases M.seven hb with rfl | rfl | rfl | rfl | rfl | rfl | rfl
  all_goals
    clear ha hb h3 h4
    go_enter Tryd.func40, Tryd.ntmps40
    go_wp2
    go_ret
    first
      | exact ⟨rfl, x, rfl⟩
      | exact ⟨rfl, x.end_ ((Below.refl _ _).alloc (Nat.le_refl _) _)⟩
theorem mrfits_is {a b : Int} {r : Bool} (h : M.fits a b = r) (x : Lt W) : Calls Tryd.prog 40 #[.int .i64 a, .int .i64 b] x.1 fun e w' => e = .returned (.bool r) ∧ ∃ y : Lt W, w' = y.1 := h ▸ mrfits_any a b x

theorem mrcovers_any (a b : Int) (x : Lt W) : Calls Tryd.prog 46 #[.int .i64 a, .int .i64 b] x.1 fun e w' => e = .returned (.bool (M.covers a b)) ∧ ∃ y : Lt W, w' = y.1 := by
  cases ha : M.right a
  · have HN := Lib.hid (show M.covers a b = false by simp [M.covers, ha])
    rcases M.right_false.1 ha with h | h
    · go_enter Tryd.func46, Tryd.ntmps46
      go_wp2
      go_ret
      exact ⟨by rw [HN.out]; rfl, x, rfl⟩
    · have hd : decide (a < 0) = false := decide_eq_false (by omega)
      have hd2 : decide (6 < a) = true := decide_eq_true (by omega)
      go_enter Tryd.func46, Tryd.ntmps46
      go_wp2
      go_ret
      exact ⟨by rw [HN.out]; rfl, x, rfl⟩
  obtain ⟨h3, h4⟩ := M.right_iff.1 ha
  have g1 : decide (a < 0) = false := decide_eq_false (by omega)
  have g2 : decide (6 < a) = false := decide_eq_false (by omega)
  cases hb : M.right b
  · have HN := Lib.hid (show M.covers a b = false by simp [M.covers, hb])
    rcases M.right_false.1 hb with h | h
    · go_enter Tryd.func46, Tryd.ntmps46
      go_wp2
      go_ret
      exact ⟨by rw [HN.out]; rfl, x, rfl⟩
    · have hd : decide (b < 0) = false := decide_eq_false (by omega)
      have hd2 : decide (6 < b) = true := decide_eq_true (by omega)
      go_enter Tryd.func46, Tryd.ntmps46
      go_wp2
      go_ret
      exact ⟨by rw [HN.out]; rfl, x, rfl⟩
  clear g1 g2 h3 h4
  obtain ⟨a, la, rfl⟩ := M.nat ha
  obtain ⟨b, lb, rfl⟩ := M.nat hb
  clear ha hb
  have g1 : decide ((a : Int) < 0) = false := decide_eq_false (by omega)
  have g2 : decide ((6 : Int) < a) = false := decide_eq_false (by omega)
  have g3 : decide ((b : Int) < 0) = false := decide_eq_false (by omega)
  have g4 : decide ((6 : Int) < b) = false := decide_eq_false (by omega)
  go_enter Tryd.func46, Tryd.ntmps46
  go_wp2
  go_loopw [5] (fun i wr => ∃ (k : Nat) (y : Lt W), wr = y.1 ∧ k ≤ 7 ∧ i = .int .i64 k ∧ ∀ j, j < k → M.fit a j = true → M.fit b j = true) (fun i _ => 7 - (intOf i).toNat)
  case atStart => exact ⟨0, x, rfl, by omega, rfl, fun _ h => absurd h (by omega)⟩
  case round =>
    obtain ⟨k, z, rfl, hk, rfl, hall⟩ := hrel
    have HA := Lib.hid hall
    clear hall g1 g2 g3 g4
    by_cases hlt : k < 7
    · have e1 := M.fits_nat la hlt
      have e2 := M.fits_nat lb hlt
      cases h1 : M.fit a k
      · rw [h1] at e1
        have E1 := Lib.hid e1; have E2 := Lib.hid e2; have F1 := Lib.hid h1
        clear e1 e2 h1
        go_wp2_with fail
        refine (mrfits_is E1.out _).mono ?_; rintro e w' ⟨rfl, z, rfl⟩
        go_wp2_with fail
        refine (mrfits_is E2.out _).mono ?_; rintro e w' ⟨rfl, z, rfl⟩
        go_wp2_with fail
        go_roundw
        case rel => exact ⟨k + 1, _, rfl, by omega, by go_num, fun j hj hf => by
          rcases Nat.lt_succ_iff_lt_or_eq.1 hj with h | rfl
          · exact HA.out j h hf
          · rw [F1.out] at hf; cases hf⟩
        case measure => simp [intOf]; omega
      cases h2 : M.fit b k
      · rw [h1] at e1
        rw [h2] at e2
        have E1 := Lib.hid e1; have E2 := Lib.hid e2
        have HC := Lib.hid (show M.covers (a : Int) (b : Int) = false by
          rw [M.covers_nat la lb]
          cases hc : M.cov a b
          · rfl
          · rw [(M.cov_all a la b lb).1 hc k hlt h1] at h2; cases h2)
        clear e1 e2 h1 h2
        go_wp2_with fail
        refine (mrfits_is E1.out _).mono ?_; rintro e w' ⟨rfl, z, rfl⟩
        go_wp2_with fail
        refine (mrfits_is E2.out _).mono ?_; rintro e w' ⟨rfl, z, rfl⟩
        go_wp2_with fail
        go_ret
        exact ⟨by rw [HC.out]; rfl, _, rfl⟩
      · rw [h1] at e1
        rw [h2] at e2
        have E1 := Lib.hid e1; have E2 := Lib.hid e2; have F2 := Lib.hid h2
        clear e1 e2 h1 h2
        go_wp2_with fail
        refine (mrfits_is E1.out _).mono ?_; rintro e w' ⟨rfl, z, rfl⟩
        go_wp2_with fail
        refine (mrfits_is E2.out _).mono ?_; rintro e w' ⟨rfl, z, rfl⟩
        go_wp2_with fail
        go_roundw
        case rel => exact ⟨k + 1, _, rfl, by omega, by go_num, fun j hj hf => by
          rcases Nat.lt_succ_iff_lt_or_eq.1 hj with h | rfl
          · exact HA.out j h hf
          · exact F2.out⟩
        case measure => simp [intOf]; omega
    · obtain rfl : k = 7 := by omega
      have HC := Lib.hid (show M.covers (a : Int) (b : Int) = true by
        rw [M.covers_nat la lb]
        exact (M.cov_all a la b lb).2 HA.out)
      go_wp2
      go_ret
      exact ⟨by rw [HC.out]; rfl, _, rfl⟩
theorem mrcovers_is {a b : Int} {r : Bool} (h : M.covers a b = r) (x : Lt W) : Calls Tryd.prog 46 #[.int .i64 a, .int .i64 b] x.1 fun e w' => e = .returned (.bool r) ∧ ∃ y : Lt W, w' = y.1 := h ▸ mrcovers_any a b x

theorem M.covers_int {r : Int} {k : Nat} (h0 : 0 ≤ r) (h1 : r < 7) (hk : k < 7) : M.covers r (k : Int) = M.cov r.toNat k := by
  have hr : M.right r = true := M.right_iff.2 ⟨h0, by omega⟩
  simp [M.covers, hr, M.right_nat hk]

theorem mrjoin_none (a b : Int) (x : Lt W) (hn : M.right a = false ∨ M.right b = false) : Calls Tryd.prog 51 #[.int .i64 a, .int .i64 b] x.1 fun e w' => e = .returned (.int .i64 0) ∧ ∃ y : Lt W, w' = y.1 := by
  have HC : Hid (∀ k : Int, M.covers k a = false ∨ M.covers k b = false) := by
    intro k
    rcases hn with h | h
    · exact .inl (by simp [M.covers, h])
    · exact .inr (by simp [M.covers, h])
  clear hn
  go_enter Tryd.func51, Tryd.ntmps51
  go_wp2
  go_loopw [5, 6, 7] (fun t i _ wr => ∃ (k : Nat) (y : Lt W), wr = y.1 ∧ k ≤ 7 ∧ i = .int .i64 k ∧ t = .int .i64 (-1)) (fun _ i _ _ => 7 - (intOf i).toNat)
  case atStart => exact ⟨0, x, rfl, by omega, rfl, rfl⟩
  case round =>
    obtain ⟨k, z, rfl, hk, rfl, rfl⟩ := hrel
    by_cases hlt : k < 7
    · cases e1 : M.covers k a
      · have E1 := Lib.hid e1
        clear e1
        go_wp2_with fail
        refine (mrcovers_is E1.out _).mono ?_; rintro e w' ⟨rfl, z, rfl⟩
        go_wp2_with fail
        go_roundw
        case rel => exact ⟨k + 1, _, rfl, by omega, by go_num, rfl⟩
        case measure => simp [intOf]; omega
      · have e2 : M.covers k b = false := by
          rcases HC.out k with h | h
          · rw [e1] at h; cases h
          · exact h
        have E1 := Lib.hid e1; have E2 := Lib.hid e2
        clear e1 e2
        go_wp2_with fail
        refine (mrcovers_is E1.out _).mono ?_; rintro e w' ⟨rfl, z, rfl⟩
        go_wp2_with fail
        refine (mrcovers_is E2.out _).mono ?_; rintro e w' ⟨rfl, z, rfl⟩
        go_wp2_with fail
        go_roundw
        case rel => exact ⟨k + 1, _, rfl, by omega, by go_num, rfl⟩
        case measure => simp [intOf]; omega
    · go_wp2
      go_ret
      exact ⟨rfl, _, rfl⟩

theorem mrjoin_any (a b : Int) (x : Lt W) : Calls Tryd.prog 51 #[.int .i64 a, .int .i64 b] x.1 fun e w' => e = .returned (.int .i64 (M.join a b)) ∧ ∃ y : Lt W, w' = y.1 := by
  cases ha : M.right a
  · have hj : M.join a b = 0 := by simp [M.join, ha]
    exact hj ▸ mrjoin_none a b x (.inl ha)
  cases hb : M.right b
  · have hj : M.join a b = 0 := by simp [M.join, hb]
    exact hj ▸ mrjoin_none a b x (.inr hb)
  have hj : M.join a b = (M.best a.toNat b.toNat 7 : Nat) := by simp [M.join, ha, hb]
  obtain ⟨a, la, rfl⟩ := M.nat ha
  obtain ⟨b, lb, rfl⟩ := M.nat hb
  have HJ := Lib.hid hj
  clear ha hb hj
  go_enter Tryd.func51, Tryd.ntmps51
  go_wp2
  go_loopw [5, 6, 7] (fun t i _ wr => ∃ (k : Nat) (y : Lt W), wr = y.1 ∧ k ≤ 7 ∧ i = .int .i64 k ∧ t = .int .i64 (M.rbest a b k)) (fun _ i _ _ => 7 - (intOf i).toNat)
  case atStart => exact ⟨0, x, rfl, by omega, rfl, rfl⟩
  case round =>
    obtain ⟨k, z, rfl, hk, rfl, rfl⟩ := hrel
    have hb2 := M.rbest_lt a b k hk
    obtain ⟨hb0, hb1⟩ := hb2
    by_cases hlt : k < 7
    · have hstep : M.rbest a b (k + 1) = if M.cov k a && M.cov k b && (decide (M.rbest a b k < 0) || M.cov (M.rbest a b k).toNat k) then (k : Int) else M.rbest a b k := rfl
      have HS := Lib.hid hstep
      clear hstep
      have e1 := M.covers_nat hlt la
      have e2 := M.covers_nat hlt lb
      cases h1 : M.cov k a
      · rw [h1] at e1
        have E1 := Lib.hid e1; have F1 := Lib.hid h1
        clear e1 e2 h1
        go_wp2_with fail
        refine (mrcovers_is E1.out _).mono ?_; rintro e w' ⟨rfl, z, rfl⟩
        go_wp2_with fail
        go_roundw
        case rel => exact ⟨k + 1, _, rfl, by omega, by go_num, by rw [HS.out, F1.out]; rfl⟩
        case measure => simp [intOf]; omega
      cases h2 : M.cov k b
      · rw [h1] at e1
        rw [h2] at e2
        have E1 := Lib.hid e1; have E2 := Lib.hid e2; have F1 := Lib.hid h1; have F2 := Lib.hid h2
        clear e1 e2 h1 h2
        go_wp2_with fail
        refine (mrcovers_is E1.out _).mono ?_; rintro e w' ⟨rfl, z, rfl⟩
        go_wp2_with fail
        refine (mrcovers_is E2.out _).mono ?_; rintro e w' ⟨rfl, z, rfl⟩
        go_wp2_with fail
        go_roundw
        case rel => exact ⟨k + 1, _, rfl, by omega, by go_num, by rw [HS.out, F1.out, F2.out]; rfl⟩
        case measure => simp [intOf]; omega
      by_cases hneg : M.rbest a b k < 0
      · rw [h1] at e1
        rw [h2] at e2
        have E1 := Lib.hid e1; have E2 := Lib.hid e2; have F1 := Lib.hid h1; have F2 := Lib.hid h2
        clear e1 e2 h1 h2
        go_wp2_with fail
        refine (mrcovers_is E1.out _).mono ?_; rintro e w' ⟨rfl, z, rfl⟩
        go_wp2_with fail
        refine (mrcovers_is E2.out _).mono ?_; rintro e w' ⟨rfl, z, rfl⟩
        go_wp2_with fail
        go_roundw
        case rel => exact ⟨k + 1, _, rfl, by omega, by go_num, by rw [HS.out, F1.out, F2.out, decide_eq_true hneg]; rfl⟩
        case measure => simp [intOf]; omega
      have hge : 0 ≤ M.rbest a b k := by omega
      have e3 := M.covers_int hge hb1 hlt
      cases h3 : M.cov (M.rbest a b k).toNat k
      · rw [h1] at e1
        rw [h2] at e2
        rw [h3] at e3
        have E1 := Lib.hid e1; have E2 := Lib.hid e2; have E3 := Lib.hid e3; have F1 := Lib.hid h1; have F2 := Lib.hid h2; have F3 := Lib.hid h3
        clear e1 e2 e3 h1 h2 h3
        go_wp2_with fail
        refine (mrcovers_is E1.out _).mono ?_; rintro e w' ⟨rfl, z, rfl⟩
        go_wp2_with fail
        refine (mrcovers_is E2.out _).mono ?_; rintro e w' ⟨rfl, z, rfl⟩
        go_wp2_with fail
        refine (mrcovers_is E3.out _).mono ?_; rintro e w' ⟨rfl, z, rfl⟩
        go_wp2_with fail
        go_roundw
        case rel => exact ⟨k + 1, _, rfl, by omega, by go_num, by rw [HS.out, F1.out, F2.out, F3.out, decide_eq_false (by omega)]; rfl⟩
        case measure => simp [intOf]; omega
      · rw [h1] at e1
        rw [h2] at e2
        rw [h3] at e3
        have E1 := Lib.hid e1; have E2 := Lib.hid e2; have E3 := Lib.hid e3; have F1 := Lib.hid h1; have F2 := Lib.hid h2; have F3 := Lib.hid h3
        clear e1 e2 e3 h1 h2 h3
        go_wp2_with fail
        refine (mrcovers_is E1.out _).mono ?_; rintro e w' ⟨rfl, z, rfl⟩
        go_wp2_with fail
        refine (mrcovers_is E2.out _).mono ?_; rintro e w' ⟨rfl, z, rfl⟩
        go_wp2_with fail
        refine (mrcovers_is E3.out _).mono ?_; rintro e w' ⟨rfl, z, rfl⟩
        go_wp2_with fail
        go_roundw
        case rel => exact ⟨k + 1, _, rfl, by omega, by go_num, by rw [HS.out, F1.out, F2.out, F3.out, decide_eq_false (by omega)]; rfl⟩
        case measure => simp [intOf]; omega
    · obtain rfl : k = 7 := by omega
      have hr := M.rbest_best a la b lb
      have hl := M.best_lt a b 7 (by omega)
      have hq : decide (M.rbest a b 7 < 0) = false := decide_eq_false (by omega)
      have HR := Lib.hid hr
      clear hr
      have h0 : 0 ≤ M.rbest a b 7 := by rw [HR.out]; omega
      go_wp2
      go_ret
      exact ⟨by rw [HJ.out]; exact ret_int HR.out, _, rfl⟩
end Go.Proofs.YtghpildnajdlpaaDoor
