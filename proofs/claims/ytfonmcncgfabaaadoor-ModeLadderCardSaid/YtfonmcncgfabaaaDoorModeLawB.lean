/-
  The statements on modes that need no reference, walked: each returns true. Conditions: the two package-level tables of package mode hold what the program's text lays.
-/
import Derived.Test.YtfonmcncgfabaaaDoorModeLawA
namespace Go.Proofs.YtfonmcncgfabaaaDoor
open Go.RowKit
variable {W : World}
theorem intent_is {m r : Int} (h : M.intent m = r) (x : Lt W) : Calls Tryd.prog 20 #[.int .i64 m] x.1 fun e w' => e = .returned (.int .i64 r) ∧ ∃ y : Lt W, w' = y.1 := h ▸ intent_any m x

namespace M
theorem join_nat {a b : Nat} (ha : a < 7) (hb : b < 7) : join (a : Int) (b : Int) = (best a b 7 : Nat) := by simp [join, right_nat ha, right_nat hb]
theorem join_right {a b : Int} (ha : right a = true) (hb : right b = true) : right (join a b) = true := by
  obtain ⟨a, la, rfl⟩ := nat ha
  obtain ⟨b, lb, rfl⟩ := nat hb
  rw [join_nat la lb]
  exact right_nat (best_lt a b 7 (by omega))
theorem join_none {a b : Int} (h : right a = false ∨ right b = false) : join a b = 0 := by
  rcases h with h | h <;> simp [join, h]
theorem joins_fin1 : ∀ a, a < 7 → ∀ b, b < 7 → ∀ c, c < 7 → fit (best a b 7) c = (fit a c && fit b c) := by decide +kernel
theorem joins_fin2 : ∀ a, a < 7 → ∀ b, b < 7 → cov (best a b 7) a = true ∧ cov (best a b 7) b = true := by decide +kernel
theorem joins_fin3 : ∀ a, a < 7 → ∀ b, b < 7 → ∀ c, c < 7 → cov c a = true → cov c b = true → cov c (best a b 7) = true := by decide +kernel
theorem joins {a b c : Int} (ha : right a = true) (hb : right b = true) (hc : right c = true) :
    fits (join a b) c = (fits a c && fits b c) ∧ covers (join a b) a = true ∧ covers (join a b) b = true ∧ (covers c a = true → covers c b = true → covers c (join a b) = true) := by
  obtain ⟨a, la, rfl⟩ := nat ha
  obtain ⟨b, lb, rfl⟩ := nat hb
  obtain ⟨c, lc, rfl⟩ := nat hc
  have lj := best_lt a b 7 (by omega)
  rw [join_nat la lb, fits_nat lj lc, fits_nat la lc, fits_nat lb lc, covers_nat lj la, covers_nat lj lb, covers_nat lc la, covers_nat lc lb, covers_nat lc lj]
  exact ⟨joins_fin1 a la b lb c lc, (joins_fin2 a la b lb).1, (joins_fin2 a la b lb).2, joins_fin3 a la b lb c lc⟩
theorem orders_fin1 : ∀ a, a < 7 → ∀ b, b < 7 → ∀ c, c < 7 → cov a b = true → cov b c = true → cov a c = true := by decide +kernel
theorem orders_fin2 : ∀ a, a < 7 → ∀ b, b < 7 → (cov a b && cov b a) = decide (a = b) := by decide +kernel
theorem orders_fin3 : ∀ a, a < 7 → ∀ b, b < 7 → ∀ c, c < 7 → best (best a b 7) c 7 = best a (best b c 7) 7 := by decide +kernel
theorem orders_fin4 : ∀ a, a < 7 → ∀ b, b < 7 → best a b 7 = best b a 7 := by decide +kernel
theorem orders_fin5 : ∀ a, a < 7 → best a a 7 = a ∧ cov a 0 = true ∧ cov 6 a = true := by decide +kernel
theorem orders {a b c : Int} (ha : right a = true) (hb : right b = true) (hc : right c = true) :
    (covers a b = true → covers b c = true → covers a c = true) ∧ (covers a b && covers b a) = (a == b) ∧ join (join a b) c = join a (join b c) ∧ join a b = join b a ∧ join a a = a ∧ covers a 0 = true ∧ covers 6 a = true := by
  obtain ⟨a, la, rfl⟩ := nat ha
  obtain ⟨b, lb, rfl⟩ := nat hb
  obtain ⟨c, lc, rfl⟩ := nat hc
  have l1 := best_lt a b 7 (by omega)
  have l2 := best_lt b c 7 (by omega)
  have h1 := orders_fin1 a la b lb c lc
  have h2 := orders_fin2 a la b lb
  have h3 := orders_fin3 a la b lb c lc
  have h4 := orders_fin4 a la b lb
  obtain ⟨h5, h6, h7⟩ := orders_fin5 a la
  have e0 : covers (a : Int) 0 = cov a 0 := covers_nat (b := 0) la (by omega)
  have e6 : covers 6 (a : Int) = cov 6 a := covers_nat (a := 6) (by omega) la
  rw [e0, e6, join_nat la lb, join_nat l1 lc, join_nat lb lc, join_nat la l2, join_nat lb la, join_nat la la, covers_nat la lb, covers_nat lb lc, covers_nat la lc, covers_nat lb la]
  refine ⟨h1, ?_, by rw [h3], by rw [h4], by rw [h5], h6, h7⟩
  rw [h2]
  by_cases h : a = b
  · subst h; simp
  · rw [decide_eq_false h]; symm; rw [beq_eq_false_iff_ne]; omega
theorem grows_fin : ∀ a, a < 7 → ∀ c, c < 7 → ∀ b, b < 7 → fit (best a c 7) b = true → fit a b = true := by decide +kernel
theorem grows {a c : Int} (b : Int) (ha : right a = true) (hc : right c = true) : fits (join a c) b = true → fits a b = true := by
  obtain ⟨a, la, rfl⟩ := nat ha
  obtain ⟨c, lc, rfl⟩ := nat hc
  have l1 := best_lt a c 7 (by omega)
  cases hb : right b
  · intro h; simp [fits, hb] at h
  obtain ⟨b, lb, rfl⟩ := nat hb
  rw [join_nat la lc, fits_nat l1 lb, fits_nat la lb]
  exact grows_fin a la c lc b lb
theorem tables_fin : ∀ a, a < 7 → ∀ b, b < 7 → fit a b = fit b a := by decide +kernel
theorem fits_symm (a b : Int) : fits a b = fits b a := by
  cases ha : right a
  · simp [fits, ha]
  cases hb : right b
  · simp [fits, hb]
  obtain ⟨a, la, rfl⟩ := nat ha
  obtain ⟨b, lb, rfl⟩ := nat hb
  rw [fits_nat la lb, fits_nat lb la]
  exact tables_fin a la b lb
theorem intent_cases (m : Int) : (m = 1 ∧ intent m = 1) ∨ (m = 2 ∧ intent m = 2) ∨ (m = 3 ∧ intent m = 1) ∨ (m = 4 ∧ intent m = 4) ∨ (m = 5 ∧ intent m = 2) ∨ (m = 6 ∧ intent m = 2) ∨ ((m ≠ 1 ∧ m ≠ 2 ∧ m ≠ 3 ∧ m ≠ 4 ∧ m ≠ 5 ∧ m ≠ 6) ∧ intent m = 0) := by
  unfold intent
  split
  · omega
  split
  · omega
  split <;> omega
end M

set_option maxHeartbeats 2000000 in
theorem modeJoins_any (ht : Tabs W) (a b c : Int) (x : Lt W) : Calls Tryd.prog 4 #[.int .i64 a, .int .i64 b, .int .i64 c] x.1 fun e w' => e = .returned (.bool true) ∧ ∃ y : Lt W, w' = y.1 := by
  obtain ⟨j, hj⟩ : ∃ j, M.join a b = j := ⟨_, rfl⟩
  cases ha : M.right a
  · have hj0 := M.join_none (b := b) (.inl ha)
    rw [hj] at hj0
    subst hj0
    go_enter Tryd.func4, Tryd.ntmps4
    go_wp2_with (first
      | (go_at_call 10; refine (awake_any ht _).mono ?_; rintro e w' ⟨rfl, y, rfl⟩)
      | (go_at_call 17; refine (right_is (by assumption) _).mono ?_; rintro e w' ⟨rfl, y, rfl⟩)
      | (go_at_call 11; refine (fits_is ht (by assumption) _).mono ?_; rintro e w' ⟨rfl, y, rfl⟩)
      | (go_at_call 13; refine (covers_is ht (by assumption) _).mono ?_; rintro e w' ⟨rfl, y, rfl⟩)
      | (go_at_call 15; refine (join_is ht (by assumption) _).mono ?_; rintro e w' ⟨rfl, y, rfl⟩)
      | (go_at_call 20; refine (intent_is (by assumption) _).mono ?_; rintro e w' ⟨rfl, y, rfl⟩))
    go_ret
    exact ⟨rfl, _, rfl⟩
  cases hb : M.right b
  · have hj0 := M.join_none (a := a) (.inr hb)
    rw [hj] at hj0
    subst hj0
    go_enter Tryd.func4, Tryd.ntmps4
    go_wp2_with (first
      | (go_at_call 10; refine (awake_any ht _).mono ?_; rintro e w' ⟨rfl, y, rfl⟩)
      | (go_at_call 17; refine (right_is (by assumption) _).mono ?_; rintro e w' ⟨rfl, y, rfl⟩)
      | (go_at_call 11; refine (fits_is ht (by assumption) _).mono ?_; rintro e w' ⟨rfl, y, rfl⟩)
      | (go_at_call 13; refine (covers_is ht (by assumption) _).mono ?_; rintro e w' ⟨rfl, y, rfl⟩)
      | (go_at_call 15; refine (join_is ht (by assumption) _).mono ?_; rintro e w' ⟨rfl, y, rfl⟩)
      | (go_at_call 20; refine (intent_is (by assumption) _).mono ?_; rintro e w' ⟨rfl, y, rfl⟩))
    go_ret
    exact ⟨rfl, _, rfl⟩
  cases hc : M.right c
  · go_enter Tryd.func4, Tryd.ntmps4
    go_wp2_with (first
      | (go_at_call 10; refine (awake_any ht _).mono ?_; rintro e w' ⟨rfl, y, rfl⟩)
      | (go_at_call 17; refine (right_is (by assumption) _).mono ?_; rintro e w' ⟨rfl, y, rfl⟩)
      | (go_at_call 11; refine (fits_is ht (by assumption) _).mono ?_; rintro e w' ⟨rfl, y, rfl⟩)
      | (go_at_call 13; refine (covers_is ht (by assumption) _).mono ?_; rintro e w' ⟨rfl, y, rfl⟩)
      | (go_at_call 15; refine (join_is ht (by assumption) _).mono ?_; rintro e w' ⟨rfl, y, rfl⟩)
      | (go_at_call 20; refine (intent_is (by assumption) _).mono ?_; rintro e w' ⟨rfl, y, rfl⟩))
    go_ret
    exact ⟨rfl, _, rfl⟩
  obtain ⟨k1, k2, k3, k4⟩ := M.joins ha hb hc
  rw [hj] at k1 k2 k3 k4
  cases h1 : M.fits a c <;> cases h2 : M.fits b c <;> cases h3 : M.covers c a <;> cases h4 : M.covers c b
  all_goals simp only [h1, h2, h3, h4, Bool.and_true, Bool.and_false, true_implies, Bool.false_eq_true, false_implies, implies_true] at k1 k4
  all_goals (
    go_enter Tryd.func4, Tryd.ntmps4
    go_wp2_with (first
      | (go_at_call 10; refine (awake_any ht _).mono ?_; rintro e w' ⟨rfl, y, rfl⟩)
      | (go_at_call 17; refine (right_is (by assumption) _).mono ?_; rintro e w' ⟨rfl, y, rfl⟩)
      | (go_at_call 11; refine (fits_is ht (by assumption) _).mono ?_; rintro e w' ⟨rfl, y, rfl⟩)
      | (go_at_call 13; refine (covers_is ht (by assumption) _).mono ?_; rintro e w' ⟨rfl, y, rfl⟩)
      | (go_at_call 15; refine (join_is ht (by assumption) _).mono ?_; rintro e w' ⟨rfl, y, rfl⟩)
      | (go_at_call 20; refine (intent_is (by assumption) _).mono ?_; rintro e w' ⟨rfl, y, rfl⟩))
    go_ret
    exact ⟨rfl, _, rfl⟩)

theorem modeGrows_any (ht : Tabs W) (a b c : Int) (x : Lt W) : Calls Tryd.prog 6 #[.int .i64 a, .int .i64 b, .int .i64 c] x.1 fun e w' => e = .returned (.bool true) ∧ ∃ y : Lt W, w' = y.1 := by
  obtain ⟨j, hj⟩ : ∃ j, M.join a c = j := ⟨_, rfl⟩
  cases ha : M.right a
  · have hj0 := M.join_none (b := c) (.inl ha)
    rw [hj] at hj0
    subst hj0
    go_enter Tryd.func6, Tryd.ntmps6
    go_wp2_with (first
      | (go_at_call 10; refine (awake_any ht _).mono ?_; rintro e w' ⟨rfl, y, rfl⟩)
      | (go_at_call 17; refine (right_is (by assumption) _).mono ?_; rintro e w' ⟨rfl, y, rfl⟩)
      | (go_at_call 11; refine (fits_is ht (by assumption) _).mono ?_; rintro e w' ⟨rfl, y, rfl⟩)
      | (go_at_call 13; refine (covers_is ht (by assumption) _).mono ?_; rintro e w' ⟨rfl, y, rfl⟩)
      | (go_at_call 15; refine (join_is ht (by assumption) _).mono ?_; rintro e w' ⟨rfl, y, rfl⟩)
      | (go_at_call 20; refine (intent_is (by assumption) _).mono ?_; rintro e w' ⟨rfl, y, rfl⟩))
    go_ret
    exact ⟨rfl, _, rfl⟩
  cases hc : M.right c
  · have hj0 := M.join_none (a := a) (.inr hc)
    rw [hj] at hj0
    subst hj0
    go_enter Tryd.func6, Tryd.ntmps6
    go_wp2_with (first
      | (go_at_call 10; refine (awake_any ht _).mono ?_; rintro e w' ⟨rfl, y, rfl⟩)
      | (go_at_call 17; refine (right_is (by assumption) _).mono ?_; rintro e w' ⟨rfl, y, rfl⟩)
      | (go_at_call 11; refine (fits_is ht (by assumption) _).mono ?_; rintro e w' ⟨rfl, y, rfl⟩)
      | (go_at_call 13; refine (covers_is ht (by assumption) _).mono ?_; rintro e w' ⟨rfl, y, rfl⟩)
      | (go_at_call 15; refine (join_is ht (by assumption) _).mono ?_; rintro e w' ⟨rfl, y, rfl⟩)
      | (go_at_call 20; refine (intent_is (by assumption) _).mono ?_; rintro e w' ⟨rfl, y, rfl⟩))
    go_ret
    exact ⟨rfl, _, rfl⟩
  have k := M.grows b ha hc
  rw [hj] at k
  cases h1 : M.fits j b
  · clear k
    go_enter Tryd.func6, Tryd.ntmps6
    go_wp2_with (first
      | (go_at_call 10; refine (awake_any ht _).mono ?_; rintro e w' ⟨rfl, y, rfl⟩)
      | (go_at_call 17; refine (right_is (by assumption) _).mono ?_; rintro e w' ⟨rfl, y, rfl⟩)
      | (go_at_call 11; refine (fits_is ht (by assumption) _).mono ?_; rintro e w' ⟨rfl, y, rfl⟩)
      | (go_at_call 13; refine (covers_is ht (by assumption) _).mono ?_; rintro e w' ⟨rfl, y, rfl⟩)
      | (go_at_call 15; refine (join_is ht (by assumption) _).mono ?_; rintro e w' ⟨rfl, y, rfl⟩)
      | (go_at_call 20; refine (intent_is (by assumption) _).mono ?_; rintro e w' ⟨rfl, y, rfl⟩))
    go_ret
    exact ⟨rfl, _, rfl⟩
  · have k' := k h1
    clear k
    go_enter Tryd.func6, Tryd.ntmps6
    go_wp2_with (first
      | (go_at_call 10; refine (awake_any ht _).mono ?_; rintro e w' ⟨rfl, y, rfl⟩)
      | (go_at_call 17; refine (right_is (by assumption) _).mono ?_; rintro e w' ⟨rfl, y, rfl⟩)
      | (go_at_call 11; refine (fits_is ht (by assumption) _).mono ?_; rintro e w' ⟨rfl, y, rfl⟩)
      | (go_at_call 13; refine (covers_is ht (by assumption) _).mono ?_; rintro e w' ⟨rfl, y, rfl⟩)
      | (go_at_call 15; refine (join_is ht (by assumption) _).mono ?_; rintro e w' ⟨rfl, y, rfl⟩)
      | (go_at_call 20; refine (intent_is (by assumption) _).mono ?_; rintro e w' ⟨rfl, y, rfl⟩))
    go_ret
    exact ⟨rfl, _, rfl⟩

theorem modeLadder_any (ht : Tabs W) (m : Int) (x : Lt W) : Calls Tryd.prog 7 #[.int .i64 m] x.1 fun e w' => e = .returned (.bool true) ∧ ∃ y : Lt W, w' = y.1 := by
  cases hm : M.right m
  · have k1 : M.fits m 0 = false := by simp [M.fits, hm]
    have k2 : M.covers 6 m = false := by simp [M.covers, hm]
    have k3 : M.join m 3 = 0 := M.join_none (.inl hm)
    go_enter Tryd.func7, Tryd.ntmps7
    go_wp2_with (first
      | (go_at_call 10; refine (awake_any ht _).mono ?_; rintro e w' ⟨rfl, y, rfl⟩)
      | (go_at_call 17; refine (right_is (by assumption) _).mono ?_; rintro e w' ⟨rfl, y, rfl⟩)
      | (go_at_call 11; refine (fits_is ht (by assumption) _).mono ?_; rintro e w' ⟨rfl, y, rfl⟩)
      | (go_at_call 13; refine (covers_is ht (by assumption) _).mono ?_; rintro e w' ⟨rfl, y, rfl⟩)
      | (go_at_call 15; refine (join_is ht (by assumption) _).mono ?_; rintro e w' ⟨rfl, y, rfl⟩)
      | (go_at_call 20; refine (intent_is (by assumption) _).mono ?_; rintro e w' ⟨rfl, y, rfl⟩))
    go_ret
    exact ⟨rfl, _, rfl⟩
  have hs := M.seven hm
  rcases hs with rfl | rfl | rfl | rfl | rfl | rfl | rfl
  · have k1 : M.fits 6 0 = true := by decide
    have k2 : M.fits 1 0 = true := by decide
    have k4' : M.fits 4 0 = true := by decide
    have k5 : M.fits 5 0 = true := by decide
    have k3 : M.fits 3 0 = true := by decide
    have k7 : M.join 0 6 = 6 := by decide
    have k8 : M.join 0 0 = 0 := by decide
    have k9 : M.right 0 = true := by decide
    go_enter Tryd.func7, Tryd.ntmps7
    go_wp2_with (first
      | (go_at_call 10; refine (awake_any ht _).mono ?_; rintro e w' ⟨rfl, y, rfl⟩)
      | (go_at_call 17; refine (right_is (by assumption) _).mono ?_; rintro e w' ⟨rfl, y, rfl⟩)
      | (go_at_call 11; refine (fits_is ht (by assumption) _).mono ?_; rintro e w' ⟨rfl, y, rfl⟩)
      | (go_at_call 13; refine (covers_is ht (by assumption) _).mono ?_; rintro e w' ⟨rfl, y, rfl⟩)
      | (go_at_call 15; refine (join_is ht (by assumption) _).mono ?_; rintro e w' ⟨rfl, y, rfl⟩)
      | (go_at_call 20; refine (intent_is (by assumption) _).mono ?_; rintro e w' ⟨rfl, y, rfl⟩))
    go_ret
    exact ⟨rfl, _, rfl⟩
  · have k1 : M.fits 6 1 = false := by decide
    have k2 : M.fits 1 1 = true := by decide
    have k4' : M.fits 4 1 = true := by decide
    have k5 : M.fits 5 1 = true := by decide
    have k3 : M.fits 3 1 = true := by decide
    have k7 : M.join 1 6 = 6 := by decide
    have k8 : M.join 1 0 = 1 := by decide
    have k9 : M.right 1 = true := by decide
    go_enter Tryd.func7, Tryd.ntmps7
    go_wp2_with (first
      | (go_at_call 10; refine (awake_any ht _).mono ?_; rintro e w' ⟨rfl, y, rfl⟩)
      | (go_at_call 17; refine (right_is (by assumption) _).mono ?_; rintro e w' ⟨rfl, y, rfl⟩)
      | (go_at_call 11; refine (fits_is ht (by assumption) _).mono ?_; rintro e w' ⟨rfl, y, rfl⟩)
      | (go_at_call 13; refine (covers_is ht (by assumption) _).mono ?_; rintro e w' ⟨rfl, y, rfl⟩)
      | (go_at_call 15; refine (join_is ht (by assumption) _).mono ?_; rintro e w' ⟨rfl, y, rfl⟩)
      | (go_at_call 20; refine (intent_is (by assumption) _).mono ?_; rintro e w' ⟨rfl, y, rfl⟩))
    go_ret
    exact ⟨rfl, _, rfl⟩
  · have k1 : M.fits 6 2 = false := by decide
    have k2 : M.fits 1 2 = true := by decide
    have k4' : M.fits 4 2 = false := by decide
    have k5 : M.fits 5 2 = false := by decide
    have k3 : M.fits 3 2 = false := by decide
    have k7 : M.join 2 6 = 6 := by decide
    have k8 : M.join 2 0 = 2 := by decide
    have k9 : M.right 2 = true := by decide
    go_enter Tryd.func7, Tryd.ntmps7
    go_wp2_with (first
      | (go_at_call 10; refine (awake_any ht _).mono ?_; rintro e w' ⟨rfl, y, rfl⟩)
      | (go_at_call 17; refine (right_is (by assumption) _).mono ?_; rintro e w' ⟨rfl, y, rfl⟩)
      | (go_at_call 11; refine (fits_is ht (by assumption) _).mono ?_; rintro e w' ⟨rfl, y, rfl⟩)
      | (go_at_call 13; refine (covers_is ht (by assumption) _).mono ?_; rintro e w' ⟨rfl, y, rfl⟩)
      | (go_at_call 15; refine (join_is ht (by assumption) _).mono ?_; rintro e w' ⟨rfl, y, rfl⟩)
      | (go_at_call 20; refine (intent_is (by assumption) _).mono ?_; rintro e w' ⟨rfl, y, rfl⟩))
    go_ret
    exact ⟨rfl, _, rfl⟩
  · have k1 : M.fits 6 3 = false := by decide
    have k2 : M.fits 1 3 = true := by decide
    have k4' : M.fits 4 3 = false := by decide
    have k5 : M.fits 5 3 = true := by decide
    have k3 : M.fits 3 3 = true := by decide
    have k7 : M.join 3 6 = 6 := by decide
    have k8 : M.join 3 0 = 3 := by decide
    have k9 : M.right 3 = true := by decide
    go_enter Tryd.func7, Tryd.ntmps7
    go_wp2_with (first
      | (go_at_call 10; refine (awake_any ht _).mono ?_; rintro e w' ⟨rfl, y, rfl⟩)
      | (go_at_call 17; refine (right_is (by assumption) _).mono ?_; rintro e w' ⟨rfl, y, rfl⟩)
      | (go_at_call 11; refine (fits_is ht (by assumption) _).mono ?_; rintro e w' ⟨rfl, y, rfl⟩)
      | (go_at_call 13; refine (covers_is ht (by assumption) _).mono ?_; rintro e w' ⟨rfl, y, rfl⟩)
      | (go_at_call 15; refine (join_is ht (by assumption) _).mono ?_; rintro e w' ⟨rfl, y, rfl⟩)
      | (go_at_call 20; refine (intent_is (by assumption) _).mono ?_; rintro e w' ⟨rfl, y, rfl⟩))
    go_ret
    exact ⟨rfl, _, rfl⟩
  · have k1 : M.fits 6 4 = false := by decide
    have k2 : M.fits 1 4 = true := by decide
    have k4' : M.fits 4 4 = false := by decide
    have k5 : M.fits 5 4 = false := by decide
    have k3 : M.fits 3 4 = false := by decide
    have k7 : M.join 4 6 = 6 := by decide
    have k8 : M.join 4 0 = 4 := by decide
    have k9 : M.right 4 = true := by decide
    go_enter Tryd.func7, Tryd.ntmps7
    go_wp2_with (first
      | (go_at_call 10; refine (awake_any ht _).mono ?_; rintro e w' ⟨rfl, y, rfl⟩)
      | (go_at_call 17; refine (right_is (by assumption) _).mono ?_; rintro e w' ⟨rfl, y, rfl⟩)
      | (go_at_call 11; refine (fits_is ht (by assumption) _).mono ?_; rintro e w' ⟨rfl, y, rfl⟩)
      | (go_at_call 13; refine (covers_is ht (by assumption) _).mono ?_; rintro e w' ⟨rfl, y, rfl⟩)
      | (go_at_call 15; refine (join_is ht (by assumption) _).mono ?_; rintro e w' ⟨rfl, y, rfl⟩)
      | (go_at_call 20; refine (intent_is (by assumption) _).mono ?_; rintro e w' ⟨rfl, y, rfl⟩))
    go_ret
    exact ⟨rfl, _, rfl⟩
  · have k1 : M.fits 6 5 = false := by decide
    have k2 : M.fits 1 5 = true := by decide
    have k4' : M.fits 4 5 = false := by decide
    have k5 : M.fits 5 5 = false := by decide
    have k3 : M.fits 3 5 = true := by decide
    have k7 : M.join 5 6 = 6 := by decide
    have k8 : M.join 5 0 = 5 := by decide
    have k9 : M.right 5 = true := by decide
    go_enter Tryd.func7, Tryd.ntmps7
    go_wp2_with (first
      | (go_at_call 10; refine (awake_any ht _).mono ?_; rintro e w' ⟨rfl, y, rfl⟩)
      | (go_at_call 17; refine (right_is (by assumption) _).mono ?_; rintro e w' ⟨rfl, y, rfl⟩)
      | (go_at_call 11; refine (fits_is ht (by assumption) _).mono ?_; rintro e w' ⟨rfl, y, rfl⟩)
      | (go_at_call 13; refine (covers_is ht (by assumption) _).mono ?_; rintro e w' ⟨rfl, y, rfl⟩)
      | (go_at_call 15; refine (join_is ht (by assumption) _).mono ?_; rintro e w' ⟨rfl, y, rfl⟩)
      | (go_at_call 20; refine (intent_is (by assumption) _).mono ?_; rintro e w' ⟨rfl, y, rfl⟩))
    go_ret
    exact ⟨rfl, _, rfl⟩
  · have k1 : M.fits 6 6 = false := by decide
    have k2 : M.fits 1 6 = false := by decide
    have k4' : M.fits 4 6 = false := by decide
    have k5 : M.fits 5 6 = false := by decide
    have k3 : M.fits 3 6 = false := by decide
    have k7 : M.join 6 6 = 6 := by decide
    have k8 : M.join 6 0 = 6 := by decide
    have k9 : M.right 6 = true := by decide
    go_enter Tryd.func7, Tryd.ntmps7
    go_wp2_with (first
      | (go_at_call 10; refine (awake_any ht _).mono ?_; rintro e w' ⟨rfl, y, rfl⟩)
      | (go_at_call 17; refine (right_is (by assumption) _).mono ?_; rintro e w' ⟨rfl, y, rfl⟩)
      | (go_at_call 11; refine (fits_is ht (by assumption) _).mono ?_; rintro e w' ⟨rfl, y, rfl⟩)
      | (go_at_call 13; refine (covers_is ht (by assumption) _).mono ?_; rintro e w' ⟨rfl, y, rfl⟩)
      | (go_at_call 15; refine (join_is ht (by assumption) _).mono ?_; rintro e w' ⟨rfl, y, rfl⟩)
      | (go_at_call 20; refine (intent_is (by assumption) _).mono ?_; rintro e w' ⟨rfl, y, rfl⟩))
    go_ret
    exact ⟨rfl, _, rfl⟩

set_option maxHeartbeats 4000000 in
theorem modeOrders_any (ht : Tabs W) (a b c : Int) (x : Lt W) : Calls Tryd.prog 5 #[.int .i64 a, .int .i64 b, .int .i64 c] x.1 fun e w' => e = .returned (.bool true) ∧ ∃ y : Lt W, w' = y.1 := by
  cases ha : M.right a
  · have k1 : M.covers a b = false := by simp [M.covers, ha]
    go_enter Tryd.func5, Tryd.ntmps5
    go_wp2_with (first
      | (go_at_call 10; refine (awake_any ht _).mono ?_; rintro e w' ⟨rfl, y, rfl⟩)
      | (go_at_call 17; refine (right_is (by assumption) _).mono ?_; rintro e w' ⟨rfl, y, rfl⟩)
      | (go_at_call 11; refine (fits_is ht (by assumption) _).mono ?_; rintro e w' ⟨rfl, y, rfl⟩)
      | (go_at_call 13; refine (covers_is ht (by assumption) _).mono ?_; rintro e w' ⟨rfl, y, rfl⟩)
      | (go_at_call 15; refine (join_is ht (by assumption) _).mono ?_; rintro e w' ⟨rfl, y, rfl⟩)
      | (go_at_call 20; refine (intent_is (by assumption) _).mono ?_; rintro e w' ⟨rfl, y, rfl⟩))
    go_ret
    exact ⟨rfl, _, rfl⟩
  cases hb : M.right b
  · have k1 : M.covers a b = false := by simp [M.covers, hb]
    go_enter Tryd.func5, Tryd.ntmps5
    go_wp2_with (first
      | (go_at_call 10; refine (awake_any ht _).mono ?_; rintro e w' ⟨rfl, y, rfl⟩)
      | (go_at_call 17; refine (right_is (by assumption) _).mono ?_; rintro e w' ⟨rfl, y, rfl⟩)
      | (go_at_call 11; refine (fits_is ht (by assumption) _).mono ?_; rintro e w' ⟨rfl, y, rfl⟩)
      | (go_at_call 13; refine (covers_is ht (by assumption) _).mono ?_; rintro e w' ⟨rfl, y, rfl⟩)
      | (go_at_call 15; refine (join_is ht (by assumption) _).mono ?_; rintro e w' ⟨rfl, y, rfl⟩)
      | (go_at_call 20; refine (intent_is (by assumption) _).mono ?_; rintro e w' ⟨rfl, y, rfl⟩))
    go_ret
    exact ⟨rfl, _, rfl⟩
  cases hc : M.right c
  · cases k1 : M.covers a b
    · go_enter Tryd.func5, Tryd.ntmps5
      go_wp2_with (first
        | (go_at_call 10; refine (awake_any ht _).mono ?_; rintro e w' ⟨rfl, y, rfl⟩)
        | (go_at_call 17; refine (right_is (by assumption) _).mono ?_; rintro e w' ⟨rfl, y, rfl⟩)
        | (go_at_call 11; refine (fits_is ht (by assumption) _).mono ?_; rintro e w' ⟨rfl, y, rfl⟩)
        | (go_at_call 13; refine (covers_is ht (by assumption) _).mono ?_; rintro e w' ⟨rfl, y, rfl⟩)
        | (go_at_call 15; refine (join_is ht (by assumption) _).mono ?_; rintro e w' ⟨rfl, y, rfl⟩)
        | (go_at_call 20; refine (intent_is (by assumption) _).mono ?_; rintro e w' ⟨rfl, y, rfl⟩))
      go_ret
      exact ⟨rfl, _, rfl⟩
    · go_enter Tryd.func5, Tryd.ntmps5
      go_wp2_with (first
        | (go_at_call 10; refine (awake_any ht _).mono ?_; rintro e w' ⟨rfl, y, rfl⟩)
        | (go_at_call 17; refine (right_is (by assumption) _).mono ?_; rintro e w' ⟨rfl, y, rfl⟩)
        | (go_at_call 11; refine (fits_is ht (by assumption) _).mono ?_; rintro e w' ⟨rfl, y, rfl⟩)
        | (go_at_call 13; refine (covers_is ht (by assumption) _).mono ?_; rintro e w' ⟨rfl, y, rfl⟩)
        | (go_at_call 15; refine (join_is ht (by assumption) _).mono ?_; rintro e w' ⟨rfl, y, rfl⟩)
        | (go_at_call 20; refine (intent_is (by assumption) _).mono ?_; rintro e w' ⟨rfl, y, rfl⟩))
      go_ret
      exact ⟨rfl, _, rfl⟩
  obtain ⟨k1, k2, k3, k4, k5, k6, k7⟩ := M.orders ha hb hc
  obtain ⟨ab, hab⟩ : ∃ r, M.join a b = r := ⟨_, rfl⟩
  obtain ⟨bc, hbc⟩ : ∃ r, M.join b c = r := ⟨_, rfl⟩
  obtain ⟨abc, habc⟩ : ∃ r, M.join ab c = r := ⟨_, rfl⟩
  rw [hab] at k3 k4
  rw [hbc, habc] at k3
  have k3' := k3.symm
  have k4' := k4.symm
  clear k3 k4
  by_cases he : a = b
  · subst he
    have q : M.covers a a = true := by
      have := M.orders ha ha ha
      have h2 := this.2.1
      simp at h2
      exact h2
    clear k2 hb
    cases h2 : M.covers a c
    · go_enter Tryd.func5, Tryd.ntmps5
      go_wp2_with (first
        | (go_at_call 10; refine (awake_any ht _).mono ?_; rintro e w' ⟨rfl, y, rfl⟩)
        | (go_at_call 17; refine (right_is (by assumption) _).mono ?_; rintro e w' ⟨rfl, y, rfl⟩)
        | (go_at_call 11; refine (fits_is ht (by assumption) _).mono ?_; rintro e w' ⟨rfl, y, rfl⟩)
        | (go_at_call 13; refine (covers_is ht (by assumption) _).mono ?_; rintro e w' ⟨rfl, y, rfl⟩)
        | (go_at_call 15; refine (join_is ht (by assumption) _).mono ?_; rintro e w' ⟨rfl, y, rfl⟩)
        | (go_at_call 20; refine (intent_is (by assumption) _).mono ?_; rintro e w' ⟨rfl, y, rfl⟩))
      go_ret
      exact ⟨rfl, _, rfl⟩
    · go_enter Tryd.func5, Tryd.ntmps5
      go_wp2_with (first
        | (go_at_call 10; refine (awake_any ht _).mono ?_; rintro e w' ⟨rfl, y, rfl⟩)
        | (go_at_call 17; refine (right_is (by assumption) _).mono ?_; rintro e w' ⟨rfl, y, rfl⟩)
        | (go_at_call 11; refine (fits_is ht (by assumption) _).mono ?_; rintro e w' ⟨rfl, y, rfl⟩)
        | (go_at_call 13; refine (covers_is ht (by assumption) _).mono ?_; rintro e w' ⟨rfl, y, rfl⟩)
        | (go_at_call 15; refine (join_is ht (by assumption) _).mono ?_; rintro e w' ⟨rfl, y, rfl⟩)
        | (go_at_call 20; refine (intent_is (by assumption) _).mono ?_; rintro e w' ⟨rfl, y, rfl⟩))
      go_ret
      exact ⟨rfl, _, rfl⟩
  · have hne : (a == b) = false := by simpa using he
    rw [hne] at k2
    cases h1 : M.covers a b <;> cases h2 : M.covers b a <;> cases h3 : M.covers b c <;> cases h4 : M.covers a c
    all_goals simp only [h1, h2, h3, h4, Bool.and_true, Bool.and_false, Bool.and_self, true_implies, Bool.false_eq_true, Bool.true_eq_false, false_implies, implies_true] at k1 k2
    all_goals (
      go_enter Tryd.func5, Tryd.ntmps5
      go_wp2_with (first
        | (go_at_call 10; refine (awake_any ht _).mono ?_; rintro e w' ⟨rfl, y, rfl⟩)
        | (go_at_call 17; refine (right_is (by assumption) _).mono ?_; rintro e w' ⟨rfl, y, rfl⟩)
        | (go_at_call 11; refine (fits_is ht (by assumption) _).mono ?_; rintro e w' ⟨rfl, y, rfl⟩)
        | (go_at_call 13; refine (covers_is ht (by assumption) _).mono ?_; rintro e w' ⟨rfl, y, rfl⟩)
        | (go_at_call 15; refine (join_is ht (by assumption) _).mono ?_; rintro e w' ⟨rfl, y, rfl⟩)
        | (go_at_call 20; refine (intent_is (by assumption) _).mono ?_; rintro e w' ⟨rfl, y, rfl⟩))
      go_ret
      exact ⟨rfl, _, rfl⟩)

set_option maxHeartbeats 8000000 in
theorem modeTables_any (ht : Tabs W) (a b : Int) (x : Lt W) : Calls Tryd.prog 9 #[.int .i64 a, .int .i64 b] x.1 fun e w' => e = .returned (.bool true) ∧ ∃ y : Lt W, w' = y.1 := by
  have hs := M.fits_symm a b
  obtain ⟨f, hf⟩ : ∃ r, M.fits a b = r := ⟨_, rfl⟩
  have hg : M.fits b a = f := hs.symm.trans hf
  clear hs
  have ca := M.intent_cases a
  have cb := M.intent_cases b
  rcases ca with ⟨rfl, ia⟩ | ⟨rfl, ia⟩ | ⟨rfl, ia⟩ | ⟨rfl, ia⟩ | ⟨rfl, ia⟩ | ⟨rfl, ia⟩ | ⟨⟨n1, n2, n3, n4, n5, n6⟩, ia⟩ <;>
    rcases cb with ⟨rfl, ib⟩ | ⟨rfl, ib⟩ | ⟨rfl, ib⟩ | ⟨rfl, ib⟩ | ⟨rfl, ib⟩ | ⟨rfl, ib⟩ | ⟨⟨m1, m2, m3, m4, m5, m6⟩, ib⟩
  all_goals (
    have c0 : M.covers 6 0 = true := by decide
    have c1 : M.covers 6 1 = true := by decide
    have c2 : M.covers 6 2 = true := by decide
    have c4 : M.covers 6 4 = true := by decide
    have s0 : M.fits 3 0 = true := by decide
    have s1 : M.fits 3 1 = true := by decide
    have s2 : M.fits 3 2 = false := by decide
    have s4 : M.fits 3 4 = false := by decide
    have i0 : M.intent 0 = 0 := by decide
    have i1 : M.intent 1 = 1 := by decide
    have i2 : M.intent 2 = 2 := by decide
    have i4 : M.intent 4 = 4 := by decide
    have p1 : M.fits 1 1 = true := by decide
    have p2 : M.fits 1 2 = true := by decide
    have p3 : M.fits 2 1 = true := by decide
    have p4 : M.fits 2 2 = true := by decide
    go_enter Tryd.func9, Tryd.ntmps9
    go_wp2_with (first
      | (go_at_call 10; refine (awake_any ht _).mono ?_; rintro e w' ⟨rfl, y, rfl⟩)
      | (go_at_call 17; refine (right_is (by assumption) _).mono ?_; rintro e w' ⟨rfl, y, rfl⟩)
      | (go_at_call 11; refine (fits_is ht (by assumption) _).mono ?_; rintro e w' ⟨rfl, y, rfl⟩)
      | (go_at_call 13; refine (covers_is ht (by assumption) _).mono ?_; rintro e w' ⟨rfl, y, rfl⟩)
      | (go_at_call 15; refine (join_is ht (by assumption) _).mono ?_; rintro e w' ⟨rfl, y, rfl⟩)
      | (go_at_call 20; refine (intent_is (by assumption) _).mono ?_; rintro e w' ⟨rfl, y, rfl⟩))
    go_ret
    exact ⟨rfl, _, rfl⟩)
end Go.Proofs.YtfonmcncgfabaaaDoor
