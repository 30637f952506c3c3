/-
  The statements on modes, walked: each returns true. Conditions: the two package-level tables of package mode hold what the program's text lays.
-/
import Derived.Test.YtfonmcncgfabaaaDoorModeRef
namespace Go.Proofs.YtfonmcncgfabaaaDoor
open Go.RowKit
variable {W : World}

theorem join_is (ht : Tabs W) {a b r : Int} (h : M.join a b = r) (x : Lt W) : Calls Tryd.prog 15 #[.int .i64 a, .int .i64 b] x.1 fun e w' => e = .returned (.int .i64 r) ∧ ∃ y : Lt W, w' = y.1 := h ▸ join_any ht a b x
theorem name_is (ht : Tabs W) {m : Int} {r : ByteArray} (h : M.name m = r) (x : Lt W) : Calls Tryd.prog 18 #[.int .i64 m] x.1 fun e w' => e = .returned (.string r) ∧ ∃ y : Lt W, w' = y.1 := h ▸ name_any ht m x

theorem awake_any (ht : Tabs W) (x : Lt W) : Calls Tryd.prog 10 #[] x.1 fun e w' => e = .returned (.bool true) ∧ ∃ y : Lt W, w' = y.1 := by
  go_enter Tryd.func10, Tryd.ntmps10
  go_wp2_with fail
  refine (join_is ht (r := 4) (by decide) _).mono ?_; rintro e w' ⟨rfl, y, rfl⟩
  go_wp2_with fail
  refine (join_is ht (r := 4) (by decide) _).mono ?_; rintro e w' ⟨rfl, y, rfl⟩
  go_wp2_with fail
  refine (covers_is ht (r := true) (by decide) _).mono ?_; rintro e w' ⟨rfl, y, rfl⟩
  go_wp2_with fail
  refine (covers_is ht (r := false) (by decide) _).mono ?_; rintro e w' ⟨rfl, y, rfl⟩
  go_wp2_with fail
  refine (fits_is ht (r := true) (by decide) _).mono ?_; rintro e w' ⟨rfl, y, rfl⟩
  go_wp2_with fail
  refine (name_is ht (r := ⟨#[83, 73, 88]⟩) (by decide) _).mono ?_; rintro e w' ⟨rfl, y, rfl⟩
  go_wp2_with fail
  go_ret
  exact ⟨rfl, _, rfl⟩

theorem modePairs_any (ht : Tabs W) (a b : Int) (x : Lt W) : Calls Tryd.prog 3 #[.int .i64 a, .int .i64 b] x.1 fun e w' => e = .returned (.bool true) ∧ ∃ y : Lt W, w' = y.1 := by
  go_enter Tryd.func3, Tryd.ntmps3
  go_wp2_with fail
  refine (awake_any ht _).mono ?_; rintro e w' ⟨rfl, y, rfl⟩
  go_wp2_with fail
  refine (fits_any ht _ _ _).mono ?_; rintro e w' ⟨rfl, y, rfl⟩
  go_wp2_with fail
  refine (rfits_any _ _ _).mono ?_; rintro e w' ⟨rfl, y, rfl⟩
  go_wp2_with fail
  refine (covers_any ht _ _ _).mono ?_; rintro e w' ⟨rfl, y, rfl⟩
  go_wp2_with fail
  refine (rcovers_any _ _ _).mono ?_; rintro e w' ⟨rfl, y, rfl⟩
  go_wp2_with fail
  refine (join_any ht _ _ _).mono ?_; rintro e w' ⟨rfl, y, rfl⟩
  go_wp2_with fail
  refine (rjoin_any _ _ _).mono ?_; rintro e w' ⟨rfl, y, rfl⟩
  go_wp2_with fail
  go_ret
  exact ⟨rfl, _, rfl⟩

theorem modeNames_any (ht : Tabs W) (m : Int) (x : Lt W) : Calls Tryd.prog 8 #[.int .i64 m] x.1 fun e w' => e = .returned (.bool true) ∧ ∃ y : Lt W, w' = y.1 := by
  cases hr : M.right m
  · rcases M.right_false.1 hr with h | h
    · go_enter Tryd.func8, Tryd.ntmps8
      go_wp2_with fail
      refine (awake_any ht _).mono ?_; rintro e w' ⟨rfl, y, rfl⟩
      go_wp2_with fail
      refine (right_is hr _).mono ?_; rintro e w' ⟨rfl, y, rfl⟩
      go_wp2_with fail
      refine (name_any ht _ _).mono ?_; rintro e w' ⟨rfl, y, rfl⟩
      go_wp2_with fail
      refine (rname_any _ _).mono ?_; rintro e w' ⟨rfl, y, rfl⟩
      go_wp2_with fail
      refine (intent_any _ _).mono ?_; rintro e w' ⟨rfl, y, rfl⟩
      go_wp2_with fail
      refine (rintent_any _ _).mono ?_; rintro e w' ⟨rfl, y, rfl⟩
      go_wp2_with fail
      go_ret
      exact ⟨rfl, _, rfl⟩
    · have h0 : 0 ≤ m := by omega
      have hd : decide (m ≤ 6) = false := decide_eq_false (by omega)
      go_enter Tryd.func8, Tryd.ntmps8
      go_wp2_with fail
      refine (awake_any ht _).mono ?_; rintro e w' ⟨rfl, y, rfl⟩
      go_wp2_with fail
      refine (right_is hr _).mono ?_; rintro e w' ⟨rfl, y, rfl⟩
      go_wp2_with fail
      refine (name_any ht _ _).mono ?_; rintro e w' ⟨rfl, y, rfl⟩
      go_wp2_with fail
      refine (rname_any _ _).mono ?_; rintro e w' ⟨rfl, y, rfl⟩
      go_wp2_with fail
      refine (intent_any _ _).mono ?_; rintro e w' ⟨rfl, y, rfl⟩
      go_wp2_with fail
      refine (rintent_any _ _).mono ?_; rintro e w' ⟨rfl, y, rfl⟩
      go_wp2_with fail
      go_ret
      exact ⟨rfl, _, rfl⟩
  · obtain ⟨h0, h1⟩ := M.right_iff.1 hr
    go_enter Tryd.func8, Tryd.ntmps8
    go_wp2_with fail
    refine (awake_any ht _).mono ?_; rintro e w' ⟨rfl, y, rfl⟩
    go_wp2_with fail
    refine (right_is hr _).mono ?_; rintro e w' ⟨rfl, y, rfl⟩
    go_wp2_with fail
    refine (name_any ht _ _).mono ?_; rintro e w' ⟨rfl, y, rfl⟩
    go_wp2_with fail
    refine (rname_any _ _).mono ?_; rintro e w' ⟨rfl, y, rfl⟩
    go_wp2_with fail
    refine (intent_any _ _).mono ?_; rintro e w' ⟨rfl, y, rfl⟩
    go_wp2_with fail
    refine (rintent_any _ _).mono ?_; rintro e w' ⟨rfl, y, rfl⟩
    go_wp2_with fail
    go_ret
    exact ⟨rfl, _, rfl⟩
end Go.Proofs.YtfonmcncgfabaaaDoor
