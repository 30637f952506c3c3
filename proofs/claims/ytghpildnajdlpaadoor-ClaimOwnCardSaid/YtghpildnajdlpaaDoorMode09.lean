/-
  The modes: what the program's functions on modes, and the document's, return, each once, as functions on numbers. Conditions: package mode's table of what may not be held at once holds what the program's text lays.
-/
import Derived.Test.YtghpildnajdlpaaDoorProg
import Derived.Test.YtghpildnajdlpaaDoorBase
namespace Go.Proofs.YtghpildnajdlpaaDoor
open Go.RowKit
namespace M
def tab : List Nat := [0, 64, 120, 84, 124, 116, 126]
def right (m : Int) : Bool := decide (0 ≤ m) && decide (m ≤ 6)
def fit (a b : Nat) : Bool := (tab.getD a 0 >>> b) &&& 1 == 0
def cov (a b : Nat) : Bool := (tab.getD b 0) &&& (255 - tab.getD a 0) == 0
def fits (a b : Int) : Bool := right a && right b && fit a.toNat b.toNat
def covers (a b : Int) : Bool := right a && right b && cov a.toNat b.toNat
/-- Join's best behind k rounds: least of those up to k - 1 that cover both. -/
def best (a b : Nat) : Nat → Nat
  | 0 => 6
  | k + 1 => if cov k a && cov k b && cov (best a b k) k then k else best a b k
def join (a b : Int) : Int := if right a && right b then (best a.toNat b.toNat 7 : Nat) else 0
/-- The reference's best behind k rounds: 7 stands for 'none yet'. -/
def rbest (a b : Nat) : Nat → Int
  | 0 => -1
  | k + 1 => if cov k a && cov k b && (decide (rbest a b k < 0) || cov (rbest a b k).toNat k) then k else rbest a b k
def intent (m : Int) : Int := if m = 3 then 1 else if m = 5 ∨ m = 6 then 2 else if m = 1 ∨ m = 2 ∨ m = 4 then m else 0
def names : List (Array UInt8) := [#[78, 76], #[73, 83], #[73, 88], #[83], #[83, 73, 88], #[85], #[88]]
def name (m : Int) : ByteArray := if right m then ⟨names.getD m.toNat #[]⟩ else ⟨#[]⟩

theorem right_iff {m : Int} : right m = true ↔ 0 ≤ m ∧ m ≤ 6 := by simp [right]
theorem right_false {m : Int} : right m = false ↔ m < 0 ∨ 6 < m := by
  rw [← Bool.not_eq_true, right_iff]; omega
theorem seven {m : Int} (h : right m = true) : m = 0 ∨ m = 1 ∨ m = 2 ∨ m = 3 ∨ m = 4 ∨ m = 5 ∨ m = 6 := by
  rw [right_iff] at h; omega
theorem nat {m : Int} (h : right m = true) : ∃ n : Nat, n < 7 ∧ m = (n : Int) := by
  rw [right_iff] at h; exact ⟨m.toNat, by omega, by omega⟩
theorem right_nat {n : Nat} (h : n < 7) : right (n : Int) = true := by rw [right_iff]; omega
theorem fits_nat {a b : Nat} (ha : a < 7) (hb : b < 7) : fits (a : Int) (b : Int) = fit a b := by simp [fits, right_nat ha, right_nat hb]
theorem covers_nat {a b : Nat} (ha : a < 7) (hb : b < 7) : covers (a : Int) (b : Int) = cov a b := by simp [covers, right_nat ha, right_nat hb]
theorem best_lt (a b k : Nat) (hk : k ≤ 7) : best a b k < 7 := by
  induction k with
  | zero => show 6 < 7; decide
  | succ k ih =>
    unfold best
    split
    · omega
    · exact ih (by omega)
theorem rbest_lt (a b k : Nat) (hk : k ≤ 7) : -1 ≤ rbest a b k ∧ rbest a b k < 7 := by
  induction k with
  | zero => show (-1 : Int) ≤ -1 ∧ (-1 : Int) < 7; decide
  | succ k ih =>
    unfold rbest
    split
    · omega
    · exact ih (by omega)
theorem cov_all : ∀ a, a < 7 → ∀ b, b < 7 → (cov a b = true ↔ ∀ j, j < 7 → fit a j = true → fit b j = true) := by decide
theorem rbest_best : ∀ a, a < 7 → ∀ b, b < 7 → rbest a b 7 = (best a b 7 : Int) := by decide
end M

/-- What the two tables hold. -/
def Tabs (w : World) : Prop := (∀ i, i < 7 → w.cell? ⟨0, i, none⟩ = some (.int .u8 (M.tab.getD i 0 : Nat)))
variable {W : World}

theorem mright_any (m : Int) (x : Lt W) : Calls Tryd.prog 33 #[.int .i64 m] x.1 fun e w' => e = .returned (.bool (M.right m)) ∧ ∃ y : Lt W, w' = y.1 := by
  by_cases h0 : 0 ≤ m
  · by_cases h1 : m ≤ 6
    · go_enter Tryd.func33, Tryd.ntmps33
      go_wp2
      go_ret
      exact ⟨by simp [M.right, h0, h1], x, rfl⟩
    · have h1' : 6 < m := by omega
      have hd : decide (m ≤ 6) = false := by simpa using h1'
      have hr : M.right m = false := by simp [M.right, h1']
      go_enter Tryd.func33, Tryd.ntmps33
      go_wp2
      go_ret
      exact ⟨rfl, x, rfl⟩
  · have hr : M.right m = false := by simp [M.right, h0]
    go_enter Tryd.func33, Tryd.ntmps33
    go_wp2
    go_ret
    exact ⟨rfl, x, rfl⟩
theorem mright_is {m : Int} {b : Bool} (h : M.right m = b) (x : Lt W) : Calls Tryd.prog 33 #[.int .i64 m] x.1 fun e w' => e = .returned (.bool b) ∧ ∃ y : Lt W, w' = y.1 := h ▸ mright_any m x

theorem mfits_any (ht : Tabs W) (a b : Int) (x : Lt W) : Calls Tryd.prog 39 #[.int .i64 a, .int .i64 b] x.1 fun e w' => e = .returned (.bool (M.fits a b)) ∧ ∃ y : Lt W, w' = y.1 := by
  cases ha : M.right a
  · go_enter Tryd.func39, Tryd.ntmps39
    go_wp2_with (go_at_call 33; refine (mright_any _ _).mono ?_; rintro e w' ⟨rfl, y, rfl⟩)
    go_ret
    exact ⟨by simp [M.fits, ha], y, rfl⟩
  cases hb : M.right b
  · go_enter Tryd.func39, Tryd.ntmps39
    go_wp2_with (go_at_call 33; refine (mright_any _ _).mono ?_; rintro e w' ⟨rfl, y, rfl⟩)
    go_ret
    exact ⟨by simp [M.fits, ha, hb], y, rfl⟩
  obtain ⟨h3, h4⟩ := M.right_iff.1 ha
  obtain ⟨h5, h6⟩ := M.right_iff.1 hb
  have hc : ∀ y : Lt W, y.1.cell? ⟨0, a.toNat, none⟩ = some (.int .u8 (M.tab.getD a.toNat 0 : Nat)) := fun y => y.cell (ht _ (by omega))
  go_enter Tryd.func39, Tryd.ntmps39
  go_wp2_with (go_at_call 33; refine (mright_any _ _).mono ?_; rintro e w' ⟨rfl, y, rfl⟩)
  go_ret
  refine ⟨?_, y, rfl⟩
  rcases M.seven ha with rfl | rfl | rfl | rfl | rfl | rfl | rfl <;> rcases M.seven hb with rfl | rfl | rfl | rfl | rfl | rfl | rfl <;> rfl
theorem mfits_is (ht : Tabs W) {a b : Int} {r : Bool} (h : M.fits a b = r) (x : Lt W) : Calls Tryd.prog 39 #[.int .i64 a, .int .i64 b] x.1 fun e w' => e = .returned (.bool r) ∧ ∃ y : Lt W, w' = y.1 := h ▸ mfits_any ht a b x

theorem mcovers_any (ht : Tabs W) (a b : Int) (x : Lt W) : Calls Tryd.prog 42 #[.int .i64 a, .int .i64 b] x.1 fun e w' => e = .returned (.bool (M.covers a b)) ∧ ∃ y : Lt W, w' = y.1 := by
  cases ha : M.right a
  · go_enter Tryd.func42, Tryd.ntmps42
    go_wp2
    refine wp_region_pure _ (by kernel_rfl) (by kernel_rfl) ?_
    repeat (go_big_quiet_step ((go_at_call 33; exact mright_is (by assumption) _)))
    refine wpQuiet_nil ?_; intro _ hw'; obtain ⟨y, rfl⟩ := hw'
    go_wp2
    go_ret
    exact ⟨by simp [M.covers, ha], y, rfl⟩
  cases hb : M.right b
  · go_enter Tryd.func42, Tryd.ntmps42
    go_wp2
    refine wp_region_pure _ (by kernel_rfl) (by kernel_rfl) ?_
    repeat (go_big_quiet_step ((go_at_call 33; exact mright_is (by assumption) _)))
    refine wpQuiet_nil ?_; intro _ hw'; obtain ⟨y, rfl⟩ := hw'
    go_wp2
    go_ret
    exact ⟨by simp [M.covers, ha, hb], y, rfl⟩
  obtain ⟨h3, h4⟩ := M.right_iff.1 ha
  obtain ⟨h5, h6⟩ := M.right_iff.1 hb
  have hc : ∀ y : Lt W, y.1.cell? ⟨0, a.toNat, none⟩ = some (.int .u8 (M.tab.getD a.toNat 0 : Nat)) := fun y => y.cell (ht _ (by omega))
  have hd : ∀ y : Lt W, y.1.cell? ⟨0, b.toNat, none⟩ = some (.int .u8 (M.tab.getD b.toNat 0 : Nat)) := fun y => y.cell (ht _ (by omega))
  go_enter Tryd.func42, Tryd.ntmps42
  go_wp2
  refine wp_region_pure _ (by kernel_rfl) (by kernel_rfl) ?_
  repeat (go_big_quiet_step ((go_at_call 33; exact mright_is (by assumption) _)))
  refine wpQuiet_nil ?_; intro _ hw'; obtain ⟨y, rfl⟩ := hw'
  go_wp2
  go_ret
  refine ⟨?_, y, rfl⟩
  rcases M.seven ha with rfl | rfl | rfl | rfl | rfl | rfl | rfl <;> rcases M.seven hb with rfl | rfl | rfl | rfl | rfl | rfl | rfl <;> rfl
theorem mcovers_is (ht : Tabs W) {a b : Int} {r : Bool} (h : M.covers a b = r) (x : Lt W) : Calls Tryd.prog 42 #[.int .i64 a, .int .i64 b] x.1 fun e w' => e = .returned (.bool r) ∧ ∃ y : Lt W, w' = y.1 := h ▸ mcovers_any ht a b x

theorem mjoin_any (ht : Tabs W) (a b : Int) (x : Lt W) : Calls Tryd.prog 49 #[.int .i64 a, .int .i64 b] x.1 fun e w' => e = .returned (.int .i64 (M.join a b)) ∧ ∃ y : Lt W, w' = y.1 := by
  cases ha : M.right a
  · go_enter Tryd.func49, Tryd.ntmps49
    go_wp2_with (go_at_call 33; refine (mright_any _ _).mono ?_; rintro e w' ⟨rfl, y, rfl⟩)
    go_ret
    exact ⟨by simp [M.join, ha], y, rfl⟩
  cases hb : M.right b
  · go_enter Tryd.func49, Tryd.ntmps49
    go_wp2_with (go_at_call 33; refine (mright_any _ _).mono ?_; rintro e w' ⟨rfl, y, rfl⟩)
    go_ret
    exact ⟨by simp [M.join, ha, hb], y, rfl⟩
  obtain ⟨a, la, rfl⟩ := M.nat ha
  obtain ⟨b, lb, rfl⟩ := M.nat hb
  go_enter Tryd.func49, Tryd.ntmps49
  go_wp2_with (go_at_call 33; refine (mright_any _ _).mono ?_; rintro e w' ⟨rfl, y, rfl⟩)
  go_loopw [5, 6] (fun t i wr => ∃ (k : Nat) (y : Lt W), wr = y.1 ∧ k ≤ 7 ∧ i = .int .i64 k ∧ t = .int .i64 (M.best a b k : Nat)) (fun _ i _ => 7 - (intOf i).toNat)
  case atStart => exact ⟨0, y, rfl, by omega, rfl, rfl⟩
  case round =>
    obtain ⟨k, z, rfl, hk, rfl, rfl⟩ := hrel
    by_cases hlt : k < 7
    · have hbk := M.best_lt a b k hk
      have hstep : M.best a b (k + 1) = if M.cov k a && M.cov k b && M.cov (M.best a b k) k then k else M.best a b k := rfl
      have HS := Lib.hid hstep
      clear hstep
      have e1 := M.covers_nat hlt la
      have e2 := M.covers_nat hlt lb
      have e3 := M.covers_nat hbk hlt
      cases h1 : M.cov k a
      · rw [h1] at e1
        have E1 := Lib.hid e1; have E2 := Lib.hid e2; have E3 := Lib.hid e3; have F1 := Lib.hid h1
        clear e1 e2 e3 h1
        go_wp2_with (first | (go_at_call 42; refine (mcovers_is ht E1.out _).mono ?_; rintro e w' ⟨rfl, z, rfl⟩))
        go_roundw
        case rel => exact ⟨k + 1, _, rfl, by omega, by go_num, by rw [HS.out, F1.out]; rfl⟩
        case measure => simp [intOf]; omega
      cases h2 : M.cov k b
      · rw [h1] at e1
        rw [h2] at e2
        have E1 := Lib.hid e1; have E2 := Lib.hid e2; have E3 := Lib.hid e3; have F1 := Lib.hid h1; have F2 := Lib.hid h2
        clear e1 e2 e3 h1 h2
        go_wp2_with fail
        refine (mcovers_is ht E1.out _).mono ?_; rintro e w' ⟨rfl, z, rfl⟩
        go_wp2_with fail
        refine (mcovers_is ht E2.out _).mono ?_; rintro e w' ⟨rfl, z, rfl⟩
        go_wp2_with fail
        go_roundw
        case rel => exact ⟨k + 1, _, rfl, by omega, by go_num, by rw [HS.out, F1.out, F2.out]; rfl⟩
        case measure => simp [intOf]; omega
      cases h3 : M.cov (M.best a b k) k
      · rw [h1] at e1
        rw [h2] at e2
        rw [h3] at e3
        have E1 := Lib.hid e1; have E2 := Lib.hid e2; have E3 := Lib.hid e3; have F1 := Lib.hid h1; have F2 := Lib.hid h2; have F3 := Lib.hid h3
        clear e1 e2 e3 h1 h2 h3
        go_wp2_with fail
        refine (mcovers_is ht E1.out _).mono ?_; rintro e w' ⟨rfl, z, rfl⟩
        go_wp2_with fail
        refine (mcovers_is ht E2.out _).mono ?_; rintro e w' ⟨rfl, z, rfl⟩
        go_wp2_with fail
        refine (mcovers_is ht E3.out _).mono ?_; rintro e w' ⟨rfl, z, rfl⟩
        go_wp2_with fail
        go_roundw
        case rel => exact ⟨k + 1, _, rfl, by omega, by go_num, by rw [HS.out, F1.out, F2.out, F3.out]; rfl⟩
        case measure => simp [intOf]; omega
      · rw [h1] at e1
        rw [h2] at e2
        rw [h3] at e3
        have E1 := Lib.hid e1; have E2 := Lib.hid e2; have E3 := Lib.hid e3; have F1 := Lib.hid h1; have F2 := Lib.hid h2; have F3 := Lib.hid h3
        clear e1 e2 e3 h1 h2 h3
        go_wp2_with fail
        refine (mcovers_is ht E1.out _).mono ?_; rintro e w' ⟨rfl, z, rfl⟩
        go_wp2_with fail
        refine (mcovers_is ht E2.out _).mono ?_; rintro e w' ⟨rfl, z, rfl⟩
        go_wp2_with fail
        refine (mcovers_is ht E3.out _).mono ?_; rintro e w' ⟨rfl, z, rfl⟩
        go_wp2_with fail
        go_roundw
        case rel => exact ⟨k + 1, _, rfl, by omega, by go_num, by rw [HS.out, F1.out, F2.out, F3.out]; rfl⟩
        case measure => simp [intOf]; omega
    · obtain rfl : k = 7 := by omega
      have hj : M.join (a : Int) (b : Int) = (M.best a b 7 : Nat) := by simp [M.join, ha, hb]
      have HJ := Lib.hid hj
      clear hj
      go_wp2
      go_ret
      exact ⟨by rw [HJ.out]; rfl, _, rfl⟩
end Go.Proofs.YtghpildnajdlpaaDoor
