/-
  What a digit of a byte says, walked (the program's half). Conditions: package value's table of digits holds what the program's text lays.
-/
import Derived.Test.YtlfdiafpmlcmdaaDoorProg
import Derived.Test.YtlfdiafpmlcmdaaDoorBase
import Derived.Test.YtlfdiafpmlcmdaaDoorVal
namespace Go.Proofs.YtlfdiafpmlcmdaaDoor
open Go.RowKit
variable {W : World}

namespace V
def tab : List Nat := [48, 49, 50, 51, 52, 53, 54, 55, 56, 57, 97, 98, 99, 100, 101, 102]
/-- Is a byte a digit, and which one? -/
def isHex (c : Int) : Bool := decide (48 ≤ c) && decide (c ≤ 57) || decide (97 ≤ c) && decide (c ≤ 102)
def hex (c : Int) : Int := if isHex c then (if c ≤ 57 then c - 48 else c - 87) else 0
theorem tab_hex {k : Nat} (hk : k < 16) : isHex (tab.getD k 0 : Nat) = true ∧ hex (tab.getD k 0 : Nat) = k :=
  (show ∀ k : Fin 16, isHex (tab.getD k 0 : Nat) = true ∧ hex (tab.getD k 0 : Nat) = (k : Nat) by decide +kernel) ⟨k, hk⟩
theorem no_hex {c : Int} (h : ∀ k, k < 16 → ((tab.getD k 0 : Nat) : Int) ≠ c) : isHex c = false := by
  rw [← Bool.not_eq_true]
  intro hc
  unfold isHex at hc
  simp only [Bool.or_eq_true, Bool.and_eq_true, decide_eq_true_eq] at hc
  rcases hc with ⟨h1, h2⟩ | ⟨h1, h2⟩
  · refine h (c - 48).toNat (by omega) ?_
    obtain rfl | rfl | rfl | rfl | rfl | rfl | rfl | rfl | rfl | rfl : c = 48 ∨ c = 49 ∨ c = 50 ∨ c = 51 ∨ c = 52 ∨ c = 53 ∨ c = 54 ∨ c = 55 ∨ c = 56 ∨ c = 57 := by omega
    all_goals rfl
  · refine h (c - 87).toNat (by omega) ?_
    obtain rfl | rfl | rfl | rfl | rfl | rfl : c = 97 ∨ c = 98 ∨ c = 99 ∨ c = 100 ∨ c = 101 ∨ c = 102 := by omega
    all_goals rfl
end V
/-- Package value's table lies there. -/
def Digs (w : World) : Prop := ∀ i, i < 16 → w.cell? ⟨0, i, none⟩ = some (.int .u8 (V.tab.getD i 0 : Nat))
theorem Digs.below {W w : World} (h : Digs W) (hb : Below W.heap.size W w) : Digs w := fun i hi => (hb.cell (cell_lt (h i hi))).trans (h i hi)
theorem V.tab_lt {k : Nat} (hk : k < 16) : V.tab.getD k 0 < 256 := (show ∀ k : Fin 16, V.tab.getD k 0 < 256 by decide +kernel) ⟨k, hk⟩

set_option maxHeartbeats 1000000 in
theorem half_any (hd : Digs W) (c : Int) (x : Lt W) : Calls Tryd.prog 36 #[.int .u8 c] x.1 fun e w' => e = .returned (.tuple #[.int .u8 (V.hex c), .bool (V.isHex c)]) ∧ ∃ y : Lt W, w' = y.1 := by
  have HD := Lib.hid hd
  clear hd
  go_enter Tryd.func36, Tryd.ntmps36
  go_wp2_with fail
  go_loopw [5, 4] (fun i _ wr => ∃ (k : Nat) (y : Lt W), wr = y.1 ∧ i = .int .i64 k ∧ k ≤ 16 ∧ ∀ j, j < k → ((V.tab.getD j 0 : Nat) : Int) ≠ c) (fun i _ _ => 16 - (intOf i).toNat)
  case atStart => exact ⟨0, x, rfl, rfl, by omega, fun j hj => by omega⟩
  case round =>
    obtain ⟨k, y, rfl, rfl, hk, hall⟩ := hrel
    have HA := Lib.hid hall
    clear hall
    by_cases hlt : k < 16
    · have hc := y.cell (HD.out k hlt)
      obtain ⟨d, hdd⟩ : ∃ d : Int, ((V.tab.getD k 0 : Nat) : Int) = d := ⟨_, rfl⟩
      have HX := Lib.hid (show V.isHex d = true ∧ V.hex d = k by rw [← hdd]; exact V.tab_hex hlt)
      rw [hdd] at hc
      have HDD := Lib.hid hdd
      clear hdd
      by_cases he : d = c
      · subst he
        go_wp2_with fail
        go_ret2
        exact ⟨by rw [HX.out.1, HX.out.2]; rfl, y, rfl⟩
      · have hne : (d == c) = false := by rw [beq_eq_false_iff_ne]; exact he
        go_wp2_with fail
        go_roundw
        case rel => exact ⟨k + 1, y, rfl, by go_num, by omega, fun j hj => by
          by_cases hjk : j = k
          · subst hjk; rw [HDD.out]; exact he
          · exact HA.out j (by omega)⟩
        case measure => simp [intOf]; omega
    · obtain rfl : k = 16 := by omega
      have HN := Lib.hid (V.no_hex HA.out)
      go_wp2_with fail
      go_ret2
      exact ⟨by rw [show V.hex c = 0 by unfold V.hex; rw [HN.out]; rfl, HN.out]; rfl, y, rfl⟩
end Go.Proofs.YtlfdiafpmlcmdaaDoor
