/-
  Whether a table may be, walked: the program's Check and the document's May. Conditions: none.
-/
import Derived.Test.YtghpildnajdlpaaDoorRowAt
namespace Go.Proofs.YtghpildnajdlpaaDoor
open Go.RowKit

namespace R
def may (n : Nat) : Bool := decide (1 ≤ n) && decide (n ≤ 4)
theorem may_iff {n : Nat} : may n = true ↔ 1 ≤ n ∧ n ≤ 4 := by simp [may]
theorem may_false {n : Nat} : may n = false ↔ n < 1 ∨ 4 < n := by rw [← Bool.not_eq_true, may_iff]; omega
end R
variable {W : World}

theorem check_yes {A : Option Addr} {n c : Nat} (h : R.may n = true) (x : Lt W) : Calls Tryd.prog 32 #[.agg #[.slice A n c]] x.1 fun e w' => e = .returned (.int .i64 0) ∧ ∃ y : Lt W, w' = y.1 := by
  obtain ⟨h1, h2⟩ := R.may_iff.1 h
  have h1' : (1 : Int) ≤ n := by omega
  have h2' : (n : Int) ≤ 4 := by omega
  clear h
  go_enter Tryd.func32, Tryd.ntmps32
  go_wp2
  go_ret
  exact ⟨rfl, x.end_ (below_alloc _)⟩
theorem check_no {A : Option Addr} {n c : Nat} (h : R.may n = false) (x : Lt W) : Calls Tryd.prog 32 #[.agg #[.slice A n c]] x.1 fun e w' => e = .returned (.int .i64 1) ∧ ∃ y : Lt W, w' = y.1 := by
  rcases R.may_false.1 h with h1 | h1
  · have h1' : (n : Int) < 1 := by omega
    clear h h1
    go_enter Tryd.func32, Tryd.ntmps32
    go_wp2
    all_goals go_ret
    all_goals exact ⟨rfl, x.end_ (below_alloc _)⟩
  · have h1' : (4 : Int) < n := by omega
    clear h
    go_enter Tryd.func32, Tryd.ntmps32
    go_wp2
    all_goals go_ret
    all_goals exact ⟨rfl, x.end_ (below_alloc _)⟩
theorem rmay_is {A : Option Addr} {n c : Nat} {b : Bool} (h : R.may n = b) (x : Lt W) : Calls Tryd.prog 28 #[.agg #[.slice A n c]] x.1 fun e w' => e = .returned (.bool b) ∧ ∃ y : Lt W, w' = y.1 := by
  cases b
  · rcases R.may_false.1 h with h1 | h1
    · have hd : decide ((1 : Int) ≤ n) = false := decide_eq_false (by omega)
      clear h
      go_enter Tryd.func28, Tryd.ntmps28
      go_wp2
      go_ret
      exact ⟨rfl, x.end_ (below_alloc _)⟩
    · have hd : decide ((1 : Int) ≤ n) = true := decide_eq_true (by omega)
      have hd2 : decide ((n : Int) ≤ 4) = false := decide_eq_false (by omega)
      clear h
      go_enter Tryd.func28, Tryd.ntmps28
      go_wp2
      go_ret
      exact ⟨rfl, x.end_ (below_alloc _)⟩
  · obtain ⟨h1, h2⟩ := R.may_iff.1 h
    have hd : decide ((1 : Int) ≤ n) = true := decide_eq_true (by omega)
    have hd2 : decide ((n : Int) ≤ 4) = true := decide_eq_true (by omega)
    clear h
    go_enter Tryd.func28, Tryd.ntmps28
    go_wp2
    go_ret
    exact ⟨rfl, x.end_ (below_alloc _)⟩

end Go.Proofs.YtghpildnajdlpaaDoor
