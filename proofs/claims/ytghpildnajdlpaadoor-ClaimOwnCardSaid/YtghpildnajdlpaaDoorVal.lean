/-
  Values: how one lies in memory, when two are the same, and whether one may be (the program's answer and the document's).
-/
import Derived.Test.YtghpildnajdlpaaDoorProg
import Derived.Test.YtghpildnajdlpaaDoorBase
import Derived.Lib.Strings
namespace Go.Proofs.YtghpildnajdlpaaDoor
open Go.RowKit

/-- A value: is it a text, its number, its text. -/
structure Val where
  t : Bool
  n : Int
  s : ByteArray
def Val.val (v : Val) : Value := .agg #[.bool v.t, .int .i64 v.n, .string v.s]
theorem bytes_ext {a b : ByteArray} (h : a.toList = b.toList) : a = b := by
  rw [Lib.toList_data, Lib.toList_data] at h
  cases a; cases b; simpa using h
theorem Val.same_iff {u v : Val} : u = v ↔ u.t = v.t ∧ u.n = v.n ∧ u.s.toList = v.s.toList := by
  constructor
  · rintro rfl; exact ⟨rfl, rfl, rfl⟩
  · rintro ⟨h1, h2, h3⟩
    have h4 := bytes_ext h3
    cases u; cases v; simp_all
instance : DecidableEq Val := fun _ _ => decidable_of_iff _ Val.same_iff.symm
/-- May a value be? -/
def Val.right (v : Val) : Bool := if v.t then decide (v.n = 0) && decide (v.s.size ≤ 12) else decide (v.s.size = 0)

theorem run_eql_val (u v : Val) (w : World) : (binOp .eql 25 (.agg #[.bool u.t, .int .i64 u.n, .string u.s]) (.agg #[.bool v.t, .int .i64 v.n, .string v.s])).run Tryd.prog w = .ok (.bool (decide (u = v))) w := by
  rw [show decide (u = v) = decide (u.t = v.t ∧ u.n = v.n ∧ u.s.toList = v.s.toList) from decide_eq_decide.2 Val.same_iff]
  simp only [binOp]
  simp [go_sem, Op.equal, Op.maxDepth]
  by_cases h1 : u.t = v.t <;> by_cases h2 : u.n = v.n <;> by_cases h3 : u.s.toList = v.s.toList <;> simp [h1, h2, h3]
theorem run_neq_val (u v : Val) (w : World) : (binOp .neq 25 (.agg #[.bool u.t, .int .i64 u.n, .string u.s]) (.agg #[.bool v.t, .int .i64 v.n, .string v.s])).run Tryd.prog w = .ok (.bool (!decide (u = v))) w := by
  rw [show decide (u = v) = decide (u.t = v.t ∧ u.n = v.n ∧ u.s.toList = v.s.toList) from decide_eq_decide.2 Val.same_iff]
  simp only [binOp]
  simp [go_sem, Op.equal, Op.maxDepth]
  by_cases h1 : u.t = v.t <;> by_cases h2 : u.n = v.n <;> by_cases h3 : u.s.toList = v.s.toList <;> simp [h1, h2, h3]
theorem size_nil (s : ByteArray) : s.size = 0 ↔ s.toList = [] := by
  rw [Lib.toList_data]
  cases s with
  | mk d => show d.size = 0 ↔ d.toList = []; simp
theorem right_num (n : Int) (s : ByteArray) : Val.right ⟨false, n, s⟩ = decide (s.toList = []) := by
  unfold Val.right
  exact decide_eq_decide.2 (size_nil s)
variable {W : World}

theorem below_alloc {w : World} (o : Obj) : Below w.heap.size w (w.alloc o) := (Below.refl _ _).alloc (Nat.le_refl _) _

theorem vright_any (v : Val) (x : Lt W) : Calls Tryd.prog 57 #[.agg #[.bool v.t, .int .i64 v.n, .string v.s]] x.1 fun e w' => e = .returned (.bool v.right) ∧ ∃ y : Lt W, w' = y.1 := by
  obtain ⟨t, n, s⟩ := v
  cases t
  · by_cases hs : s.toList = []
    · go_enter Tryd.func57, Tryd.ntmps57
      go_wp2
      go_ret
      exact ⟨ret_bool (by rw [right_num]; simp [hs]), x.end_ (below_alloc _)⟩
    · go_enter Tryd.func57, Tryd.ntmps57
      go_wp2
      go_ret
      exact ⟨ret_bool (by rw [right_num]; simp [hs]), x.end_ (below_alloc _)⟩
  · by_cases hn : n = 0
    · subst hn
      by_cases hs : s.size ≤ 12
      · have hd : (s.size : Int) ≤ 12 := by omega
        go_enter Tryd.func57, Tryd.ntmps57
        go_wp2
        go_ret
        exact ⟨ret_bool (by simp [Val.right, hs]), x.end_ (below_alloc _)⟩
      · have hd : decide ((s.size : Int) ≤ 12) = false := decide_eq_false (by omega)
        have hs' : 12 < s.size := by omega
        clear hs
        go_enter Tryd.func57, Tryd.ntmps57
        go_wp2
        go_ret
        exact ⟨ret_bool (by simp [Val.right]; omega), x.end_ (below_alloc _)⟩
    · go_enter Tryd.func57, Tryd.ntmps57
      go_wp2
      go_ret
      exact ⟨ret_bool (by simp [Val.right, hn]), x.end_ (below_alloc _)⟩

theorem rvright_any (v : Val) (x : Lt W) : Calls Tryd.prog 29 #[.agg #[.bool v.t, .int .i64 v.n, .string v.s]] x.1 fun e w' => e = .returned (.bool v.right) ∧ ∃ y : Lt W, w' = y.1 := by
  obtain ⟨t, n, s⟩ := v
  cases t
  · by_cases hs : s.toList = []
    · go_enter Tryd.func29, Tryd.ntmps29
      go_wp2
      go_ret
      exact ⟨ret_bool (by rw [right_num]; simp [hs]), x.end_ (below_alloc _)⟩
    · have hs' : s.toList.isEmpty = false := by simpa using hs
      go_enter Tryd.func29, Tryd.ntmps29
      go_wp2
      go_ret
      exact ⟨ret_bool (by rw [right_num]; simp [hs]), x.end_ (below_alloc _)⟩
  · by_cases hn : n = 0
    · subst hn
      by_cases hs : s.size ≤ 12
      · have hd : (s.size : Int) ≤ 12 := by omega
        go_enter Tryd.func29, Tryd.ntmps29
        go_wp2
        go_ret
        exact ⟨ret_bool (by simp [Val.right, hs]), x.end_ (below_alloc _)⟩
      · have hd : decide ((s.size : Int) ≤ 12) = false := decide_eq_false (by omega)
        have hs' : 12 < s.size := by omega
        clear hs
        go_enter Tryd.func29, Tryd.ntmps29
        go_wp2
        go_ret
        exact ⟨ret_bool (by simp [Val.right]; omega), x.end_ (below_alloc _)⟩
    · have hn' : (n == 0) = false := by simpa using hn
      go_enter Tryd.func29, Tryd.ntmps29
      go_wp2
      go_ret
      exact ⟨ret_bool (by simp [Val.right, hn]), x.end_ (below_alloc _)⟩
theorem vright_is {v : Val} {b : Bool} (h : v.right = b) (x : Lt W) : Calls Tryd.prog 57 #[.agg #[.bool v.t, .int .i64 v.n, .string v.s]] x.1 fun e w' => e = .returned (.bool b) ∧ ∃ y : Lt W, w' = y.1 := h ▸ vright_any v x
theorem rvright_is {v : Val} {b : Bool} (h : v.right = b) (x : Lt W) : Calls Tryd.prog 29 #[.agg #[.bool v.t, .int .i64 v.n, .string v.s]] x.1 fun e w' => e = .returned (.bool b) ∧ ∃ y : Lt W, w' = y.1 := h ▸ rvright_any v x
end Go.Proofs.YtghpildnajdlpaaDoor
