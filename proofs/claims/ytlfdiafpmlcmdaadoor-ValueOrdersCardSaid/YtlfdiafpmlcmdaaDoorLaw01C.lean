/-
  The statement ValueOrders, walked: it returns true. Conditions: package value's table of digits holds what the program's text lays.
-/
import Derived.Test.YtlfdiafpmlcmdaaDoorAwake01
namespace Go.Proofs.YtlfdiafpmlcmdaaDoor
open Go.RowKit
variable {W : World}

set_option maxHeartbeats 2000000 in
theorem valueOrders_any (hd : Digs W) (a b c : Val) (x : Lt W) : Calls Tryd.prog 5 #[.agg #[.bool a.t, .int .i64 a.n, .string a.s], .agg #[.bool b.t, .int .i64 b.n, .string b.s], .agg #[.bool c.t, .int .i64 c.n, .string c.s]] x.1 fun e w' => e = .returned (.bool true) ∧ ∃ y : Lt W, w' = y.1 := by
  have HD := Lib.hid hd
  clear hd
  obtain ⟨i, hi⟩ : ∃ i, cmpV a b = i := ⟨_, rfl⟩
  obtain ⟨j, hj⟩ : ∃ j, cmpV b c = j := ⟨_, rfl⟩
  obtain ⟨k, hk⟩ : ∃ k, cmpV a c = k := ⟨_, rfl⟩
  have ri : i = -1 ∨ i = 0 ∨ i = 1 := hi ▸ cmpV_range a b
  have rj : j = -1 ∨ j = 0 ∨ j = 1 := hj ▸ cmpV_range b c
  have rk : k = -1 ∨ k = 0 ∨ k = 1 := hk ▸ cmpV_range a c
  have h1 : i ≤ 0 → j ≤ 0 → k ≤ 0 ∧ (k = 0 ↔ i = 0 ∧ j = 0) := fun p q => by rw [← hi, ← hj, ← hk] at *; exact cmpV_trans p q
  have h2 : 0 ≤ i → 0 ≤ j → 0 ≤ k := fun p q => by
    have t1 := cmpV_turn a b
    have t2 := cmpV_turn b c
    have t3 := cmpV_turn a c
    have := (cmpV_trans (x := c) (y := b) (z := a) (by omega) (by omega)).1
    omega
  have hbi : cmpV b a = -i := by rw [cmpV_turn a b, hi]
  go_enter Tryd.func5, Tryd.ntmps5
  go_wp2_with fail
  refine calls_here fun W1 hW1 => ?_
  have hb1 : Below W.heap.size W W1 := by rw [hW1]; exact below_then (x.more2 _ _) (below_alloc _)
  have a0 := fun z : Lt W1 => z.cell (show W1.cell? ⟨x.1.heap.size, 0, none⟩ = some (.bool a.t) by rw [hW1]; exact cell_old (cell_old (by rw [cell_new rfl]; rfl)))
  have a1 := fun z : Lt W1 => z.cell (show W1.cell? ⟨x.1.heap.size, 1, none⟩ = some (.int .i64 a.n) by rw [hW1]; exact cell_old (cell_old (by rw [cell_new rfl]; rfl)))
  have a2 := fun z : Lt W1 => z.cell (show W1.cell? ⟨x.1.heap.size, 2, none⟩ = some (.string a.s) by rw [hW1]; exact cell_old (cell_old (by rw [cell_new rfl]; rfl)))
  have b0 := fun z : Lt W1 => z.cell (show W1.cell? ⟨x.1.heap.size + 1, 0, none⟩ = some (.bool b.t) by rw [hW1]; exact cell_old (by rw [cell_new (by simp)]; rfl))
  have b1 := fun z : Lt W1 => z.cell (show W1.cell? ⟨x.1.heap.size + 1, 1, none⟩ = some (.int .i64 b.n) by rw [hW1]; exact cell_old (by rw [cell_new (by simp)]; rfl))
  have b2 := fun z : Lt W1 => z.cell (show W1.cell? ⟨x.1.heap.size + 1, 2, none⟩ = some (.string b.s) by rw [hW1]; exact cell_old (by rw [cell_new (by simp)]; rfl))
  have c0 := fun z : Lt W1 => z.cell (show W1.cell? ⟨x.1.heap.size + 1 + 1, 0, none⟩ = some (.bool c.t) by rw [hW1, cell_new (by simp)]; rfl)
  have c1 := fun z : Lt W1 => z.cell (show W1.cell? ⟨x.1.heap.size + 1 + 1, 1, none⟩ = some (.int .i64 c.n) by rw [hW1, cell_new (by simp)]; rfl)
  have c2 := fun z : Lt W1 => z.cell (show W1.cell? ⟨x.1.heap.size + 1 + 1, 2, none⟩ = some (.string c.s) by rw [hW1, cell_new (by simp)]; rfl)
  clear hW1
  have C1 := Lib.hid (fun z : Lt W1 => compare_is hi z)
  have C2 := Lib.hid (fun z : Lt W1 => compare_is hj z)
  have C3 := Lib.hid (fun z : Lt W1 => compare_is hk z)
  have C4 := Lib.hid (fun z : Lt W1 => compare_is hbi z)
  have C5 := Lib.hid (fun z : Lt W1 => compare_is (cmpV_self a) z)
  clear hi hj hk hbi
  refine (awake_any (HD.out.below hb1) (Lt.base W1)).mono ?_; rintro e w' ⟨rfl, y, rfl⟩
  rcases ri with rfl | rfl | rfl <;> rcases rj with rfl | rfl | rfl <;> rcases rk with rfl | rfl | rfl
  all_goals first
    | (exfalso; omega)
    | (clear h1 h2
       go_wp2_with fail
       refine (C1.out y).mono ?_; rintro e w' ⟨rfl, y, rfl⟩
       go_wp2_with fail
       refine (C2.out y).mono ?_; rintro e w' ⟨rfl, y, rfl⟩
       go_wp2_with fail
       refine (C3.out y).mono ?_; rintro e w' ⟨rfl, y, rfl⟩
       go_wp2_with fail
       refine (C4.out y).mono ?_; rintro e w' ⟨rfl, y, rfl⟩
       go_wp2_with fail
       refine (C5.out y).mono ?_; rintro e w' ⟨rfl, y, rfl⟩
       go_wp2_with fail
       go_ret
       exact ⟨rfl, y.via hb1, rfl⟩)
end Go.Proofs.YtlfdiafpmlcmdaaDoor
