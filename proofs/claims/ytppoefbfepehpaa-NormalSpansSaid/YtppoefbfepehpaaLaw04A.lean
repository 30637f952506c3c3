/-
  The statement NormalSpans, walked: it returns true. Conditions: the texts are no longer than an int holds.
-/
import Derived.Test.YtppoefbfepehpaaAwake04
import Derived.Test.YtppoefbfepehpaaSpanRHull
namespace Go.Proofs.Ytppoefbfepehpaa
open Go.RowKit
variable {W : World}

set_option maxHeartbeats 2000000 in
theorem normalSpans_any (a b : Sp) (v : Val) (fa : a.Fit) (fb : b.Fit) (hv : v.s.size ≤ maxLen) (x : Lt W) : Calls Try.prog 4 #[a.val, b.val, .agg #[.bool v.t, .int .i64 v.n, .string v.s]] x.1 fun e w' => e = .returned (.bool true) ∧ ∃ y : Lt W, w' = y.1 := by
  obtain ⟨i, hi⟩ : ∃ i, a.within v = i := ⟨_, rfl⟩
  obtain ⟨m, hm⟩ : ∃ m, a.meet b = m := ⟨_, rfl⟩
  obtain ⟨h, hh⟩ : ∃ h, a.hull b = h := ⟨_, rfl⟩
  go_enter Try.func4, Try.ntmps4
  go_wp2_with fail
  refine calls_here fun W1 hW1 => ?_
  have hb0 : Below W.heap.size W W1 := by rw [hW1]; exact below_then (below_then (x.more _) (below_alloc _)) (below_alloc _)
  have a0 := fun z : Lt W1 => z.cell (show W1.cell? ⟨x.1.heap.size, 0, none⟩ = some (.bool a.none) by rw [hW1]; exact cell_old (cell_old (by rw [cell_new rfl]; rfl)))
  have a1 := fun z : Lt W1 => z.cell (show W1.cell? ⟨x.1.heap.size, 1, none⟩ = some (.bool a.lo) by rw [hW1]; exact cell_old (cell_old (by rw [cell_new rfl]; rfl)))
  have a2 := fun z : Lt W1 => z.cell (show W1.cell? ⟨x.1.heap.size, 2, none⟩ = some (.bool a.olo) by rw [hW1]; exact cell_old (cell_old (by rw [cell_new rfl]; rfl)))
  have a3 := fun z : Lt W1 => z.cell (show W1.cell? ⟨x.1.heap.size, 3, none⟩ = some (.bool a.l.t) by rw [hW1]; exact cell_old (cell_old (by rw [cell_new rfl]; rfl)))
  have a4 := fun z : Lt W1 => z.cell (show W1.cell? ⟨x.1.heap.size, 4, none⟩ = some (.int .i64 a.l.n) by rw [hW1]; exact cell_old (cell_old (by rw [cell_new rfl]; rfl)))
  have a5 := fun z : Lt W1 => z.cell (show W1.cell? ⟨x.1.heap.size, 5, none⟩ = some (.string a.l.s) by rw [hW1]; exact cell_old (cell_old (by rw [cell_new rfl]; rfl)))
  have a6 := fun z : Lt W1 => z.cell (show W1.cell? ⟨x.1.heap.size, 6, none⟩ = some (.bool a.hi) by rw [hW1]; exact cell_old (cell_old (by rw [cell_new rfl]; rfl)))
  have a7 := fun z : Lt W1 => z.cell (show W1.cell? ⟨x.1.heap.size, 7, none⟩ = some (.bool a.ohi) by rw [hW1]; exact cell_old (cell_old (by rw [cell_new rfl]; rfl)))
  have a8 := fun z : Lt W1 => z.cell (show W1.cell? ⟨x.1.heap.size, 8, none⟩ = some (.bool a.h.t) by rw [hW1]; exact cell_old (cell_old (by rw [cell_new rfl]; rfl)))
  have a9 := fun z : Lt W1 => z.cell (show W1.cell? ⟨x.1.heap.size, 9, none⟩ = some (.int .i64 a.h.n) by rw [hW1]; exact cell_old (cell_old (by rw [cell_new rfl]; rfl)))
  have a10 := fun z : Lt W1 => z.cell (show W1.cell? ⟨x.1.heap.size, 10, none⟩ = some (.string a.h.s) by rw [hW1]; exact cell_old (cell_old (by rw [cell_new rfl]; rfl)))
  have b0 := fun z : Lt W1 => z.cell (show W1.cell? ⟨x.1.heap.size + 1, 0, none⟩ = some (.bool b.none) by rw [hW1]; exact cell_old (by rw [cell_new (by simp)]; rfl))
  have b1 := fun z : Lt W1 => z.cell (show W1.cell? ⟨x.1.heap.size + 1, 1, none⟩ = some (.bool b.lo) by rw [hW1]; exact cell_old (by rw [cell_new (by simp)]; rfl))
  have b2 := fun z : Lt W1 => z.cell (show W1.cell? ⟨x.1.heap.size + 1, 2, none⟩ = some (.bool b.olo) by rw [hW1]; exact cell_old (by rw [cell_new (by simp)]; rfl))
  have b3 := fun z : Lt W1 => z.cell (show W1.cell? ⟨x.1.heap.size + 1, 3, none⟩ = some (.bool b.l.t) by rw [hW1]; exact cell_old (by rw [cell_new (by simp)]; rfl))
  have b4 := fun z : Lt W1 => z.cell (show W1.cell? ⟨x.1.heap.size + 1, 4, none⟩ = some (.int .i64 b.l.n) by rw [hW1]; exact cell_old (by rw [cell_new (by simp)]; rfl))
  have b5 := fun z : Lt W1 => z.cell (show W1.cell? ⟨x.1.heap.size + 1, 5, none⟩ = some (.string b.l.s) by rw [hW1]; exact cell_old (by rw [cell_new (by simp)]; rfl))
  have b6 := fun z : Lt W1 => z.cell (show W1.cell? ⟨x.1.heap.size + 1, 6, none⟩ = some (.bool b.hi) by rw [hW1]; exact cell_old (by rw [cell_new (by simp)]; rfl))
  have b7 := fun z : Lt W1 => z.cell (show W1.cell? ⟨x.1.heap.size + 1, 7, none⟩ = some (.bool b.ohi) by rw [hW1]; exact cell_old (by rw [cell_new (by simp)]; rfl))
  have b8 := fun z : Lt W1 => z.cell (show W1.cell? ⟨x.1.heap.size + 1, 8, none⟩ = some (.bool b.h.t) by rw [hW1]; exact cell_old (by rw [cell_new (by simp)]; rfl))
  have b9 := fun z : Lt W1 => z.cell (show W1.cell? ⟨x.1.heap.size + 1, 9, none⟩ = some (.int .i64 b.h.n) by rw [hW1]; exact cell_old (by rw [cell_new (by simp)]; rfl))
  have b10 := fun z : Lt W1 => z.cell (show W1.cell? ⟨x.1.heap.size + 1, 10, none⟩ = some (.string b.h.s) by rw [hW1]; exact cell_old (by rw [cell_new (by simp)]; rfl))
  have c0 := fun z : Lt W1 => z.cell (show W1.cell? ⟨x.1.heap.size + 1 + 1, 0, none⟩ = some (.bool v.t) by rw [hW1, cell_new (by simp)]; rfl)
  have c1 := fun z : Lt W1 => z.cell (show W1.cell? ⟨x.1.heap.size + 1 + 1, 1, none⟩ = some (.int .i64 v.n) by rw [hW1, cell_new (by simp)]; rfl)
  have c2 := fun z : Lt W1 => z.cell (show W1.cell? ⟨x.1.heap.size + 1 + 1, 2, none⟩ = some (.string v.s) by rw [hW1, cell_new (by simp)]; rfl)
  clear hW1
  have C1 := Lib.hid (show ∀ z : Lt W1, Calls Try.prog 17 #[.agg #[.bool a.none, .bool a.lo, .bool a.olo, .bool a.l.t, .int .i64 a.l.n, .string a.l.s, .bool a.hi, .bool a.ohi, .bool a.h.t, .int .i64 a.h.n, .string a.h.s], .agg #[.bool v.t, .int .i64 v.n, .string v.s]] z.1 fun e w' => e = .returned (.bool i) ∧ ∃ y : Lt W1, w' = y.1 from fun z => hi ▸ within_any a v z)
  have C2 := Lib.hid (show ∀ z : Lt W1, Calls Try.prog 18 #[.agg #[.bool a.none, .bool a.lo, .bool a.olo, .bool a.l.t, .int .i64 a.l.n, .string a.l.s, .bool a.hi, .bool a.ohi, .bool a.h.t, .int .i64 a.h.n, .string a.h.s], .agg #[.bool v.t, .int .i64 v.n, .string v.s]] z.1 fun e w' => e = .returned (.bool i) ∧ ∃ y : Lt W1, w' = y.1 from fun z => hi ▸ rwithin_any a v hv z)
  have C3 := Lib.hid (show ∀ z : Lt W1, Calls Try.prog 19 #[.agg #[.bool a.none, .bool a.lo, .bool a.olo, .bool a.l.t, .int .i64 a.l.n, .string a.l.s, .bool a.hi, .bool a.ohi, .bool a.h.t, .int .i64 a.h.n, .string a.h.s], .agg #[.bool b.none, .bool b.lo, .bool b.olo, .bool b.l.t, .int .i64 b.l.n, .string b.l.s, .bool b.hi, .bool b.ohi, .bool b.h.t, .int .i64 b.h.n, .string b.h.s]] z.1 fun e w' => e = .returned (.agg #[.bool m.none, .bool m.lo, .bool m.olo, .bool m.l.t, .int .i64 m.l.n, .string m.l.s, .bool m.hi, .bool m.ohi, .bool m.h.t, .int .i64 m.h.n, .string m.h.s]) ∧ ∃ y : Lt W1, w' = y.1 from fun z => hm ▸ meet_any a b z)
  have C4 := Lib.hid (show ∀ z : Lt W1, Calls Try.prog 20 #[.agg #[.bool a.none, .bool a.lo, .bool a.olo, .bool a.l.t, .int .i64 a.l.n, .string a.l.s, .bool a.hi, .bool a.ohi, .bool a.h.t, .int .i64 a.h.n, .string a.h.s], .agg #[.bool b.none, .bool b.lo, .bool b.olo, .bool b.l.t, .int .i64 b.l.n, .string b.l.s, .bool b.hi, .bool b.ohi, .bool b.h.t, .int .i64 b.h.n, .string b.h.s]] z.1 fun e w' => e = .returned (.agg #[.bool m.none, .bool m.lo, .bool m.olo, .bool m.l.t, .int .i64 m.l.n, .string m.l.s, .bool m.hi, .bool m.ohi, .bool m.h.t, .int .i64 m.h.n, .string m.h.s]) ∧ ∃ y : Lt W1, w' = y.1 from fun z => hm ▸ rmeet_any a b fa fb z)
  have C5 := Lib.hid (show ∀ z : Lt W1, Calls Try.prog 21 #[.agg #[.bool a.none, .bool a.lo, .bool a.olo, .bool a.l.t, .int .i64 a.l.n, .string a.l.s, .bool a.hi, .bool a.ohi, .bool a.h.t, .int .i64 a.h.n, .string a.h.s], .agg #[.bool b.none, .bool b.lo, .bool b.olo, .bool b.l.t, .int .i64 b.l.n, .string b.l.s, .bool b.hi, .bool b.ohi, .bool b.h.t, .int .i64 b.h.n, .string b.h.s]] z.1 fun e w' => e = .returned (.agg #[.bool h.none, .bool h.lo, .bool h.olo, .bool h.l.t, .int .i64 h.l.n, .string h.l.s, .bool h.hi, .bool h.ohi, .bool h.h.t, .int .i64 h.h.n, .string h.h.s]) ∧ ∃ y : Lt W1, w' = y.1 from fun z => hh ▸ hull_any a b z)
  have C6 := Lib.hid (show ∀ z : Lt W1, Calls Try.prog 22 #[.agg #[.bool a.none, .bool a.lo, .bool a.olo, .bool a.l.t, .int .i64 a.l.n, .string a.l.s, .bool a.hi, .bool a.ohi, .bool a.h.t, .int .i64 a.h.n, .string a.h.s], .agg #[.bool b.none, .bool b.lo, .bool b.olo, .bool b.l.t, .int .i64 b.l.n, .string b.l.s, .bool b.hi, .bool b.ohi, .bool b.h.t, .int .i64 b.h.n, .string b.h.s]] z.1 fun e w' => e = .returned (.agg #[.bool h.none, .bool h.lo, .bool h.olo, .bool h.l.t, .int .i64 h.l.n, .string h.l.s, .bool h.hi, .bool h.ohi, .bool h.h.t, .int .i64 h.h.n, .string h.h.s]) ∧ ∃ y : Lt W1, w' = y.1 from fun z => hh ▸ rhull_any a b fa fb z)
  have em := fun w => (show (binOp .eql 35 (.agg #[.bool m.none, .bool m.lo, .bool m.olo, .bool m.l.t, .int .i64 m.l.n, .string m.l.s, .bool m.hi, .bool m.ohi, .bool m.h.t, .int .i64 m.h.n, .string m.h.s]) (.agg #[.bool m.none, .bool m.lo, .bool m.olo, .bool m.l.t, .int .i64 m.l.n, .string m.l.s, .bool m.hi, .bool m.ohi, .bool m.h.t, .int .i64 m.h.n, .string m.h.s])).run Try.prog w = .ok (.bool true) w from run_eql_span_t (a := m) (b := m) rfl w)
  have eh := fun w => (show (binOp .eql 35 (.agg #[.bool h.none, .bool h.lo, .bool h.olo, .bool h.l.t, .int .i64 h.l.n, .string h.l.s, .bool h.hi, .bool h.ohi, .bool h.h.t, .int .i64 h.h.n, .string h.h.s]) (.agg #[.bool h.none, .bool h.lo, .bool h.olo, .bool h.l.t, .int .i64 h.l.n, .string h.l.s, .bool h.hi, .bool h.ohi, .bool h.h.t, .int .i64 h.h.n, .string h.h.s])).run Try.prog w = .ok (.bool true) w from run_eql_span_t (a := h) (b := h) rfl w)
  clear hi hm hh fa fb hv
  refine (awake_any (Lt.base W1)).mono ?_; rintro e w' ⟨rfl, y, rfl⟩
  cases i
  all_goals
    go_wp2_with fail
    refine wp_region_pure _ (by kernel_rfl) (by kernel_rfl) ?_
    repeat (go_big_quiet_step ((first | (go_at_call 17; with_reducible exact C1.out _) | (go_at_call 18; with_reducible exact C2.out _) | (go_at_call 19; with_reducible exact C3.out _) | (go_at_call 20; with_reducible exact C4.out _) | (go_at_call 21; with_reducible exact C5.out _) | (go_at_call 22; with_reducible exact C6.out _))))
    refine wpQuiet_nil ?_; intro _ hw'; obtain ⟨z, rfl⟩ := hw'
    go_wp2_with fail
    go_ret
    exact ⟨rfl, z.via hb0, rfl⟩
end Go.Proofs.Ytppoefbfepehpaa
