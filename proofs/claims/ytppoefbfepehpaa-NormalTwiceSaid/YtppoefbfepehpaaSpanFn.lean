/-
  Spans of keys, walked: nothing, clean and Clean, Within on both sides. Conditions: a value's text is no longer than an int holds (the document's side).
-/
import Derived.Test.YtppoefbfepehpaaSpan
import Derived.Test.YtppoefbfepehpaaCmpFn
import Derived.Test.YtppoefbfepehpaaRCmp
namespace Go.Proofs.Ytppoefbfepehpaa
open Go.RowKit
variable {W : World}

theorem nothing_any (x : Lt W) : Calls Try.prog 31 #[] x.1 fun e w' => e = .returned Sp.nothing.val ∧ ∃ y : Lt W, w' = y.1 := by
  go_enter Try.func31, Try.ntmps31
  go_wp2_with fail
  refine bodyPost_ret (v := Sp.nothing.val) ?_ rfl ⟨rfl, x.end_ (below_alloc _)⟩
  simp [results, Try.results31, go_sem]
theorem end_cases {a b : Bool} {i : Int} (h : i = -1 ∨ i = 0 ∨ i = 1) : a = false ∨ (a = true ∧ i = -1) ∨ (a = true ∧ i = 1) ∨ (a = true ∧ i = 0 ∧ b = true) ∨ (a = true ∧ i = 0 ∧ b = false) := by
  cases a
  · exact .inl rfl
  · rcases h with h | h | h
    · exact .inr (.inl ⟨rfl, h⟩)
    · cases b
      · exact .inr (.inr (.inr (.inr ⟨rfl, h, rfl⟩)))
      · exact .inr (.inr (.inr (.inl ⟨rfl, h, rfl⟩)))
    · exact .inr (.inr (.inl ⟨rfl, h⟩))

set_option maxHeartbeats 4000000 in
theorem within_any (s : Sp) (v : Val) (x : Lt W) : Calls Try.prog 17 #[s.val, .agg #[.bool v.t, .int .i64 v.n, .string v.s]] x.1 fun e w' => e = .returned (.bool (s.within v)) ∧ ∃ y : Lt W, w' = y.1 := by
  obtain ⟨none, lo, olo, l, hi, ohi, h⟩ := s
  cases none
  case true =>
    go_enter Try.func17, Try.ntmps17
    go_wp2_with fail
    go_ret
    exact ⟨rfl, x.end_ (below_then (below_alloc _) (below_alloc _))⟩
  obtain ⟨i, hi1⟩ : ∃ i, cmpV v l = i := ⟨_, rfl⟩
  obtain ⟨j, hj1⟩ : ∃ j, cmpV v h = j := ⟨_, rfl⟩
  have hri : i = -1 ∨ i = 0 ∨ i = 1 := hi1 ▸ cmpV_range v l
  have hrj : j = -1 ∨ j = 0 ∨ j = 1 := hj1 ▸ cmpV_range v h
  have hw : (⟨false, lo, olo, l, hi, ohi, h⟩ : Sp).within v = (!false && !(lo && (decide (i < 0) || decide (i = 0) && olo)) && (!hi || decide (j < 0) || decide (j = 0) && !ohi)) := by rw [← hi1, ← hj1]; rfl
  have HW := Lib.hid hw
  have C1 := Lib.hid (fun (W : World) (z : Lt W) => compare_is hi1 z)
  have C2 := Lib.hid (fun (W : World) (z : Lt W) => compare_is hj1 z)
  clear hw hi1 hj1
  go_enter Try.func17, Try.ntmps17
  go_wp2_with fail
  refine calls_here fun W1 hW1 => ?_
  have hb0 : Below W.heap.size W W1 := hW1 ▸ x.more2 _ _
  have b0 := fun z : Lt W1 => z.cell (show W1.cell? ⟨x.1.heap.size, 0, none⟩ = some (.bool false) by rw [hW1]; exact cell_old (by rw [cell_new rfl]; rfl))
  have b1 := fun z : Lt W1 => z.cell (show W1.cell? ⟨x.1.heap.size, 1, none⟩ = some (.bool lo) by rw [hW1]; exact cell_old (by rw [cell_new rfl]; rfl))
  have b2 := fun z : Lt W1 => z.cell (show W1.cell? ⟨x.1.heap.size, 2, none⟩ = some (.bool olo) by rw [hW1]; exact cell_old (by rw [cell_new rfl]; rfl))
  have b3 := fun z : Lt W1 => z.cell (show W1.cell? ⟨x.1.heap.size, 3, none⟩ = some (.bool l.t) by rw [hW1]; exact cell_old (by rw [cell_new rfl]; rfl))
  have b4 := fun z : Lt W1 => z.cell (show W1.cell? ⟨x.1.heap.size, 4, none⟩ = some (.int .i64 l.n) by rw [hW1]; exact cell_old (by rw [cell_new rfl]; rfl))
  have b5 := fun z : Lt W1 => z.cell (show W1.cell? ⟨x.1.heap.size, 5, none⟩ = some (.string l.s) by rw [hW1]; exact cell_old (by rw [cell_new rfl]; rfl))
  have b6 := fun z : Lt W1 => z.cell (show W1.cell? ⟨x.1.heap.size, 6, none⟩ = some (.bool hi) by rw [hW1]; exact cell_old (by rw [cell_new rfl]; rfl))
  have b7 := fun z : Lt W1 => z.cell (show W1.cell? ⟨x.1.heap.size, 7, none⟩ = some (.bool ohi) by rw [hW1]; exact cell_old (by rw [cell_new rfl]; rfl))
  have b8 := fun z : Lt W1 => z.cell (show W1.cell? ⟨x.1.heap.size, 8, none⟩ = some (.bool h.t) by rw [hW1]; exact cell_old (by rw [cell_new rfl]; rfl))
  have b9 := fun z : Lt W1 => z.cell (show W1.cell? ⟨x.1.heap.size, 9, none⟩ = some (.int .i64 h.n) by rw [hW1]; exact cell_old (by rw [cell_new rfl]; rfl))
  have b10 := fun z : Lt W1 => z.cell (show W1.cell? ⟨x.1.heap.size, 10, none⟩ = some (.string h.s) by rw [hW1]; exact cell_old (by rw [cell_new rfl]; rfl))
  have c0 := fun z : Lt W1 => z.cell (show W1.cell? ⟨x.1.heap.size + 1, 0, none⟩ = some (.bool v.t) by rw [hW1, cell_new (by simp)]; rfl)
  have c1 := fun z : Lt W1 => z.cell (show W1.cell? ⟨x.1.heap.size + 1, 1, none⟩ = some (.int .i64 v.n) by rw [hW1, cell_new (by simp)]; rfl)
  have c2 := fun z : Lt W1 => z.cell (show W1.cell? ⟨x.1.heap.size + 1, 2, none⟩ = some (.string v.s) by rw [hW1, cell_new (by simp)]; rfl)
  clear hW1
  refine (C1.out W1 (Lt.base W1)).mono ?_; rintro e w' ⟨rfl, y, rfl⟩
  rcases end_cases (a := lo) (b := olo) hri with rfl | ⟨rfl, rfl⟩ | ⟨rfl, rfl⟩ | ⟨rfl, rfl, rfl⟩ | ⟨rfl, rfl, rfl⟩
  all_goals
    go_wp2_with fail
  all_goals first
    | (go_ret; exact ⟨ret_bool HW.out.symm, y.via hb0, rfl⟩)
    | (refine (C2.out W1 y).mono ?_; rintro e w' ⟨rfl, y, rfl⟩
       rcases end_cases (a := hi) (b := ohi) hrj with rfl | ⟨rfl, rfl⟩ | ⟨rfl, rfl⟩ | ⟨rfl, rfl, rfl⟩ | ⟨rfl, rfl, rfl⟩
       all_goals
         go_wp2_with fail
         go_ret
         exact ⟨ret_bool HW.out.symm, y.via hb0, rfl⟩)

set_option maxHeartbeats 4000000 in
theorem rwithin_any (s : Sp) (v : Val) (hv : v.s.size ≤ maxLen) (x : Lt W) : Calls Try.prog 18 #[s.val, .agg #[.bool v.t, .int .i64 v.n, .string v.s]] x.1 fun e w' => e = .returned (.bool (s.within v)) ∧ ∃ y : Lt W, w' = y.1 := by
  obtain ⟨none, lo, olo, l, hi, ohi, h⟩ := s
  cases none
  case true =>
    go_enter Try.func18, Try.ntmps18
    go_wp2_with fail
    go_ret
    exact ⟨rfl, x.end_ (below_then (below_alloc _) (below_alloc _))⟩
  obtain ⟨i, hi1⟩ : ∃ i, cmpV v l = i := ⟨_, rfl⟩
  obtain ⟨j, hj1⟩ : ∃ j, cmpV v h = j := ⟨_, rfl⟩
  have hri : i = -1 ∨ i = 0 ∨ i = 1 := hi1 ▸ cmpV_range v l
  have hrj : j = -1 ∨ j = 0 ∨ j = 1 := hj1 ▸ cmpV_range v h
  have hw : (⟨false, lo, olo, l, hi, ohi, h⟩ : Sp).within v = (!false && !(lo && (decide (i < 0) || decide (i = 0) && olo)) && (!hi || decide (j < 0) || decide (j = 0) && !ohi)) := by rw [← hi1, ← hj1]; rfl
  have HW := Lib.hid hw
  have C1 := Lib.hid (fun (W : World) (z : Lt W) => rcompare_is hi1 hv z)
  have C2 := Lib.hid (fun (W : World) (z : Lt W) => rcompare_is hj1 hv z)
  clear hw hi1 hj1 hv
  go_enter Try.func18, Try.ntmps18
  go_wp2_with fail
  refine calls_here fun W1 hW1 => ?_
  have hb0 : Below W.heap.size W W1 := hW1 ▸ x.more2 _ _
  have b0 := fun z : Lt W1 => z.cell (show W1.cell? ⟨x.1.heap.size, 0, none⟩ = some (.bool false) by rw [hW1]; exact cell_old (by rw [cell_new rfl]; rfl))
  have b1 := fun z : Lt W1 => z.cell (show W1.cell? ⟨x.1.heap.size, 1, none⟩ = some (.bool lo) by rw [hW1]; exact cell_old (by rw [cell_new rfl]; rfl))
  have b2 := fun z : Lt W1 => z.cell (show W1.cell? ⟨x.1.heap.size, 2, none⟩ = some (.bool olo) by rw [hW1]; exact cell_old (by rw [cell_new rfl]; rfl))
  have b3 := fun z : Lt W1 => z.cell (show W1.cell? ⟨x.1.heap.size, 3, none⟩ = some (.bool l.t) by rw [hW1]; exact cell_old (by rw [cell_new rfl]; rfl))
  have b4 := fun z : Lt W1 => z.cell (show W1.cell? ⟨x.1.heap.size, 4, none⟩ = some (.int .i64 l.n) by rw [hW1]; exact cell_old (by rw [cell_new rfl]; rfl))
  have b5 := fun z : Lt W1 => z.cell (show W1.cell? ⟨x.1.heap.size, 5, none⟩ = some (.string l.s) by rw [hW1]; exact cell_old (by rw [cell_new rfl]; rfl))
  have b6 := fun z : Lt W1 => z.cell (show W1.cell? ⟨x.1.heap.size, 6, none⟩ = some (.bool hi) by rw [hW1]; exact cell_old (by rw [cell_new rfl]; rfl))
  have b7 := fun z : Lt W1 => z.cell (show W1.cell? ⟨x.1.heap.size, 7, none⟩ = some (.bool ohi) by rw [hW1]; exact cell_old (by rw [cell_new rfl]; rfl))
  have b8 := fun z : Lt W1 => z.cell (show W1.cell? ⟨x.1.heap.size, 8, none⟩ = some (.bool h.t) by rw [hW1]; exact cell_old (by rw [cell_new rfl]; rfl))
  have b9 := fun z : Lt W1 => z.cell (show W1.cell? ⟨x.1.heap.size, 9, none⟩ = some (.int .i64 h.n) by rw [hW1]; exact cell_old (by rw [cell_new rfl]; rfl))
  have b10 := fun z : Lt W1 => z.cell (show W1.cell? ⟨x.1.heap.size, 10, none⟩ = some (.string h.s) by rw [hW1]; exact cell_old (by rw [cell_new rfl]; rfl))
  have c0 := fun z : Lt W1 => z.cell (show W1.cell? ⟨x.1.heap.size + 1, 0, none⟩ = some (.bool v.t) by rw [hW1, cell_new (by simp)]; rfl)
  have c1 := fun z : Lt W1 => z.cell (show W1.cell? ⟨x.1.heap.size + 1, 1, none⟩ = some (.int .i64 v.n) by rw [hW1, cell_new (by simp)]; rfl)
  have c2 := fun z : Lt W1 => z.cell (show W1.cell? ⟨x.1.heap.size + 1, 2, none⟩ = some (.string v.s) by rw [hW1, cell_new (by simp)]; rfl)
  clear hW1
  refine (C1.out W1 (Lt.base W1)).mono ?_; rintro e w' ⟨rfl, y, rfl⟩
  go_wp2_with fail
  refine (C2.out W1 y).mono ?_; rintro e w' ⟨rfl, y, rfl⟩
  rcases end_cases (a := lo) (b := olo) hri with rfl | ⟨rfl, rfl⟩ | ⟨rfl, rfl⟩ | ⟨rfl, rfl, rfl⟩ | ⟨rfl, rfl, rfl⟩ <;> rcases end_cases (a := hi) (b := ohi) hrj with rfl | ⟨rfl, rfl⟩ | ⟨rfl, rfl⟩ | ⟨rfl, rfl, rfl⟩ | ⟨rfl, rfl, rfl⟩
  all_goals
    go_wp2_with fail
    go_ret
    exact ⟨ret_bool HW.out.symm, y.via hb0, rfl⟩

end Go.Proofs.Ytppoefbfepehpaa
