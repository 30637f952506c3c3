/-
  A text against one that goes on behind it, plain.
-/
import Derived.Test.YtlfdiafpmlcmdaaDoorAwake01
namespace Go.Proofs.YtlfdiafpmlcmdaaDoor
open Go.RowKit

theorem B.cmp_more (x y : List UInt8) : B.cmp x (x ++ y) = if y = [] then 0 else -1 := by
  induction x with
  | nil => cases y <;> rfl
  | cons a x ih =>
    have h : ¬ a < a := by rw [UInt8.lt_iff_toNat_lt]; omega
    rw [List.cons_append, B.cmp_cons, if_neg h, if_neg h, ih]
variable {W : World}
theorem cmp_ahead (s m : ByteArray) : cmpV ⟨true, 0, s⟩ ⟨true, 0, s ++ m⟩ = if m.toList = [] then 0 else -1 := by
  show B.cmp s.toList (s ++ m).toList = _
  rw [show (s ++ m).toList = s.toList ++ m.toList by rw [Lib.toList_data, Lib.toList_data, Lib.toList_data]; simp, B.cmp_more]
set_option maxHeartbeats 1000000 in
theorem valueAhead_any (hd : Digs W) (s m : ByteArray) (n : Int) (x : Lt W) : Calls Tryd.prog 7 #[.string s, .string m, .int .i64 n] x.1 fun e w' => e = .returned (.bool true) ∧ ∃ y : Lt W, w' = y.1 := by
  have AW := Lib.hid (fun z : Lt W => awake_any hd z)
  clear hd
  by_cases h1 : s.size ≤ 1000
  · have d1 : decide ((1000 : Int) < s.size) = false := decide_eq_false (by omega)
    by_cases h2 : m.size ≤ 1000
    · have d2 : decide ((1000 : Int) < m.size) = false := decide_eq_false (by omega)
      have hc := fun w => run_string_add_sum (P := Tryd.prog) s m (by omega) (w := w)
      obtain ⟨k, hk⟩ : ∃ k, cmpV ⟨true, 0, s⟩ ⟨true, 0, s ++ m⟩ = k := ⟨_, rfl⟩
      have hk2 : (m.toList.isEmpty = true ∧ k = 0) ∨ (m.toList.isEmpty = false ∧ k = -1) := by
        rw [cmp_ahead] at hk
        cases hm : m.toList with
        | nil => rw [hm] at hk; exact .inl ⟨rfl, hk.symm⟩
        | cons a l => rw [hm] at hk; exact .inr ⟨rfl, hk.symm⟩
      rcases hk2 with ⟨he, rfl⟩ | ⟨he, rfl⟩
      all_goals
        go_enter Tryd.func7, Tryd.ntmps7
        go_wp2_with fail
        refine (AW.out x).mono ?_; rintro e w' ⟨rfl, y, rfl⟩
        go_wp2_with fail
        refine calls_here fun W1 hW1 => ?_
        have hb1 : Below W.heap.size W W1 := by rw [hW1]; exact y.more2 _ _
        have b0 := fun z : Lt W1 => z.cell (show W1.cell? ⟨y.1.heap.size, 0, none⟩ = some (.bool true) by rw [hW1]; exact cell_old (by rw [cell_new rfl]; rfl))
        have b1 := fun z : Lt W1 => z.cell (show W1.cell? ⟨y.1.heap.size, 1, none⟩ = some (.int .i64 0) by rw [hW1]; exact cell_old (by rw [cell_new rfl]; rfl))
        have b2 := fun z : Lt W1 => z.cell (show W1.cell? ⟨y.1.heap.size, 2, none⟩ = some (.string s) by rw [hW1]; exact cell_old (by rw [cell_new rfl]; rfl))
        clear hW1
        refine (compare_is hk (Lt.base W1)).mono ?_; rintro e w' ⟨rfl, y2, rfl⟩
        go_wp2_with fail
        refine (compare_is (u := ⟨false, n, ⟨#[]⟩⟩) (v := ⟨true, 0, s⟩) (k := -1) rfl y2).mono ?_; rintro e w' ⟨rfl, y3, rfl⟩
        go_wp2_with fail
        go_ret
        exact ⟨rfl, y3.via hb1, rfl⟩
    · have d2 : decide ((1000 : Int) < m.size) = true := decide_eq_true (by omega)
      have d3 : (1000 : Int) < m.size := by omega
      have d4 : 1000 < m.size := by omega
      go_enter Tryd.func7, Tryd.ntmps7
      go_wp2_with fail
      refine (AW.out x).mono ?_; rintro e w' ⟨rfl, y, rfl⟩
      go_wp2_with fail
      go_ret
      exact ⟨rfl, y, rfl⟩
  · have d1 : decide ((1000 : Int) < s.size) = true := decide_eq_true (by omega)
    have d3 : (1000 : Int) < s.size := by omega
    have d4 : 1000 < s.size := by omega
    go_enter Tryd.func7, Tryd.ntmps7
    go_wp2_with fail
    refine (AW.out x).mono ?_; rintro e w' ⟨rfl, y, rfl⟩
    go_wp2_with fail
    go_ret
    exact ⟨rfl, y, rfl⟩
end Go.Proofs.YtlfdiafpmlcmdaaDoor
