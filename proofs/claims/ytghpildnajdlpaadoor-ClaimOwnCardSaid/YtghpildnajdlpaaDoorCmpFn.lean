/-
  Two values held against one another, walked: the program's Compare and the document's hand back the same number. Conditions: none.
-/
import Derived.Test.YtghpildnajdlpaaDoorCmp
namespace Go.Proofs.YtghpildnajdlpaaDoor
open Go.RowKit
variable {W : World}

theorem B.cases (x y : List UInt8) : (Op.bytesLess x y = true ∧ B.cmp x y = -1) ∨ (Op.bytesLess x y = false ∧ Op.bytesLess y x = true ∧ (x == y) = false ∧ B.cmp x y = 1) ∨ (x = y ∧ B.cmp x y = 0) := by
  cases h1 : Op.bytesLess x y
  · cases h2 : Op.bytesLess y x
    · exact .inr (.inr ⟨B.conn x y h1 h2, by simp [B.cmp, h1, h2]⟩)
    · refine .inr (.inl ⟨rfl, rfl, ?_, by simp [B.cmp, h1, h2]⟩)
      rw [beq_eq_false_iff_ne]
      rintro rfl
      rw [h1] at h2; cases h2
  · exact .inl ⟨rfl, by simp [B.cmp, h1]⟩

theorem nanS_any (a : ByteArray) (x : Lt W) : Calls Tryd.prog 89 #[.string a] x.1 fun e w' => e = .returned (.bool false) ∧ ∃ y : Lt W, w' = y.1 := by
  go_enter Tryd.func89, Tryd.ntmps89
  go_wp2
  go_ret
  exact ⟨ret_bool (by simp), x, rfl⟩
theorem nanI_any (a : Int) (x : Lt W) : Calls Tryd.prog 90 #[.int .i64 a] x.1 fun e w' => e = .returned (.bool false) ∧ ∃ y : Lt W, w' = y.1 := by
  go_enter Tryd.func90, Tryd.ntmps90
  go_wp2
  go_ret
  exact ⟨ret_bool (by simp), x, rfl⟩

theorem cmpS_any (a b : ByteArray) (x : Lt W) : Calls Tryd.prog 87 #[.string a, .string b] x.1 fun e w' => e = .returned (.int .i64 (B.cmp a.toList b.toList)) ∧ ∃ y : Lt W, w' = y.1 := by
  rcases B.cases a.toList b.toList with ⟨h1, hc⟩ | ⟨h1, h2, h3, hc⟩ | ⟨h1, hc⟩
  · have HC := Lib.hid hc
    clear hc
    go_enter Tryd.func87, Tryd.ntmps87
    go_wp2_with fail
    refine (nanS_any a x).mono ?_; rintro e w' ⟨rfl, y, rfl⟩
    go_wp2_with fail
    refine (nanS_any b y).mono ?_; rintro e w' ⟨rfl, y, rfl⟩
    go_wp2_with fail
    go_ret
    exact ⟨ret_int HC.out.symm, y, rfl⟩
  · have HC := Lib.hid hc
    clear hc
    have h4 : ¬ a.toList = b.toList := by simpa using h3
    go_enter Tryd.func87, Tryd.ntmps87
    go_wp2_with fail
    refine (nanS_any a x).mono ?_; rintro e w' ⟨rfl, y, rfl⟩
    go_wp2_with fail
    refine (nanS_any b y).mono ?_; rintro e w' ⟨rfl, y, rfl⟩
    go_wp2_with fail
    go_ret
    exact ⟨ret_int HC.out.symm, y, rfl⟩
  · obtain rfl := bytes_ext h1
    have HC := Lib.hid hc
    have h2 := B.irrefl a.toList
    clear hc h1
    go_enter Tryd.func87, Tryd.ntmps87
    go_wp2_with fail
    refine (nanS_any a x).mono ?_; rintro e w' ⟨rfl, y, rfl⟩
    go_wp2_with fail
    refine (nanS_any a y).mono ?_; rintro e w' ⟨rfl, y, rfl⟩
    go_wp2_with fail
    go_ret
    exact ⟨ret_int HC.out.symm, y, rfl⟩

theorem cmpI_any (a b : Int) (x : Lt W) : Calls Tryd.prog 88 #[.int .i64 a, .int .i64 b] x.1 fun e w' => e = .returned (.int .i64 (Num.cmp a b)) ∧ ∃ y : Lt W, w' = y.1 := by
  have hc : (a < b ∧ Num.cmp a b = -1) ∨ (¬ a < b ∧ b < a ∧ Num.cmp a b = 1) ∨ (¬ a < b ∧ ¬ b < a ∧ Num.cmp a b = 0) := by
    unfold Num.cmp
    split
    · exact .inl ⟨‹_›, rfl⟩
    · split
      · exact .inr (.inl ⟨‹_›, ‹_›, rfl⟩)
      · exact .inr (.inr ⟨‹_›, ‹_›, rfl⟩)
  rcases hc with ⟨h1, hc⟩ | ⟨h1, h2, hc⟩ | ⟨h1, h2, hc⟩
  all_goals
    have HC := Lib.hid hc
    clear hc
    go_enter Tryd.func88, Tryd.ntmps88
    go_wp2_with fail
    refine (nanI_any a x).mono ?_; rintro e w' ⟨rfl, y, rfl⟩
    go_wp2_with fail
    refine (nanI_any b y).mono ?_; rintro e w' ⟨rfl, y, rfl⟩
    go_wp2_with fail
    go_ret
    exact ⟨ret_int HC.out.symm, y, rfl⟩

theorem compare_any (u v : Val) (x : Lt W) : Calls Tryd.prog 84 #[.agg #[.bool u.t, .int .i64 u.n, .string u.s], .agg #[.bool v.t, .int .i64 v.n, .string v.s]] x.1 fun e w' => e = .returned (.int .i64 (cmpV u v)) ∧ ∃ y : Lt W, w' = y.1 := by
  obtain ⟨t, n, s⟩ := u
  obtain ⟨t', n', s'⟩ := v
  cases t <;> cases t'
  · go_enter Tryd.func84, Tryd.ntmps84
    go_wp2_with fail
    refine calls_here fun W1 hW1 => ?_
    have hb0 : Below W.heap.size W W1 := hW1 ▸ x.more2 _ _
    clear hW1
    refine (cmpI_any n n' (Lt.base W1)).mono ?_; rintro e w' ⟨rfl, y, rfl⟩
    go_wp2_with fail
    go_ret
    exact ⟨rfl, y.via hb0, rfl⟩
  · go_enter Tryd.func84, Tryd.ntmps84
    go_wp2_with fail
    go_ret
    exact ⟨rfl, x.end_ (below_then (below_alloc _) (below_alloc _))⟩
  · go_enter Tryd.func84, Tryd.ntmps84
    go_wp2_with fail
    go_ret
    exact ⟨rfl, x.end_ (below_then (below_alloc _) (below_alloc _))⟩
  · go_enter Tryd.func84, Tryd.ntmps84
    go_wp2_with fail
    refine calls_here fun W1 hW1 => ?_
    have hb0 : Below W.heap.size W W1 := hW1 ▸ x.more2 _ _
    clear hW1
    refine (cmpS_any s s' (Lt.base W1)).mono ?_; rintro e w' ⟨rfl, y, rfl⟩
    go_wp2_with fail
    go_ret
    exact ⟨rfl, y.via hb0, rfl⟩
theorem compare_is {u v : Val} {k : Int} (h : cmpV u v = k) (x : Lt W) : Calls Tryd.prog 84 #[.agg #[.bool u.t, .int .i64 u.n, .string u.s], .agg #[.bool v.t, .int .i64 v.n, .string v.s]] x.1 fun e w' => e = .returned (.int .i64 k) ∧ ∃ y : Lt W, w' = y.1 := h ▸ compare_any u v x
end Go.Proofs.YtghpildnajdlpaaDoor
