/-
  The example of chapter 01, walked. Conditions: package value's table of digits holds what the program's text lays.
-/
import Derived.Test.YtlfdiafpmlcmdaaDoorText
import Derived.Test.YtlfdiafpmlcmdaaDoorNum
import Derived.Test.YtlfdiafpmlcmdaaDoorCmpFn
import Derived.Test.YtlfdiafpmlcmdaaDoorRCmp
namespace Go.Proofs.YtlfdiafpmlcmdaaDoor
open Go.RowKit
variable {W : World}

set_option maxHeartbeats 1000000 in
theorem awake_any (hd : Digs W) (x : Lt W) : Calls Tryd.prog 10 #[] x.1 fun e w' => e = .returned (.bool true) ∧ ∃ y : Lt W, w' = y.1 := by
  have HD := Lib.hid hd
  clear hd
  have CT := Lib.hid (show ∀ z : Lt W, Calls Tryd.prog 21 #[.int .i64 4611686018427387904, .int .i64 (-2)] z.1 fun e w' => e = .returned (.tuple #[.int .i64 (-9223372036854775808), .bool true]) ∧ ∃ y : Lt W, w' = y.1 from fun z => by
    have := times_any (a := 4611686018427387904) (b := -2) (by decide +kernel) (by decide +kernel) z
    unfold sumV at this
    rwa [show Num.of ((4611686018427387904 : Int) * (-2)) = -9223372036854775808 by decide +kernel, show Num.is ((4611686018427387904 : Int) * (-2)) = true by decide +kernel] at this)
  go_enter Tryd.func10, Tryd.ntmps10
  go_wp2_with fail
  refine (CT.out x).mono ?_; rintro e w' ⟨rfl, y1, rfl⟩
  go_wp2_with fail
  refine (read_az HD.out y1).mono ?_; rintro e w' ⟨rfl, y2, rfl⟩
  go_wp2_with fail
  refine calls_here fun W3 hW3 => ?_
  have hb3 : Below W.heap.size W W3 := by rw [hW3]; exact y2.more _
  have b0 := fun z : Lt W3 => z.cell (show W3.cell? ⟨y2.1.heap.size, 0, none⟩ = some (.bool true) by rw [hW3, cell_new rfl]; rfl)
  have b1 := fun z : Lt W3 => z.cell (show W3.cell? ⟨y2.1.heap.size, 1, none⟩ = some (.int .i64 0) by rw [hW3, cell_new rfl]; rfl)
  have b2 := fun z : Lt W3 => z.cell (show W3.cell? ⟨y2.1.heap.size, 2, none⟩ = some (.string ⟨#[97, 122]⟩) by rw [hW3, cell_new rfl]; rfl)
  clear hW3
  refine (show_az (HD.out.below hb3) (Lt.base W3)).mono ?_; rintro e w' ⟨rfl, y3, rfl⟩
  go_wp2_with fail
  refine (compare_is (u := ⟨false, 5, ⟨#[]⟩⟩) (v := ⟨true, 0, ⟨#[97, 122]⟩⟩) (k := -1) (by decide +kernel) y3).mono ?_; rintro e w' ⟨rfl, y4, rfl⟩
  go_wp2_with fail
  refine (vright_is (v := ⟨true, 0, ⟨#[97, 122]⟩⟩) (b := true) (by decide +kernel) y4).mono ?_; rintro e w' ⟨rfl, y5, rfl⟩
  go_wp2_with fail
  go_ret
  exact ⟨rfl, y5.via hb3, rfl⟩

set_option maxHeartbeats 1000000 in
theorem valueCompares_any (hd : Digs W) (a b : Val) (ha : a.s.size ≤ maxLen) (x : Lt W) : Calls Tryd.prog 3 #[.agg #[.bool a.t, .int .i64 a.n, .string a.s], .agg #[.bool b.t, .int .i64 b.n, .string b.s]] x.1 fun e w' => e = .returned (.bool true) ∧ ∃ y : Lt W, w' = y.1 := by
  have HD := Lib.hid hd
  clear hd
  obtain ⟨k, hk⟩ : ∃ k, cmpV a b = k := ⟨_, rfl⟩
  obtain ⟨i, hi⟩ : ∃ i, a.right = i := ⟨_, rfl⟩
  go_enter Tryd.func3, Tryd.ntmps3
  go_wp2_with fail
  refine calls_here fun W1 hW1 => ?_
  have hb1 : Below W.heap.size W W1 := by rw [hW1]; exact x.more2 _ _
  have a0 := fun z : Lt W1 => z.cell (show W1.cell? ⟨x.1.heap.size, 0, none⟩ = some (.bool a.t) by rw [hW1]; exact cell_old (by rw [cell_new rfl]; rfl))
  have a1 := fun z : Lt W1 => z.cell (show W1.cell? ⟨x.1.heap.size, 1, none⟩ = some (.int .i64 a.n) by rw [hW1]; exact cell_old (by rw [cell_new rfl]; rfl))
  have a2 := fun z : Lt W1 => z.cell (show W1.cell? ⟨x.1.heap.size, 2, none⟩ = some (.string a.s) by rw [hW1]; exact cell_old (by rw [cell_new rfl]; rfl))
  have b0 := fun z : Lt W1 => z.cell (show W1.cell? ⟨x.1.heap.size + 1, 0, none⟩ = some (.bool b.t) by rw [hW1, cell_new (by simp)]; rfl)
  have b1 := fun z : Lt W1 => z.cell (show W1.cell? ⟨x.1.heap.size + 1, 1, none⟩ = some (.int .i64 b.n) by rw [hW1, cell_new (by simp)]; rfl)
  have b2 := fun z : Lt W1 => z.cell (show W1.cell? ⟨x.1.heap.size + 1, 2, none⟩ = some (.string b.s) by rw [hW1, cell_new (by simp)]; rfl)
  clear hW1
  have C1 := Lib.hid (fun z : Lt W1 => compare_is hk z)
  have C2 := Lib.hid (fun z : Lt W1 => rcompare_is hk ha z)
  have C3 := Lib.hid (fun z : Lt W1 => vright_is hi z)
  have C4 := Lib.hid (fun z : Lt W1 => rvright_is hi z)
  clear hk hi ha
  refine (awake_any (HD.out.below hb1) (Lt.base W1)).mono ?_; rintro e w' ⟨rfl, y, rfl⟩
  cases i
  all_goals
    go_wp2_with fail
    refine wp_region_pure _ (by kernel_rfl) (by kernel_rfl) ?_
    repeat (go_big_quiet_step ((first | (go_at_call 11; with_reducible exact C1.out _) | (go_at_call 12; with_reducible exact C2.out _) | (go_at_call 13; with_reducible exact C3.out _) | (go_at_call 14; with_reducible exact C4.out _))))
    refine wpQuiet_nil ?_; intro _ hw'; obtain ⟨z, rfl⟩ := hw'
    go_wp2_with fail
    go_ret
    exact ⟨ret_bool (by simp), z.via hb1, rfl⟩
end Go.Proofs.YtlfdiafpmlcmdaaDoor
