/-
  The statement ValueSums, walked: it returns true. Conditions: package value's table of digits holds what the program's text lays; both are numbers of 64 bits.
-/
import Derived.Test.YtlfdiafpmlcmdaaDoorAwake01
namespace Go.Proofs.YtlfdiafpmlcmdaaDoor
open Go.RowKit
variable {W : World}

set_option maxHeartbeats 1000000 in
theorem valueSums_any (hd : Digs W) {a b : Int} (ha : Num.is a = true) (hb : Num.is b = true) (x : Lt W) : Calls Tryd.prog 8 #[.int .i64 a, .int .i64 b] x.1 fun e w' => e = .returned (.bool true) ∧ ∃ y : Lt W, w' = y.1 := by
  have AW := Lib.hid (fun z : Lt W => awake_any hd z)
  obtain ⟨s, hs⟩ : ∃ s, Num.of (a + b) = s := ⟨_, rfl⟩
  obtain ⟨si, hsi⟩ : ∃ s, Num.is (a + b) = s := ⟨_, rfl⟩
  obtain ⟨d, hd'⟩ : ∃ s, Num.of (a - b) = s := ⟨_, rfl⟩
  obtain ⟨di, hdi⟩ : ∃ s, Num.is (a - b) = s := ⟨_, rfl⟩
  obtain ⟨p, hp⟩ : ∃ s, Num.of (a * b) = s := ⟨_, rfl⟩
  obtain ⟨pi, hpi⟩ : ∃ s, Num.is (a * b) = s := ⟨_, rfl⟩
  have C1 := Lib.hid (fun z : Lt W => show Calls Tryd.prog 19 #[.int .i64 a, .int .i64 b] z.1 fun e w' => e = .returned (.tuple #[.int .i64 s, .bool si]) ∧ ∃ y : Lt W, w' = y.1 from hs ▸ hsi ▸ add_any ha hb z)
  have C2 := Lib.hid (fun z : Lt W => show Calls Tryd.prog 20 #[.int .i64 a, .int .i64 b] z.1 fun e w' => e = .returned (.tuple #[.int .i64 d, .bool di]) ∧ ∃ y : Lt W, w' = y.1 from hd' ▸ hdi ▸ sub_any ha hb z)
  have C3 := Lib.hid (fun z : Lt W => show Calls Tryd.prog 21 #[.int .i64 a, .int .i64 b] z.1 fun e w' => e = .returned (.tuple #[.int .i64 p, .bool pi]) ∧ ∃ y : Lt W, w' = y.1 from hp ▸ hpi ▸ times_any ha hb z)
  have C4 := Lib.hid (fun z : Lt W => show Calls Tryd.prog 22 #[.int .i64 a, .int .i64 b] z.1 fun e w' => e = .returned (.tuple #[.int .i64 s, .bool si]) ∧ ∃ y : Lt W, w' = y.1 from hs ▸ hsi ▸ radd_any ha hb z)
  have C5 := Lib.hid (fun z : Lt W => show Calls Tryd.prog 23 #[.int .i64 a, .int .i64 b] z.1 fun e w' => e = .returned (.tuple #[.int .i64 d, .bool di]) ∧ ∃ y : Lt W, w' = y.1 from hd' ▸ hdi ▸ rsub_any ha hb z)
  have C6 := Lib.hid (fun z : Lt W => show Calls Tryd.prog 24 #[.int .i64 a, .int .i64 b] z.1 fun e w' => e = .returned (.tuple #[.int .i64 p, .bool pi]) ∧ ∃ y : Lt W, w' = y.1 from hp ▸ hpi ▸ rtimes_any ha hb z)
  clear hs hsi hd' hdi hp hpi ha hb hd
  go_enter Tryd.func8, Tryd.ntmps8
  go_wp2_with fail
  refine (AW.out x).mono ?_; rintro e w' ⟨rfl, y, rfl⟩
  go_wp2_with fail
  refine (C1.out y).mono ?_; rintro e w' ⟨rfl, y, rfl⟩
  go_wp2_with fail
  refine (C2.out y).mono ?_; rintro e w' ⟨rfl, y, rfl⟩
  go_wp2_with fail
  refine (C3.out y).mono ?_; rintro e w' ⟨rfl, y, rfl⟩
  go_wp2_with fail
  refine (C4.out y).mono ?_; rintro e w' ⟨rfl, y, rfl⟩
  go_wp2_with fail
  refine (C5.out y).mono ?_; rintro e w' ⟨rfl, y, rfl⟩
  go_wp2_with fail
  refine (C6.out y).mono ?_; rintro e w' ⟨rfl, y, rfl⟩
  cases si <;> cases di <;> cases pi
  all_goals
    go_wp2_with fail
    go_ret
    exact ⟨rfl, y, rfl⟩
end Go.Proofs.YtlfdiafpmlcmdaaDoor
