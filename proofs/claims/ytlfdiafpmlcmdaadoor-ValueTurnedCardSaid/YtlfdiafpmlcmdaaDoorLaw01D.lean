/-
  The statement ValueTurned, walked: it returns true. Conditions: package value's table of digits holds what the program's text lays; both are numbers of 64 bits.
-/
import Derived.Test.YtlfdiafpmlcmdaaDoorAwake01
namespace Go.Proofs.YtlfdiafpmlcmdaaDoor
open Go.RowKit
variable {W : World}

set_option maxHeartbeats 1000000 in
theorem valueTurned_any (hd : Digs W) {a b : Int} (ha : Num.is a = true) (hb : Num.is b = true) (x : Lt W) : Calls Tryd.prog 9 #[.int .i64 a, .int .i64 b] x.1 fun e w' => e = .returned (.bool true) ∧ ∃ y : Lt W, w' = y.1 := by
  have AW := Lib.hid (fun z : Lt W => awake_any hd z)
  obtain ⟨s, hs⟩ : ∃ s, Num.of (a + b) = s := ⟨_, rfl⟩
  obtain ⟨si, hsi⟩ : ∃ s, Num.is (a + b) = s := ⟨_, rfl⟩
  obtain ⟨p, hp⟩ : ∃ s, Num.of (a * b) = s := ⟨_, rfl⟩
  obtain ⟨pi, hpi⟩ : ∃ s, Num.is (a * b) = s := ⟨_, rfl⟩
  have h0 : Num.is 0 = true := by decide +kernel
  have h1 : Num.is 1 = true := by decide +kernel
  have C1 := Lib.hid (fun z : Lt W => show Calls Tryd.prog 19 #[.int .i64 a, .int .i64 b] z.1 fun e w' => e = .returned (.tuple #[.int .i64 s, .bool si]) ∧ ∃ y : Lt W, w' = y.1 from hs ▸ hsi ▸ add_any ha hb z)
  have C2 := Lib.hid (fun z : Lt W => show Calls Tryd.prog 19 #[.int .i64 b, .int .i64 a] z.1 fun e w' => e = .returned (.tuple #[.int .i64 s, .bool si]) ∧ ∃ y : Lt W, w' = y.1 from by have := add_any hb ha z; unfold sumV at this; rwa [Int.add_comm b a, hs, hsi] at this)
  have C3 := Lib.hid (show si = true → ∀ z : Lt W, Calls Tryd.prog 20 #[.int .i64 s, .int .i64 b] z.1 fun e w' => e = .returned (.tuple #[.int .i64 a, .bool true]) ∧ ∃ y : Lt W, w' = y.1 from fun e z => by
    have hy : Num.is (a + b) = true := hsi.trans e
    have hse : s = a + b := by rw [← hs, Num.of_yes hy]
    have := sub_any (a := s) (b := b) (by rw [hse]; exact hy) hb z
    unfold sumV at this
    rwa [show s - b = a by omega, ha, Num.of_yes ha] at this)
  have C4 := Lib.hid (fun z : Lt W => show Calls Tryd.prog 21 #[.int .i64 a, .int .i64 b] z.1 fun e w' => e = .returned (.tuple #[.int .i64 p, .bool pi]) ∧ ∃ y : Lt W, w' = y.1 from hp ▸ hpi ▸ times_any ha hb z)
  have C5 := Lib.hid (fun z : Lt W => show Calls Tryd.prog 21 #[.int .i64 b, .int .i64 a] z.1 fun e w' => e = .returned (.tuple #[.int .i64 p, .bool pi]) ∧ ∃ y : Lt W, w' = y.1 from by have := times_any hb ha z; unfold sumV at this; rwa [Int.mul_comm b a, hp, hpi] at this)
  have C6 := Lib.hid (fun z : Lt W => show Calls Tryd.prog 21 #[.int .i64 a, .int .i64 1] z.1 fun e w' => e = .returned (.tuple #[.int .i64 a, .bool true]) ∧ ∃ y : Lt W, w' = y.1 from by have := times_any ha h1 z; unfold sumV at this; rwa [Int.mul_one, ha, Num.of_yes ha] at this)
  have C7 := Lib.hid (fun z : Lt W => show Calls Tryd.prog 21 #[.int .i64 a, .int .i64 0] z.1 fun e w' => e = .returned (.tuple #[.int .i64 0, .bool true]) ∧ ∃ y : Lt W, w' = y.1 from by have := times_any ha h0 z; unfold sumV at this; rwa [Int.mul_zero, h0, Num.of_yes h0] at this)
  clear hs hsi hp hpi ha hb hd h0 h1
  go_enter Tryd.func9, Tryd.ntmps9
  go_wp2_with fail
  refine (AW.out x).mono ?_; rintro e w' ⟨rfl, y, rfl⟩
  go_wp2_with fail
  refine (C1.out y).mono ?_; rintro e w' ⟨rfl, y, rfl⟩
  go_wp2_with fail
  refine (C2.out y).mono ?_; rintro e w' ⟨rfl, y, rfl⟩
  cases si
  · cases pi
    all_goals
      go_wp2_with fail
      refine (C4.out y).mono ?_; rintro e w' ⟨rfl, y, rfl⟩
      go_wp2_with fail
      refine (C5.out y).mono ?_; rintro e w' ⟨rfl, y, rfl⟩
      go_wp2_with fail
      refine (C6.out y).mono ?_; rintro e w' ⟨rfl, y, rfl⟩
      go_wp2_with fail
      refine (C7.out y).mono ?_; rintro e w' ⟨rfl, y, rfl⟩
      go_wp2_with fail
      go_ret
      exact ⟨rfl, y, rfl⟩
  · go_wp2_with fail
    refine (C3.out trivial y).mono ?_; rintro e w' ⟨rfl, y, rfl⟩
    cases pi
    all_goals
      go_wp2_with fail
      refine (C4.out y).mono ?_; rintro e w' ⟨rfl, y, rfl⟩
      go_wp2_with fail
      refine (C5.out y).mono ?_; rintro e w' ⟨rfl, y, rfl⟩
      go_wp2_with fail
      refine (C6.out y).mono ?_; rintro e w' ⟨rfl, y, rfl⟩
      go_wp2_with fail
      refine (C7.out y).mono ?_; rintro e w' ⟨rfl, y, rfl⟩
      go_wp2_with fail
      go_ret
      exact ⟨rfl, y, rfl⟩
end Go.Proofs.YtlfdiafpmlcmdaaDoor
