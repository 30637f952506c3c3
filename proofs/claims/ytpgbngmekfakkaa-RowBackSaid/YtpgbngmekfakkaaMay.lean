/-
  Whether a set may be a table's: the program's answer. Condition: the table's columns lie in memory as they read.
-/
import Derived.Test.YtpgbngmekfakkaaSets
namespace Go.Proofs.Ytpgbngmekfakkaa
open Go.RowKit
variable {W : World}
set_option maxHeartbeats 1000000 in
theorem may_low {A : Option Addr} {c : List Bool} {ca : Nat} (hc : ColsAt W A c) (s : SetV) (h : s.col < 1 ∨ R.colAt c s.col = none) (x : Lt W) :
    Calls Try.prog 23 #[.agg #[.slice A c.length ca], .agg #[.int .i64 s.col, .int .i64 s.op, .int .i64 s.src, .int .i64 s.oth, .bool s.v.t, .int .i64 s.v.n, .string s.v.s]] x.1 fun e w' => e = .returned (.bool (R.maySet c s)) ∧ ∃ y : Lt W, w' = y.1 := by
  have hf : R.maySet c s = false := by
    unfold R.maySet
    rcases h with h | h
    · cases hk : R.colAt c s.col with
      | none => rfl
      | some k => simp only []; rw [decide_eq_false (by omega)]; rfl
    · rw [h]
  have HF := Lib.hid hf
  obtain ⟨r0, e0⟩ : ∃ r, R.kind c s.col = r := ⟨_, rfl⟩
  by_cases hlow : s.col < 1
  · have E0 := Lib.hid e0
    clear hf e0 h
    go_enter Try.func23, Try.ntmps23
    go_wp2_with fail
    refine calls_here fun W1 hW1 => ?_
    have hb0 : Below W.heap.size W W1 := hW1 ▸ x.more2 _ _
    have hc1 := hc.below hb0
    have w0 : W1.cell? ⟨x.1.heap.size, 0, none⟩ = some (.slice A c.length ca) := by rw [hW1]; simp
    have w1 : W1.cell? ⟨x.1.heap.size + 1, 0, none⟩ = some (.int .i64 s.col) := by rw [hW1]; simp
    have w2 : W1.cell? ⟨x.1.heap.size + 1, 1, none⟩ = some (.int .i64 s.op) := by rw [hW1]; simp <;> omega
    have w3 : W1.cell? ⟨x.1.heap.size + 1, 2, none⟩ = some (.int .i64 s.src) := by rw [hW1]; simp
    have w4 : W1.cell? ⟨x.1.heap.size + 1, 3, none⟩ = some (.int .i64 s.oth) := by rw [hW1]; simp
    have w5 : W1.cell? ⟨x.1.heap.size + 1, 4, none⟩ = some (.bool s.v.t) := by rw [hW1]; simp
    have w6 : W1.cell? ⟨x.1.heap.size + 1, 5, none⟩ = some (.int .i64 s.v.n) := by rw [hW1]; simp
    have w7 : W1.cell? ⟨x.1.heap.size + 1, 6, none⟩ = some (.string s.v.s) := by rw [hW1]; simp
    have z0 := fun z : Lt W1 => z.cell w0
    have z1 := fun z : Lt W1 => z.cell w1
    have z2 := fun z : Lt W1 => z.cell w2
    have z3 := fun z : Lt W1 => z.cell w3
    have z4 := fun z : Lt W1 => z.cell w4
    have z5 := fun z : Lt W1 => z.cell w5
    have z6 := fun z : Lt W1 => z.cell w6
    have z7 := fun z : Lt W1 => z.cell w7
    clear hW1 w0 w1 w2 w3 w4 w5 w6 w7
    refine (kind_is hc1 E0.out (Lt.base W1)).mono ?_; rintro e w' ⟨rfl, y, rfl⟩
    go_wp2_with fail
    go_ret
    first | exact ⟨ret_bool HF.out.symm, y.via hb0, rfl⟩ | exact ⟨ret_bool (by rw [HF.out]; simp), y.via hb0, rfl⟩
  · have hk : R.colAt c s.col = none := by
      rcases h with h | h
      · exact absurd h hlow
      · exact h
    have e1 : R.kind c s.col = 0 := by simp [R.kind, hk]
    have d : decide (s.col < 1) = false := decide_eq_false hlow
    have E0 := Lib.hid e1
    clear hf e0 e1 h hk
    go_enter Try.func23, Try.ntmps23
    go_wp2_with fail
    refine calls_here fun W1 hW1 => ?_
    have hb0 : Below W.heap.size W W1 := hW1 ▸ x.more2 _ _
    have hc1 := hc.below hb0
    have w0 : W1.cell? ⟨x.1.heap.size, 0, none⟩ = some (.slice A c.length ca) := by rw [hW1]; simp
    have w1 : W1.cell? ⟨x.1.heap.size + 1, 0, none⟩ = some (.int .i64 s.col) := by rw [hW1]; simp
    have w2 : W1.cell? ⟨x.1.heap.size + 1, 1, none⟩ = some (.int .i64 s.op) := by rw [hW1]; simp <;> omega
    have w3 : W1.cell? ⟨x.1.heap.size + 1, 2, none⟩ = some (.int .i64 s.src) := by rw [hW1]; simp
    have w4 : W1.cell? ⟨x.1.heap.size + 1, 3, none⟩ = some (.int .i64 s.oth) := by rw [hW1]; simp
    have w5 : W1.cell? ⟨x.1.heap.size + 1, 4, none⟩ = some (.bool s.v.t) := by rw [hW1]; simp
    have w6 : W1.cell? ⟨x.1.heap.size + 1, 5, none⟩ = some (.int .i64 s.v.n) := by rw [hW1]; simp
    have w7 : W1.cell? ⟨x.1.heap.size + 1, 6, none⟩ = some (.string s.v.s) := by rw [hW1]; simp
    have z0 := fun z : Lt W1 => z.cell w0
    have z1 := fun z : Lt W1 => z.cell w1
    have z2 := fun z : Lt W1 => z.cell w2
    have z3 := fun z : Lt W1 => z.cell w3
    have z4 := fun z : Lt W1 => z.cell w4
    have z5 := fun z : Lt W1 => z.cell w5
    have z6 := fun z : Lt W1 => z.cell w6
    have z7 := fun z : Lt W1 => z.cell w7
    clear hW1 w0 w1 w2 w3 w4 w5 w6 w7
    refine (kind_is hc1 E0.out (Lt.base W1)).mono ?_; rintro e w' ⟨rfl, y, rfl⟩
    go_wp2_with fail
    go_ret
    first | exact ⟨ret_bool HF.out.symm, y.via hb0, rfl⟩ | exact ⟨ret_bool (by rw [HF.out]; simp), y.via hb0, rfl⟩
set_option maxHeartbeats 2000000 in
theorem may_to_false {A : Option Addr} {c : List Bool} {ca : Nat} (hc : ColsAt W A c) (s : SetV) (h1 : 1 ≤ s.col) (hk : R.colAt c s.col = some false) (hop : s.op = 1) (x : Lt W) :
    Calls Try.prog 23 #[.agg #[.slice A c.length ca], .agg #[.int .i64 s.col, .int .i64 s.op, .int .i64 s.src, .int .i64 s.oth, .bool s.v.t, .int .i64 s.v.n, .string s.v.s]] x.1 fun e w' => e = .returned (.bool (R.maySet c s)) ∧ ∃ y : Lt W, w' = y.1 := by
  have e0 : R.kind c s.col = 1 := by simp [R.kind, hk]
  have E0 := Lib.hid e0
  have d : decide (s.col < 1) = false := decide_eq_false (by omega)
  have hmay : R.maySet c s = (if s.op = 1 then s.v.right && decide (s.v.t = false) else if s.op = 2 then decide (R.colAt c s.src = some false) else if s.op = 3 ∨ s.op = 4 ∨ s.op = 5 then !false && (R.isNum c s.src && (s.v.right && !s.v.t)) else if s.op = 6 then !false && (R.isNum c s.src && R.isNum c s.oth) else false) := by
    unfold R.maySet
    rw [hk]
    simp only []
    rw [decide_eq_true h1, Bool.true_and]
  clear e0 hk
  cases hr : s.v.right
  · have ER := Lib.hid hr
    have E1 := E0
    have HF := Lib.hid (show R.maySet c s = false by rw [hmay]; simp [hop, hr])
    clear hmay hr
    go_enter Try.func23, Try.ntmps23
    go_wp2_with fail
    refine calls_here fun W1 hW1 => ?_
    have hb0 : Below W.heap.size W W1 := hW1 ▸ x.more2 _ _
    have hc1 := hc.below hb0
    have w0 : W1.cell? ⟨x.1.heap.size, 0, none⟩ = some (.slice A c.length ca) := by rw [hW1]; simp
    have w1 : W1.cell? ⟨x.1.heap.size + 1, 0, none⟩ = some (.int .i64 s.col) := by rw [hW1]; simp
    have w2 : W1.cell? ⟨x.1.heap.size + 1, 1, none⟩ = some (.int .i64 s.op) := by rw [hW1]; simp <;> omega
    have w3 : W1.cell? ⟨x.1.heap.size + 1, 2, none⟩ = some (.int .i64 s.src) := by rw [hW1]; simp
    have w4 : W1.cell? ⟨x.1.heap.size + 1, 3, none⟩ = some (.int .i64 s.oth) := by rw [hW1]; simp
    have w5 : W1.cell? ⟨x.1.heap.size + 1, 4, none⟩ = some (.bool s.v.t) := by rw [hW1]; simp
    have w6 : W1.cell? ⟨x.1.heap.size + 1, 5, none⟩ = some (.int .i64 s.v.n) := by rw [hW1]; simp
    have w7 : W1.cell? ⟨x.1.heap.size + 1, 6, none⟩ = some (.string s.v.s) := by rw [hW1]; simp
    have z0 := fun z : Lt W1 => z.cell w0
    have z1 := fun z : Lt W1 => z.cell w1
    have z2 := fun z : Lt W1 => z.cell w2
    have z3 := fun z : Lt W1 => z.cell w3
    have z4 := fun z : Lt W1 => z.cell w4
    have z5 := fun z : Lt W1 => z.cell w5
    have z6 := fun z : Lt W1 => z.cell w6
    have z7 := fun z : Lt W1 => z.cell w7
    clear hW1 w0 w1 w2 w3 w4 w5 w6 w7
    refine (kind_is hc1 E0.out (Lt.base W1)).mono ?_; rintro e w' ⟨rfl, y, rfl⟩
    go_wp2_with (first
      | (go_at_call 31; refine (kind_is hc1 E1.out _).mono ?_; rintro e w' ⟨rfl, y, rfl⟩)
      | (go_at_call 24; refine (vright_is ER.out _).mono ?_; rintro e w' ⟨rfl, y, rfl⟩))
    go_ret
    first | exact ⟨ret_bool HF.out.symm, y.via hb0, rfl⟩ | exact ⟨ret_bool (by rw [HF.out]; cases s.v.t <;> rfl), y.via hb0, rfl⟩
  · have ER := Lib.hid hr
    have E1 := E0
    have HF := Lib.hid (show R.maySet c s = decide (s.v.t = false) by rw [hmay]; simp [hop, hr])
    clear hmay hr
    go_enter Try.func23, Try.ntmps23
    go_wp2_with fail
    refine calls_here fun W1 hW1 => ?_
    have hb0 : Below W.heap.size W W1 := hW1 ▸ x.more2 _ _
    have hc1 := hc.below hb0
    have w0 : W1.cell? ⟨x.1.heap.size, 0, none⟩ = some (.slice A c.length ca) := by rw [hW1]; simp
    have w1 : W1.cell? ⟨x.1.heap.size + 1, 0, none⟩ = some (.int .i64 s.col) := by rw [hW1]; simp
    have w2 : W1.cell? ⟨x.1.heap.size + 1, 1, none⟩ = some (.int .i64 s.op) := by rw [hW1]; simp <;> omega
    have w3 : W1.cell? ⟨x.1.heap.size + 1, 2, none⟩ = some (.int .i64 s.src) := by rw [hW1]; simp
    have w4 : W1.cell? ⟨x.1.heap.size + 1, 3, none⟩ = some (.int .i64 s.oth) := by rw [hW1]; simp
    have w5 : W1.cell? ⟨x.1.heap.size + 1, 4, none⟩ = some (.bool s.v.t) := by rw [hW1]; simp
    have w6 : W1.cell? ⟨x.1.heap.size + 1, 5, none⟩ = some (.int .i64 s.v.n) := by rw [hW1]; simp
    have w7 : W1.cell? ⟨x.1.heap.size + 1, 6, none⟩ = some (.string s.v.s) := by rw [hW1]; simp
    have z0 := fun z : Lt W1 => z.cell w0
    have z1 := fun z : Lt W1 => z.cell w1
    have z2 := fun z : Lt W1 => z.cell w2
    have z3 := fun z : Lt W1 => z.cell w3
    have z4 := fun z : Lt W1 => z.cell w4
    have z5 := fun z : Lt W1 => z.cell w5
    have z6 := fun z : Lt W1 => z.cell w6
    have z7 := fun z : Lt W1 => z.cell w7
    clear hW1 w0 w1 w2 w3 w4 w5 w6 w7
    refine (kind_is hc1 E0.out (Lt.base W1)).mono ?_; rintro e w' ⟨rfl, y, rfl⟩
    go_wp2_with (first
      | (go_at_call 31; refine (kind_is hc1 E1.out _).mono ?_; rintro e w' ⟨rfl, y, rfl⟩)
      | (go_at_call 24; refine (vright_is ER.out _).mono ?_; rintro e w' ⟨rfl, y, rfl⟩))
    go_ret
    first | exact ⟨ret_bool HF.out.symm, y.via hb0, rfl⟩ | exact ⟨ret_bool (by rw [HF.out]; cases s.v.t <;> rfl), y.via hb0, rfl⟩
set_option maxHeartbeats 2000000 in
theorem may_copy_false {A : Option Addr} {c : List Bool} {ca : Nat} (hc : ColsAt W A c) (s : SetV) (h1 : 1 ≤ s.col) (hk : R.colAt c s.col = some false) (hop : s.op = 2) (x : Lt W) :
    Calls Try.prog 23 #[.agg #[.slice A c.length ca], .agg #[.int .i64 s.col, .int .i64 s.op, .int .i64 s.src, .int .i64 s.oth, .bool s.v.t, .int .i64 s.v.n, .string s.v.s]] x.1 fun e w' => e = .returned (.bool (R.maySet c s)) ∧ ∃ y : Lt W, w' = y.1 := by
  have e0 : R.kind c s.col = 1 := by simp [R.kind, hk]
  have E0 := Lib.hid e0
  have d : decide (s.col < 1) = false := decide_eq_false (by omega)
  have hmay : R.maySet c s = (if s.op = 1 then s.v.right && decide (s.v.t = false) else if s.op = 2 then decide (R.colAt c s.src = some false) else if s.op = 3 ∨ s.op = 4 ∨ s.op = 5 then !false && (R.isNum c s.src && (s.v.right && !s.v.t)) else if s.op = 6 then !false && (R.isNum c s.src && R.isNum c s.oth) else false) := by
    unfold R.maySet
    rw [hk]
    simp only []
    rw [decide_eq_true h1, Bool.true_and]
  clear e0 hk
  have ER := E0
  rcases R.kind_cases c s.src with ⟨hs, e1⟩ | ⟨hs, e1⟩ | ⟨hs, e1⟩
  · have HF := Lib.hid (show R.maySet c s = false by rw [hmay]; simp [hop, hs])
    have E1 := Lib.hid e1
    clear hmay hs e1
    go_enter Try.func23, Try.ntmps23
    go_wp2_with fail
    refine calls_here fun W1 hW1 => ?_
    have hb0 : Below W.heap.size W W1 := hW1 ▸ x.more2 _ _
    have hc1 := hc.below hb0
    have w0 : W1.cell? ⟨x.1.heap.size, 0, none⟩ = some (.slice A c.length ca) := by rw [hW1]; simp
    have w1 : W1.cell? ⟨x.1.heap.size + 1, 0, none⟩ = some (.int .i64 s.col) := by rw [hW1]; simp
    have w2 : W1.cell? ⟨x.1.heap.size + 1, 1, none⟩ = some (.int .i64 s.op) := by rw [hW1]; simp <;> omega
    have w3 : W1.cell? ⟨x.1.heap.size + 1, 2, none⟩ = some (.int .i64 s.src) := by rw [hW1]; simp
    have w4 : W1.cell? ⟨x.1.heap.size + 1, 3, none⟩ = some (.int .i64 s.oth) := by rw [hW1]; simp
    have w5 : W1.cell? ⟨x.1.heap.size + 1, 4, none⟩ = some (.bool s.v.t) := by rw [hW1]; simp
    have w6 : W1.cell? ⟨x.1.heap.size + 1, 5, none⟩ = some (.int .i64 s.v.n) := by rw [hW1]; simp
    have w7 : W1.cell? ⟨x.1.heap.size + 1, 6, none⟩ = some (.string s.v.s) := by rw [hW1]; simp
    have z0 := fun z : Lt W1 => z.cell w0
    have z1 := fun z : Lt W1 => z.cell w1
    have z2 := fun z : Lt W1 => z.cell w2
    have z3 := fun z : Lt W1 => z.cell w3
    have z4 := fun z : Lt W1 => z.cell w4
    have z5 := fun z : Lt W1 => z.cell w5
    have z6 := fun z : Lt W1 => z.cell w6
    have z7 := fun z : Lt W1 => z.cell w7
    clear hW1 w0 w1 w2 w3 w4 w5 w6 w7
    refine (kind_is hc1 E0.out (Lt.base W1)).mono ?_; rintro e w' ⟨rfl, y, rfl⟩
    go_wp2_with (first
      | (go_at_call 31; refine (kind_is hc1 E1.out _).mono ?_; rintro e w' ⟨rfl, y, rfl⟩)
      | (go_at_call 24; refine (vright_is ER.out _).mono ?_; rintro e w' ⟨rfl, y, rfl⟩))
    go_ret
    first | exact ⟨ret_bool HF.out.symm, y.via hb0, rfl⟩ | exact ⟨ret_bool (by rw [HF.out]; simp), y.via hb0, rfl⟩
  · have HF := Lib.hid (show R.maySet c s = true by rw [hmay]; simp [hop, hs])
    have E1 := Lib.hid e1
    clear hmay hs e1
    go_enter Try.func23, Try.ntmps23
    go_wp2_with fail
    refine calls_here fun W1 hW1 => ?_
    have hb0 : Below W.heap.size W W1 := hW1 ▸ x.more2 _ _
    have hc1 := hc.below hb0
    have w0 : W1.cell? ⟨x.1.heap.size, 0, none⟩ = some (.slice A c.length ca) := by rw [hW1]; simp
    have w1 : W1.cell? ⟨x.1.heap.size + 1, 0, none⟩ = some (.int .i64 s.col) := by rw [hW1]; simp
    have w2 : W1.cell? ⟨x.1.heap.size + 1, 1, none⟩ = some (.int .i64 s.op) := by rw [hW1]; simp <;> omega
    have w3 : W1.cell? ⟨x.1.heap.size + 1, 2, none⟩ = some (.int .i64 s.src) := by rw [hW1]; simp
    have w4 : W1.cell? ⟨x.1.heap.size + 1, 3, none⟩ = some (.int .i64 s.oth) := by rw [hW1]; simp
    have w5 : W1.cell? ⟨x.1.heap.size + 1, 4, none⟩ = some (.bool s.v.t) := by rw [hW1]; simp
    have w6 : W1.cell? ⟨x.1.heap.size + 1, 5, none⟩ = some (.int .i64 s.v.n) := by rw [hW1]; simp
    have w7 : W1.cell? ⟨x.1.heap.size + 1, 6, none⟩ = some (.string s.v.s) := by rw [hW1]; simp
    have z0 := fun z : Lt W1 => z.cell w0
    have z1 := fun z : Lt W1 => z.cell w1
    have z2 := fun z : Lt W1 => z.cell w2
    have z3 := fun z : Lt W1 => z.cell w3
    have z4 := fun z : Lt W1 => z.cell w4
    have z5 := fun z : Lt W1 => z.cell w5
    have z6 := fun z : Lt W1 => z.cell w6
    have z7 := fun z : Lt W1 => z.cell w7
    clear hW1 w0 w1 w2 w3 w4 w5 w6 w7
    refine (kind_is hc1 E0.out (Lt.base W1)).mono ?_; rintro e w' ⟨rfl, y, rfl⟩
    go_wp2_with (first
      | (go_at_call 31; refine (kind_is hc1 E1.out _).mono ?_; rintro e w' ⟨rfl, y, rfl⟩)
      | (go_at_call 24; refine (vright_is ER.out _).mono ?_; rintro e w' ⟨rfl, y, rfl⟩))
    go_ret
    first | exact ⟨ret_bool HF.out.symm, y.via hb0, rfl⟩ | exact ⟨ret_bool (by rw [HF.out]; simp), y.via hb0, rfl⟩
  · have HF := Lib.hid (show R.maySet c s = false by rw [hmay]; simp [hop, hs])
    have E1 := Lib.hid e1
    clear hmay hs e1
    go_enter Try.func23, Try.ntmps23
    go_wp2_with fail
    refine calls_here fun W1 hW1 => ?_
    have hb0 : Below W.heap.size W W1 := hW1 ▸ x.more2 _ _
    have hc1 := hc.below hb0
    have w0 : W1.cell? ⟨x.1.heap.size, 0, none⟩ = some (.slice A c.length ca) := by rw [hW1]; simp
    have w1 : W1.cell? ⟨x.1.heap.size + 1, 0, none⟩ = some (.int .i64 s.col) := by rw [hW1]; simp
    have w2 : W1.cell? ⟨x.1.heap.size + 1, 1, none⟩ = some (.int .i64 s.op) := by rw [hW1]; simp <;> omega
    have w3 : W1.cell? ⟨x.1.heap.size + 1, 2, none⟩ = some (.int .i64 s.src) := by rw [hW1]; simp
    have w4 : W1.cell? ⟨x.1.heap.size + 1, 3, none⟩ = some (.int .i64 s.oth) := by rw [hW1]; simp
    have w5 : W1.cell? ⟨x.1.heap.size + 1, 4, none⟩ = some (.bool s.v.t) := by rw [hW1]; simp
    have w6 : W1.cell? ⟨x.1.heap.size + 1, 5, none⟩ = some (.int .i64 s.v.n) := by rw [hW1]; simp
    have w7 : W1.cell? ⟨x.1.heap.size + 1, 6, none⟩ = some (.string s.v.s) := by rw [hW1]; simp
    have z0 := fun z : Lt W1 => z.cell w0
    have z1 := fun z : Lt W1 => z.cell w1
    have z2 := fun z : Lt W1 => z.cell w2
    have z3 := fun z : Lt W1 => z.cell w3
    have z4 := fun z : Lt W1 => z.cell w4
    have z5 := fun z : Lt W1 => z.cell w5
    have z6 := fun z : Lt W1 => z.cell w6
    have z7 := fun z : Lt W1 => z.cell w7
    clear hW1 w0 w1 w2 w3 w4 w5 w6 w7
    refine (kind_is hc1 E0.out (Lt.base W1)).mono ?_; rintro e w' ⟨rfl, y, rfl⟩
    go_wp2_with (first
      | (go_at_call 31; refine (kind_is hc1 E1.out _).mono ?_; rintro e w' ⟨rfl, y, rfl⟩)
      | (go_at_call 24; refine (vright_is ER.out _).mono ?_; rintro e w' ⟨rfl, y, rfl⟩))
    go_ret
    first | exact ⟨ret_bool HF.out.symm, y.via hb0, rfl⟩ | exact ⟨ret_bool (by rw [HF.out]; simp), y.via hb0, rfl⟩
set_option maxHeartbeats 2000000 in
theorem may_3_false {A : Option Addr} {c : List Bool} {ca : Nat} (hc : ColsAt W A c) (s : SetV) (h1 : 1 ≤ s.col) (hk : R.colAt c s.col = some false) (hop : s.op = 3) (x : Lt W) :
    Calls Try.prog 23 #[.agg #[.slice A c.length ca], .agg #[.int .i64 s.col, .int .i64 s.op, .int .i64 s.src, .int .i64 s.oth, .bool s.v.t, .int .i64 s.v.n, .string s.v.s]] x.1 fun e w' => e = .returned (.bool (R.maySet c s)) ∧ ∃ y : Lt W, w' = y.1 := by
  have e0 : R.kind c s.col = 1 := by simp [R.kind, hk]
  have E0 := Lib.hid e0
  have d : decide (s.col < 1) = false := decide_eq_false (by omega)
  have hmay : R.maySet c s = (if s.op = 1 then s.v.right && decide (s.v.t = false) else if s.op = 2 then decide (R.colAt c s.src = some false) else if s.op = 3 ∨ s.op = 4 ∨ s.op = 5 then !false && (R.isNum c s.src && (s.v.right && !s.v.t)) else if s.op = 6 then !false && (R.isNum c s.src && R.isNum c s.oth) else false) := by
    unfold R.maySet
    rw [hk]
    simp only []
    rw [decide_eq_true h1, Bool.true_and]
  clear e0 hk
  rcases R.kind_cases c s.src with ⟨hs, e1⟩ | ⟨hs, e1⟩ | ⟨hs, e1⟩
  · have HF := Lib.hid (show R.maySet c s = false by rw [hmay]; simp [hop, R.isNum, hs])
    have E1 := Lib.hid e1
    have ER := E0
    clear hmay hs e1
    go_enter Try.func23, Try.ntmps23
    go_wp2_with fail
    refine calls_here fun W1 hW1 => ?_
    have hb0 : Below W.heap.size W W1 := hW1 ▸ x.more2 _ _
    have hc1 := hc.below hb0
    have w0 : W1.cell? ⟨x.1.heap.size, 0, none⟩ = some (.slice A c.length ca) := by rw [hW1]; simp
    have w1 : W1.cell? ⟨x.1.heap.size + 1, 0, none⟩ = some (.int .i64 s.col) := by rw [hW1]; simp
    have w2 : W1.cell? ⟨x.1.heap.size + 1, 1, none⟩ = some (.int .i64 s.op) := by rw [hW1]; simp <;> omega
    have w3 : W1.cell? ⟨x.1.heap.size + 1, 2, none⟩ = some (.int .i64 s.src) := by rw [hW1]; simp
    have w4 : W1.cell? ⟨x.1.heap.size + 1, 3, none⟩ = some (.int .i64 s.oth) := by rw [hW1]; simp
    have w5 : W1.cell? ⟨x.1.heap.size + 1, 4, none⟩ = some (.bool s.v.t) := by rw [hW1]; simp
    have w6 : W1.cell? ⟨x.1.heap.size + 1, 5, none⟩ = some (.int .i64 s.v.n) := by rw [hW1]; simp
    have w7 : W1.cell? ⟨x.1.heap.size + 1, 6, none⟩ = some (.string s.v.s) := by rw [hW1]; simp
    have z0 := fun z : Lt W1 => z.cell w0
    have z1 := fun z : Lt W1 => z.cell w1
    have z2 := fun z : Lt W1 => z.cell w2
    have z3 := fun z : Lt W1 => z.cell w3
    have z4 := fun z : Lt W1 => z.cell w4
    have z5 := fun z : Lt W1 => z.cell w5
    have z6 := fun z : Lt W1 => z.cell w6
    have z7 := fun z : Lt W1 => z.cell w7
    clear hW1 w0 w1 w2 w3 w4 w5 w6 w7
    refine (kind_is hc1 E0.out (Lt.base W1)).mono ?_; rintro e w' ⟨rfl, y, rfl⟩
    go_wp2_with (first
      | (go_at_call 31; refine (kind_is hc1 E1.out _).mono ?_; rintro e w' ⟨rfl, y, rfl⟩)
      | (go_at_call 24; refine (vright_is ER.out _).mono ?_; rintro e w' ⟨rfl, y, rfl⟩))
    go_ret
    first | exact ⟨ret_bool HF.out.symm, y.via hb0, rfl⟩ | exact ⟨ret_bool (by rw [HF.out]; simp), y.via hb0, rfl⟩
  · cases hr : s.v.right
    · have HF := Lib.hid (show R.maySet c s = false by rw [hmay]; simp [hop, R.isNum, hs, hr])
      have E1 := Lib.hid e1
      have ER := Lib.hid hr
      clear hmay hs e1 hr
      go_enter Try.func23, Try.ntmps23
      go_wp2_with fail
      refine calls_here fun W1 hW1 => ?_
      have hb0 : Below W.heap.size W W1 := hW1 ▸ x.more2 _ _
      have hc1 := hc.below hb0
      have w0 : W1.cell? ⟨x.1.heap.size, 0, none⟩ = some (.slice A c.length ca) := by rw [hW1]; simp
      have w1 : W1.cell? ⟨x.1.heap.size + 1, 0, none⟩ = some (.int .i64 s.col) := by rw [hW1]; simp
      have w2 : W1.cell? ⟨x.1.heap.size + 1, 1, none⟩ = some (.int .i64 s.op) := by rw [hW1]; simp <;> omega
      have w3 : W1.cell? ⟨x.1.heap.size + 1, 2, none⟩ = some (.int .i64 s.src) := by rw [hW1]; simp
      have w4 : W1.cell? ⟨x.1.heap.size + 1, 3, none⟩ = some (.int .i64 s.oth) := by rw [hW1]; simp
      have w5 : W1.cell? ⟨x.1.heap.size + 1, 4, none⟩ = some (.bool s.v.t) := by rw [hW1]; simp
      have w6 : W1.cell? ⟨x.1.heap.size + 1, 5, none⟩ = some (.int .i64 s.v.n) := by rw [hW1]; simp
      have w7 : W1.cell? ⟨x.1.heap.size + 1, 6, none⟩ = some (.string s.v.s) := by rw [hW1]; simp
      have z0 := fun z : Lt W1 => z.cell w0
      have z1 := fun z : Lt W1 => z.cell w1
      have z2 := fun z : Lt W1 => z.cell w2
      have z3 := fun z : Lt W1 => z.cell w3
      have z4 := fun z : Lt W1 => z.cell w4
      have z5 := fun z : Lt W1 => z.cell w5
      have z6 := fun z : Lt W1 => z.cell w6
      have z7 := fun z : Lt W1 => z.cell w7
      clear hW1 w0 w1 w2 w3 w4 w5 w6 w7
      refine (kind_is hc1 E0.out (Lt.base W1)).mono ?_; rintro e w' ⟨rfl, y, rfl⟩
      go_wp2_with (first
        | (go_at_call 31; refine (kind_is hc1 E1.out _).mono ?_; rintro e w' ⟨rfl, y, rfl⟩)
        | (go_at_call 24; refine (vright_is ER.out _).mono ?_; rintro e w' ⟨rfl, y, rfl⟩))
      go_ret
      first | exact ⟨ret_bool HF.out.symm, y.via hb0, rfl⟩ | exact ⟨ret_bool (by rw [HF.out]; simp), y.via hb0, rfl⟩
    · have HF := Lib.hid (show R.maySet c s = !s.v.t by rw [hmay]; simp [hop, R.isNum, hs, hr])
      have E1 := Lib.hid e1
      have ER := Lib.hid hr
      clear hmay hs e1 hr
      go_enter Try.func23, Try.ntmps23
      go_wp2_with fail
      refine calls_here fun W1 hW1 => ?_
      have hb0 : Below W.heap.size W W1 := hW1 ▸ x.more2 _ _
      have hc1 := hc.below hb0
      have w0 : W1.cell? ⟨x.1.heap.size, 0, none⟩ = some (.slice A c.length ca) := by rw [hW1]; simp
      have w1 : W1.cell? ⟨x.1.heap.size + 1, 0, none⟩ = some (.int .i64 s.col) := by rw [hW1]; simp
      have w2 : W1.cell? ⟨x.1.heap.size + 1, 1, none⟩ = some (.int .i64 s.op) := by rw [hW1]; simp <;> omega
      have w3 : W1.cell? ⟨x.1.heap.size + 1, 2, none⟩ = some (.int .i64 s.src) := by rw [hW1]; simp
      have w4 : W1.cell? ⟨x.1.heap.size + 1, 3, none⟩ = some (.int .i64 s.oth) := by rw [hW1]; simp
      have w5 : W1.cell? ⟨x.1.heap.size + 1, 4, none⟩ = some (.bool s.v.t) := by rw [hW1]; simp
      have w6 : W1.cell? ⟨x.1.heap.size + 1, 5, none⟩ = some (.int .i64 s.v.n) := by rw [hW1]; simp
      have w7 : W1.cell? ⟨x.1.heap.size + 1, 6, none⟩ = some (.string s.v.s) := by rw [hW1]; simp
      have z0 := fun z : Lt W1 => z.cell w0
      have z1 := fun z : Lt W1 => z.cell w1
      have z2 := fun z : Lt W1 => z.cell w2
      have z3 := fun z : Lt W1 => z.cell w3
      have z4 := fun z : Lt W1 => z.cell w4
      have z5 := fun z : Lt W1 => z.cell w5
      have z6 := fun z : Lt W1 => z.cell w6
      have z7 := fun z : Lt W1 => z.cell w7
      clear hW1 w0 w1 w2 w3 w4 w5 w6 w7
      refine (kind_is hc1 E0.out (Lt.base W1)).mono ?_; rintro e w' ⟨rfl, y, rfl⟩
      go_wp2_with (first
        | (go_at_call 31; refine (kind_is hc1 E1.out _).mono ?_; rintro e w' ⟨rfl, y, rfl⟩)
        | (go_at_call 24; refine (vright_is ER.out _).mono ?_; rintro e w' ⟨rfl, y, rfl⟩))
      go_ret
      first | exact ⟨ret_bool HF.out.symm, y.via hb0, rfl⟩ | exact ⟨ret_bool (by rw [HF.out]; simp), y.via hb0, rfl⟩
  · have HF := Lib.hid (show R.maySet c s = false by rw [hmay]; simp [hop, R.isNum, hs])
    have E1 := Lib.hid e1
    have ER := E0
    clear hmay hs e1
    go_enter Try.func23, Try.ntmps23
    go_wp2_with fail
    refine calls_here fun W1 hW1 => ?_
    have hb0 : Below W.heap.size W W1 := hW1 ▸ x.more2 _ _
    have hc1 := hc.below hb0
    have w0 : W1.cell? ⟨x.1.heap.size, 0, none⟩ = some (.slice A c.length ca) := by rw [hW1]; simp
    have w1 : W1.cell? ⟨x.1.heap.size + 1, 0, none⟩ = some (.int .i64 s.col) := by rw [hW1]; simp
    have w2 : W1.cell? ⟨x.1.heap.size + 1, 1, none⟩ = some (.int .i64 s.op) := by rw [hW1]; simp <;> omega
    have w3 : W1.cell? ⟨x.1.heap.size + 1, 2, none⟩ = some (.int .i64 s.src) := by rw [hW1]; simp
    have w4 : W1.cell? ⟨x.1.heap.size + 1, 3, none⟩ = some (.int .i64 s.oth) := by rw [hW1]; simp
    have w5 : W1.cell? ⟨x.1.heap.size + 1, 4, none⟩ = some (.bool s.v.t) := by rw [hW1]; simp
    have w6 : W1.cell? ⟨x.1.heap.size + 1, 5, none⟩ = some (.int .i64 s.v.n) := by rw [hW1]; simp
    have w7 : W1.cell? ⟨x.1.heap.size + 1, 6, none⟩ = some (.string s.v.s) := by rw [hW1]; simp
    have z0 := fun z : Lt W1 => z.cell w0
    have z1 := fun z : Lt W1 => z.cell w1
    have z2 := fun z : Lt W1 => z.cell w2
    have z3 := fun z : Lt W1 => z.cell w3
    have z4 := fun z : Lt W1 => z.cell w4
    have z5 := fun z : Lt W1 => z.cell w5
    have z6 := fun z : Lt W1 => z.cell w6
    have z7 := fun z : Lt W1 => z.cell w7
    clear hW1 w0 w1 w2 w3 w4 w5 w6 w7
    refine (kind_is hc1 E0.out (Lt.base W1)).mono ?_; rintro e w' ⟨rfl, y, rfl⟩
    go_wp2_with (first
      | (go_at_call 31; refine (kind_is hc1 E1.out _).mono ?_; rintro e w' ⟨rfl, y, rfl⟩)
      | (go_at_call 24; refine (vright_is ER.out _).mono ?_; rintro e w' ⟨rfl, y, rfl⟩))
    go_ret
    first | exact ⟨ret_bool HF.out.symm, y.via hb0, rfl⟩ | exact ⟨ret_bool (by rw [HF.out]; simp), y.via hb0, rfl⟩
set_option maxHeartbeats 2000000 in
theorem may_4_false {A : Option Addr} {c : List Bool} {ca : Nat} (hc : ColsAt W A c) (s : SetV) (h1 : 1 ≤ s.col) (hk : R.colAt c s.col = some false) (hop : s.op = 4) (x : Lt W) :
    Calls Try.prog 23 #[.agg #[.slice A c.length ca], .agg #[.int .i64 s.col, .int .i64 s.op, .int .i64 s.src, .int .i64 s.oth, .bool s.v.t, .int .i64 s.v.n, .string s.v.s]] x.1 fun e w' => e = .returned (.bool (R.maySet c s)) ∧ ∃ y : Lt W, w' = y.1 := by
  have e0 : R.kind c s.col = 1 := by simp [R.kind, hk]
  have E0 := Lib.hid e0
  have d : decide (s.col < 1) = false := decide_eq_false (by omega)
  have hmay : R.maySet c s = (if s.op = 1 then s.v.right && decide (s.v.t = false) else if s.op = 2 then decide (R.colAt c s.src = some false) else if s.op = 3 ∨ s.op = 4 ∨ s.op = 5 then !false && (R.isNum c s.src && (s.v.right && !s.v.t)) else if s.op = 6 then !false && (R.isNum c s.src && R.isNum c s.oth) else false) := by
    unfold R.maySet
    rw [hk]
    simp only []
    rw [decide_eq_true h1, Bool.true_and]
  clear e0 hk
  rcases R.kind_cases c s.src with ⟨hs, e1⟩ | ⟨hs, e1⟩ | ⟨hs, e1⟩
  · have HF := Lib.hid (show R.maySet c s = false by rw [hmay]; simp [hop, R.isNum, hs])
    have E1 := Lib.hid e1
    have ER := E0
    clear hmay hs e1
    go_enter Try.func23, Try.ntmps23
    go_wp2_with fail
    refine calls_here fun W1 hW1 => ?_
    have hb0 : Below W.heap.size W W1 := hW1 ▸ x.more2 _ _
    have hc1 := hc.below hb0
    have w0 : W1.cell? ⟨x.1.heap.size, 0, none⟩ = some (.slice A c.length ca) := by rw [hW1]; simp
    have w1 : W1.cell? ⟨x.1.heap.size + 1, 0, none⟩ = some (.int .i64 s.col) := by rw [hW1]; simp
    have w2 : W1.cell? ⟨x.1.heap.size + 1, 1, none⟩ = some (.int .i64 s.op) := by rw [hW1]; simp <;> omega
    have w3 : W1.cell? ⟨x.1.heap.size + 1, 2, none⟩ = some (.int .i64 s.src) := by rw [hW1]; simp
    have w4 : W1.cell? ⟨x.1.heap.size + 1, 3, none⟩ = some (.int .i64 s.oth) := by rw [hW1]; simp
    have w5 : W1.cell? ⟨x.1.heap.size + 1, 4, none⟩ = some (.bool s.v.t) := by rw [hW1]; simp
    have w6 : W1.cell? ⟨x.1.heap.size + 1, 5, none⟩ = some (.int .i64 s.v.n) := by rw [hW1]; simp
    have w7 : W1.cell? ⟨x.1.heap.size + 1, 6, none⟩ = some (.string s.v.s) := by rw [hW1]; simp
    have z0 := fun z : Lt W1 => z.cell w0
    have z1 := fun z : Lt W1 => z.cell w1
    have z2 := fun z : Lt W1 => z.cell w2
    have z3 := fun z : Lt W1 => z.cell w3
    have z4 := fun z : Lt W1 => z.cell w4
    have z5 := fun z : Lt W1 => z.cell w5
    have z6 := fun z : Lt W1 => z.cell w6
    have z7 := fun z : Lt W1 => z.cell w7
    clear hW1 w0 w1 w2 w3 w4 w5 w6 w7
    refine (kind_is hc1 E0.out (Lt.base W1)).mono ?_; rintro e w' ⟨rfl, y, rfl⟩
    go_wp2_with (first
      | (go_at_call 31; refine (kind_is hc1 E1.out _).mono ?_; rintro e w' ⟨rfl, y, rfl⟩)
      | (go_at_call 24; refine (vright_is ER.out _).mono ?_; rintro e w' ⟨rfl, y, rfl⟩))
    go_ret
    first | exact ⟨ret_bool HF.out.symm, y.via hb0, rfl⟩ | exact ⟨ret_bool (by rw [HF.out]; simp), y.via hb0, rfl⟩
  · cases hr : s.v.right
    · have HF := Lib.hid (show R.maySet c s = false by rw [hmay]; simp [hop, R.isNum, hs, hr])
      have E1 := Lib.hid e1
      have ER := Lib.hid hr
      clear hmay hs e1 hr
      go_enter Try.func23, Try.ntmps23
      go_wp2_with fail
      refine calls_here fun W1 hW1 => ?_
      have hb0 : Below W.heap.size W W1 := hW1 ▸ x.more2 _ _
      have hc1 := hc.below hb0
      have w0 : W1.cell? ⟨x.1.heap.size, 0, none⟩ = some (.slice A c.length ca) := by rw [hW1]; simp
      have w1 : W1.cell? ⟨x.1.heap.size + 1, 0, none⟩ = some (.int .i64 s.col) := by rw [hW1]; simp
      have w2 : W1.cell? ⟨x.1.heap.size + 1, 1, none⟩ = some (.int .i64 s.op) := by rw [hW1]; simp <;> omega
      have w3 : W1.cell? ⟨x.1.heap.size + 1, 2, none⟩ = some (.int .i64 s.src) := by rw [hW1]; simp
      have w4 : W1.cell? ⟨x.1.heap.size + 1, 3, none⟩ = some (.int .i64 s.oth) := by rw [hW1]; simp
      have w5 : W1.cell? ⟨x.1.heap.size + 1, 4, none⟩ = some (.bool s.v.t) := by rw [hW1]; simp
      have w6 : W1.cell? ⟨x.1.heap.size + 1, 5, none⟩ = some (.int .i64 s.v.n) := by rw [hW1]; simp
      have w7 : W1.cell? ⟨x.1.heap.size + 1, 6, none⟩ = some (.string s.v.s) := by rw [hW1]; simp
      have z0 := fun z : Lt W1 => z.cell w0
      have z1 := fun z : Lt W1 => z.cell w1
      have z2 := fun z : Lt W1 => z.cell w2
      have z3 := fun z : Lt W1 => z.cell w3
      have z4 := fun z : Lt W1 => z.cell w4
      have z5 := fun z : Lt W1 => z.cell w5
      have z6 := fun z : Lt W1 => z.cell w6
      have z7 := fun z : Lt W1 => z.cell w7
      clear hW1 w0 w1 w2 w3 w4 w5 w6 w7
      refine (kind_is hc1 E0.out (Lt.base W1)).mono ?_; rintro e w' ⟨rfl, y, rfl⟩
      go_wp2_with (first
        | (go_at_call 31; refine (kind_is hc1 E1.out _).mono ?_; rintro e w' ⟨rfl, y, rfl⟩)
        | (go_at_call 24; refine (vright_is ER.out _).mono ?_; rintro e w' ⟨rfl, y, rfl⟩))
      go_ret
      first | exact ⟨ret_bool HF.out.symm, y.via hb0, rfl⟩ | exact ⟨ret_bool (by rw [HF.out]; simp), y.via hb0, rfl⟩
    · have HF := Lib.hid (show R.maySet c s = !s.v.t by rw [hmay]; simp [hop, R.isNum, hs, hr])
      have E1 := Lib.hid e1
      have ER := Lib.hid hr
      clear hmay hs e1 hr
      go_enter Try.func23, Try.ntmps23
      go_wp2_with fail
      refine calls_here fun W1 hW1 => ?_
      have hb0 : Below W.heap.size W W1 := hW1 ▸ x.more2 _ _
      have hc1 := hc.below hb0
      have w0 : W1.cell? ⟨x.1.heap.size, 0, none⟩ = some (.slice A c.length ca) := by rw [hW1]; simp
      have w1 : W1.cell? ⟨x.1.heap.size + 1, 0, none⟩ = some (.int .i64 s.col) := by rw [hW1]; simp
      have w2 : W1.cell? ⟨x.1.heap.size + 1, 1, none⟩ = some (.int .i64 s.op) := by rw [hW1]; simp <;> omega
      have w3 : W1.cell? ⟨x.1.heap.size + 1, 2, none⟩ = some (.int .i64 s.src) := by rw [hW1]; simp
      have w4 : W1.cell? ⟨x.1.heap.size + 1, 3, none⟩ = some (.int .i64 s.oth) := by rw [hW1]; simp
      have w5 : W1.cell? ⟨x.1.heap.size + 1, 4, none⟩ = some (.bool s.v.t) := by rw [hW1]; simp
      have w6 : W1.cell? ⟨x.1.heap.size + 1, 5, none⟩ = some (.int .i64 s.v.n) := by rw [hW1]; simp
      have w7 : W1.cell? ⟨x.1.heap.size + 1, 6, none⟩ = some (.string s.v.s) := by rw [hW1]; simp
      have z0 := fun z : Lt W1 => z.cell w0
      have z1 := fun z : Lt W1 => z.cell w1
      have z2 := fun z : Lt W1 => z.cell w2
      have z3 := fun z : Lt W1 => z.cell w3
      have z4 := fun z : Lt W1 => z.cell w4
      have z5 := fun z : Lt W1 => z.cell w5
      have z6 := fun z : Lt W1 => z.cell w6
      have z7 := fun z : Lt W1 => z.cell w7
      clear hW1 w0 w1 w2 w3 w4 w5 w6 w7
      refine (kind_is hc1 E0.out (Lt.base W1)).mono ?_; rintro e w' ⟨rfl, y, rfl⟩
      go_wp2_with (first
        | (go_at_call 31; refine (kind_is hc1 E1.out _).mono ?_; rintro e w' ⟨rfl, y, rfl⟩)
        | (go_at_call 24; refine (vright_is ER.out _).mono ?_; rintro e w' ⟨rfl, y, rfl⟩))
      go_ret
      first | exact ⟨ret_bool HF.out.symm, y.via hb0, rfl⟩ | exact ⟨ret_bool (by rw [HF.out]; simp), y.via hb0, rfl⟩
  · have HF := Lib.hid (show R.maySet c s = false by rw [hmay]; simp [hop, R.isNum, hs])
    have E1 := Lib.hid e1
    have ER := E0
    clear hmay hs e1
    go_enter Try.func23, Try.ntmps23
    go_wp2_with fail
    refine calls_here fun W1 hW1 => ?_
    have hb0 : Below W.heap.size W W1 := hW1 ▸ x.more2 _ _
    have hc1 := hc.below hb0
    have w0 : W1.cell? ⟨x.1.heap.size, 0, none⟩ = some (.slice A c.length ca) := by rw [hW1]; simp
    have w1 : W1.cell? ⟨x.1.heap.size + 1, 0, none⟩ = some (.int .i64 s.col) := by rw [hW1]; simp
    have w2 : W1.cell? ⟨x.1.heap.size + 1, 1, none⟩ = some (.int .i64 s.op) := by rw [hW1]; simp <;> omega
    have w3 : W1.cell? ⟨x.1.heap.size + 1, 2, none⟩ = some (.int .i64 s.src) := by rw [hW1]; simp
    have w4 : W1.cell? ⟨x.1.heap.size + 1, 3, none⟩ = some (.int .i64 s.oth) := by rw [hW1]; simp
    have w5 : W1.cell? ⟨x.1.heap.size + 1, 4, none⟩ = some (.bool s.v.t) := by rw [hW1]; simp
    have w6 : W1.cell? ⟨x.1.heap.size + 1, 5, none⟩ = some (.int .i64 s.v.n) := by rw [hW1]; simp
    have w7 : W1.cell? ⟨x.1.heap.size + 1, 6, none⟩ = some (.string s.v.s) := by rw [hW1]; simp
    have z0 := fun z : Lt W1 => z.cell w0
    have z1 := fun z : Lt W1 => z.cell w1
    have z2 := fun z : Lt W1 => z.cell w2
    have z3 := fun z : Lt W1 => z.cell w3
    have z4 := fun z : Lt W1 => z.cell w4
    have z5 := fun z : Lt W1 => z.cell w5
    have z6 := fun z : Lt W1 => z.cell w6
    have z7 := fun z : Lt W1 => z.cell w7
    clear hW1 w0 w1 w2 w3 w4 w5 w6 w7
    refine (kind_is hc1 E0.out (Lt.base W1)).mono ?_; rintro e w' ⟨rfl, y, rfl⟩
    go_wp2_with (first
      | (go_at_call 31; refine (kind_is hc1 E1.out _).mono ?_; rintro e w' ⟨rfl, y, rfl⟩)
      | (go_at_call 24; refine (vright_is ER.out _).mono ?_; rintro e w' ⟨rfl, y, rfl⟩))
    go_ret
    first | exact ⟨ret_bool HF.out.symm, y.via hb0, rfl⟩ | exact ⟨ret_bool (by rw [HF.out]; simp), y.via hb0, rfl⟩
set_option maxHeartbeats 2000000 in
theorem may_5_false {A : Option Addr} {c : List Bool} {ca : Nat} (hc : ColsAt W A c) (s : SetV) (h1 : 1 ≤ s.col) (hk : R.colAt c s.col = some false) (hop : s.op = 5) (x : Lt W) :
    Calls Try.prog 23 #[.agg #[.slice A c.length ca], .agg #[.int .i64 s.col, .int .i64 s.op, .int .i64 s.src, .int .i64 s.oth, .bool s.v.t, .int .i64 s.v.n, .string s.v.s]] x.1 fun e w' => e = .returned (.bool (R.maySet c s)) ∧ ∃ y : Lt W, w' = y.1 := by
  have e0 : R.kind c s.col = 1 := by simp [R.kind, hk]
  have E0 := Lib.hid e0
  have d : decide (s.col < 1) = false := decide_eq_false (by omega)
  have hmay : R.maySet c s = (if s.op = 1 then s.v.right && decide (s.v.t = false) else if s.op = 2 then decide (R.colAt c s.src = some false) else if s.op = 3 ∨ s.op = 4 ∨ s.op = 5 then !false && (R.isNum c s.src && (s.v.right && !s.v.t)) else if s.op = 6 then !false && (R.isNum c s.src && R.isNum c s.oth) else false) := by
    unfold R.maySet
    rw [hk]
    simp only []
    rw [decide_eq_true h1, Bool.true_and]
  clear e0 hk
  rcases R.kind_cases c s.src with ⟨hs, e1⟩ | ⟨hs, e1⟩ | ⟨hs, e1⟩
  · have HF := Lib.hid (show R.maySet c s = false by rw [hmay]; simp [hop, R.isNum, hs])
    have E1 := Lib.hid e1
    have ER := E0
    clear hmay hs e1
    go_enter Try.func23, Try.ntmps23
    go_wp2_with fail
    refine calls_here fun W1 hW1 => ?_
    have hb0 : Below W.heap.size W W1 := hW1 ▸ x.more2 _ _
    have hc1 := hc.below hb0
    have w0 : W1.cell? ⟨x.1.heap.size, 0, none⟩ = some (.slice A c.length ca) := by rw [hW1]; simp
    have w1 : W1.cell? ⟨x.1.heap.size + 1, 0, none⟩ = some (.int .i64 s.col) := by rw [hW1]; simp
    have w2 : W1.cell? ⟨x.1.heap.size + 1, 1, none⟩ = some (.int .i64 s.op) := by rw [hW1]; simp <;> omega
    have w3 : W1.cell? ⟨x.1.heap.size + 1, 2, none⟩ = some (.int .i64 s.src) := by rw [hW1]; simp
    have w4 : W1.cell? ⟨x.1.heap.size + 1, 3, none⟩ = some (.int .i64 s.oth) := by rw [hW1]; simp
    have w5 : W1.cell? ⟨x.1.heap.size + 1, 4, none⟩ = some (.bool s.v.t) := by rw [hW1]; simp
    have w6 : W1.cell? ⟨x.1.heap.size + 1, 5, none⟩ = some (.int .i64 s.v.n) := by rw [hW1]; simp
    have w7 : W1.cell? ⟨x.1.heap.size + 1, 6, none⟩ = some (.string s.v.s) := by rw [hW1]; simp
    have z0 := fun z : Lt W1 => z.cell w0
    have z1 := fun z : Lt W1 => z.cell w1
    have z2 := fun z : Lt W1 => z.cell w2
    have z3 := fun z : Lt W1 => z.cell w3
    have z4 := fun z : Lt W1 => z.cell w4
    have z5 := fun z : Lt W1 => z.cell w5
    have z6 := fun z : Lt W1 => z.cell w6
    have z7 := fun z : Lt W1 => z.cell w7
    clear hW1 w0 w1 w2 w3 w4 w5 w6 w7
    refine (kind_is hc1 E0.out (Lt.base W1)).mono ?_; rintro e w' ⟨rfl, y, rfl⟩
    go_wp2_with (first
      | (go_at_call 31; refine (kind_is hc1 E1.out _).mono ?_; rintro e w' ⟨rfl, y, rfl⟩)
      | (go_at_call 24; refine (vright_is ER.out _).mono ?_; rintro e w' ⟨rfl, y, rfl⟩))
    go_ret
    first | exact ⟨ret_bool HF.out.symm, y.via hb0, rfl⟩ | exact ⟨ret_bool (by rw [HF.out]; simp), y.via hb0, rfl⟩
  · cases hr : s.v.right
    · have HF := Lib.hid (show R.maySet c s = false by rw [hmay]; simp [hop, R.isNum, hs, hr])
      have E1 := Lib.hid e1
      have ER := Lib.hid hr
      clear hmay hs e1 hr
      go_enter Try.func23, Try.ntmps23
      go_wp2_with fail
      refine calls_here fun W1 hW1 => ?_
      have hb0 : Below W.heap.size W W1 := hW1 ▸ x.more2 _ _
      have hc1 := hc.below hb0
      have w0 : W1.cell? ⟨x.1.heap.size, 0, none⟩ = some (.slice A c.length ca) := by rw [hW1]; simp
      have w1 : W1.cell? ⟨x.1.heap.size + 1, 0, none⟩ = some (.int .i64 s.col) := by rw [hW1]; simp
      have w2 : W1.cell? ⟨x.1.heap.size + 1, 1, none⟩ = some (.int .i64 s.op) := by rw [hW1]; simp <;> omega
      have w3 : W1.cell? ⟨x.1.heap.size + 1, 2, none⟩ = some (.int .i64 s.src) := by rw [hW1]; simp
      have w4 : W1.cell? ⟨x.1.heap.size + 1, 3, none⟩ = some (.int .i64 s.oth) := by rw [hW1]; simp
      have w5 : W1.cell? ⟨x.1.heap.size + 1, 4, none⟩ = some (.bool s.v.t) := by rw [hW1]; simp
      have w6 : W1.cell? ⟨x.1.heap.size + 1, 5, none⟩ = some (.int .i64 s.v.n) := by rw [hW1]; simp
      have w7 : W1.cell? ⟨x.1.heap.size + 1, 6, none⟩ = some (.string s.v.s) := by rw [hW1]; simp
      have z0 := fun z : Lt W1 => z.cell w0
      have z1 := fun z : Lt W1 => z.cell w1
      have z2 := fun z : Lt W1 => z.cell w2
      have z3 := fun z : Lt W1 => z.cell w3
      have z4 := fun z : Lt W1 => z.cell w4
      have z5 := fun z : Lt W1 => z.cell w5
      have z6 := fun z : Lt W1 => z.cell w6
      have z7 := fun z : Lt W1 => z.cell w7
      clear hW1 w0 w1 w2 w3 w4 w5 w6 w7
      refine (kind_is hc1 E0.out (Lt.base W1)).mono ?_; rintro e w' ⟨rfl, y, rfl⟩
      go_wp2_with (first
        | (go_at_call 31; refine (kind_is hc1 E1.out _).mono ?_; rintro e w' ⟨rfl, y, rfl⟩)
        | (go_at_call 24; refine (vright_is ER.out _).mono ?_; rintro e w' ⟨rfl, y, rfl⟩))
      go_ret
      first | exact ⟨ret_bool HF.out.symm, y.via hb0, rfl⟩ | exact ⟨ret_bool (by rw [HF.out]; simp), y.via hb0, rfl⟩
    · have HF := Lib.hid (show R.maySet c s = !s.v.t by rw [hmay]; simp [hop, R.isNum, hs, hr])
      have E1 := Lib.hid e1
      have ER := Lib.hid hr
      clear hmay hs e1 hr
      go_enter Try.func23, Try.ntmps23
      go_wp2_with fail
      refine calls_here fun W1 hW1 => ?_
      have hb0 : Below W.heap.size W W1 := hW1 ▸ x.more2 _ _
      have hc1 := hc.below hb0
      have w0 : W1.cell? ⟨x.1.heap.size, 0, none⟩ = some (.slice A c.length ca) := by rw [hW1]; simp
      have w1 : W1.cell? ⟨x.1.heap.size + 1, 0, none⟩ = some (.int .i64 s.col) := by rw [hW1]; simp
      have w2 : W1.cell? ⟨x.1.heap.size + 1, 1, none⟩ = some (.int .i64 s.op) := by rw [hW1]; simp <;> omega
      have w3 : W1.cell? ⟨x.1.heap.size + 1, 2, none⟩ = some (.int .i64 s.src) := by rw [hW1]; simp
      have w4 : W1.cell? ⟨x.1.heap.size + 1, 3, none⟩ = some (.int .i64 s.oth) := by rw [hW1]; simp
      have w5 : W1.cell? ⟨x.1.heap.size + 1, 4, none⟩ = some (.bool s.v.t) := by rw [hW1]; simp
      have w6 : W1.cell? ⟨x.1.heap.size + 1, 5, none⟩ = some (.int .i64 s.v.n) := by rw [hW1]; simp
      have w7 : W1.cell? ⟨x.1.heap.size + 1, 6, none⟩ = some (.string s.v.s) := by rw [hW1]; simp
      have z0 := fun z : Lt W1 => z.cell w0
      have z1 := fun z : Lt W1 => z.cell w1
      have z2 := fun z : Lt W1 => z.cell w2
      have z3 := fun z : Lt W1 => z.cell w3
      have z4 := fun z : Lt W1 => z.cell w4
      have z5 := fun z : Lt W1 => z.cell w5
      have z6 := fun z : Lt W1 => z.cell w6
      have z7 := fun z : Lt W1 => z.cell w7
      clear hW1 w0 w1 w2 w3 w4 w5 w6 w7
      refine (kind_is hc1 E0.out (Lt.base W1)).mono ?_; rintro e w' ⟨rfl, y, rfl⟩
      go_wp2_with (first
        | (go_at_call 31; refine (kind_is hc1 E1.out _).mono ?_; rintro e w' ⟨rfl, y, rfl⟩)
        | (go_at_call 24; refine (vright_is ER.out _).mono ?_; rintro e w' ⟨rfl, y, rfl⟩))
      go_ret
      first | exact ⟨ret_bool HF.out.symm, y.via hb0, rfl⟩ | exact ⟨ret_bool (by rw [HF.out]; simp), y.via hb0, rfl⟩
  · have HF := Lib.hid (show R.maySet c s = false by rw [hmay]; simp [hop, R.isNum, hs])
    have E1 := Lib.hid e1
    have ER := E0
    clear hmay hs e1
    go_enter Try.func23, Try.ntmps23
    go_wp2_with fail
    refine calls_here fun W1 hW1 => ?_
    have hb0 : Below W.heap.size W W1 := hW1 ▸ x.more2 _ _
    have hc1 := hc.below hb0
    have w0 : W1.cell? ⟨x.1.heap.size, 0, none⟩ = some (.slice A c.length ca) := by rw [hW1]; simp
    have w1 : W1.cell? ⟨x.1.heap.size + 1, 0, none⟩ = some (.int .i64 s.col) := by rw [hW1]; simp
    have w2 : W1.cell? ⟨x.1.heap.size + 1, 1, none⟩ = some (.int .i64 s.op) := by rw [hW1]; simp <;> omega
    have w3 : W1.cell? ⟨x.1.heap.size + 1, 2, none⟩ = some (.int .i64 s.src) := by rw [hW1]; simp
    have w4 : W1.cell? ⟨x.1.heap.size + 1, 3, none⟩ = some (.int .i64 s.oth) := by rw [hW1]; simp
    have w5 : W1.cell? ⟨x.1.heap.size + 1, 4, none⟩ = some (.bool s.v.t) := by rw [hW1]; simp
    have w6 : W1.cell? ⟨x.1.heap.size + 1, 5, none⟩ = some (.int .i64 s.v.n) := by rw [hW1]; simp
    have w7 : W1.cell? ⟨x.1.heap.size + 1, 6, none⟩ = some (.string s.v.s) := by rw [hW1]; simp
    have z0 := fun z : Lt W1 => z.cell w0
    have z1 := fun z : Lt W1 => z.cell w1
    have z2 := fun z : Lt W1 => z.cell w2
    have z3 := fun z : Lt W1 => z.cell w3
    have z4 := fun z : Lt W1 => z.cell w4
    have z5 := fun z : Lt W1 => z.cell w5
    have z6 := fun z : Lt W1 => z.cell w6
    have z7 := fun z : Lt W1 => z.cell w7
    clear hW1 w0 w1 w2 w3 w4 w5 w6 w7
    refine (kind_is hc1 E0.out (Lt.base W1)).mono ?_; rintro e w' ⟨rfl, y, rfl⟩
    go_wp2_with (first
      | (go_at_call 31; refine (kind_is hc1 E1.out _).mono ?_; rintro e w' ⟨rfl, y, rfl⟩)
      | (go_at_call 24; refine (vright_is ER.out _).mono ?_; rintro e w' ⟨rfl, y, rfl⟩))
    go_ret
    first | exact ⟨ret_bool HF.out.symm, y.via hb0, rfl⟩ | exact ⟨ret_bool (by rw [HF.out]; simp), y.via hb0, rfl⟩
set_option maxHeartbeats 2000000 in
theorem may_sum_false {A : Option Addr} {c : List Bool} {ca : Nat} (hc : ColsAt W A c) (s : SetV) (h1 : 1 ≤ s.col) (hk : R.colAt c s.col = some false) (hop : s.op = 6) (x : Lt W) :
    Calls Try.prog 23 #[.agg #[.slice A c.length ca], .agg #[.int .i64 s.col, .int .i64 s.op, .int .i64 s.src, .int .i64 s.oth, .bool s.v.t, .int .i64 s.v.n, .string s.v.s]] x.1 fun e w' => e = .returned (.bool (R.maySet c s)) ∧ ∃ y : Lt W, w' = y.1 := by
  have e0 : R.kind c s.col = 1 := by simp [R.kind, hk]
  have E0 := Lib.hid e0
  have d : decide (s.col < 1) = false := decide_eq_false (by omega)
  have hmay : R.maySet c s = (if s.op = 1 then s.v.right && decide (s.v.t = false) else if s.op = 2 then decide (R.colAt c s.src = some false) else if s.op = 3 ∨ s.op = 4 ∨ s.op = 5 then !false && (R.isNum c s.src && (s.v.right && !s.v.t)) else if s.op = 6 then !false && (R.isNum c s.src && R.isNum c s.oth) else false) := by
    unfold R.maySet
    rw [hk]
    simp only []
    rw [decide_eq_true h1, Bool.true_and]
  clear e0 hk
  rcases R.kind_cases c s.src with ⟨hs, e1⟩ | ⟨hs, e1⟩ | ⟨hs, e1⟩
  · have HF := Lib.hid (show R.maySet c s = false by rw [hmay]; simp [hop, R.isNum, hs])
    have E1 := Lib.hid e1
    have ER := E0
    clear hmay hs e1
    go_enter Try.func23, Try.ntmps23
    go_wp2_with fail
    refine calls_here fun W1 hW1 => ?_
    have hb0 : Below W.heap.size W W1 := hW1 ▸ x.more2 _ _
    have hc1 := hc.below hb0
    have w0 : W1.cell? ⟨x.1.heap.size, 0, none⟩ = some (.slice A c.length ca) := by rw [hW1]; simp
    have w1 : W1.cell? ⟨x.1.heap.size + 1, 0, none⟩ = some (.int .i64 s.col) := by rw [hW1]; simp
    have w2 : W1.cell? ⟨x.1.heap.size + 1, 1, none⟩ = some (.int .i64 s.op) := by rw [hW1]; simp <;> omega
    have w3 : W1.cell? ⟨x.1.heap.size + 1, 2, none⟩ = some (.int .i64 s.src) := by rw [hW1]; simp
    have w4 : W1.cell? ⟨x.1.heap.size + 1, 3, none⟩ = some (.int .i64 s.oth) := by rw [hW1]; simp
    have w5 : W1.cell? ⟨x.1.heap.size + 1, 4, none⟩ = some (.bool s.v.t) := by rw [hW1]; simp
    have w6 : W1.cell? ⟨x.1.heap.size + 1, 5, none⟩ = some (.int .i64 s.v.n) := by rw [hW1]; simp
    have w7 : W1.cell? ⟨x.1.heap.size + 1, 6, none⟩ = some (.string s.v.s) := by rw [hW1]; simp
    have z0 := fun z : Lt W1 => z.cell w0
    have z1 := fun z : Lt W1 => z.cell w1
    have z2 := fun z : Lt W1 => z.cell w2
    have z3 := fun z : Lt W1 => z.cell w3
    have z4 := fun z : Lt W1 => z.cell w4
    have z5 := fun z : Lt W1 => z.cell w5
    have z6 := fun z : Lt W1 => z.cell w6
    have z7 := fun z : Lt W1 => z.cell w7
    clear hW1 w0 w1 w2 w3 w4 w5 w6 w7
    refine (kind_is hc1 E0.out (Lt.base W1)).mono ?_; rintro e w' ⟨rfl, y, rfl⟩
    go_wp2_with (first
      | (go_at_call 31; refine (kind_is hc1 E1.out _).mono ?_; rintro e w' ⟨rfl, y, rfl⟩)
      | (go_at_call 24; refine (vright_is ER.out _).mono ?_; rintro e w' ⟨rfl, y, rfl⟩))
    go_ret
    first | exact ⟨ret_bool HF.out.symm, y.via hb0, rfl⟩ | exact ⟨ret_bool (by rw [HF.out]; simp), y.via hb0, rfl⟩
  · rcases R.kind_cases c s.oth with ⟨ho, e2⟩ | ⟨ho, e2⟩ | ⟨ho, e2⟩
    · have HF := Lib.hid (show R.maySet c s = false by rw [hmay]; simp [hop, R.isNum, hs, ho])
      have E1 := Lib.hid e1
      have E2 := Lib.hid e2
      clear hmay hs e1 ho e2
      go_enter Try.func23, Try.ntmps23
      go_wp2_with fail
      refine calls_here fun W1 hW1 => ?_
      have hb0 : Below W.heap.size W W1 := hW1 ▸ x.more2 _ _
      have hc1 := hc.below hb0
      have w0 : W1.cell? ⟨x.1.heap.size, 0, none⟩ = some (.slice A c.length ca) := by rw [hW1]; simp
      have w1 : W1.cell? ⟨x.1.heap.size + 1, 0, none⟩ = some (.int .i64 s.col) := by rw [hW1]; simp
      have w2 : W1.cell? ⟨x.1.heap.size + 1, 1, none⟩ = some (.int .i64 s.op) := by rw [hW1]; simp <;> omega
      have w3 : W1.cell? ⟨x.1.heap.size + 1, 2, none⟩ = some (.int .i64 s.src) := by rw [hW1]; simp
      have w4 : W1.cell? ⟨x.1.heap.size + 1, 3, none⟩ = some (.int .i64 s.oth) := by rw [hW1]; simp
      have w5 : W1.cell? ⟨x.1.heap.size + 1, 4, none⟩ = some (.bool s.v.t) := by rw [hW1]; simp
      have w6 : W1.cell? ⟨x.1.heap.size + 1, 5, none⟩ = some (.int .i64 s.v.n) := by rw [hW1]; simp
      have w7 : W1.cell? ⟨x.1.heap.size + 1, 6, none⟩ = some (.string s.v.s) := by rw [hW1]; simp
      have z0 := fun z : Lt W1 => z.cell w0
      have z1 := fun z : Lt W1 => z.cell w1
      have z2 := fun z : Lt W1 => z.cell w2
      have z3 := fun z : Lt W1 => z.cell w3
      have z4 := fun z : Lt W1 => z.cell w4
      have z5 := fun z : Lt W1 => z.cell w5
      have z6 := fun z : Lt W1 => z.cell w6
      have z7 := fun z : Lt W1 => z.cell w7
      clear hW1 w0 w1 w2 w3 w4 w5 w6 w7
      refine (kind_is hc1 E0.out (Lt.base W1)).mono ?_; rintro e w' ⟨rfl, y, rfl⟩
      go_wp2_with fail
      refine (kind_is hc1 E1.out _).mono ?_; rintro e w' ⟨rfl, y, rfl⟩
      go_wp2_with fail
      refine (kind_is hc1 E2.out _).mono ?_; rintro e w' ⟨rfl, y, rfl⟩
      go_wp2_with fail
      go_ret
      first | exact ⟨ret_bool HF.out.symm, y.via hb0, rfl⟩ | exact ⟨ret_bool (by rw [HF.out]; simp), y.via hb0, rfl⟩
    · have HF := Lib.hid (show R.maySet c s = true by rw [hmay]; simp [hop, R.isNum, hs, ho])
      have E1 := Lib.hid e1
      have E2 := Lib.hid e2
      clear hmay hs e1 ho e2
      go_enter Try.func23, Try.ntmps23
      go_wp2_with fail
      refine calls_here fun W1 hW1 => ?_
      have hb0 : Below W.heap.size W W1 := hW1 ▸ x.more2 _ _
      have hc1 := hc.below hb0
      have w0 : W1.cell? ⟨x.1.heap.size, 0, none⟩ = some (.slice A c.length ca) := by rw [hW1]; simp
      have w1 : W1.cell? ⟨x.1.heap.size + 1, 0, none⟩ = some (.int .i64 s.col) := by rw [hW1]; simp
      have w2 : W1.cell? ⟨x.1.heap.size + 1, 1, none⟩ = some (.int .i64 s.op) := by rw [hW1]; simp <;> omega
      have w3 : W1.cell? ⟨x.1.heap.size + 1, 2, none⟩ = some (.int .i64 s.src) := by rw [hW1]; simp
      have w4 : W1.cell? ⟨x.1.heap.size + 1, 3, none⟩ = some (.int .i64 s.oth) := by rw [hW1]; simp
      have w5 : W1.cell? ⟨x.1.heap.size + 1, 4, none⟩ = some (.bool s.v.t) := by rw [hW1]; simp
      have w6 : W1.cell? ⟨x.1.heap.size + 1, 5, none⟩ = some (.int .i64 s.v.n) := by rw [hW1]; simp
      have w7 : W1.cell? ⟨x.1.heap.size + 1, 6, none⟩ = some (.string s.v.s) := by rw [hW1]; simp
      have z0 := fun z : Lt W1 => z.cell w0
      have z1 := fun z : Lt W1 => z.cell w1
      have z2 := fun z : Lt W1 => z.cell w2
      have z3 := fun z : Lt W1 => z.cell w3
      have z4 := fun z : Lt W1 => z.cell w4
      have z5 := fun z : Lt W1 => z.cell w5
      have z6 := fun z : Lt W1 => z.cell w6
      have z7 := fun z : Lt W1 => z.cell w7
      clear hW1 w0 w1 w2 w3 w4 w5 w6 w7
      refine (kind_is hc1 E0.out (Lt.base W1)).mono ?_; rintro e w' ⟨rfl, y, rfl⟩
      go_wp2_with fail
      refine (kind_is hc1 E1.out _).mono ?_; rintro e w' ⟨rfl, y, rfl⟩
      go_wp2_with fail
      refine (kind_is hc1 E2.out _).mono ?_; rintro e w' ⟨rfl, y, rfl⟩
      go_wp2_with fail
      go_ret
      first | exact ⟨ret_bool HF.out.symm, y.via hb0, rfl⟩ | exact ⟨ret_bool (by rw [HF.out]; simp), y.via hb0, rfl⟩
    · have HF := Lib.hid (show R.maySet c s = false by rw [hmay]; simp [hop, R.isNum, hs, ho])
      have E1 := Lib.hid e1
      have E2 := Lib.hid e2
      clear hmay hs e1 ho e2
      go_enter Try.func23, Try.ntmps23
      go_wp2_with fail
      refine calls_here fun W1 hW1 => ?_
      have hb0 : Below W.heap.size W W1 := hW1 ▸ x.more2 _ _
      have hc1 := hc.below hb0
      have w0 : W1.cell? ⟨x.1.heap.size, 0, none⟩ = some (.slice A c.length ca) := by rw [hW1]; simp
      have w1 : W1.cell? ⟨x.1.heap.size + 1, 0, none⟩ = some (.int .i64 s.col) := by rw [hW1]; simp
      have w2 : W1.cell? ⟨x.1.heap.size + 1, 1, none⟩ = some (.int .i64 s.op) := by rw [hW1]; simp <;> omega
      have w3 : W1.cell? ⟨x.1.heap.size + 1, 2, none⟩ = some (.int .i64 s.src) := by rw [hW1]; simp
      have w4 : W1.cell? ⟨x.1.heap.size + 1, 3, none⟩ = some (.int .i64 s.oth) := by rw [hW1]; simp
      have w5 : W1.cell? ⟨x.1.heap.size + 1, 4, none⟩ = some (.bool s.v.t) := by rw [hW1]; simp
      have w6 : W1.cell? ⟨x.1.heap.size + 1, 5, none⟩ = some (.int .i64 s.v.n) := by rw [hW1]; simp
      have w7 : W1.cell? ⟨x.1.heap.size + 1, 6, none⟩ = some (.string s.v.s) := by rw [hW1]; simp
      have z0 := fun z : Lt W1 => z.cell w0
      have z1 := fun z : Lt W1 => z.cell w1
      have z2 := fun z : Lt W1 => z.cell w2
      have z3 := fun z : Lt W1 => z.cell w3
      have z4 := fun z : Lt W1 => z.cell w4
      have z5 := fun z : Lt W1 => z.cell w5
      have z6 := fun z : Lt W1 => z.cell w6
      have z7 := fun z : Lt W1 => z.cell w7
      clear hW1 w0 w1 w2 w3 w4 w5 w6 w7
      refine (kind_is hc1 E0.out (Lt.base W1)).mono ?_; rintro e w' ⟨rfl, y, rfl⟩
      go_wp2_with fail
      refine (kind_is hc1 E1.out _).mono ?_; rintro e w' ⟨rfl, y, rfl⟩
      go_wp2_with fail
      refine (kind_is hc1 E2.out _).mono ?_; rintro e w' ⟨rfl, y, rfl⟩
      go_wp2_with fail
      go_ret
      first | exact ⟨ret_bool HF.out.symm, y.via hb0, rfl⟩ | exact ⟨ret_bool (by rw [HF.out]; simp), y.via hb0, rfl⟩
  · have HF := Lib.hid (show R.maySet c s = false by rw [hmay]; simp [hop, R.isNum, hs])
    have E1 := Lib.hid e1
    have ER := E0
    clear hmay hs e1
    go_enter Try.func23, Try.ntmps23
    go_wp2_with fail
    refine calls_here fun W1 hW1 => ?_
    have hb0 : Below W.heap.size W W1 := hW1 ▸ x.more2 _ _
    have hc1 := hc.below hb0
    have w0 : W1.cell? ⟨x.1.heap.size, 0, none⟩ = some (.slice A c.length ca) := by rw [hW1]; simp
    have w1 : W1.cell? ⟨x.1.heap.size + 1, 0, none⟩ = some (.int .i64 s.col) := by rw [hW1]; simp
    have w2 : W1.cell? ⟨x.1.heap.size + 1, 1, none⟩ = some (.int .i64 s.op) := by rw [hW1]; simp <;> omega
    have w3 : W1.cell? ⟨x.1.heap.size + 1, 2, none⟩ = some (.int .i64 s.src) := by rw [hW1]; simp
    have w4 : W1.cell? ⟨x.1.heap.size + 1, 3, none⟩ = some (.int .i64 s.oth) := by rw [hW1]; simp
    have w5 : W1.cell? ⟨x.1.heap.size + 1, 4, none⟩ = some (.bool s.v.t) := by rw [hW1]; simp
    have w6 : W1.cell? ⟨x.1.heap.size + 1, 5, none⟩ = some (.int .i64 s.v.n) := by rw [hW1]; simp
    have w7 : W1.cell? ⟨x.1.heap.size + 1, 6, none⟩ = some (.string s.v.s) := by rw [hW1]; simp
    have z0 := fun z : Lt W1 => z.cell w0
    have z1 := fun z : Lt W1 => z.cell w1
    have z2 := fun z : Lt W1 => z.cell w2
    have z3 := fun z : Lt W1 => z.cell w3
    have z4 := fun z : Lt W1 => z.cell w4
    have z5 := fun z : Lt W1 => z.cell w5
    have z6 := fun z : Lt W1 => z.cell w6
    have z7 := fun z : Lt W1 => z.cell w7
    clear hW1 w0 w1 w2 w3 w4 w5 w6 w7
    refine (kind_is hc1 E0.out (Lt.base W1)).mono ?_; rintro e w' ⟨rfl, y, rfl⟩
    go_wp2_with (first
      | (go_at_call 31; refine (kind_is hc1 E1.out _).mono ?_; rintro e w' ⟨rfl, y, rfl⟩)
      | (go_at_call 24; refine (vright_is ER.out _).mono ?_; rintro e w' ⟨rfl, y, rfl⟩))
    go_ret
    first | exact ⟨ret_bool HF.out.symm, y.via hb0, rfl⟩ | exact ⟨ret_bool (by rw [HF.out]; simp), y.via hb0, rfl⟩
set_option maxHeartbeats 2000000 in
theorem may_else_false {A : Option Addr} {c : List Bool} {ca : Nat} (hc : ColsAt W A c) (s : SetV) (h1 : 1 ≤ s.col) (hk : R.colAt c s.col = some false) (n1 : ¬ s.op = 1) (n2 : ¬ s.op = 2) (n3 : ¬ s.op = 3) (n4 : ¬ s.op = 4) (n5 : ¬ s.op = 5) (n6 : ¬ s.op = 6) (x : Lt W) :
    Calls Try.prog 23 #[.agg #[.slice A c.length ca], .agg #[.int .i64 s.col, .int .i64 s.op, .int .i64 s.src, .int .i64 s.oth, .bool s.v.t, .int .i64 s.v.n, .string s.v.s]] x.1 fun e w' => e = .returned (.bool (R.maySet c s)) ∧ ∃ y : Lt W, w' = y.1 := by
  have e0 : R.kind c s.col = 1 := by simp [R.kind, hk]
  have E0 := Lib.hid e0
  have d : decide (s.col < 1) = false := decide_eq_false (by omega)
  have hmay : R.maySet c s = (if s.op = 1 then s.v.right && decide (s.v.t = false) else if s.op = 2 then decide (R.colAt c s.src = some false) else if s.op = 3 ∨ s.op = 4 ∨ s.op = 5 then !false && (R.isNum c s.src && (s.v.right && !s.v.t)) else if s.op = 6 then !false && (R.isNum c s.src && R.isNum c s.oth) else false) := by
    unfold R.maySet
    rw [hk]
    simp only []
    rw [decide_eq_true h1, Bool.true_and]
  clear e0 hk
  have HF := Lib.hid (show R.maySet c s = false by rw [hmay]; simp [n1, n2, n3, n4, n5, n6])
  have ER := E0
  have E1 := E0
  clear hmay
  go_enter Try.func23, Try.ntmps23
  go_wp2_with fail
  refine calls_here fun W1 hW1 => ?_
  have hb0 : Below W.heap.size W W1 := hW1 ▸ x.more2 _ _
  have hc1 := hc.below hb0
  have w0 : W1.cell? ⟨x.1.heap.size, 0, none⟩ = some (.slice A c.length ca) := by rw [hW1]; simp
  have w1 : W1.cell? ⟨x.1.heap.size + 1, 0, none⟩ = some (.int .i64 s.col) := by rw [hW1]; simp
  have w2 : W1.cell? ⟨x.1.heap.size + 1, 1, none⟩ = some (.int .i64 s.op) := by rw [hW1]; simp <;> omega
  have w3 : W1.cell? ⟨x.1.heap.size + 1, 2, none⟩ = some (.int .i64 s.src) := by rw [hW1]; simp
  have w4 : W1.cell? ⟨x.1.heap.size + 1, 3, none⟩ = some (.int .i64 s.oth) := by rw [hW1]; simp
  have w5 : W1.cell? ⟨x.1.heap.size + 1, 4, none⟩ = some (.bool s.v.t) := by rw [hW1]; simp
  have w6 : W1.cell? ⟨x.1.heap.size + 1, 5, none⟩ = some (.int .i64 s.v.n) := by rw [hW1]; simp
  have w7 : W1.cell? ⟨x.1.heap.size + 1, 6, none⟩ = some (.string s.v.s) := by rw [hW1]; simp
  have z0 := fun z : Lt W1 => z.cell w0
  have z1 := fun z : Lt W1 => z.cell w1
  have z2 := fun z : Lt W1 => z.cell w2
  have z3 := fun z : Lt W1 => z.cell w3
  have z4 := fun z : Lt W1 => z.cell w4
  have z5 := fun z : Lt W1 => z.cell w5
  have z6 := fun z : Lt W1 => z.cell w6
  have z7 := fun z : Lt W1 => z.cell w7
  clear hW1 w0 w1 w2 w3 w4 w5 w6 w7
  refine (kind_is hc1 E0.out (Lt.base W1)).mono ?_; rintro e w' ⟨rfl, y, rfl⟩
  go_wp2_with (first
    | (go_at_call 31; refine (kind_is hc1 E1.out _).mono ?_; rintro e w' ⟨rfl, y, rfl⟩)
    | (go_at_call 24; refine (vright_is ER.out _).mono ?_; rintro e w' ⟨rfl, y, rfl⟩))
  go_ret
  first | exact ⟨ret_bool HF.out.symm, y.via hb0, rfl⟩ | exact ⟨ret_bool (by rw [HF.out]; simp), y.via hb0, rfl⟩
set_option maxHeartbeats 2000000 in
theorem may_to_true {A : Option Addr} {c : List Bool} {ca : Nat} (hc : ColsAt W A c) (s : SetV) (h1 : 1 ≤ s.col) (hk : R.colAt c s.col = some true) (hop : s.op = 1) (x : Lt W) :
    Calls Try.prog 23 #[.agg #[.slice A c.length ca], .agg #[.int .i64 s.col, .int .i64 s.op, .int .i64 s.src, .int .i64 s.oth, .bool s.v.t, .int .i64 s.v.n, .string s.v.s]] x.1 fun e w' => e = .returned (.bool (R.maySet c s)) ∧ ∃ y : Lt W, w' = y.1 := by
  have e0 : R.kind c s.col = 2 := by simp [R.kind, hk]
  have E0 := Lib.hid e0
  have d : decide (s.col < 1) = false := decide_eq_false (by omega)
  have hmay : R.maySet c s = (if s.op = 1 then s.v.right && decide (s.v.t = true) else if s.op = 2 then decide (R.colAt c s.src = some true) else if s.op = 3 ∨ s.op = 4 ∨ s.op = 5 then !true && (R.isNum c s.src && (s.v.right && !s.v.t)) else if s.op = 6 then !true && (R.isNum c s.src && R.isNum c s.oth) else false) := by
    unfold R.maySet
    rw [hk]
    simp only []
    rw [decide_eq_true h1, Bool.true_and]
  clear e0 hk
  cases hr : s.v.right
  · have ER := Lib.hid hr
    have E1 := E0
    have HF := Lib.hid (show R.maySet c s = false by rw [hmay]; simp [hop, hr])
    clear hmay hr
    go_enter Try.func23, Try.ntmps23
    go_wp2_with fail
    refine calls_here fun W1 hW1 => ?_
    have hb0 : Below W.heap.size W W1 := hW1 ▸ x.more2 _ _
    have hc1 := hc.below hb0
    have w0 : W1.cell? ⟨x.1.heap.size, 0, none⟩ = some (.slice A c.length ca) := by rw [hW1]; simp
    have w1 : W1.cell? ⟨x.1.heap.size + 1, 0, none⟩ = some (.int .i64 s.col) := by rw [hW1]; simp
    have w2 : W1.cell? ⟨x.1.heap.size + 1, 1, none⟩ = some (.int .i64 s.op) := by rw [hW1]; simp <;> omega
    have w3 : W1.cell? ⟨x.1.heap.size + 1, 2, none⟩ = some (.int .i64 s.src) := by rw [hW1]; simp
    have w4 : W1.cell? ⟨x.1.heap.size + 1, 3, none⟩ = some (.int .i64 s.oth) := by rw [hW1]; simp
    have w5 : W1.cell? ⟨x.1.heap.size + 1, 4, none⟩ = some (.bool s.v.t) := by rw [hW1]; simp
    have w6 : W1.cell? ⟨x.1.heap.size + 1, 5, none⟩ = some (.int .i64 s.v.n) := by rw [hW1]; simp
    have w7 : W1.cell? ⟨x.1.heap.size + 1, 6, none⟩ = some (.string s.v.s) := by rw [hW1]; simp
    have z0 := fun z : Lt W1 => z.cell w0
    have z1 := fun z : Lt W1 => z.cell w1
    have z2 := fun z : Lt W1 => z.cell w2
    have z3 := fun z : Lt W1 => z.cell w3
    have z4 := fun z : Lt W1 => z.cell w4
    have z5 := fun z : Lt W1 => z.cell w5
    have z6 := fun z : Lt W1 => z.cell w6
    have z7 := fun z : Lt W1 => z.cell w7
    clear hW1 w0 w1 w2 w3 w4 w5 w6 w7
    refine (kind_is hc1 E0.out (Lt.base W1)).mono ?_; rintro e w' ⟨rfl, y, rfl⟩
    go_wp2_with (first
      | (go_at_call 31; refine (kind_is hc1 E1.out _).mono ?_; rintro e w' ⟨rfl, y, rfl⟩)
      | (go_at_call 24; refine (vright_is ER.out _).mono ?_; rintro e w' ⟨rfl, y, rfl⟩))
    go_ret
    first | exact ⟨ret_bool HF.out.symm, y.via hb0, rfl⟩ | exact ⟨ret_bool (by rw [HF.out]; cases s.v.t <;> rfl), y.via hb0, rfl⟩
  · have ER := Lib.hid hr
    have E1 := E0
    have HF := Lib.hid (show R.maySet c s = decide (s.v.t = true) by rw [hmay]; simp [hop, hr])
    clear hmay hr
    go_enter Try.func23, Try.ntmps23
    go_wp2_with fail
    refine calls_here fun W1 hW1 => ?_
    have hb0 : Below W.heap.size W W1 := hW1 ▸ x.more2 _ _
    have hc1 := hc.below hb0
    have w0 : W1.cell? ⟨x.1.heap.size, 0, none⟩ = some (.slice A c.length ca) := by rw [hW1]; simp
    have w1 : W1.cell? ⟨x.1.heap.size + 1, 0, none⟩ = some (.int .i64 s.col) := by rw [hW1]; simp
    have w2 : W1.cell? ⟨x.1.heap.size + 1, 1, none⟩ = some (.int .i64 s.op) := by rw [hW1]; simp <;> omega
    have w3 : W1.cell? ⟨x.1.heap.size + 1, 2, none⟩ = some (.int .i64 s.src) := by rw [hW1]; simp
    have w4 : W1.cell? ⟨x.1.heap.size + 1, 3, none⟩ = some (.int .i64 s.oth) := by rw [hW1]; simp
    have w5 : W1.cell? ⟨x.1.heap.size + 1, 4, none⟩ = some (.bool s.v.t) := by rw [hW1]; simp
    have w6 : W1.cell? ⟨x.1.heap.size + 1, 5, none⟩ = some (.int .i64 s.v.n) := by rw [hW1]; simp
    have w7 : W1.cell? ⟨x.1.heap.size + 1, 6, none⟩ = some (.string s.v.s) := by rw [hW1]; simp
    have z0 := fun z : Lt W1 => z.cell w0
    have z1 := fun z : Lt W1 => z.cell w1
    have z2 := fun z : Lt W1 => z.cell w2
    have z3 := fun z : Lt W1 => z.cell w3
    have z4 := fun z : Lt W1 => z.cell w4
    have z5 := fun z : Lt W1 => z.cell w5
    have z6 := fun z : Lt W1 => z.cell w6
    have z7 := fun z : Lt W1 => z.cell w7
    clear hW1 w0 w1 w2 w3 w4 w5 w6 w7
    refine (kind_is hc1 E0.out (Lt.base W1)).mono ?_; rintro e w' ⟨rfl, y, rfl⟩
    go_wp2_with (first
      | (go_at_call 31; refine (kind_is hc1 E1.out _).mono ?_; rintro e w' ⟨rfl, y, rfl⟩)
      | (go_at_call 24; refine (vright_is ER.out _).mono ?_; rintro e w' ⟨rfl, y, rfl⟩))
    go_ret
    first | exact ⟨ret_bool HF.out.symm, y.via hb0, rfl⟩ | exact ⟨ret_bool (by rw [HF.out]; cases s.v.t <;> rfl), y.via hb0, rfl⟩
set_option maxHeartbeats 2000000 in
theorem may_copy_true {A : Option Addr} {c : List Bool} {ca : Nat} (hc : ColsAt W A c) (s : SetV) (h1 : 1 ≤ s.col) (hk : R.colAt c s.col = some true) (hop : s.op = 2) (x : Lt W) :
    Calls Try.prog 23 #[.agg #[.slice A c.length ca], .agg #[.int .i64 s.col, .int .i64 s.op, .int .i64 s.src, .int .i64 s.oth, .bool s.v.t, .int .i64 s.v.n, .string s.v.s]] x.1 fun e w' => e = .returned (.bool (R.maySet c s)) ∧ ∃ y : Lt W, w' = y.1 := by
  have e0 : R.kind c s.col = 2 := by simp [R.kind, hk]
  have E0 := Lib.hid e0
  have d : decide (s.col < 1) = false := decide_eq_false (by omega)
  have hmay : R.maySet c s = (if s.op = 1 then s.v.right && decide (s.v.t = true) else if s.op = 2 then decide (R.colAt c s.src = some true) else if s.op = 3 ∨ s.op = 4 ∨ s.op = 5 then !true && (R.isNum c s.src && (s.v.right && !s.v.t)) else if s.op = 6 then !true && (R.isNum c s.src && R.isNum c s.oth) else false) := by
    unfold R.maySet
    rw [hk]
    simp only []
    rw [decide_eq_true h1, Bool.true_and]
  clear e0 hk
  have ER := E0
  rcases R.kind_cases c s.src with ⟨hs, e1⟩ | ⟨hs, e1⟩ | ⟨hs, e1⟩
  · have HF := Lib.hid (show R.maySet c s = false by rw [hmay]; simp [hop, hs])
    have E1 := Lib.hid e1
    clear hmay hs e1
    go_enter Try.func23, Try.ntmps23
    go_wp2_with fail
    refine calls_here fun W1 hW1 => ?_
    have hb0 : Below W.heap.size W W1 := hW1 ▸ x.more2 _ _
    have hc1 := hc.below hb0
    have w0 : W1.cell? ⟨x.1.heap.size, 0, none⟩ = some (.slice A c.length ca) := by rw [hW1]; simp
    have w1 : W1.cell? ⟨x.1.heap.size + 1, 0, none⟩ = some (.int .i64 s.col) := by rw [hW1]; simp
    have w2 : W1.cell? ⟨x.1.heap.size + 1, 1, none⟩ = some (.int .i64 s.op) := by rw [hW1]; simp <;> omega
    have w3 : W1.cell? ⟨x.1.heap.size + 1, 2, none⟩ = some (.int .i64 s.src) := by rw [hW1]; simp
    have w4 : W1.cell? ⟨x.1.heap.size + 1, 3, none⟩ = some (.int .i64 s.oth) := by rw [hW1]; simp
    have w5 : W1.cell? ⟨x.1.heap.size + 1, 4, none⟩ = some (.bool s.v.t) := by rw [hW1]; simp
    have w6 : W1.cell? ⟨x.1.heap.size + 1, 5, none⟩ = some (.int .i64 s.v.n) := by rw [hW1]; simp
    have w7 : W1.cell? ⟨x.1.heap.size + 1, 6, none⟩ = some (.string s.v.s) := by rw [hW1]; simp
    have z0 := fun z : Lt W1 => z.cell w0
    have z1 := fun z : Lt W1 => z.cell w1
    have z2 := fun z : Lt W1 => z.cell w2
    have z3 := fun z : Lt W1 => z.cell w3
    have z4 := fun z : Lt W1 => z.cell w4
    have z5 := fun z : Lt W1 => z.cell w5
    have z6 := fun z : Lt W1 => z.cell w6
    have z7 := fun z : Lt W1 => z.cell w7
    clear hW1 w0 w1 w2 w3 w4 w5 w6 w7
    refine (kind_is hc1 E0.out (Lt.base W1)).mono ?_; rintro e w' ⟨rfl, y, rfl⟩
    go_wp2_with (first
      | (go_at_call 31; refine (kind_is hc1 E1.out _).mono ?_; rintro e w' ⟨rfl, y, rfl⟩)
      | (go_at_call 24; refine (vright_is ER.out _).mono ?_; rintro e w' ⟨rfl, y, rfl⟩))
    go_ret
    first | exact ⟨ret_bool HF.out.symm, y.via hb0, rfl⟩ | exact ⟨ret_bool (by rw [HF.out]; simp), y.via hb0, rfl⟩
  · have HF := Lib.hid (show R.maySet c s = false by rw [hmay]; simp [hop, hs])
    have E1 := Lib.hid e1
    clear hmay hs e1
    go_enter Try.func23, Try.ntmps23
    go_wp2_with fail
    refine calls_here fun W1 hW1 => ?_
    have hb0 : Below W.heap.size W W1 := hW1 ▸ x.more2 _ _
    have hc1 := hc.below hb0
    have w0 : W1.cell? ⟨x.1.heap.size, 0, none⟩ = some (.slice A c.length ca) := by rw [hW1]; simp
    have w1 : W1.cell? ⟨x.1.heap.size + 1, 0, none⟩ = some (.int .i64 s.col) := by rw [hW1]; simp
    have w2 : W1.cell? ⟨x.1.heap.size + 1, 1, none⟩ = some (.int .i64 s.op) := by rw [hW1]; simp <;> omega
    have w3 : W1.cell? ⟨x.1.heap.size + 1, 2, none⟩ = some (.int .i64 s.src) := by rw [hW1]; simp
    have w4 : W1.cell? ⟨x.1.heap.size + 1, 3, none⟩ = some (.int .i64 s.oth) := by rw [hW1]; simp
    have w5 : W1.cell? ⟨x.1.heap.size + 1, 4, none⟩ = some (.bool s.v.t) := by rw [hW1]; simp
    have w6 : W1.cell? ⟨x.1.heap.size + 1, 5, none⟩ = some (.int .i64 s.v.n) := by rw [hW1]; simp
    have w7 : W1.cell? ⟨x.1.heap.size + 1, 6, none⟩ = some (.string s.v.s) := by rw [hW1]; simp
    have z0 := fun z : Lt W1 => z.cell w0
    have z1 := fun z : Lt W1 => z.cell w1
    have z2 := fun z : Lt W1 => z.cell w2
    have z3 := fun z : Lt W1 => z.cell w3
    have z4 := fun z : Lt W1 => z.cell w4
    have z5 := fun z : Lt W1 => z.cell w5
    have z6 := fun z : Lt W1 => z.cell w6
    have z7 := fun z : Lt W1 => z.cell w7
    clear hW1 w0 w1 w2 w3 w4 w5 w6 w7
    refine (kind_is hc1 E0.out (Lt.base W1)).mono ?_; rintro e w' ⟨rfl, y, rfl⟩
    go_wp2_with (first
      | (go_at_call 31; refine (kind_is hc1 E1.out _).mono ?_; rintro e w' ⟨rfl, y, rfl⟩)
      | (go_at_call 24; refine (vright_is ER.out _).mono ?_; rintro e w' ⟨rfl, y, rfl⟩))
    go_ret
    first | exact ⟨ret_bool HF.out.symm, y.via hb0, rfl⟩ | exact ⟨ret_bool (by rw [HF.out]; simp), y.via hb0, rfl⟩
  · have HF := Lib.hid (show R.maySet c s = true by rw [hmay]; simp [hop, hs])
    have E1 := Lib.hid e1
    clear hmay hs e1
    go_enter Try.func23, Try.ntmps23
    go_wp2_with fail
    refine calls_here fun W1 hW1 => ?_
    have hb0 : Below W.heap.size W W1 := hW1 ▸ x.more2 _ _
    have hc1 := hc.below hb0
    have w0 : W1.cell? ⟨x.1.heap.size, 0, none⟩ = some (.slice A c.length ca) := by rw [hW1]; simp
    have w1 : W1.cell? ⟨x.1.heap.size + 1, 0, none⟩ = some (.int .i64 s.col) := by rw [hW1]; simp
    have w2 : W1.cell? ⟨x.1.heap.size + 1, 1, none⟩ = some (.int .i64 s.op) := by rw [hW1]; simp <;> omega
    have w3 : W1.cell? ⟨x.1.heap.size + 1, 2, none⟩ = some (.int .i64 s.src) := by rw [hW1]; simp
    have w4 : W1.cell? ⟨x.1.heap.size + 1, 3, none⟩ = some (.int .i64 s.oth) := by rw [hW1]; simp
    have w5 : W1.cell? ⟨x.1.heap.size + 1, 4, none⟩ = some (.bool s.v.t) := by rw [hW1]; simp
    have w6 : W1.cell? ⟨x.1.heap.size + 1, 5, none⟩ = some (.int .i64 s.v.n) := by rw [hW1]; simp
    have w7 : W1.cell? ⟨x.1.heap.size + 1, 6, none⟩ = some (.string s.v.s) := by rw [hW1]; simp
    have z0 := fun z : Lt W1 => z.cell w0
    have z1 := fun z : Lt W1 => z.cell w1
    have z2 := fun z : Lt W1 => z.cell w2
    have z3 := fun z : Lt W1 => z.cell w3
    have z4 := fun z : Lt W1 => z.cell w4
    have z5 := fun z : Lt W1 => z.cell w5
    have z6 := fun z : Lt W1 => z.cell w6
    have z7 := fun z : Lt W1 => z.cell w7
    clear hW1 w0 w1 w2 w3 w4 w5 w6 w7
    refine (kind_is hc1 E0.out (Lt.base W1)).mono ?_; rintro e w' ⟨rfl, y, rfl⟩
    go_wp2_with (first
      | (go_at_call 31; refine (kind_is hc1 E1.out _).mono ?_; rintro e w' ⟨rfl, y, rfl⟩)
      | (go_at_call 24; refine (vright_is ER.out _).mono ?_; rintro e w' ⟨rfl, y, rfl⟩))
    go_ret
    first | exact ⟨ret_bool HF.out.symm, y.via hb0, rfl⟩ | exact ⟨ret_bool (by rw [HF.out]; simp), y.via hb0, rfl⟩
set_option maxHeartbeats 2000000 in
theorem may_3_true {A : Option Addr} {c : List Bool} {ca : Nat} (hc : ColsAt W A c) (s : SetV) (h1 : 1 ≤ s.col) (hk : R.colAt c s.col = some true) (hop : s.op = 3) (x : Lt W) :
    Calls Try.prog 23 #[.agg #[.slice A c.length ca], .agg #[.int .i64 s.col, .int .i64 s.op, .int .i64 s.src, .int .i64 s.oth, .bool s.v.t, .int .i64 s.v.n, .string s.v.s]] x.1 fun e w' => e = .returned (.bool (R.maySet c s)) ∧ ∃ y : Lt W, w' = y.1 := by
  have e0 : R.kind c s.col = 2 := by simp [R.kind, hk]
  have E0 := Lib.hid e0
  have d : decide (s.col < 1) = false := decide_eq_false (by omega)
  have hmay : R.maySet c s = (if s.op = 1 then s.v.right && decide (s.v.t = true) else if s.op = 2 then decide (R.colAt c s.src = some true) else if s.op = 3 ∨ s.op = 4 ∨ s.op = 5 then !true && (R.isNum c s.src && (s.v.right && !s.v.t)) else if s.op = 6 then !true && (R.isNum c s.src && R.isNum c s.oth) else false) := by
    unfold R.maySet
    rw [hk]
    simp only []
    rw [decide_eq_true h1, Bool.true_and]
  clear e0 hk
  have HF := Lib.hid (show R.maySet c s = false by rw [hmay]; simp [hop])
  have ER := E0
  have E1 := E0
  clear hmay
  go_enter Try.func23, Try.ntmps23
  go_wp2_with fail
  refine calls_here fun W1 hW1 => ?_
  have hb0 : Below W.heap.size W W1 := hW1 ▸ x.more2 _ _
  have hc1 := hc.below hb0
  have w0 : W1.cell? ⟨x.1.heap.size, 0, none⟩ = some (.slice A c.length ca) := by rw [hW1]; simp
  have w1 : W1.cell? ⟨x.1.heap.size + 1, 0, none⟩ = some (.int .i64 s.col) := by rw [hW1]; simp
  have w2 : W1.cell? ⟨x.1.heap.size + 1, 1, none⟩ = some (.int .i64 s.op) := by rw [hW1]; simp <;> omega
  have w3 : W1.cell? ⟨x.1.heap.size + 1, 2, none⟩ = some (.int .i64 s.src) := by rw [hW1]; simp
  have w4 : W1.cell? ⟨x.1.heap.size + 1, 3, none⟩ = some (.int .i64 s.oth) := by rw [hW1]; simp
  have w5 : W1.cell? ⟨x.1.heap.size + 1, 4, none⟩ = some (.bool s.v.t) := by rw [hW1]; simp
  have w6 : W1.cell? ⟨x.1.heap.size + 1, 5, none⟩ = some (.int .i64 s.v.n) := by rw [hW1]; simp
  have w7 : W1.cell? ⟨x.1.heap.size + 1, 6, none⟩ = some (.string s.v.s) := by rw [hW1]; simp
  have z0 := fun z : Lt W1 => z.cell w0
  have z1 := fun z : Lt W1 => z.cell w1
  have z2 := fun z : Lt W1 => z.cell w2
  have z3 := fun z : Lt W1 => z.cell w3
  have z4 := fun z : Lt W1 => z.cell w4
  have z5 := fun z : Lt W1 => z.cell w5
  have z6 := fun z : Lt W1 => z.cell w6
  have z7 := fun z : Lt W1 => z.cell w7
  clear hW1 w0 w1 w2 w3 w4 w5 w6 w7
  refine (kind_is hc1 E0.out (Lt.base W1)).mono ?_; rintro e w' ⟨rfl, y, rfl⟩
  go_wp2_with (first
    | (go_at_call 31; refine (kind_is hc1 E1.out _).mono ?_; rintro e w' ⟨rfl, y, rfl⟩)
    | (go_at_call 24; refine (vright_is ER.out _).mono ?_; rintro e w' ⟨rfl, y, rfl⟩))
  go_ret
  first | exact ⟨ret_bool HF.out.symm, y.via hb0, rfl⟩ | exact ⟨ret_bool (by rw [HF.out]; simp), y.via hb0, rfl⟩
set_option maxHeartbeats 2000000 in
theorem may_4_true {A : Option Addr} {c : List Bool} {ca : Nat} (hc : ColsAt W A c) (s : SetV) (h1 : 1 ≤ s.col) (hk : R.colAt c s.col = some true) (hop : s.op = 4) (x : Lt W) :
    Calls Try.prog 23 #[.agg #[.slice A c.length ca], .agg #[.int .i64 s.col, .int .i64 s.op, .int .i64 s.src, .int .i64 s.oth, .bool s.v.t, .int .i64 s.v.n, .string s.v.s]] x.1 fun e w' => e = .returned (.bool (R.maySet c s)) ∧ ∃ y : Lt W, w' = y.1 := by
  have e0 : R.kind c s.col = 2 := by simp [R.kind, hk]
  have E0 := Lib.hid e0
  have d : decide (s.col < 1) = false := decide_eq_false (by omega)
  have hmay : R.maySet c s = (if s.op = 1 then s.v.right && decide (s.v.t = true) else if s.op = 2 then decide (R.colAt c s.src = some true) else if s.op = 3 ∨ s.op = 4 ∨ s.op = 5 then !true && (R.isNum c s.src && (s.v.right && !s.v.t)) else if s.op = 6 then !true && (R.isNum c s.src && R.isNum c s.oth) else false) := by
    unfold R.maySet
    rw [hk]
    simp only []
    rw [decide_eq_true h1, Bool.true_and]
  clear e0 hk
  have HF := Lib.hid (show R.maySet c s = false by rw [hmay]; simp [hop])
  have ER := E0
  have E1 := E0
  clear hmay
  go_enter Try.func23, Try.ntmps23
  go_wp2_with fail
  refine calls_here fun W1 hW1 => ?_
  have hb0 : Below W.heap.size W W1 := hW1 ▸ x.more2 _ _
  have hc1 := hc.below hb0
  have w0 : W1.cell? ⟨x.1.heap.size, 0, none⟩ = some (.slice A c.length ca) := by rw [hW1]; simp
  have w1 : W1.cell? ⟨x.1.heap.size + 1, 0, none⟩ = some (.int .i64 s.col) := by rw [hW1]; simp
  have w2 : W1.cell? ⟨x.1.heap.size + 1, 1, none⟩ = some (.int .i64 s.op) := by rw [hW1]; simp <;> omega
  have w3 : W1.cell? ⟨x.1.heap.size + 1, 2, none⟩ = some (.int .i64 s.src) := by rw [hW1]; simp
  have w4 : W1.cell? ⟨x.1.heap.size + 1, 3, none⟩ = some (.int .i64 s.oth) := by rw [hW1]; simp
  have w5 : W1.cell? ⟨x.1.heap.size + 1, 4, none⟩ = some (.bool s.v.t) := by rw [hW1]; simp
  have w6 : W1.cell? ⟨x.1.heap.size + 1, 5, none⟩ = some (.int .i64 s.v.n) := by rw [hW1]; simp
  have w7 : W1.cell? ⟨x.1.heap.size + 1, 6, none⟩ = some (.string s.v.s) := by rw [hW1]; simp
  have z0 := fun z : Lt W1 => z.cell w0
  have z1 := fun z : Lt W1 => z.cell w1
  have z2 := fun z : Lt W1 => z.cell w2
  have z3 := fun z : Lt W1 => z.cell w3
  have z4 := fun z : Lt W1 => z.cell w4
  have z5 := fun z : Lt W1 => z.cell w5
  have z6 := fun z : Lt W1 => z.cell w6
  have z7 := fun z : Lt W1 => z.cell w7
  clear hW1 w0 w1 w2 w3 w4 w5 w6 w7
  refine (kind_is hc1 E0.out (Lt.base W1)).mono ?_; rintro e w' ⟨rfl, y, rfl⟩
  go_wp2_with (first
    | (go_at_call 31; refine (kind_is hc1 E1.out _).mono ?_; rintro e w' ⟨rfl, y, rfl⟩)
    | (go_at_call 24; refine (vright_is ER.out _).mono ?_; rintro e w' ⟨rfl, y, rfl⟩))
  go_ret
  first | exact ⟨ret_bool HF.out.symm, y.via hb0, rfl⟩ | exact ⟨ret_bool (by rw [HF.out]; simp), y.via hb0, rfl⟩
set_option maxHeartbeats 2000000 in
theorem may_5_true {A : Option Addr} {c : List Bool} {ca : Nat} (hc : ColsAt W A c) (s : SetV) (h1 : 1 ≤ s.col) (hk : R.colAt c s.col = some true) (hop : s.op = 5) (x : Lt W) :
    Calls Try.prog 23 #[.agg #[.slice A c.length ca], .agg #[.int .i64 s.col, .int .i64 s.op, .int .i64 s.src, .int .i64 s.oth, .bool s.v.t, .int .i64 s.v.n, .string s.v.s]] x.1 fun e w' => e = .returned (.bool (R.maySet c s)) ∧ ∃ y : Lt W, w' = y.1 := by
  have e0 : R.kind c s.col = 2 := by simp [R.kind, hk]
  have E0 := Lib.hid e0
  have d : decide (s.col < 1) = false := decide_eq_false (by omega)
  have hmay : R.maySet c s = (if s.op = 1 then s.v.right && decide (s.v.t = true) else if s.op = 2 then decide (R.colAt c s.src = some true) else if s.op = 3 ∨ s.op = 4 ∨ s.op = 5 then !true && (R.isNum c s.src && (s.v.right && !s.v.t)) else if s.op = 6 then !true && (R.isNum c s.src && R.isNum c s.oth) else false) := by
    unfold R.maySet
    rw [hk]
    simp only []
    rw [decide_eq_true h1, Bool.true_and]
  clear e0 hk
  have HF := Lib.hid (show R.maySet c s = false by rw [hmay]; simp [hop])
  have ER := E0
  have E1 := E0
  clear hmay
  go_enter Try.func23, Try.ntmps23
  go_wp2_with fail
  refine calls_here fun W1 hW1 => ?_
  have hb0 : Below W.heap.size W W1 := hW1 ▸ x.more2 _ _
  have hc1 := hc.below hb0
  have w0 : W1.cell? ⟨x.1.heap.size, 0, none⟩ = some (.slice A c.length ca) := by rw [hW1]; simp
  have w1 : W1.cell? ⟨x.1.heap.size + 1, 0, none⟩ = some (.int .i64 s.col) := by rw [hW1]; simp
  have w2 : W1.cell? ⟨x.1.heap.size + 1, 1, none⟩ = some (.int .i64 s.op) := by rw [hW1]; simp <;> omega
  have w3 : W1.cell? ⟨x.1.heap.size + 1, 2, none⟩ = some (.int .i64 s.src) := by rw [hW1]; simp
  have w4 : W1.cell? ⟨x.1.heap.size + 1, 3, none⟩ = some (.int .i64 s.oth) := by rw [hW1]; simp
  have w5 : W1.cell? ⟨x.1.heap.size + 1, 4, none⟩ = some (.bool s.v.t) := by rw [hW1]; simp
  have w6 : W1.cell? ⟨x.1.heap.size + 1, 5, none⟩ = some (.int .i64 s.v.n) := by rw [hW1]; simp
  have w7 : W1.cell? ⟨x.1.heap.size + 1, 6, none⟩ = some (.string s.v.s) := by rw [hW1]; simp
  have z0 := fun z : Lt W1 => z.cell w0
  have z1 := fun z : Lt W1 => z.cell w1
  have z2 := fun z : Lt W1 => z.cell w2
  have z3 := fun z : Lt W1 => z.cell w3
  have z4 := fun z : Lt W1 => z.cell w4
  have z5 := fun z : Lt W1 => z.cell w5
  have z6 := fun z : Lt W1 => z.cell w6
  have z7 := fun z : Lt W1 => z.cell w7
  clear hW1 w0 w1 w2 w3 w4 w5 w6 w7
  refine (kind_is hc1 E0.out (Lt.base W1)).mono ?_; rintro e w' ⟨rfl, y, rfl⟩
  go_wp2_with (first
    | (go_at_call 31; refine (kind_is hc1 E1.out _).mono ?_; rintro e w' ⟨rfl, y, rfl⟩)
    | (go_at_call 24; refine (vright_is ER.out _).mono ?_; rintro e w' ⟨rfl, y, rfl⟩))
  go_ret
  first | exact ⟨ret_bool HF.out.symm, y.via hb0, rfl⟩ | exact ⟨ret_bool (by rw [HF.out]; simp), y.via hb0, rfl⟩
set_option maxHeartbeats 2000000 in
theorem may_sum_true {A : Option Addr} {c : List Bool} {ca : Nat} (hc : ColsAt W A c) (s : SetV) (h1 : 1 ≤ s.col) (hk : R.colAt c s.col = some true) (hop : s.op = 6) (x : Lt W) :
    Calls Try.prog 23 #[.agg #[.slice A c.length ca], .agg #[.int .i64 s.col, .int .i64 s.op, .int .i64 s.src, .int .i64 s.oth, .bool s.v.t, .int .i64 s.v.n, .string s.v.s]] x.1 fun e w' => e = .returned (.bool (R.maySet c s)) ∧ ∃ y : Lt W, w' = y.1 := by
  have e0 : R.kind c s.col = 2 := by simp [R.kind, hk]
  have E0 := Lib.hid e0
  have d : decide (s.col < 1) = false := decide_eq_false (by omega)
  have hmay : R.maySet c s = (if s.op = 1 then s.v.right && decide (s.v.t = true) else if s.op = 2 then decide (R.colAt c s.src = some true) else if s.op = 3 ∨ s.op = 4 ∨ s.op = 5 then !true && (R.isNum c s.src && (s.v.right && !s.v.t)) else if s.op = 6 then !true && (R.isNum c s.src && R.isNum c s.oth) else false) := by
    unfold R.maySet
    rw [hk]
    simp only []
    rw [decide_eq_true h1, Bool.true_and]
  clear e0 hk
  have HF := Lib.hid (show R.maySet c s = false by rw [hmay]; simp [hop])
  have ER := E0
  have E1 := E0
  clear hmay
  go_enter Try.func23, Try.ntmps23
  go_wp2_with fail
  refine calls_here fun W1 hW1 => ?_
  have hb0 : Below W.heap.size W W1 := hW1 ▸ x.more2 _ _
  have hc1 := hc.below hb0
  have w0 : W1.cell? ⟨x.1.heap.size, 0, none⟩ = some (.slice A c.length ca) := by rw [hW1]; simp
  have w1 : W1.cell? ⟨x.1.heap.size + 1, 0, none⟩ = some (.int .i64 s.col) := by rw [hW1]; simp
  have w2 : W1.cell? ⟨x.1.heap.size + 1, 1, none⟩ = some (.int .i64 s.op) := by rw [hW1]; simp <;> omega
  have w3 : W1.cell? ⟨x.1.heap.size + 1, 2, none⟩ = some (.int .i64 s.src) := by rw [hW1]; simp
  have w4 : W1.cell? ⟨x.1.heap.size + 1, 3, none⟩ = some (.int .i64 s.oth) := by rw [hW1]; simp
  have w5 : W1.cell? ⟨x.1.heap.size + 1, 4, none⟩ = some (.bool s.v.t) := by rw [hW1]; simp
  have w6 : W1.cell? ⟨x.1.heap.size + 1, 5, none⟩ = some (.int .i64 s.v.n) := by rw [hW1]; simp
  have w7 : W1.cell? ⟨x.1.heap.size + 1, 6, none⟩ = some (.string s.v.s) := by rw [hW1]; simp
  have z0 := fun z : Lt W1 => z.cell w0
  have z1 := fun z : Lt W1 => z.cell w1
  have z2 := fun z : Lt W1 => z.cell w2
  have z3 := fun z : Lt W1 => z.cell w3
  have z4 := fun z : Lt W1 => z.cell w4
  have z5 := fun z : Lt W1 => z.cell w5
  have z6 := fun z : Lt W1 => z.cell w6
  have z7 := fun z : Lt W1 => z.cell w7
  clear hW1 w0 w1 w2 w3 w4 w5 w6 w7
  refine (kind_is hc1 E0.out (Lt.base W1)).mono ?_; rintro e w' ⟨rfl, y, rfl⟩
  go_wp2_with (first
    | (go_at_call 31; refine (kind_is hc1 E1.out _).mono ?_; rintro e w' ⟨rfl, y, rfl⟩)
    | (go_at_call 24; refine (vright_is ER.out _).mono ?_; rintro e w' ⟨rfl, y, rfl⟩))
  go_ret
  first | exact ⟨ret_bool HF.out.symm, y.via hb0, rfl⟩ | exact ⟨ret_bool (by rw [HF.out]; simp), y.via hb0, rfl⟩
set_option maxHeartbeats 2000000 in
theorem may_else_true {A : Option Addr} {c : List Bool} {ca : Nat} (hc : ColsAt W A c) (s : SetV) (h1 : 1 ≤ s.col) (hk : R.colAt c s.col = some true) (n1 : ¬ s.op = 1) (n2 : ¬ s.op = 2) (n3 : ¬ s.op = 3) (n4 : ¬ s.op = 4) (n5 : ¬ s.op = 5) (n6 : ¬ s.op = 6) (x : Lt W) :
    Calls Try.prog 23 #[.agg #[.slice A c.length ca], .agg #[.int .i64 s.col, .int .i64 s.op, .int .i64 s.src, .int .i64 s.oth, .bool s.v.t, .int .i64 s.v.n, .string s.v.s]] x.1 fun e w' => e = .returned (.bool (R.maySet c s)) ∧ ∃ y : Lt W, w' = y.1 := by
  have e0 : R.kind c s.col = 2 := by simp [R.kind, hk]
  have E0 := Lib.hid e0
  have d : decide (s.col < 1) = false := decide_eq_false (by omega)
  have hmay : R.maySet c s = (if s.op = 1 then s.v.right && decide (s.v.t = true) else if s.op = 2 then decide (R.colAt c s.src = some true) else if s.op = 3 ∨ s.op = 4 ∨ s.op = 5 then !true && (R.isNum c s.src && (s.v.right && !s.v.t)) else if s.op = 6 then !true && (R.isNum c s.src && R.isNum c s.oth) else false) := by
    unfold R.maySet
    rw [hk]
    simp only []
    rw [decide_eq_true h1, Bool.true_and]
  clear e0 hk
  have HF := Lib.hid (show R.maySet c s = false by rw [hmay]; simp [n1, n2, n3, n4, n5, n6])
  have ER := E0
  have E1 := E0
  clear hmay
  go_enter Try.func23, Try.ntmps23
  go_wp2_with fail
  refine calls_here fun W1 hW1 => ?_
  have hb0 : Below W.heap.size W W1 := hW1 ▸ x.more2 _ _
  have hc1 := hc.below hb0
  have w0 : W1.cell? ⟨x.1.heap.size, 0, none⟩ = some (.slice A c.length ca) := by rw [hW1]; simp
  have w1 : W1.cell? ⟨x.1.heap.size + 1, 0, none⟩ = some (.int .i64 s.col) := by rw [hW1]; simp
  have w2 : W1.cell? ⟨x.1.heap.size + 1, 1, none⟩ = some (.int .i64 s.op) := by rw [hW1]; simp <;> omega
  have w3 : W1.cell? ⟨x.1.heap.size + 1, 2, none⟩ = some (.int .i64 s.src) := by rw [hW1]; simp
  have w4 : W1.cell? ⟨x.1.heap.size + 1, 3, none⟩ = some (.int .i64 s.oth) := by rw [hW1]; simp
  have w5 : W1.cell? ⟨x.1.heap.size + 1, 4, none⟩ = some (.bool s.v.t) := by rw [hW1]; simp
  have w6 : W1.cell? ⟨x.1.heap.size + 1, 5, none⟩ = some (.int .i64 s.v.n) := by rw [hW1]; simp
  have w7 : W1.cell? ⟨x.1.heap.size + 1, 6, none⟩ = some (.string s.v.s) := by rw [hW1]; simp
  have z0 := fun z : Lt W1 => z.cell w0
  have z1 := fun z : Lt W1 => z.cell w1
  have z2 := fun z : Lt W1 => z.cell w2
  have z3 := fun z : Lt W1 => z.cell w3
  have z4 := fun z : Lt W1 => z.cell w4
  have z5 := fun z : Lt W1 => z.cell w5
  have z6 := fun z : Lt W1 => z.cell w6
  have z7 := fun z : Lt W1 => z.cell w7
  clear hW1 w0 w1 w2 w3 w4 w5 w6 w7
  refine (kind_is hc1 E0.out (Lt.base W1)).mono ?_; rintro e w' ⟨rfl, y, rfl⟩
  go_wp2_with (first
    | (go_at_call 31; refine (kind_is hc1 E1.out _).mono ?_; rintro e w' ⟨rfl, y, rfl⟩)
    | (go_at_call 24; refine (vright_is ER.out _).mono ?_; rintro e w' ⟨rfl, y, rfl⟩))
  go_ret
  first | exact ⟨ret_bool HF.out.symm, y.via hb0, rfl⟩ | exact ⟨ret_bool (by rw [HF.out]; simp), y.via hb0, rfl⟩

theorem may_any {A : Option Addr} {c : List Bool} {ca : Nat} (hc : ColsAt W A c) (s : SetV)  (x : Lt W) :
    Calls Try.prog 23 #[.agg #[.slice A c.length ca], .agg #[.int .i64 s.col, .int .i64 s.op, .int .i64 s.src, .int .i64 s.oth, .bool s.v.t, .int .i64 s.v.n, .string s.v.s]] x.1 fun e w' => e = .returned (.bool (R.maySet c s)) ∧ ∃ y : Lt W, w' = y.1 := by
  cases hk : R.colAt c s.col with
  | none => exact may_low hc s (.inr hk) x
  | some k =>
    by_cases h1 : 1 ≤ s.col
    · have hop : s.op = 1 ∨ s.op = 2 ∨ s.op = 3 ∨ s.op = 4 ∨ s.op = 5 ∨ s.op = 6 ∨ (¬ s.op = 1 ∧ ¬ s.op = 2 ∧ ¬ s.op = 3 ∧ ¬ s.op = 4 ∧ ¬ s.op = 5 ∧ ¬ s.op = 6) := by omega
      cases k
      · rcases hop with h | h | h | h | h | h | ⟨n1, n2, n3, n4, n5, n6⟩
        · exact may_to_false hc s h1 hk h x
        · exact may_copy_false hc s h1 hk h x
        · exact may_3_false hc s h1 hk h x
        · exact may_4_false hc s h1 hk h x
        · exact may_5_false hc s h1 hk h x
        · exact may_sum_false hc s h1 hk h x
        · exact may_else_false hc s h1 hk n1 n2 n3 n4 n5 n6 x
      · rcases hop with h | h | h | h | h | h | ⟨n1, n2, n3, n4, n5, n6⟩
        · exact may_to_true hc s h1 hk h x
        · exact may_copy_true hc s h1 hk h x
        · exact may_3_true hc s h1 hk h x
        · exact may_4_true hc s h1 hk h x
        · exact may_5_true hc s h1 hk h x
        · exact may_sum_true hc s h1 hk h x
        · exact may_else_true hc s h1 hk n1 n2 n3 n4 n5 n6 x
    · exact may_low hc s (.inl (by omega)) x
theorem may_is {A : Option Addr} {c : List Bool} {ca : Nat} (hc : ColsAt W A c) {s : SetV} {r : Bool} (h : R.maySet c s = r) (x : Lt W) :
    Calls Try.prog 23 #[.agg #[.slice A c.length ca], .agg #[.int .i64 s.col, .int .i64 s.op, .int .i64 s.src, .int .i64 s.oth, .bool s.v.t, .int .i64 s.v.n, .string s.v.s]] x.1 fun e w' => e = .returned (.bool r) ∧ ∃ y : Lt W, w' = y.1 := h ▸ may_any hc s x
end Go.Proofs.Ytpgbngmekfakkaa
