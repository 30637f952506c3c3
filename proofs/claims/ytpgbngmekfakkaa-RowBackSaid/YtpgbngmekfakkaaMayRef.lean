/-
  Whether a set may be a table's: the document's answer. Condition: the table's columns lie in memory as they read.
-/
import Derived.Test.YtpgbngmekfakkaaMay
namespace Go.Proofs.Ytpgbngmekfakkaa
open Go.RowKit
variable {W : World}
set_option maxHeartbeats 1000000 in
theorem set_low {A : Option Addr} {c : List Bool} {ca : Nat} (_hc : ColsAt W A c) (s : SetV) (h : s.col < 1 ∨ R.colAt c s.col = none) (x : Lt W) :
    Calls Try.prog 26 #[.agg #[.slice A c.length ca], .agg #[.int .i64 s.col, .int .i64 s.op, .int .i64 s.src, .int .i64 s.oth, .bool s.v.t, .int .i64 s.v.n, .string s.v.s]] x.1 fun e w' => e = .returned (.bool (R.maySet c s)) ∧ ∃ y : Lt W, w' = y.1 := by
  have hf : R.maySet c s = false := by
    unfold R.maySet
    rcases h with h | h
    · cases hk : R.colAt c s.col with
      | none => rfl
      | some k => simp only []; rw [decide_eq_false (by omega)]; rfl
    · rw [h]
  have HF := Lib.hid hf
  by_cases hlow : s.col < 1
  · clear hf h
    go_enter Try.func26, Try.ntmps26
    go_wp2_with fail
    go_ret
    exact ⟨ret_bool HF.out.symm, x.end_ ((below_alloc _).alloc (by simp) _)⟩
  · have hk : (c.length : Int) ≤ s.col := by
      rcases h with h | h
      · exact absurd h hlow
      · rcases R.colAt_none h with h | h
        · omega
        · exact h
    have d : decide (s.col < 1) = false := decide_eq_false hlow
    have d2 : decide ((c.length : Int) ≤ s.col) = true := decide_eq_true hk
    clear hf h hk
    go_enter Try.func26, Try.ntmps26
    go_wp2_with fail
    go_ret
    exact ⟨ret_bool HF.out.symm, x.end_ ((below_alloc _).alloc (by simp) _)⟩
set_option maxHeartbeats 4000000 in
theorem set_to_false {A : Option Addr} {c : List Bool} {ca : Nat} (hc : ColsAt W A c) (s : SetV) (h1 : 1 ≤ s.col) (hk : R.colAt c s.col = some false) (hop : s.op = 1) (x : Lt W) :
    Calls Try.prog 26 #[.agg #[.slice A c.length ca], .agg #[.int .i64 s.col, .int .i64 s.op, .int .i64 s.src, .int .i64 s.oth, .bool s.v.t, .int .i64 s.v.n, .string s.v.s]] x.1 fun e w' => e = .returned (.bool (R.maySet c s)) ∧ ∃ y : Lt W, w' = y.1 := by
  obtain ⟨i0, i1, _⟩ := R.colAt_some hk
  obtain ⟨b, o, rfl, hcell⟩ := hc.at_ hk
  have hnum : R.isNum c s.col = true := by simp [R.isNum, hk]
  have E0 := Lib.hid hnum
  have d : decide (s.col < 1) = false := decide_eq_false (by omega)
  have d2 : decide ((c.length : Int) ≤ s.col) = false := decide_eq_false (by omega)
  have hmay : R.maySet c s = (if s.op = 1 then s.v.right && decide (s.v.t = false) else if s.op = 2 then decide (R.colAt c s.src = some false) else if s.op = 3 ∨ s.op = 4 ∨ s.op = 5 then !false && (R.isNum c s.src && (s.v.right && !s.v.t)) else if s.op = 6 then !false && (R.isNum c s.src && R.isNum c s.oth) else false) := by
    unfold R.maySet
    rw [hk]
    simp only []
    rw [decide_eq_true h1, Bool.true_and]
  clear hk hnum
  cases hr : s.v.right
  · have ER := Lib.hid hr
    have HF := Lib.hid (show R.maySet c s = false by rw [hmay]; simp [hop, hr])
    clear hmay hr
    go_enter Try.func26, Try.ntmps26
    go_wp2_with fail
    refine calls_here fun W1 hW1 => ?_
    have hb0 : Below W.heap.size W W1 := hW1 ▸ x.more2 _ _
    have hc1 := hc.below hb0
    have w0 : W1.cell? ⟨x.1.heap.size, 0, none⟩ = some (.slice (some ⟨b, o, none⟩) c.length ca) := by rw [hW1]; simp
    have w1 : W1.cell? ⟨x.1.heap.size + 1, 0, none⟩ = some (.int .i64 s.col) := by rw [hW1]; simp
    have w2 : W1.cell? ⟨x.1.heap.size + 1, 1, none⟩ = some (.int .i64 s.op) := by rw [hW1]; simp <;> omega
    have w3 : W1.cell? ⟨x.1.heap.size + 1, 2, none⟩ = some (.int .i64 s.src) := by rw [hW1]; simp
    have w4 : W1.cell? ⟨x.1.heap.size + 1, 3, none⟩ = some (.int .i64 s.oth) := by rw [hW1]; simp
    have w5 : W1.cell? ⟨x.1.heap.size + 1, 4, none⟩ = some (.bool s.v.t) := by rw [hW1]; simp
    have w6 : W1.cell? ⟨x.1.heap.size + 1, 5, none⟩ = some (.int .i64 s.v.n) := by rw [hW1]; simp
    have w7 : W1.cell? ⟨x.1.heap.size + 1, 6, none⟩ = some (.string s.v.s) := by rw [hW1]; simp
    have z0 := fun z : Lt W1 => z.cell w0
    have z1 := fun z : Lt W1 => z.cell w1
    have z2 := fun z : Lt W1 => z.cell w2
    have z3 := fun z : Lt W1 => z.cell w3
    have z4 := fun z : Lt W1 => z.cell w4
    have z5 := fun z : Lt W1 => z.cell w5
    have z6 := fun z : Lt W1 => z.cell w6
    have z7 := fun z : Lt W1 => z.cell w7
    clear hW1 w0 w1 w2 w3 w4 w5 w6 w7
    have zc := fun z : Lt W1 => z.old hb0 hcell
    refine (rvright_is ER.out (Lt.base W1)).mono ?_; rintro e w' ⟨rfl, y, rfl⟩
    go_wp2_with fail
    refine wp_region_pure _ (by kernel_rfl) (by kernel_rfl) ?_
    repeat (go_big_quiet_step (fail))
    refine wpQuiet_nil ?_; intro _ hw'; obtain ⟨y, rfl⟩ := hw'
    go_wp2_with fail
    go_ret
    first | exact ⟨ret_bool HF.out.symm, y.via hb0, rfl⟩ | exact ⟨ret_bool (by rw [HF.out]; simp), y.via hb0, rfl⟩ | exact ⟨ret_bool (by rw [HF.out]; cases s.v.t <;> rfl), y.via hb0, rfl⟩
  · have ER := Lib.hid hr
    have HF := Lib.hid (show R.maySet c s = decide (s.v.t = false) by rw [hmay]; simp [hop, hr])
    clear hmay hr
    go_enter Try.func26, Try.ntmps26
    go_wp2_with fail
    refine calls_here fun W1 hW1 => ?_
    have hb0 : Below W.heap.size W W1 := hW1 ▸ x.more2 _ _
    have hc1 := hc.below hb0
    have w0 : W1.cell? ⟨x.1.heap.size, 0, none⟩ = some (.slice (some ⟨b, o, none⟩) c.length ca) := by rw [hW1]; simp
    have w1 : W1.cell? ⟨x.1.heap.size + 1, 0, none⟩ = some (.int .i64 s.col) := by rw [hW1]; simp
    have w2 : W1.cell? ⟨x.1.heap.size + 1, 1, none⟩ = some (.int .i64 s.op) := by rw [hW1]; simp <;> omega
    have w3 : W1.cell? ⟨x.1.heap.size + 1, 2, none⟩ = some (.int .i64 s.src) := by rw [hW1]; simp
    have w4 : W1.cell? ⟨x.1.heap.size + 1, 3, none⟩ = some (.int .i64 s.oth) := by rw [hW1]; simp
    have w5 : W1.cell? ⟨x.1.heap.size + 1, 4, none⟩ = some (.bool s.v.t) := by rw [hW1]; simp
    have w6 : W1.cell? ⟨x.1.heap.size + 1, 5, none⟩ = some (.int .i64 s.v.n) := by rw [hW1]; simp
    have w7 : W1.cell? ⟨x.1.heap.size + 1, 6, none⟩ = some (.string s.v.s) := by rw [hW1]; simp
    have z0 := fun z : Lt W1 => z.cell w0
    have z1 := fun z : Lt W1 => z.cell w1
    have z2 := fun z : Lt W1 => z.cell w2
    have z3 := fun z : Lt W1 => z.cell w3
    have z4 := fun z : Lt W1 => z.cell w4
    have z5 := fun z : Lt W1 => z.cell w5
    have z6 := fun z : Lt W1 => z.cell w6
    have z7 := fun z : Lt W1 => z.cell w7
    clear hW1 w0 w1 w2 w3 w4 w5 w6 w7
    have zc := fun z : Lt W1 => z.old hb0 hcell
    refine (rvright_is ER.out (Lt.base W1)).mono ?_; rintro e w' ⟨rfl, y, rfl⟩
    go_wp2_with fail
    refine wp_region_pure _ (by kernel_rfl) (by kernel_rfl) ?_
    repeat (go_big_quiet_step (fail))
    refine wpQuiet_nil ?_; intro _ hw'; obtain ⟨y, rfl⟩ := hw'
    go_wp2_with fail
    go_ret
    first | exact ⟨ret_bool HF.out.symm, y.via hb0, rfl⟩ | exact ⟨ret_bool (by rw [HF.out]; simp), y.via hb0, rfl⟩ | exact ⟨ret_bool (by rw [HF.out]; cases s.v.t <;> rfl), y.via hb0, rfl⟩
set_option maxHeartbeats 4000000 in
theorem set_copy_false {A : Option Addr} {c : List Bool} {ca : Nat} (hc : ColsAt W A c) (s : SetV) (h1 : 1 ≤ s.col) (hk : R.colAt c s.col = some false) (hop : s.op = 2) (x : Lt W) :
    Calls Try.prog 26 #[.agg #[.slice A c.length ca], .agg #[.int .i64 s.col, .int .i64 s.op, .int .i64 s.src, .int .i64 s.oth, .bool s.v.t, .int .i64 s.v.n, .string s.v.s]] x.1 fun e w' => e = .returned (.bool (R.maySet c s)) ∧ ∃ y : Lt W, w' = y.1 := by
  obtain ⟨i0, i1, _⟩ := R.colAt_some hk
  obtain ⟨b, o, rfl, hcell⟩ := hc.at_ hk
  have hnum : R.isNum c s.col = true := by simp [R.isNum, hk]
  have E0 := Lib.hid hnum
  have d : decide (s.col < 1) = false := decide_eq_false (by omega)
  have d2 : decide ((c.length : Int) ≤ s.col) = false := decide_eq_false (by omega)
  have hmay : R.maySet c s = (if s.op = 1 then s.v.right && decide (s.v.t = false) else if s.op = 2 then decide (R.colAt c s.src = some false) else if s.op = 3 ∨ s.op = 4 ∨ s.op = 5 then !false && (R.isNum c s.src && (s.v.right && !s.v.t)) else if s.op = 6 then !false && (R.isNum c s.src && R.isNum c s.oth) else false) := by
    unfold R.maySet
    rw [hk]
    simp only []
    rw [decide_eq_true h1, Bool.true_and]
  clear hk hnum
  obtain ⟨r, hr⟩ : ∃ r, s.v.right = r := ⟨_, rfl⟩
  have ER := Lib.hid hr
  clear hr
  cases hs : R.colAt c s.src with
  | none =>
    have HF := Lib.hid (show R.maySet c s = false by rw [hmay]; simp [hop, hs])
    rcases R.colAt_none hs with h | h
    · have g1 : decide (0 ≤ s.src) = false := decide_eq_false (by omega)
      clear hmay hs
      go_enter Try.func26, Try.ntmps26
      go_wp2_with fail
      refine calls_here fun W1 hW1 => ?_
      have hb0 : Below W.heap.size W W1 := hW1 ▸ x.more2 _ _
      have hc1 := hc.below hb0
      have w0 : W1.cell? ⟨x.1.heap.size, 0, none⟩ = some (.slice (some ⟨b, o, none⟩) c.length ca) := by rw [hW1]; simp
      have w1 : W1.cell? ⟨x.1.heap.size + 1, 0, none⟩ = some (.int .i64 s.col) := by rw [hW1]; simp
      have w2 : W1.cell? ⟨x.1.heap.size + 1, 1, none⟩ = some (.int .i64 s.op) := by rw [hW1]; simp <;> omega
      have w3 : W1.cell? ⟨x.1.heap.size + 1, 2, none⟩ = some (.int .i64 s.src) := by rw [hW1]; simp
      have w4 : W1.cell? ⟨x.1.heap.size + 1, 3, none⟩ = some (.int .i64 s.oth) := by rw [hW1]; simp
      have w5 : W1.cell? ⟨x.1.heap.size + 1, 4, none⟩ = some (.bool s.v.t) := by rw [hW1]; simp
      have w6 : W1.cell? ⟨x.1.heap.size + 1, 5, none⟩ = some (.int .i64 s.v.n) := by rw [hW1]; simp
      have w7 : W1.cell? ⟨x.1.heap.size + 1, 6, none⟩ = some (.string s.v.s) := by rw [hW1]; simp
      have z0 := fun z : Lt W1 => z.cell w0
      have z1 := fun z : Lt W1 => z.cell w1
      have z2 := fun z : Lt W1 => z.cell w2
      have z3 := fun z : Lt W1 => z.cell w3
      have z4 := fun z : Lt W1 => z.cell w4
      have z5 := fun z : Lt W1 => z.cell w5
      have z6 := fun z : Lt W1 => z.cell w6
      have z7 := fun z : Lt W1 => z.cell w7
      clear hW1 w0 w1 w2 w3 w4 w5 w6 w7
      have zc := fun z : Lt W1 => z.old hb0 hcell
      refine (rvright_is ER.out (Lt.base W1)).mono ?_; rintro e w' ⟨rfl, y, rfl⟩
      go_wp2_with fail
      refine wp_region_pure _ (by kernel_rfl) (by kernel_rfl) ?_
      repeat (go_big_quiet_step (fail))
      refine wpQuiet_nil ?_; intro _ hw'; obtain ⟨y, rfl⟩ := hw'
      go_wp2_with fail
      go_ret
      first | exact ⟨ret_bool HF.out.symm, y.via hb0, rfl⟩ | exact ⟨ret_bool (by rw [HF.out]; simp), y.via hb0, rfl⟩ | exact ⟨ret_bool (by rw [HF.out]; cases s.v.t <;> rfl), y.via hb0, rfl⟩
    · have g0 : 0 ≤ s.src := by omega
      have g1 : decide (0 ≤ s.src) = true := decide_eq_true g0
      have g2 : decide (s.src < (c.length : Int)) = false := decide_eq_false (by omega)
      clear hmay hs
      go_enter Try.func26, Try.ntmps26
      go_wp2_with fail
      refine calls_here fun W1 hW1 => ?_
      have hb0 : Below W.heap.size W W1 := hW1 ▸ x.more2 _ _
      have hc1 := hc.below hb0
      have w0 : W1.cell? ⟨x.1.heap.size, 0, none⟩ = some (.slice (some ⟨b, o, none⟩) c.length ca) := by rw [hW1]; simp
      have w1 : W1.cell? ⟨x.1.heap.size + 1, 0, none⟩ = some (.int .i64 s.col) := by rw [hW1]; simp
      have w2 : W1.cell? ⟨x.1.heap.size + 1, 1, none⟩ = some (.int .i64 s.op) := by rw [hW1]; simp <;> omega
      have w3 : W1.cell? ⟨x.1.heap.size + 1, 2, none⟩ = some (.int .i64 s.src) := by rw [hW1]; simp
      have w4 : W1.cell? ⟨x.1.heap.size + 1, 3, none⟩ = some (.int .i64 s.oth) := by rw [hW1]; simp
      have w5 : W1.cell? ⟨x.1.heap.size + 1, 4, none⟩ = some (.bool s.v.t) := by rw [hW1]; simp
      have w6 : W1.cell? ⟨x.1.heap.size + 1, 5, none⟩ = some (.int .i64 s.v.n) := by rw [hW1]; simp
      have w7 : W1.cell? ⟨x.1.heap.size + 1, 6, none⟩ = some (.string s.v.s) := by rw [hW1]; simp
      have z0 := fun z : Lt W1 => z.cell w0
      have z1 := fun z : Lt W1 => z.cell w1
      have z2 := fun z : Lt W1 => z.cell w2
      have z3 := fun z : Lt W1 => z.cell w3
      have z4 := fun z : Lt W1 => z.cell w4
      have z5 := fun z : Lt W1 => z.cell w5
      have z6 := fun z : Lt W1 => z.cell w6
      have z7 := fun z : Lt W1 => z.cell w7
      clear hW1 w0 w1 w2 w3 w4 w5 w6 w7
      have zc := fun z : Lt W1 => z.old hb0 hcell
      refine (rvright_is ER.out (Lt.base W1)).mono ?_; rintro e w' ⟨rfl, y, rfl⟩
      go_wp2_with fail
      refine wp_region_pure _ (by kernel_rfl) (by kernel_rfl) ?_
      repeat (go_big_quiet_step (fail))
      refine wpQuiet_nil ?_; intro _ hw'; obtain ⟨y, rfl⟩ := hw'
      go_wp2_with fail
      go_ret
      first | exact ⟨ret_bool HF.out.symm, y.via hb0, rfl⟩ | exact ⟨ret_bool (by rw [HF.out]; simp), y.via hb0, rfl⟩ | exact ⟨ret_bool (by rw [HF.out]; cases s.v.t <;> rfl), y.via hb0, rfl⟩
  | some k2 =>
    obtain ⟨j0, j1, _⟩ := R.colAt_some hs
    obtain ⟨b2, o2, hA, hcell2⟩ := hc.at_ hs
    simp only [Option.some.injEq, Addr.mk.injEq, and_true] at hA
    obtain ⟨rfl, rfl⟩ := hA
    have g1 : decide (0 ≤ s.src) = true := decide_eq_true j0
    have g2 : decide (s.src < (c.length : Int)) = true := decide_eq_true j1
    have HF := Lib.hid (show R.maySet c s = (k2 == false) by rw [hmay]; cases k2 <;> simp [hop, hs])
    clear hmay hs
    go_enter Try.func26, Try.ntmps26
    go_wp2_with fail
    refine calls_here fun W1 hW1 => ?_
    have hb0 : Below W.heap.size W W1 := hW1 ▸ x.more2 _ _
    have hc1 := hc.below hb0
    have w0 : W1.cell? ⟨x.1.heap.size, 0, none⟩ = some (.slice (some ⟨b, o, none⟩) c.length ca) := by rw [hW1]; simp
    have w1 : W1.cell? ⟨x.1.heap.size + 1, 0, none⟩ = some (.int .i64 s.col) := by rw [hW1]; simp
    have w2 : W1.cell? ⟨x.1.heap.size + 1, 1, none⟩ = some (.int .i64 s.op) := by rw [hW1]; simp <;> omega
    have w3 : W1.cell? ⟨x.1.heap.size + 1, 2, none⟩ = some (.int .i64 s.src) := by rw [hW1]; simp
    have w4 : W1.cell? ⟨x.1.heap.size + 1, 3, none⟩ = some (.int .i64 s.oth) := by rw [hW1]; simp
    have w5 : W1.cell? ⟨x.1.heap.size + 1, 4, none⟩ = some (.bool s.v.t) := by rw [hW1]; simp
    have w6 : W1.cell? ⟨x.1.heap.size + 1, 5, none⟩ = some (.int .i64 s.v.n) := by rw [hW1]; simp
    have w7 : W1.cell? ⟨x.1.heap.size + 1, 6, none⟩ = some (.string s.v.s) := by rw [hW1]; simp
    have z0 := fun z : Lt W1 => z.cell w0
    have z1 := fun z : Lt W1 => z.cell w1
    have z2 := fun z : Lt W1 => z.cell w2
    have z3 := fun z : Lt W1 => z.cell w3
    have z4 := fun z : Lt W1 => z.cell w4
    have z5 := fun z : Lt W1 => z.cell w5
    have z6 := fun z : Lt W1 => z.cell w6
    have z7 := fun z : Lt W1 => z.cell w7
    clear hW1 w0 w1 w2 w3 w4 w5 w6 w7
    have zc := fun z : Lt W1 => z.old hb0 hcell
    have zd := fun z : Lt W1 => z.old hb0 hcell2
    refine (rvright_is ER.out (Lt.base W1)).mono ?_; rintro e w' ⟨rfl, y, rfl⟩
    go_wp2_with fail
    refine wp_region_pure _ (by kernel_rfl) (by kernel_rfl) ?_
    repeat (go_big_quiet_step (fail))
    refine wpQuiet_nil ?_; intro _ hw'; obtain ⟨y, rfl⟩ := hw'
    go_wp2_with fail
    go_ret
    first | exact ⟨ret_bool HF.out.symm, y.via hb0, rfl⟩ | exact ⟨ret_bool (by rw [HF.out]; simp), y.via hb0, rfl⟩ | exact ⟨ret_bool (by rw [HF.out]; cases s.v.t <;> rfl), y.via hb0, rfl⟩
set_option maxHeartbeats 4000000 in
theorem set_3_false {A : Option Addr} {c : List Bool} {ca : Nat} (hc : ColsAt W A c) (s : SetV) (h1 : 1 ≤ s.col) (hk : R.colAt c s.col = some false) (hop : s.op = 3) (x : Lt W) :
    Calls Try.prog 26 #[.agg #[.slice A c.length ca], .agg #[.int .i64 s.col, .int .i64 s.op, .int .i64 s.src, .int .i64 s.oth, .bool s.v.t, .int .i64 s.v.n, .string s.v.s]] x.1 fun e w' => e = .returned (.bool (R.maySet c s)) ∧ ∃ y : Lt W, w' = y.1 := by
  obtain ⟨i0, i1, _⟩ := R.colAt_some hk
  obtain ⟨b, o, rfl, hcell⟩ := hc.at_ hk
  have hnum : R.isNum c s.col = true := by simp [R.isNum, hk]
  have E0 := Lib.hid hnum
  have d : decide (s.col < 1) = false := decide_eq_false (by omega)
  have d2 : decide ((c.length : Int) ≤ s.col) = false := decide_eq_false (by omega)
  have hmay : R.maySet c s = (if s.op = 1 then s.v.right && decide (s.v.t = false) else if s.op = 2 then decide (R.colAt c s.src = some false) else if s.op = 3 ∨ s.op = 4 ∨ s.op = 5 then !false && (R.isNum c s.src && (s.v.right && !s.v.t)) else if s.op = 6 then !false && (R.isNum c s.src && R.isNum c s.oth) else false) := by
    unfold R.maySet
    rw [hk]
    simp only []
    rw [decide_eq_true h1, Bool.true_and]
  clear hk hnum
  cases e1 : R.isNum c s.src
  · cases hr : s.v.right
    · have ER := Lib.hid hr
      have HF := Lib.hid (show R.maySet c s = false by rw [hmay]; simp [hop, e1, hr])
      have E1 := Lib.hid e1
      clear hmay hr e1
      go_enter Try.func26, Try.ntmps26
      go_wp2_with fail
      refine calls_here fun W1 hW1 => ?_
      have hb0 : Below W.heap.size W W1 := hW1 ▸ x.more2 _ _
      have hc1 := hc.below hb0
      have w0 : W1.cell? ⟨x.1.heap.size, 0, none⟩ = some (.slice (some ⟨b, o, none⟩) c.length ca) := by rw [hW1]; simp
      have w1 : W1.cell? ⟨x.1.heap.size + 1, 0, none⟩ = some (.int .i64 s.col) := by rw [hW1]; simp
      have w2 : W1.cell? ⟨x.1.heap.size + 1, 1, none⟩ = some (.int .i64 s.op) := by rw [hW1]; simp <;> omega
      have w3 : W1.cell? ⟨x.1.heap.size + 1, 2, none⟩ = some (.int .i64 s.src) := by rw [hW1]; simp
      have w4 : W1.cell? ⟨x.1.heap.size + 1, 3, none⟩ = some (.int .i64 s.oth) := by rw [hW1]; simp
      have w5 : W1.cell? ⟨x.1.heap.size + 1, 4, none⟩ = some (.bool s.v.t) := by rw [hW1]; simp
      have w6 : W1.cell? ⟨x.1.heap.size + 1, 5, none⟩ = some (.int .i64 s.v.n) := by rw [hW1]; simp
      have w7 : W1.cell? ⟨x.1.heap.size + 1, 6, none⟩ = some (.string s.v.s) := by rw [hW1]; simp
      have z0 := fun z : Lt W1 => z.cell w0
      have z1 := fun z : Lt W1 => z.cell w1
      have z2 := fun z : Lt W1 => z.cell w2
      have z3 := fun z : Lt W1 => z.cell w3
      have z4 := fun z : Lt W1 => z.cell w4
      have z5 := fun z : Lt W1 => z.cell w5
      have z6 := fun z : Lt W1 => z.cell w6
      have z7 := fun z : Lt W1 => z.cell w7
      clear hW1 w0 w1 w2 w3 w4 w5 w6 w7
      have zc := fun z : Lt W1 => z.old hb0 hcell
      refine (rvright_is ER.out (Lt.base W1)).mono ?_; rintro e w' ⟨rfl, y, rfl⟩
      go_wp2_with fail
      refine (number_is hc1 E0.out _).mono ?_; rintro e w' ⟨rfl, y, rfl⟩
      go_wp2_with fail
      refine (number_is hc1 E1.out _).mono ?_; rintro e w' ⟨rfl, y, rfl⟩
      go_wp2_with fail
      go_ret
      first | exact ⟨ret_bool HF.out.symm, y.via hb0, rfl⟩ | exact ⟨ret_bool (by rw [HF.out]; simp), y.via hb0, rfl⟩ | exact ⟨ret_bool (by rw [HF.out]; cases s.v.t <;> rfl), y.via hb0, rfl⟩
    · have ER := Lib.hid hr
      have HF := Lib.hid (show R.maySet c s = false by rw [hmay]; simp [hop, e1, hr])
      have E1 := Lib.hid e1
      clear hmay hr e1
      go_enter Try.func26, Try.ntmps26
      go_wp2_with fail
      refine calls_here fun W1 hW1 => ?_
      have hb0 : Below W.heap.size W W1 := hW1 ▸ x.more2 _ _
      have hc1 := hc.below hb0
      have w0 : W1.cell? ⟨x.1.heap.size, 0, none⟩ = some (.slice (some ⟨b, o, none⟩) c.length ca) := by rw [hW1]; simp
      have w1 : W1.cell? ⟨x.1.heap.size + 1, 0, none⟩ = some (.int .i64 s.col) := by rw [hW1]; simp
      have w2 : W1.cell? ⟨x.1.heap.size + 1, 1, none⟩ = some (.int .i64 s.op) := by rw [hW1]; simp <;> omega
      have w3 : W1.cell? ⟨x.1.heap.size + 1, 2, none⟩ = some (.int .i64 s.src) := by rw [hW1]; simp
      have w4 : W1.cell? ⟨x.1.heap.size + 1, 3, none⟩ = some (.int .i64 s.oth) := by rw [hW1]; simp
      have w5 : W1.cell? ⟨x.1.heap.size + 1, 4, none⟩ = some (.bool s.v.t) := by rw [hW1]; simp
      have w6 : W1.cell? ⟨x.1.heap.size + 1, 5, none⟩ = some (.int .i64 s.v.n) := by rw [hW1]; simp
      have w7 : W1.cell? ⟨x.1.heap.size + 1, 6, none⟩ = some (.string s.v.s) := by rw [hW1]; simp
      have z0 := fun z : Lt W1 => z.cell w0
      have z1 := fun z : Lt W1 => z.cell w1
      have z2 := fun z : Lt W1 => z.cell w2
      have z3 := fun z : Lt W1 => z.cell w3
      have z4 := fun z : Lt W1 => z.cell w4
      have z5 := fun z : Lt W1 => z.cell w5
      have z6 := fun z : Lt W1 => z.cell w6
      have z7 := fun z : Lt W1 => z.cell w7
      clear hW1 w0 w1 w2 w3 w4 w5 w6 w7
      have zc := fun z : Lt W1 => z.old hb0 hcell
      refine (rvright_is ER.out (Lt.base W1)).mono ?_; rintro e w' ⟨rfl, y, rfl⟩
      go_wp2_with fail
      refine (number_is hc1 E0.out _).mono ?_; rintro e w' ⟨rfl, y, rfl⟩
      go_wp2_with fail
      refine (number_is hc1 E1.out _).mono ?_; rintro e w' ⟨rfl, y, rfl⟩
      go_wp2_with fail
      go_ret
      first | exact ⟨ret_bool HF.out.symm, y.via hb0, rfl⟩ | exact ⟨ret_bool (by rw [HF.out]; simp), y.via hb0, rfl⟩ | exact ⟨ret_bool (by rw [HF.out]; cases s.v.t <;> rfl), y.via hb0, rfl⟩
  · cases hr : s.v.right
    · have ER := Lib.hid hr
      have HF := Lib.hid (show R.maySet c s = false by rw [hmay]; simp [hop, e1, hr])
      have E1 := Lib.hid e1
      clear hmay hr e1
      go_enter Try.func26, Try.ntmps26
      go_wp2_with fail
      refine calls_here fun W1 hW1 => ?_
      have hb0 : Below W.heap.size W W1 := hW1 ▸ x.more2 _ _
      have hc1 := hc.below hb0
      have w0 : W1.cell? ⟨x.1.heap.size, 0, none⟩ = some (.slice (some ⟨b, o, none⟩) c.length ca) := by rw [hW1]; simp
      have w1 : W1.cell? ⟨x.1.heap.size + 1, 0, none⟩ = some (.int .i64 s.col) := by rw [hW1]; simp
      have w2 : W1.cell? ⟨x.1.heap.size + 1, 1, none⟩ = some (.int .i64 s.op) := by rw [hW1]; simp <;> omega
      have w3 : W1.cell? ⟨x.1.heap.size + 1, 2, none⟩ = some (.int .i64 s.src) := by rw [hW1]; simp
      have w4 : W1.cell? ⟨x.1.heap.size + 1, 3, none⟩ = some (.int .i64 s.oth) := by rw [hW1]; simp
      have w5 : W1.cell? ⟨x.1.heap.size + 1, 4, none⟩ = some (.bool s.v.t) := by rw [hW1]; simp
      have w6 : W1.cell? ⟨x.1.heap.size + 1, 5, none⟩ = some (.int .i64 s.v.n) := by rw [hW1]; simp
      have w7 : W1.cell? ⟨x.1.heap.size + 1, 6, none⟩ = some (.string s.v.s) := by rw [hW1]; simp
      have z0 := fun z : Lt W1 => z.cell w0
      have z1 := fun z : Lt W1 => z.cell w1
      have z2 := fun z : Lt W1 => z.cell w2
      have z3 := fun z : Lt W1 => z.cell w3
      have z4 := fun z : Lt W1 => z.cell w4
      have z5 := fun z : Lt W1 => z.cell w5
      have z6 := fun z : Lt W1 => z.cell w6
      have z7 := fun z : Lt W1 => z.cell w7
      clear hW1 w0 w1 w2 w3 w4 w5 w6 w7
      have zc := fun z : Lt W1 => z.old hb0 hcell
      refine (rvright_is ER.out (Lt.base W1)).mono ?_; rintro e w' ⟨rfl, y, rfl⟩
      go_wp2_with fail
      refine (number_is hc1 E0.out _).mono ?_; rintro e w' ⟨rfl, y, rfl⟩
      go_wp2_with fail
      refine (number_is hc1 E1.out _).mono ?_; rintro e w' ⟨rfl, y, rfl⟩
      go_wp2_with fail
      go_ret
      first | exact ⟨ret_bool HF.out.symm, y.via hb0, rfl⟩ | exact ⟨ret_bool (by rw [HF.out]; simp), y.via hb0, rfl⟩ | exact ⟨ret_bool (by rw [HF.out]; cases s.v.t <;> rfl), y.via hb0, rfl⟩
    · have ER := Lib.hid hr
      have HF := Lib.hid (show R.maySet c s = !s.v.t by rw [hmay]; simp [hop, e1, hr])
      have E1 := Lib.hid e1
      clear hmay hr e1
      go_enter Try.func26, Try.ntmps26
      go_wp2_with fail
      refine calls_here fun W1 hW1 => ?_
      have hb0 : Below W.heap.size W W1 := hW1 ▸ x.more2 _ _
      have hc1 := hc.below hb0
      have w0 : W1.cell? ⟨x.1.heap.size, 0, none⟩ = some (.slice (some ⟨b, o, none⟩) c.length ca) := by rw [hW1]; simp
      have w1 : W1.cell? ⟨x.1.heap.size + 1, 0, none⟩ = some (.int .i64 s.col) := by rw [hW1]; simp
      have w2 : W1.cell? ⟨x.1.heap.size + 1, 1, none⟩ = some (.int .i64 s.op) := by rw [hW1]; simp <;> omega
      have w3 : W1.cell? ⟨x.1.heap.size + 1, 2, none⟩ = some (.int .i64 s.src) := by rw [hW1]; simp
      have w4 : W1.cell? ⟨x.1.heap.size + 1, 3, none⟩ = some (.int .i64 s.oth) := by rw [hW1]; simp
      have w5 : W1.cell? ⟨x.1.heap.size + 1, 4, none⟩ = some (.bool s.v.t) := by rw [hW1]; simp
      have w6 : W1.cell? ⟨x.1.heap.size + 1, 5, none⟩ = some (.int .i64 s.v.n) := by rw [hW1]; simp
      have w7 : W1.cell? ⟨x.1.heap.size + 1, 6, none⟩ = some (.string s.v.s) := by rw [hW1]; simp
      have z0 := fun z : Lt W1 => z.cell w0
      have z1 := fun z : Lt W1 => z.cell w1
      have z2 := fun z : Lt W1 => z.cell w2
      have z3 := fun z : Lt W1 => z.cell w3
      have z4 := fun z : Lt W1 => z.cell w4
      have z5 := fun z : Lt W1 => z.cell w5
      have z6 := fun z : Lt W1 => z.cell w6
      have z7 := fun z : Lt W1 => z.cell w7
      clear hW1 w0 w1 w2 w3 w4 w5 w6 w7
      have zc := fun z : Lt W1 => z.old hb0 hcell
      refine (rvright_is ER.out (Lt.base W1)).mono ?_; rintro e w' ⟨rfl, y, rfl⟩
      go_wp2_with fail
      refine (number_is hc1 E0.out _).mono ?_; rintro e w' ⟨rfl, y, rfl⟩
      go_wp2_with fail
      refine (number_is hc1 E1.out _).mono ?_; rintro e w' ⟨rfl, y, rfl⟩
      go_wp2_with fail
      go_ret
      first | exact ⟨ret_bool HF.out.symm, y.via hb0, rfl⟩ | exact ⟨ret_bool (by rw [HF.out]; simp), y.via hb0, rfl⟩ | exact ⟨ret_bool (by rw [HF.out]; cases s.v.t <;> rfl), y.via hb0, rfl⟩
set_option maxHeartbeats 4000000 in
theorem set_4_false {A : Option Addr} {c : List Bool} {ca : Nat} (hc : ColsAt W A c) (s : SetV) (h1 : 1 ≤ s.col) (hk : R.colAt c s.col = some false) (hop : s.op = 4) (x : Lt W) :
    Calls Try.prog 26 #[.agg #[.slice A c.length ca], .agg #[.int .i64 s.col, .int .i64 s.op, .int .i64 s.src, .int .i64 s.oth, .bool s.v.t, .int .i64 s.v.n, .string s.v.s]] x.1 fun e w' => e = .returned (.bool (R.maySet c s)) ∧ ∃ y : Lt W, w' = y.1 := by
  obtain ⟨i0, i1, _⟩ := R.colAt_some hk
  obtain ⟨b, o, rfl, hcell⟩ := hc.at_ hk
  have hnum : R.isNum c s.col = true := by simp [R.isNum, hk]
  have E0 := Lib.hid hnum
  have d : decide (s.col < 1) = false := decide_eq_false (by omega)
  have d2 : decide ((c.length : Int) ≤ s.col) = false := decide_eq_false (by omega)
  have hmay : R.maySet c s = (if s.op = 1 then s.v.right && decide (s.v.t = false) else if s.op = 2 then decide (R.colAt c s.src = some false) else if s.op = 3 ∨ s.op = 4 ∨ s.op = 5 then !false && (R.isNum c s.src && (s.v.right && !s.v.t)) else if s.op = 6 then !false && (R.isNum c s.src && R.isNum c s.oth) else false) := by
    unfold R.maySet
    rw [hk]
    simp only []
    rw [decide_eq_true h1, Bool.true_and]
  clear hk hnum
  cases e1 : R.isNum c s.src
  · cases hr : s.v.right
    · have ER := Lib.hid hr
      have HF := Lib.hid (show R.maySet c s = false by rw [hmay]; simp [hop, e1, hr])
      have E1 := Lib.hid e1
      clear hmay hr e1
      go_enter Try.func26, Try.ntmps26
      go_wp2_with fail
      refine calls_here fun W1 hW1 => ?_
      have hb0 : Below W.heap.size W W1 := hW1 ▸ x.more2 _ _
      have hc1 := hc.below hb0
      have w0 : W1.cell? ⟨x.1.heap.size, 0, none⟩ = some (.slice (some ⟨b, o, none⟩) c.length ca) := by rw [hW1]; simp
      have w1 : W1.cell? ⟨x.1.heap.size + 1, 0, none⟩ = some (.int .i64 s.col) := by rw [hW1]; simp
      have w2 : W1.cell? ⟨x.1.heap.size + 1, 1, none⟩ = some (.int .i64 s.op) := by rw [hW1]; simp <;> omega
      have w3 : W1.cell? ⟨x.1.heap.size + 1, 2, none⟩ = some (.int .i64 s.src) := by rw [hW1]; simp
      have w4 : W1.cell? ⟨x.1.heap.size + 1, 3, none⟩ = some (.int .i64 s.oth) := by rw [hW1]; simp
      have w5 : W1.cell? ⟨x.1.heap.size + 1, 4, none⟩ = some (.bool s.v.t) := by rw [hW1]; simp
      have w6 : W1.cell? ⟨x.1.heap.size + 1, 5, none⟩ = some (.int .i64 s.v.n) := by rw [hW1]; simp
      have w7 : W1.cell? ⟨x.1.heap.size + 1, 6, none⟩ = some (.string s.v.s) := by rw [hW1]; simp
      have z0 := fun z : Lt W1 => z.cell w0
      have z1 := fun z : Lt W1 => z.cell w1
      have z2 := fun z : Lt W1 => z.cell w2
      have z3 := fun z : Lt W1 => z.cell w3
      have z4 := fun z : Lt W1 => z.cell w4
      have z5 := fun z : Lt W1 => z.cell w5
      have z6 := fun z : Lt W1 => z.cell w6
      have z7 := fun z : Lt W1 => z.cell w7
      clear hW1 w0 w1 w2 w3 w4 w5 w6 w7
      have zc := fun z : Lt W1 => z.old hb0 hcell
      refine (rvright_is ER.out (Lt.base W1)).mono ?_; rintro e w' ⟨rfl, y, rfl⟩
      go_wp2_with fail
      refine (number_is hc1 E0.out _).mono ?_; rintro e w' ⟨rfl, y, rfl⟩
      go_wp2_with fail
      refine (number_is hc1 E1.out _).mono ?_; rintro e w' ⟨rfl, y, rfl⟩
      go_wp2_with fail
      go_ret
      first | exact ⟨ret_bool HF.out.symm, y.via hb0, rfl⟩ | exact ⟨ret_bool (by rw [HF.out]; simp), y.via hb0, rfl⟩ | exact ⟨ret_bool (by rw [HF.out]; cases s.v.t <;> rfl), y.via hb0, rfl⟩
    · have ER := Lib.hid hr
      have HF := Lib.hid (show R.maySet c s = false by rw [hmay]; simp [hop, e1, hr])
      have E1 := Lib.hid e1
      clear hmay hr e1
      go_enter Try.func26, Try.ntmps26
      go_wp2_with fail
      refine calls_here fun W1 hW1 => ?_
      have hb0 : Below W.heap.size W W1 := hW1 ▸ x.more2 _ _
      have hc1 := hc.below hb0
      have w0 : W1.cell? ⟨x.1.heap.size, 0, none⟩ = some (.slice (some ⟨b, o, none⟩) c.length ca) := by rw [hW1]; simp
      have w1 : W1.cell? ⟨x.1.heap.size + 1, 0, none⟩ = some (.int .i64 s.col) := by rw [hW1]; simp
      have w2 : W1.cell? ⟨x.1.heap.size + 1, 1, none⟩ = some (.int .i64 s.op) := by rw [hW1]; simp <;> omega
      have w3 : W1.cell? ⟨x.1.heap.size + 1, 2, none⟩ = some (.int .i64 s.src) := by rw [hW1]; simp
      have w4 : W1.cell? ⟨x.1.heap.size + 1, 3, none⟩ = some (.int .i64 s.oth) := by rw [hW1]; simp
      have w5 : W1.cell? ⟨x.1.heap.size + 1, 4, none⟩ = some (.bool s.v.t) := by rw [hW1]; simp
      have w6 : W1.cell? ⟨x.1.heap.size + 1, 5, none⟩ = some (.int .i64 s.v.n) := by rw [hW1]; simp
      have w7 : W1.cell? ⟨x.1.heap.size + 1, 6, none⟩ = some (.string s.v.s) := by rw [hW1]; simp
      have z0 := fun z : Lt W1 => z.cell w0
      have z1 := fun z : Lt W1 => z.cell w1
      have z2 := fun z : Lt W1 => z.cell w2
      have z3 := fun z : Lt W1 => z.cell w3
      have z4 := fun z : Lt W1 => z.cell w4
      have z5 := fun z : Lt W1 => z.cell w5
      have z6 := fun z : Lt W1 => z.cell w6
      have z7 := fun z : Lt W1 => z.cell w7
      clear hW1 w0 w1 w2 w3 w4 w5 w6 w7
      have zc := fun z : Lt W1 => z.old hb0 hcell
      refine (rvright_is ER.out (Lt.base W1)).mono ?_; rintro e w' ⟨rfl, y, rfl⟩
      go_wp2_with fail
      refine (number_is hc1 E0.out _).mono ?_; rintro e w' ⟨rfl, y, rfl⟩
      go_wp2_with fail
      refine (number_is hc1 E1.out _).mono ?_; rintro e w' ⟨rfl, y, rfl⟩
      go_wp2_with fail
      go_ret
      first | exact ⟨ret_bool HF.out.symm, y.via hb0, rfl⟩ | exact ⟨ret_bool (by rw [HF.out]; simp), y.via hb0, rfl⟩ | exact ⟨ret_bool (by rw [HF.out]; cases s.v.t <;> rfl), y.via hb0, rfl⟩
  · cases hr : s.v.right
    · have ER := Lib.hid hr
      have HF := Lib.hid (show R.maySet c s = false by rw [hmay]; simp [hop, e1, hr])
      have E1 := Lib.hid e1
      clear hmay hr e1
      go_enter Try.func26, Try.ntmps26
      go_wp2_with fail
      refine calls_here fun W1 hW1 => ?_
      have hb0 : Below W.heap.size W W1 := hW1 ▸ x.more2 _ _
      have hc1 := hc.below hb0
      have w0 : W1.cell? ⟨x.1.heap.size, 0, none⟩ = some (.slice (some ⟨b, o, none⟩) c.length ca) := by rw [hW1]; simp
      have w1 : W1.cell? ⟨x.1.heap.size + 1, 0, none⟩ = some (.int .i64 s.col) := by rw [hW1]; simp
      have w2 : W1.cell? ⟨x.1.heap.size + 1, 1, none⟩ = some (.int .i64 s.op) := by rw [hW1]; simp <;> omega
      have w3 : W1.cell? ⟨x.1.heap.size + 1, 2, none⟩ = some (.int .i64 s.src) := by rw [hW1]; simp
      have w4 : W1.cell? ⟨x.1.heap.size + 1, 3, none⟩ = some (.int .i64 s.oth) := by rw [hW1]; simp
      have w5 : W1.cell? ⟨x.1.heap.size + 1, 4, none⟩ = some (.bool s.v.t) := by rw [hW1]; simp
      have w6 : W1.cell? ⟨x.1.heap.size + 1, 5, none⟩ = some (.int .i64 s.v.n) := by rw [hW1]; simp
      have w7 : W1.cell? ⟨x.1.heap.size + 1, 6, none⟩ = some (.string s.v.s) := by rw [hW1]; simp
      have z0 := fun z : Lt W1 => z.cell w0
      have z1 := fun z : Lt W1 => z.cell w1
      have z2 := fun z : Lt W1 => z.cell w2
      have z3 := fun z : Lt W1 => z.cell w3
      have z4 := fun z : Lt W1 => z.cell w4
      have z5 := fun z : Lt W1 => z.cell w5
      have z6 := fun z : Lt W1 => z.cell w6
      have z7 := fun z : Lt W1 => z.cell w7
      clear hW1 w0 w1 w2 w3 w4 w5 w6 w7
      have zc := fun z : Lt W1 => z.old hb0 hcell
      refine (rvright_is ER.out (Lt.base W1)).mono ?_; rintro e w' ⟨rfl, y, rfl⟩
      go_wp2_with fail
      refine (number_is hc1 E0.out _).mono ?_; rintro e w' ⟨rfl, y, rfl⟩
      go_wp2_with fail
      refine (number_is hc1 E1.out _).mono ?_; rintro e w' ⟨rfl, y, rfl⟩
      go_wp2_with fail
      go_ret
      first | exact ⟨ret_bool HF.out.symm, y.via hb0, rfl⟩ | exact ⟨ret_bool (by rw [HF.out]; simp), y.via hb0, rfl⟩ | exact ⟨ret_bool (by rw [HF.out]; cases s.v.t <;> rfl), y.via hb0, rfl⟩
    · have ER := Lib.hid hr
      have HF := Lib.hid (show R.maySet c s = !s.v.t by rw [hmay]; simp [hop, e1, hr])
      have E1 := Lib.hid e1
      clear hmay hr e1
      go_enter Try.func26, Try.ntmps26
      go_wp2_with fail
      refine calls_here fun W1 hW1 => ?_
      have hb0 : Below W.heap.size W W1 := hW1 ▸ x.more2 _ _
      have hc1 := hc.below hb0
      have w0 : W1.cell? ⟨x.1.heap.size, 0, none⟩ = some (.slice (some ⟨b, o, none⟩) c.length ca) := by rw [hW1]; simp
      have w1 : W1.cell? ⟨x.1.heap.size + 1, 0, none⟩ = some (.int .i64 s.col) := by rw [hW1]; simp
      have w2 : W1.cell? ⟨x.1.heap.size + 1, 1, none⟩ = some (.int .i64 s.op) := by rw [hW1]; simp <;> omega
      have w3 : W1.cell? ⟨x.1.heap.size + 1, 2, none⟩ = some (.int .i64 s.src) := by rw [hW1]; simp
      have w4 : W1.cell? ⟨x.1.heap.size + 1, 3, none⟩ = some (.int .i64 s.oth) := by rw [hW1]; simp
      have w5 : W1.cell? ⟨x.1.heap.size + 1, 4, none⟩ = some (.bool s.v.t) := by rw [hW1]; simp
      have w6 : W1.cell? ⟨x.1.heap.size + 1, 5, none⟩ = some (.int .i64 s.v.n) := by rw [hW1]; simp
      have w7 : W1.cell? ⟨x.1.heap.size + 1, 6, none⟩ = some (.string s.v.s) := by rw [hW1]; simp
      have z0 := fun z : Lt W1 => z.cell w0
      have z1 := fun z : Lt W1 => z.cell w1
      have z2 := fun z : Lt W1 => z.cell w2
      have z3 := fun z : Lt W1 => z.cell w3
      have z4 := fun z : Lt W1 => z.cell w4
      have z5 := fun z : Lt W1 => z.cell w5
      have z6 := fun z : Lt W1 => z.cell w6
      have z7 := fun z : Lt W1 => z.cell w7
      clear hW1 w0 w1 w2 w3 w4 w5 w6 w7
      have zc := fun z : Lt W1 => z.old hb0 hcell
      refine (rvright_is ER.out (Lt.base W1)).mono ?_; rintro e w' ⟨rfl, y, rfl⟩
      go_wp2_with fail
      refine (number_is hc1 E0.out _).mono ?_; rintro e w' ⟨rfl, y, rfl⟩
      go_wp2_with fail
      refine (number_is hc1 E1.out _).mono ?_; rintro e w' ⟨rfl, y, rfl⟩
      go_wp2_with fail
      go_ret
      first | exact ⟨ret_bool HF.out.symm, y.via hb0, rfl⟩ | exact ⟨ret_bool (by rw [HF.out]; simp), y.via hb0, rfl⟩ | exact ⟨ret_bool (by rw [HF.out]; cases s.v.t <;> rfl), y.via hb0, rfl⟩
set_option maxHeartbeats 4000000 in
theorem set_5_false {A : Option Addr} {c : List Bool} {ca : Nat} (hc : ColsAt W A c) (s : SetV) (h1 : 1 ≤ s.col) (hk : R.colAt c s.col = some false) (hop : s.op = 5) (x : Lt W) :
    Calls Try.prog 26 #[.agg #[.slice A c.length ca], .agg #[.int .i64 s.col, .int .i64 s.op, .int .i64 s.src, .int .i64 s.oth, .bool s.v.t, .int .i64 s.v.n, .string s.v.s]] x.1 fun e w' => e = .returned (.bool (R.maySet c s)) ∧ ∃ y : Lt W, w' = y.1 := by
  obtain ⟨i0, i1, _⟩ := R.colAt_some hk
  obtain ⟨b, o, rfl, hcell⟩ := hc.at_ hk
  have hnum : R.isNum c s.col = true := by simp [R.isNum, hk]
  have E0 := Lib.hid hnum
  have d : decide (s.col < 1) = false := decide_eq_false (by omega)
  have d2 : decide ((c.length : Int) ≤ s.col) = false := decide_eq_false (by omega)
  have hmay : R.maySet c s = (if s.op = 1 then s.v.right && decide (s.v.t = false) else if s.op = 2 then decide (R.colAt c s.src = some false) else if s.op = 3 ∨ s.op = 4 ∨ s.op = 5 then !false && (R.isNum c s.src && (s.v.right && !s.v.t)) else if s.op = 6 then !false && (R.isNum c s.src && R.isNum c s.oth) else false) := by
    unfold R.maySet
    rw [hk]
    simp only []
    rw [decide_eq_true h1, Bool.true_and]
  clear hk hnum
  cases e1 : R.isNum c s.src
  · cases hr : s.v.right
    · have ER := Lib.hid hr
      have HF := Lib.hid (show R.maySet c s = false by rw [hmay]; simp [hop, e1, hr])
      have E1 := Lib.hid e1
      clear hmay hr e1
      go_enter Try.func26, Try.ntmps26
      go_wp2_with fail
      refine calls_here fun W1 hW1 => ?_
      have hb0 : Below W.heap.size W W1 := hW1 ▸ x.more2 _ _
      have hc1 := hc.below hb0
      have w0 : W1.cell? ⟨x.1.heap.size, 0, none⟩ = some (.slice (some ⟨b, o, none⟩) c.length ca) := by rw [hW1]; simp
      have w1 : W1.cell? ⟨x.1.heap.size + 1, 0, none⟩ = some (.int .i64 s.col) := by rw [hW1]; simp
      have w2 : W1.cell? ⟨x.1.heap.size + 1, 1, none⟩ = some (.int .i64 s.op) := by rw [hW1]; simp <;> omega
      have w3 : W1.cell? ⟨x.1.heap.size + 1, 2, none⟩ = some (.int .i64 s.src) := by rw [hW1]; simp
      have w4 : W1.cell? ⟨x.1.heap.size + 1, 3, none⟩ = some (.int .i64 s.oth) := by rw [hW1]; simp
      have w5 : W1.cell? ⟨x.1.heap.size + 1, 4, none⟩ = some (.bool s.v.t) := by rw [hW1]; simp
      have w6 : W1.cell? ⟨x.1.heap.size + 1, 5, none⟩ = some (.int .i64 s.v.n) := by rw [hW1]; simp
      have w7 : W1.cell? ⟨x.1.heap.size + 1, 6, none⟩ = some (.string s.v.s) := by rw [hW1]; simp
      have z0 := fun z : Lt W1 => z.cell w0
      have z1 := fun z : Lt W1 => z.cell w1
      have z2 := fun z : Lt W1 => z.cell w2
      have z3 := fun z : Lt W1 => z.cell w3
      have z4 := fun z : Lt W1 => z.cell w4
      have z5 := fun z : Lt W1 => z.cell w5
      have z6 := fun z : Lt W1 => z.cell w6
      have z7 := fun z : Lt W1 => z.cell w7
      clear hW1 w0 w1 w2 w3 w4 w5 w6 w7
      have zc := fun z : Lt W1 => z.old hb0 hcell
      refine (rvright_is ER.out (Lt.base W1)).mono ?_; rintro e w' ⟨rfl, y, rfl⟩
      go_wp2_with fail
      refine (number_is hc1 E0.out _).mono ?_; rintro e w' ⟨rfl, y, rfl⟩
      go_wp2_with fail
      refine (number_is hc1 E1.out _).mono ?_; rintro e w' ⟨rfl, y, rfl⟩
      go_wp2_with fail
      go_ret
      first | exact ⟨ret_bool HF.out.symm, y.via hb0, rfl⟩ | exact ⟨ret_bool (by rw [HF.out]; simp), y.via hb0, rfl⟩ | exact ⟨ret_bool (by rw [HF.out]; cases s.v.t <;> rfl), y.via hb0, rfl⟩
    · have ER := Lib.hid hr
      have HF := Lib.hid (show R.maySet c s = false by rw [hmay]; simp [hop, e1, hr])
      have E1 := Lib.hid e1
      clear hmay hr e1
      go_enter Try.func26, Try.ntmps26
      go_wp2_with fail
      refine calls_here fun W1 hW1 => ?_
      have hb0 : Below W.heap.size W W1 := hW1 ▸ x.more2 _ _
      have hc1 := hc.below hb0
      have w0 : W1.cell? ⟨x.1.heap.size, 0, none⟩ = some (.slice (some ⟨b, o, none⟩) c.length ca) := by rw [hW1]; simp
      have w1 : W1.cell? ⟨x.1.heap.size + 1, 0, none⟩ = some (.int .i64 s.col) := by rw [hW1]; simp
      have w2 : W1.cell? ⟨x.1.heap.size + 1, 1, none⟩ = some (.int .i64 s.op) := by rw [hW1]; simp <;> omega
      have w3 : W1.cell? ⟨x.1.heap.size + 1, 2, none⟩ = some (.int .i64 s.src) := by rw [hW1]; simp
      have w4 : W1.cell? ⟨x.1.heap.size + 1, 3, none⟩ = some (.int .i64 s.oth) := by rw [hW1]; simp
      have w5 : W1.cell? ⟨x.1.heap.size + 1, 4, none⟩ = some (.bool s.v.t) := by rw [hW1]; simp
      have w6 : W1.cell? ⟨x.1.heap.size + 1, 5, none⟩ = some (.int .i64 s.v.n) := by rw [hW1]; simp
      have w7 : W1.cell? ⟨x.1.heap.size + 1, 6, none⟩ = some (.string s.v.s) := by rw [hW1]; simp
      have z0 := fun z : Lt W1 => z.cell w0
      have z1 := fun z : Lt W1 => z.cell w1
      have z2 := fun z : Lt W1 => z.cell w2
      have z3 := fun z : Lt W1 => z.cell w3
      have z4 := fun z : Lt W1 => z.cell w4
      have z5 := fun z : Lt W1 => z.cell w5
      have z6 := fun z : Lt W1 => z.cell w6
      have z7 := fun z : Lt W1 => z.cell w7
      clear hW1 w0 w1 w2 w3 w4 w5 w6 w7
      have zc := fun z : Lt W1 => z.old hb0 hcell
      refine (rvright_is ER.out (Lt.base W1)).mono ?_; rintro e w' ⟨rfl, y, rfl⟩
      go_wp2_with fail
      refine (number_is hc1 E0.out _).mono ?_; rintro e w' ⟨rfl, y, rfl⟩
      go_wp2_with fail
      refine (number_is hc1 E1.out _).mono ?_; rintro e w' ⟨rfl, y, rfl⟩
      go_wp2_with fail
      go_ret
      first | exact ⟨ret_bool HF.out.symm, y.via hb0, rfl⟩ | exact ⟨ret_bool (by rw [HF.out]; simp), y.via hb0, rfl⟩ | exact ⟨ret_bool (by rw [HF.out]; cases s.v.t <;> rfl), y.via hb0, rfl⟩
  · cases hr : s.v.right
    · have ER := Lib.hid hr
      have HF := Lib.hid (show R.maySet c s = false by rw [hmay]; simp [hop, e1, hr])
      have E1 := Lib.hid e1
      clear hmay hr e1
      go_enter Try.func26, Try.ntmps26
      go_wp2_with fail
      refine calls_here fun W1 hW1 => ?_
      have hb0 : Below W.heap.size W W1 := hW1 ▸ x.more2 _ _
      have hc1 := hc.below hb0
      have w0 : W1.cell? ⟨x.1.heap.size, 0, none⟩ = some (.slice (some ⟨b, o, none⟩) c.length ca) := by rw [hW1]; simp
      have w1 : W1.cell? ⟨x.1.heap.size + 1, 0, none⟩ = some (.int .i64 s.col) := by rw [hW1]; simp
      have w2 : W1.cell? ⟨x.1.heap.size + 1, 1, none⟩ = some (.int .i64 s.op) := by rw [hW1]; simp <;> omega
      have w3 : W1.cell? ⟨x.1.heap.size + 1, 2, none⟩ = some (.int .i64 s.src) := by rw [hW1]; simp
      have w4 : W1.cell? ⟨x.1.heap.size + 1, 3, none⟩ = some (.int .i64 s.oth) := by rw [hW1]; simp
      have w5 : W1.cell? ⟨x.1.heap.size + 1, 4, none⟩ = some (.bool s.v.t) := by rw [hW1]; simp
      have w6 : W1.cell? ⟨x.1.heap.size + 1, 5, none⟩ = some (.int .i64 s.v.n) := by rw [hW1]; simp
      have w7 : W1.cell? ⟨x.1.heap.size + 1, 6, none⟩ = some (.string s.v.s) := by rw [hW1]; simp
      have z0 := fun z : Lt W1 => z.cell w0
      have z1 := fun z : Lt W1 => z.cell w1
      have z2 := fun z : Lt W1 => z.cell w2
      have z3 := fun z : Lt W1 => z.cell w3
      have z4 := fun z : Lt W1 => z.cell w4
      have z5 := fun z : Lt W1 => z.cell w5
      have z6 := fun z : Lt W1 => z.cell w6
      have z7 := fun z : Lt W1 => z.cell w7
      clear hW1 w0 w1 w2 w3 w4 w5 w6 w7
      have zc := fun z : Lt W1 => z.old hb0 hcell
      refine (rvright_is ER.out (Lt.base W1)).mono ?_; rintro e w' ⟨rfl, y, rfl⟩
      go_wp2_with fail
      refine (number_is hc1 E0.out _).mono ?_; rintro e w' ⟨rfl, y, rfl⟩
      go_wp2_with fail
      refine (number_is hc1 E1.out _).mono ?_; rintro e w' ⟨rfl, y, rfl⟩
      go_wp2_with fail
      go_ret
      first | exact ⟨ret_bool HF.out.symm, y.via hb0, rfl⟩ | exact ⟨ret_bool (by rw [HF.out]; simp), y.via hb0, rfl⟩ | exact ⟨ret_bool (by rw [HF.out]; cases s.v.t <;> rfl), y.via hb0, rfl⟩
    · have ER := Lib.hid hr
      have HF := Lib.hid (show R.maySet c s = !s.v.t by rw [hmay]; simp [hop, e1, hr])
      have E1 := Lib.hid e1
      clear hmay hr e1
      go_enter Try.func26, Try.ntmps26
      go_wp2_with fail
      refine calls_here fun W1 hW1 => ?_
      have hb0 : Below W.heap.size W W1 := hW1 ▸ x.more2 _ _
      have hc1 := hc.below hb0
      have w0 : W1.cell? ⟨x.1.heap.size, 0, none⟩ = some (.slice (some ⟨b, o, none⟩) c.length ca) := by rw [hW1]; simp
      have w1 : W1.cell? ⟨x.1.heap.size + 1, 0, none⟩ = some (.int .i64 s.col) := by rw [hW1]; simp
      have w2 : W1.cell? ⟨x.1.heap.size + 1, 1, none⟩ = some (.int .i64 s.op) := by rw [hW1]; simp <;> omega
      have w3 : W1.cell? ⟨x.1.heap.size + 1, 2, none⟩ = some (.int .i64 s.src) := by rw [hW1]; simp
      have w4 : W1.cell? ⟨x.1.heap.size + 1, 3, none⟩ = some (.int .i64 s.oth) := by rw [hW1]; simp
      have w5 : W1.cell? ⟨x.1.heap.size + 1, 4, none⟩ = some (.bool s.v.t) := by rw [hW1]; simp
      have w6 : W1.cell? ⟨x.1.heap.size + 1, 5, none⟩ = some (.int .i64 s.v.n) := by rw [hW1]; simp
      have w7 : W1.cell? ⟨x.1.heap.size + 1, 6, none⟩ = some (.string s.v.s) := by rw [hW1]; simp
      have z0 := fun z : Lt W1 => z.cell w0
      have z1 := fun z : Lt W1 => z.cell w1
      have z2 := fun z : Lt W1 => z.cell w2
      have z3 := fun z : Lt W1 => z.cell w3
      have z4 := fun z : Lt W1 => z.cell w4
      have z5 := fun z : Lt W1 => z.cell w5
      have z6 := fun z : Lt W1 => z.cell w6
      have z7 := fun z : Lt W1 => z.cell w7
      clear hW1 w0 w1 w2 w3 w4 w5 w6 w7
      have zc := fun z : Lt W1 => z.old hb0 hcell
      refine (rvright_is ER.out (Lt.base W1)).mono ?_; rintro e w' ⟨rfl, y, rfl⟩
      go_wp2_with fail
      refine (number_is hc1 E0.out _).mono ?_; rintro e w' ⟨rfl, y, rfl⟩
      go_wp2_with fail
      refine (number_is hc1 E1.out _).mono ?_; rintro e w' ⟨rfl, y, rfl⟩
      go_wp2_with fail
      go_ret
      first | exact ⟨ret_bool HF.out.symm, y.via hb0, rfl⟩ | exact ⟨ret_bool (by rw [HF.out]; simp), y.via hb0, rfl⟩ | exact ⟨ret_bool (by rw [HF.out]; cases s.v.t <;> rfl), y.via hb0, rfl⟩
set_option maxHeartbeats 4000000 in
theorem set_sum_false {A : Option Addr} {c : List Bool} {ca : Nat} (hc : ColsAt W A c) (s : SetV) (h1 : 1 ≤ s.col) (hk : R.colAt c s.col = some false) (hop : s.op = 6) (x : Lt W) :
    Calls Try.prog 26 #[.agg #[.slice A c.length ca], .agg #[.int .i64 s.col, .int .i64 s.op, .int .i64 s.src, .int .i64 s.oth, .bool s.v.t, .int .i64 s.v.n, .string s.v.s]] x.1 fun e w' => e = .returned (.bool (R.maySet c s)) ∧ ∃ y : Lt W, w' = y.1 := by
  obtain ⟨i0, i1, _⟩ := R.colAt_some hk
  obtain ⟨b, o, rfl, hcell⟩ := hc.at_ hk
  have hnum : R.isNum c s.col = true := by simp [R.isNum, hk]
  have E0 := Lib.hid hnum
  have d : decide (s.col < 1) = false := decide_eq_false (by omega)
  have d2 : decide ((c.length : Int) ≤ s.col) = false := decide_eq_false (by omega)
  have hmay : R.maySet c s = (if s.op = 1 then s.v.right && decide (s.v.t = false) else if s.op = 2 then decide (R.colAt c s.src = some false) else if s.op = 3 ∨ s.op = 4 ∨ s.op = 5 then !false && (R.isNum c s.src && (s.v.right && !s.v.t)) else if s.op = 6 then !false && (R.isNum c s.src && R.isNum c s.oth) else false) := by
    unfold R.maySet
    rw [hk]
    simp only []
    rw [decide_eq_true h1, Bool.true_and]
  clear hk hnum
  obtain ⟨r, hr⟩ : ∃ r, s.v.right = r := ⟨_, rfl⟩
  have ER := Lib.hid hr
  clear hr
  cases e1 : R.isNum c s.src
  · have HF := Lib.hid (show R.maySet c s = false by rw [hmay]; simp [hop, e1])
    have E1 := Lib.hid e1
    clear hmay e1
    go_enter Try.func26, Try.ntmps26
    go_wp2_with fail
    refine calls_here fun W1 hW1 => ?_
    have hb0 : Below W.heap.size W W1 := hW1 ▸ x.more2 _ _
    have hc1 := hc.below hb0
    have w0 : W1.cell? ⟨x.1.heap.size, 0, none⟩ = some (.slice (some ⟨b, o, none⟩) c.length ca) := by rw [hW1]; simp
    have w1 : W1.cell? ⟨x.1.heap.size + 1, 0, none⟩ = some (.int .i64 s.col) := by rw [hW1]; simp
    have w2 : W1.cell? ⟨x.1.heap.size + 1, 1, none⟩ = some (.int .i64 s.op) := by rw [hW1]; simp <;> omega
    have w3 : W1.cell? ⟨x.1.heap.size + 1, 2, none⟩ = some (.int .i64 s.src) := by rw [hW1]; simp
    have w4 : W1.cell? ⟨x.1.heap.size + 1, 3, none⟩ = some (.int .i64 s.oth) := by rw [hW1]; simp
    have w5 : W1.cell? ⟨x.1.heap.size + 1, 4, none⟩ = some (.bool s.v.t) := by rw [hW1]; simp
    have w6 : W1.cell? ⟨x.1.heap.size + 1, 5, none⟩ = some (.int .i64 s.v.n) := by rw [hW1]; simp
    have w7 : W1.cell? ⟨x.1.heap.size + 1, 6, none⟩ = some (.string s.v.s) := by rw [hW1]; simp
    have z0 := fun z : Lt W1 => z.cell w0
    have z1 := fun z : Lt W1 => z.cell w1
    have z2 := fun z : Lt W1 => z.cell w2
    have z3 := fun z : Lt W1 => z.cell w3
    have z4 := fun z : Lt W1 => z.cell w4
    have z5 := fun z : Lt W1 => z.cell w5
    have z6 := fun z : Lt W1 => z.cell w6
    have z7 := fun z : Lt W1 => z.cell w7
    clear hW1 w0 w1 w2 w3 w4 w5 w6 w7
    have zc := fun z : Lt W1 => z.old hb0 hcell
    refine (rvright_is ER.out (Lt.base W1)).mono ?_; rintro e w' ⟨rfl, y, rfl⟩
    go_wp2_with fail
    refine (number_is hc1 E0.out _).mono ?_; rintro e w' ⟨rfl, y, rfl⟩
    go_wp2_with fail
    refine (number_is hc1 E1.out _).mono ?_; rintro e w' ⟨rfl, y, rfl⟩
    go_wp2_with fail
    go_ret
    first | exact ⟨ret_bool HF.out.symm, y.via hb0, rfl⟩ | exact ⟨ret_bool (by rw [HF.out]; simp), y.via hb0, rfl⟩ | exact ⟨ret_bool (by rw [HF.out]; cases s.v.t <;> rfl), y.via hb0, rfl⟩
  · have HF := Lib.hid (show R.maySet c s = R.isNum c s.oth by rw [hmay]; simp [hop, e1])
    have E1 := Lib.hid e1
    clear hmay e1
    go_enter Try.func26, Try.ntmps26
    go_wp2_with fail
    refine calls_here fun W1 hW1 => ?_
    have hb0 : Below W.heap.size W W1 := hW1 ▸ x.more2 _ _
    have hc1 := hc.below hb0
    have w0 : W1.cell? ⟨x.1.heap.size, 0, none⟩ = some (.slice (some ⟨b, o, none⟩) c.length ca) := by rw [hW1]; simp
    have w1 : W1.cell? ⟨x.1.heap.size + 1, 0, none⟩ = some (.int .i64 s.col) := by rw [hW1]; simp
    have w2 : W1.cell? ⟨x.1.heap.size + 1, 1, none⟩ = some (.int .i64 s.op) := by rw [hW1]; simp <;> omega
    have w3 : W1.cell? ⟨x.1.heap.size + 1, 2, none⟩ = some (.int .i64 s.src) := by rw [hW1]; simp
    have w4 : W1.cell? ⟨x.1.heap.size + 1, 3, none⟩ = some (.int .i64 s.oth) := by rw [hW1]; simp
    have w5 : W1.cell? ⟨x.1.heap.size + 1, 4, none⟩ = some (.bool s.v.t) := by rw [hW1]; simp
    have w6 : W1.cell? ⟨x.1.heap.size + 1, 5, none⟩ = some (.int .i64 s.v.n) := by rw [hW1]; simp
    have w7 : W1.cell? ⟨x.1.heap.size + 1, 6, none⟩ = some (.string s.v.s) := by rw [hW1]; simp
    have z0 := fun z : Lt W1 => z.cell w0
    have z1 := fun z : Lt W1 => z.cell w1
    have z2 := fun z : Lt W1 => z.cell w2
    have z3 := fun z : Lt W1 => z.cell w3
    have z4 := fun z : Lt W1 => z.cell w4
    have z5 := fun z : Lt W1 => z.cell w5
    have z6 := fun z : Lt W1 => z.cell w6
    have z7 := fun z : Lt W1 => z.cell w7
    clear hW1 w0 w1 w2 w3 w4 w5 w6 w7
    have zc := fun z : Lt W1 => z.old hb0 hcell
    refine (rvright_is ER.out (Lt.base W1)).mono ?_; rintro e w' ⟨rfl, y, rfl⟩
    go_wp2_with fail
    refine (number_is hc1 E0.out _).mono ?_; rintro e w' ⟨rfl, y, rfl⟩
    go_wp2_with fail
    refine (number_is hc1 E1.out _).mono ?_; rintro e w' ⟨rfl, y, rfl⟩
    go_wp2_with fail
    refine (number_any hc1 s.oth _).mono ?_; rintro e w' ⟨rfl, y, rfl⟩
    go_wp2_with fail
    go_ret
    first | exact ⟨ret_bool HF.out.symm, y.via hb0, rfl⟩ | exact ⟨ret_bool (by rw [HF.out]; simp), y.via hb0, rfl⟩ | exact ⟨ret_bool (by rw [HF.out]; cases s.v.t <;> rfl), y.via hb0, rfl⟩
set_option maxHeartbeats 4000000 in
theorem set_else_false {A : Option Addr} {c : List Bool} {ca : Nat} (hc : ColsAt W A c) (s : SetV) (h1 : 1 ≤ s.col) (hk : R.colAt c s.col = some false) (n1 : ¬ s.op = 1) (n2 : ¬ s.op = 2) (n3 : ¬ s.op = 3) (n4 : ¬ s.op = 4) (n5 : ¬ s.op = 5) (n6 : ¬ s.op = 6) (x : Lt W) :
    Calls Try.prog 26 #[.agg #[.slice A c.length ca], .agg #[.int .i64 s.col, .int .i64 s.op, .int .i64 s.src, .int .i64 s.oth, .bool s.v.t, .int .i64 s.v.n, .string s.v.s]] x.1 fun e w' => e = .returned (.bool (R.maySet c s)) ∧ ∃ y : Lt W, w' = y.1 := by
  obtain ⟨i0, i1, _⟩ := R.colAt_some hk
  obtain ⟨b, o, rfl, hcell⟩ := hc.at_ hk
  have hnum : R.isNum c s.col = true := by simp [R.isNum, hk]
  have E0 := Lib.hid hnum
  have d : decide (s.col < 1) = false := decide_eq_false (by omega)
  have d2 : decide ((c.length : Int) ≤ s.col) = false := decide_eq_false (by omega)
  have hmay : R.maySet c s = (if s.op = 1 then s.v.right && decide (s.v.t = false) else if s.op = 2 then decide (R.colAt c s.src = some false) else if s.op = 3 ∨ s.op = 4 ∨ s.op = 5 then !false && (R.isNum c s.src && (s.v.right && !s.v.t)) else if s.op = 6 then !false && (R.isNum c s.src && R.isNum c s.oth) else false) := by
    unfold R.maySet
    rw [hk]
    simp only []
    rw [decide_eq_true h1, Bool.true_and]
  clear hk hnum
  obtain ⟨r, hr⟩ : ∃ r, s.v.right = r := ⟨_, rfl⟩
  have ER := Lib.hid hr
  have HF := Lib.hid (show R.maySet c s = false by rw [hmay]; simp [n1, n2, n3, n4, n5, n6])
  clear hmay hr
  go_enter Try.func26, Try.ntmps26
  go_wp2_with fail
  refine calls_here fun W1 hW1 => ?_
  have hb0 : Below W.heap.size W W1 := hW1 ▸ x.more2 _ _
  have hc1 := hc.below hb0
  have w0 : W1.cell? ⟨x.1.heap.size, 0, none⟩ = some (.slice (some ⟨b, o, none⟩) c.length ca) := by rw [hW1]; simp
  have w1 : W1.cell? ⟨x.1.heap.size + 1, 0, none⟩ = some (.int .i64 s.col) := by rw [hW1]; simp
  have w2 : W1.cell? ⟨x.1.heap.size + 1, 1, none⟩ = some (.int .i64 s.op) := by rw [hW1]; simp <;> omega
  have w3 : W1.cell? ⟨x.1.heap.size + 1, 2, none⟩ = some (.int .i64 s.src) := by rw [hW1]; simp
  have w4 : W1.cell? ⟨x.1.heap.size + 1, 3, none⟩ = some (.int .i64 s.oth) := by rw [hW1]; simp
  have w5 : W1.cell? ⟨x.1.heap.size + 1, 4, none⟩ = some (.bool s.v.t) := by rw [hW1]; simp
  have w6 : W1.cell? ⟨x.1.heap.size + 1, 5, none⟩ = some (.int .i64 s.v.n) := by rw [hW1]; simp
  have w7 : W1.cell? ⟨x.1.heap.size + 1, 6, none⟩ = some (.string s.v.s) := by rw [hW1]; simp
  have z0 := fun z : Lt W1 => z.cell w0
  have z1 := fun z : Lt W1 => z.cell w1
  have z2 := fun z : Lt W1 => z.cell w2
  have z3 := fun z : Lt W1 => z.cell w3
  have z4 := fun z : Lt W1 => z.cell w4
  have z5 := fun z : Lt W1 => z.cell w5
  have z6 := fun z : Lt W1 => z.cell w6
  have z7 := fun z : Lt W1 => z.cell w7
  clear hW1 w0 w1 w2 w3 w4 w5 w6 w7
  have zc := fun z : Lt W1 => z.old hb0 hcell
  refine (rvright_is ER.out (Lt.base W1)).mono ?_; rintro e w' ⟨rfl, y, rfl⟩
  go_wp2_with fail
  go_ret
  first | exact ⟨ret_bool HF.out.symm, y.via hb0, rfl⟩ | exact ⟨ret_bool (by rw [HF.out]; simp), y.via hb0, rfl⟩ | exact ⟨ret_bool (by rw [HF.out]; cases s.v.t <;> rfl), y.via hb0, rfl⟩
set_option maxHeartbeats 4000000 in
theorem set_to_true {A : Option Addr} {c : List Bool} {ca : Nat} (hc : ColsAt W A c) (s : SetV) (h1 : 1 ≤ s.col) (hk : R.colAt c s.col = some true) (hop : s.op = 1) (x : Lt W) :
    Calls Try.prog 26 #[.agg #[.slice A c.length ca], .agg #[.int .i64 s.col, .int .i64 s.op, .int .i64 s.src, .int .i64 s.oth, .bool s.v.t, .int .i64 s.v.n, .string s.v.s]] x.1 fun e w' => e = .returned (.bool (R.maySet c s)) ∧ ∃ y : Lt W, w' = y.1 := by
  obtain ⟨i0, i1, _⟩ := R.colAt_some hk
  obtain ⟨b, o, rfl, hcell⟩ := hc.at_ hk
  have hnum : R.isNum c s.col = false := by simp [R.isNum, hk]
  have E0 := Lib.hid hnum
  have d : decide (s.col < 1) = false := decide_eq_false (by omega)
  have d2 : decide ((c.length : Int) ≤ s.col) = false := decide_eq_false (by omega)
  have hmay : R.maySet c s = (if s.op = 1 then s.v.right && decide (s.v.t = true) else if s.op = 2 then decide (R.colAt c s.src = some true) else if s.op = 3 ∨ s.op = 4 ∨ s.op = 5 then !true && (R.isNum c s.src && (s.v.right && !s.v.t)) else if s.op = 6 then !true && (R.isNum c s.src && R.isNum c s.oth) else false) := by
    unfold R.maySet
    rw [hk]
    simp only []
    rw [decide_eq_true h1, Bool.true_and]
  clear hk hnum
  cases hr : s.v.right
  · have ER := Lib.hid hr
    have HF := Lib.hid (show R.maySet c s = false by rw [hmay]; simp [hop, hr])
    clear hmay hr
    go_enter Try.func26, Try.ntmps26
    go_wp2_with fail
    refine calls_here fun W1 hW1 => ?_
    have hb0 : Below W.heap.size W W1 := hW1 ▸ x.more2 _ _
    have hc1 := hc.below hb0
    have w0 : W1.cell? ⟨x.1.heap.size, 0, none⟩ = some (.slice (some ⟨b, o, none⟩) c.length ca) := by rw [hW1]; simp
    have w1 : W1.cell? ⟨x.1.heap.size + 1, 0, none⟩ = some (.int .i64 s.col) := by rw [hW1]; simp
    have w2 : W1.cell? ⟨x.1.heap.size + 1, 1, none⟩ = some (.int .i64 s.op) := by rw [hW1]; simp <;> omega
    have w3 : W1.cell? ⟨x.1.heap.size + 1, 2, none⟩ = some (.int .i64 s.src) := by rw [hW1]; simp
    have w4 : W1.cell? ⟨x.1.heap.size + 1, 3, none⟩ = some (.int .i64 s.oth) := by rw [hW1]; simp
    have w5 : W1.cell? ⟨x.1.heap.size + 1, 4, none⟩ = some (.bool s.v.t) := by rw [hW1]; simp
    have w6 : W1.cell? ⟨x.1.heap.size + 1, 5, none⟩ = some (.int .i64 s.v.n) := by rw [hW1]; simp
    have w7 : W1.cell? ⟨x.1.heap.size + 1, 6, none⟩ = some (.string s.v.s) := by rw [hW1]; simp
    have z0 := fun z : Lt W1 => z.cell w0
    have z1 := fun z : Lt W1 => z.cell w1
    have z2 := fun z : Lt W1 => z.cell w2
    have z3 := fun z : Lt W1 => z.cell w3
    have z4 := fun z : Lt W1 => z.cell w4
    have z5 := fun z : Lt W1 => z.cell w5
    have z6 := fun z : Lt W1 => z.cell w6
    have z7 := fun z : Lt W1 => z.cell w7
    clear hW1 w0 w1 w2 w3 w4 w5 w6 w7
    have zc := fun z : Lt W1 => z.old hb0 hcell
    refine (rvright_is ER.out (Lt.base W1)).mono ?_; rintro e w' ⟨rfl, y, rfl⟩
    go_wp2_with fail
    refine wp_region_pure _ (by kernel_rfl) (by kernel_rfl) ?_
    repeat (go_big_quiet_step (fail))
    refine wpQuiet_nil ?_; intro _ hw'; obtain ⟨y, rfl⟩ := hw'
    go_wp2_with fail
    go_ret
    first | exact ⟨ret_bool HF.out.symm, y.via hb0, rfl⟩ | exact ⟨ret_bool (by rw [HF.out]; simp), y.via hb0, rfl⟩ | exact ⟨ret_bool (by rw [HF.out]; cases s.v.t <;> rfl), y.via hb0, rfl⟩
  · have ER := Lib.hid hr
    have HF := Lib.hid (show R.maySet c s = decide (s.v.t = true) by rw [hmay]; simp [hop, hr])
    clear hmay hr
    go_enter Try.func26, Try.ntmps26
    go_wp2_with fail
    refine calls_here fun W1 hW1 => ?_
    have hb0 : Below W.heap.size W W1 := hW1 ▸ x.more2 _ _
    have hc1 := hc.below hb0
    have w0 : W1.cell? ⟨x.1.heap.size, 0, none⟩ = some (.slice (some ⟨b, o, none⟩) c.length ca) := by rw [hW1]; simp
    have w1 : W1.cell? ⟨x.1.heap.size + 1, 0, none⟩ = some (.int .i64 s.col) := by rw [hW1]; simp
    have w2 : W1.cell? ⟨x.1.heap.size + 1, 1, none⟩ = some (.int .i64 s.op) := by rw [hW1]; simp <;> omega
    have w3 : W1.cell? ⟨x.1.heap.size + 1, 2, none⟩ = some (.int .i64 s.src) := by rw [hW1]; simp
    have w4 : W1.cell? ⟨x.1.heap.size + 1, 3, none⟩ = some (.int .i64 s.oth) := by rw [hW1]; simp
    have w5 : W1.cell? ⟨x.1.heap.size + 1, 4, none⟩ = some (.bool s.v.t) := by rw [hW1]; simp
    have w6 : W1.cell? ⟨x.1.heap.size + 1, 5, none⟩ = some (.int .i64 s.v.n) := by rw [hW1]; simp
    have w7 : W1.cell? ⟨x.1.heap.size + 1, 6, none⟩ = some (.string s.v.s) := by rw [hW1]; simp
    have z0 := fun z : Lt W1 => z.cell w0
    have z1 := fun z : Lt W1 => z.cell w1
    have z2 := fun z : Lt W1 => z.cell w2
    have z3 := fun z : Lt W1 => z.cell w3
    have z4 := fun z : Lt W1 => z.cell w4
    have z5 := fun z : Lt W1 => z.cell w5
    have z6 := fun z : Lt W1 => z.cell w6
    have z7 := fun z : Lt W1 => z.cell w7
    clear hW1 w0 w1 w2 w3 w4 w5 w6 w7
    have zc := fun z : Lt W1 => z.old hb0 hcell
    refine (rvright_is ER.out (Lt.base W1)).mono ?_; rintro e w' ⟨rfl, y, rfl⟩
    go_wp2_with fail
    refine wp_region_pure _ (by kernel_rfl) (by kernel_rfl) ?_
    repeat (go_big_quiet_step (fail))
    refine wpQuiet_nil ?_; intro _ hw'; obtain ⟨y, rfl⟩ := hw'
    go_wp2_with fail
    go_ret
    first | exact ⟨ret_bool HF.out.symm, y.via hb0, rfl⟩ | exact ⟨ret_bool (by rw [HF.out]; simp), y.via hb0, rfl⟩ | exact ⟨ret_bool (by rw [HF.out]; cases s.v.t <;> rfl), y.via hb0, rfl⟩
set_option maxHeartbeats 4000000 in
theorem set_copy_true {A : Option Addr} {c : List Bool} {ca : Nat} (hc : ColsAt W A c) (s : SetV) (h1 : 1 ≤ s.col) (hk : R.colAt c s.col = some true) (hop : s.op = 2) (x : Lt W) :
    Calls Try.prog 26 #[.agg #[.slice A c.length ca], .agg #[.int .i64 s.col, .int .i64 s.op, .int .i64 s.src, .int .i64 s.oth, .bool s.v.t, .int .i64 s.v.n, .string s.v.s]] x.1 fun e w' => e = .returned (.bool (R.maySet c s)) ∧ ∃ y : Lt W, w' = y.1 := by
  obtain ⟨i0, i1, _⟩ := R.colAt_some hk
  obtain ⟨b, o, rfl, hcell⟩ := hc.at_ hk
  have hnum : R.isNum c s.col = false := by simp [R.isNum, hk]
  have E0 := Lib.hid hnum
  have d : decide (s.col < 1) = false := decide_eq_false (by omega)
  have d2 : decide ((c.length : Int) ≤ s.col) = false := decide_eq_false (by omega)
  have hmay : R.maySet c s = (if s.op = 1 then s.v.right && decide (s.v.t = true) else if s.op = 2 then decide (R.colAt c s.src = some true) else if s.op = 3 ∨ s.op = 4 ∨ s.op = 5 then !true && (R.isNum c s.src && (s.v.right && !s.v.t)) else if s.op = 6 then !true && (R.isNum c s.src && R.isNum c s.oth) else false) := by
    unfold R.maySet
    rw [hk]
    simp only []
    rw [decide_eq_true h1, Bool.true_and]
  clear hk hnum
  obtain ⟨r, hr⟩ : ∃ r, s.v.right = r := ⟨_, rfl⟩
  have ER := Lib.hid hr
  clear hr
  cases hs : R.colAt c s.src with
  | none =>
    have HF := Lib.hid (show R.maySet c s = false by rw [hmay]; simp [hop, hs])
    rcases R.colAt_none hs with h | h
    · have g1 : decide (0 ≤ s.src) = false := decide_eq_false (by omega)
      clear hmay hs
      go_enter Try.func26, Try.ntmps26
      go_wp2_with fail
      refine calls_here fun W1 hW1 => ?_
      have hb0 : Below W.heap.size W W1 := hW1 ▸ x.more2 _ _
      have hc1 := hc.below hb0
      have w0 : W1.cell? ⟨x.1.heap.size, 0, none⟩ = some (.slice (some ⟨b, o, none⟩) c.length ca) := by rw [hW1]; simp
      have w1 : W1.cell? ⟨x.1.heap.size + 1, 0, none⟩ = some (.int .i64 s.col) := by rw [hW1]; simp
      have w2 : W1.cell? ⟨x.1.heap.size + 1, 1, none⟩ = some (.int .i64 s.op) := by rw [hW1]; simp <;> omega
      have w3 : W1.cell? ⟨x.1.heap.size + 1, 2, none⟩ = some (.int .i64 s.src) := by rw [hW1]; simp
      have w4 : W1.cell? ⟨x.1.heap.size + 1, 3, none⟩ = some (.int .i64 s.oth) := by rw [hW1]; simp
      have w5 : W1.cell? ⟨x.1.heap.size + 1, 4, none⟩ = some (.bool s.v.t) := by rw [hW1]; simp
      have w6 : W1.cell? ⟨x.1.heap.size + 1, 5, none⟩ = some (.int .i64 s.v.n) := by rw [hW1]; simp
      have w7 : W1.cell? ⟨x.1.heap.size + 1, 6, none⟩ = some (.string s.v.s) := by rw [hW1]; simp
      have z0 := fun z : Lt W1 => z.cell w0
      have z1 := fun z : Lt W1 => z.cell w1
      have z2 := fun z : Lt W1 => z.cell w2
      have z3 := fun z : Lt W1 => z.cell w3
      have z4 := fun z : Lt W1 => z.cell w4
      have z5 := fun z : Lt W1 => z.cell w5
      have z6 := fun z : Lt W1 => z.cell w6
      have z7 := fun z : Lt W1 => z.cell w7
      clear hW1 w0 w1 w2 w3 w4 w5 w6 w7
      have zc := fun z : Lt W1 => z.old hb0 hcell
      refine (rvright_is ER.out (Lt.base W1)).mono ?_; rintro e w' ⟨rfl, y, rfl⟩
      go_wp2_with fail
      refine wp_region_pure _ (by kernel_rfl) (by kernel_rfl) ?_
      repeat (go_big_quiet_step (fail))
      refine wpQuiet_nil ?_; intro _ hw'; obtain ⟨y, rfl⟩ := hw'
      go_wp2_with fail
      go_ret
      first | exact ⟨ret_bool HF.out.symm, y.via hb0, rfl⟩ | exact ⟨ret_bool (by rw [HF.out]; simp), y.via hb0, rfl⟩ | exact ⟨ret_bool (by rw [HF.out]; cases s.v.t <;> rfl), y.via hb0, rfl⟩
    · have g0 : 0 ≤ s.src := by omega
      have g1 : decide (0 ≤ s.src) = true := decide_eq_true g0
      have g2 : decide (s.src < (c.length : Int)) = false := decide_eq_false (by omega)
      clear hmay hs
      go_enter Try.func26, Try.ntmps26
      go_wp2_with fail
      refine calls_here fun W1 hW1 => ?_
      have hb0 : Below W.heap.size W W1 := hW1 ▸ x.more2 _ _
      have hc1 := hc.below hb0
      have w0 : W1.cell? ⟨x.1.heap.size, 0, none⟩ = some (.slice (some ⟨b, o, none⟩) c.length ca) := by rw [hW1]; simp
      have w1 : W1.cell? ⟨x.1.heap.size + 1, 0, none⟩ = some (.int .i64 s.col) := by rw [hW1]; simp
      have w2 : W1.cell? ⟨x.1.heap.size + 1, 1, none⟩ = some (.int .i64 s.op) := by rw [hW1]; simp <;> omega
      have w3 : W1.cell? ⟨x.1.heap.size + 1, 2, none⟩ = some (.int .i64 s.src) := by rw [hW1]; simp
      have w4 : W1.cell? ⟨x.1.heap.size + 1, 3, none⟩ = some (.int .i64 s.oth) := by rw [hW1]; simp
      have w5 : W1.cell? ⟨x.1.heap.size + 1, 4, none⟩ = some (.bool s.v.t) := by rw [hW1]; simp
      have w6 : W1.cell? ⟨x.1.heap.size + 1, 5, none⟩ = some (.int .i64 s.v.n) := by rw [hW1]; simp
      have w7 : W1.cell? ⟨x.1.heap.size + 1, 6, none⟩ = some (.string s.v.s) := by rw [hW1]; simp
      have z0 := fun z : Lt W1 => z.cell w0
      have z1 := fun z : Lt W1 => z.cell w1
      have z2 := fun z : Lt W1 => z.cell w2
      have z3 := fun z : Lt W1 => z.cell w3
      have z4 := fun z : Lt W1 => z.cell w4
      have z5 := fun z : Lt W1 => z.cell w5
      have z6 := fun z : Lt W1 => z.cell w6
      have z7 := fun z : Lt W1 => z.cell w7
      clear hW1 w0 w1 w2 w3 w4 w5 w6 w7
      have zc := fun z : Lt W1 => z.old hb0 hcell
      refine (rvright_is ER.out (Lt.base W1)).mono ?_; rintro e w' ⟨rfl, y, rfl⟩
      go_wp2_with fail
      refine wp_region_pure _ (by kernel_rfl) (by kernel_rfl) ?_
      repeat (go_big_quiet_step (fail))
      refine wpQuiet_nil ?_; intro _ hw'; obtain ⟨y, rfl⟩ := hw'
      go_wp2_with fail
      go_ret
      first | exact ⟨ret_bool HF.out.symm, y.via hb0, rfl⟩ | exact ⟨ret_bool (by rw [HF.out]; simp), y.via hb0, rfl⟩ | exact ⟨ret_bool (by rw [HF.out]; cases s.v.t <;> rfl), y.via hb0, rfl⟩
  | some k2 =>
    obtain ⟨j0, j1, _⟩ := R.colAt_some hs
    obtain ⟨b2, o2, hA, hcell2⟩ := hc.at_ hs
    simp only [Option.some.injEq, Addr.mk.injEq, and_true] at hA
    obtain ⟨rfl, rfl⟩ := hA
    have g1 : decide (0 ≤ s.src) = true := decide_eq_true j0
    have g2 : decide (s.src < (c.length : Int)) = true := decide_eq_true j1
    have HF := Lib.hid (show R.maySet c s = (k2 == true) by rw [hmay]; cases k2 <;> simp [hop, hs])
    clear hmay hs
    go_enter Try.func26, Try.ntmps26
    go_wp2_with fail
    refine calls_here fun W1 hW1 => ?_
    have hb0 : Below W.heap.size W W1 := hW1 ▸ x.more2 _ _
    have hc1 := hc.below hb0
    have w0 : W1.cell? ⟨x.1.heap.size, 0, none⟩ = some (.slice (some ⟨b, o, none⟩) c.length ca) := by rw [hW1]; simp
    have w1 : W1.cell? ⟨x.1.heap.size + 1, 0, none⟩ = some (.int .i64 s.col) := by rw [hW1]; simp
    have w2 : W1.cell? ⟨x.1.heap.size + 1, 1, none⟩ = some (.int .i64 s.op) := by rw [hW1]; simp <;> omega
    have w3 : W1.cell? ⟨x.1.heap.size + 1, 2, none⟩ = some (.int .i64 s.src) := by rw [hW1]; simp
    have w4 : W1.cell? ⟨x.1.heap.size + 1, 3, none⟩ = some (.int .i64 s.oth) := by rw [hW1]; simp
    have w5 : W1.cell? ⟨x.1.heap.size + 1, 4, none⟩ = some (.bool s.v.t) := by rw [hW1]; simp
    have w6 : W1.cell? ⟨x.1.heap.size + 1, 5, none⟩ = some (.int .i64 s.v.n) := by rw [hW1]; simp
    have w7 : W1.cell? ⟨x.1.heap.size + 1, 6, none⟩ = some (.string s.v.s) := by rw [hW1]; simp
    have z0 := fun z : Lt W1 => z.cell w0
    have z1 := fun z : Lt W1 => z.cell w1
    have z2 := fun z : Lt W1 => z.cell w2
    have z3 := fun z : Lt W1 => z.cell w3
    have z4 := fun z : Lt W1 => z.cell w4
    have z5 := fun z : Lt W1 => z.cell w5
    have z6 := fun z : Lt W1 => z.cell w6
    have z7 := fun z : Lt W1 => z.cell w7
    clear hW1 w0 w1 w2 w3 w4 w5 w6 w7
    have zc := fun z : Lt W1 => z.old hb0 hcell
    have zd := fun z : Lt W1 => z.old hb0 hcell2
    refine (rvright_is ER.out (Lt.base W1)).mono ?_; rintro e w' ⟨rfl, y, rfl⟩
    go_wp2_with fail
    refine wp_region_pure _ (by kernel_rfl) (by kernel_rfl) ?_
    repeat (go_big_quiet_step (fail))
    refine wpQuiet_nil ?_; intro _ hw'; obtain ⟨y, rfl⟩ := hw'
    go_wp2_with fail
    go_ret
    first | exact ⟨ret_bool HF.out.symm, y.via hb0, rfl⟩ | exact ⟨ret_bool (by rw [HF.out]; simp), y.via hb0, rfl⟩ | exact ⟨ret_bool (by rw [HF.out]; cases s.v.t <;> rfl), y.via hb0, rfl⟩
set_option maxHeartbeats 4000000 in
theorem set_3_true {A : Option Addr} {c : List Bool} {ca : Nat} (hc : ColsAt W A c) (s : SetV) (h1 : 1 ≤ s.col) (hk : R.colAt c s.col = some true) (hop : s.op = 3) (x : Lt W) :
    Calls Try.prog 26 #[.agg #[.slice A c.length ca], .agg #[.int .i64 s.col, .int .i64 s.op, .int .i64 s.src, .int .i64 s.oth, .bool s.v.t, .int .i64 s.v.n, .string s.v.s]] x.1 fun e w' => e = .returned (.bool (R.maySet c s)) ∧ ∃ y : Lt W, w' = y.1 := by
  obtain ⟨i0, i1, _⟩ := R.colAt_some hk
  obtain ⟨b, o, rfl, hcell⟩ := hc.at_ hk
  have hnum : R.isNum c s.col = false := by simp [R.isNum, hk]
  have E0 := Lib.hid hnum
  have d : decide (s.col < 1) = false := decide_eq_false (by omega)
  have d2 : decide ((c.length : Int) ≤ s.col) = false := decide_eq_false (by omega)
  have hmay : R.maySet c s = (if s.op = 1 then s.v.right && decide (s.v.t = true) else if s.op = 2 then decide (R.colAt c s.src = some true) else if s.op = 3 ∨ s.op = 4 ∨ s.op = 5 then !true && (R.isNum c s.src && (s.v.right && !s.v.t)) else if s.op = 6 then !true && (R.isNum c s.src && R.isNum c s.oth) else false) := by
    unfold R.maySet
    rw [hk]
    simp only []
    rw [decide_eq_true h1, Bool.true_and]
  clear hk hnum
  obtain ⟨r, hr⟩ : ∃ r, s.v.right = r := ⟨_, rfl⟩
  have ER := Lib.hid hr
  have HF := Lib.hid (show R.maySet c s = false by rw [hmay]; simp [hop])
  clear hmay hr
  go_enter Try.func26, Try.ntmps26
  go_wp2_with fail
  refine calls_here fun W1 hW1 => ?_
  have hb0 : Below W.heap.size W W1 := hW1 ▸ x.more2 _ _
  have hc1 := hc.below hb0
  have w0 : W1.cell? ⟨x.1.heap.size, 0, none⟩ = some (.slice (some ⟨b, o, none⟩) c.length ca) := by rw [hW1]; simp
  have w1 : W1.cell? ⟨x.1.heap.size + 1, 0, none⟩ = some (.int .i64 s.col) := by rw [hW1]; simp
  have w2 : W1.cell? ⟨x.1.heap.size + 1, 1, none⟩ = some (.int .i64 s.op) := by rw [hW1]; simp <;> omega
  have w3 : W1.cell? ⟨x.1.heap.size + 1, 2, none⟩ = some (.int .i64 s.src) := by rw [hW1]; simp
  have w4 : W1.cell? ⟨x.1.heap.size + 1, 3, none⟩ = some (.int .i64 s.oth) := by rw [hW1]; simp
  have w5 : W1.cell? ⟨x.1.heap.size + 1, 4, none⟩ = some (.bool s.v.t) := by rw [hW1]; simp
  have w6 : W1.cell? ⟨x.1.heap.size + 1, 5, none⟩ = some (.int .i64 s.v.n) := by rw [hW1]; simp
  have w7 : W1.cell? ⟨x.1.heap.size + 1, 6, none⟩ = some (.string s.v.s) := by rw [hW1]; simp
  have z0 := fun z : Lt W1 => z.cell w0
  have z1 := fun z : Lt W1 => z.cell w1
  have z2 := fun z : Lt W1 => z.cell w2
  have z3 := fun z : Lt W1 => z.cell w3
  have z4 := fun z : Lt W1 => z.cell w4
  have z5 := fun z : Lt W1 => z.cell w5
  have z6 := fun z : Lt W1 => z.cell w6
  have z7 := fun z : Lt W1 => z.cell w7
  clear hW1 w0 w1 w2 w3 w4 w5 w6 w7
  have zc := fun z : Lt W1 => z.old hb0 hcell
  refine (rvright_is ER.out (Lt.base W1)).mono ?_; rintro e w' ⟨rfl, y, rfl⟩
  go_wp2_with fail
  refine (number_is hc1 E0.out _).mono ?_; rintro e w' ⟨rfl, y, rfl⟩
  go_wp2_with fail
  go_ret
  first | exact ⟨ret_bool HF.out.symm, y.via hb0, rfl⟩ | exact ⟨ret_bool (by rw [HF.out]; simp), y.via hb0, rfl⟩ | exact ⟨ret_bool (by rw [HF.out]; cases s.v.t <;> rfl), y.via hb0, rfl⟩
set_option maxHeartbeats 4000000 in
theorem set_4_true {A : Option Addr} {c : List Bool} {ca : Nat} (hc : ColsAt W A c) (s : SetV) (h1 : 1 ≤ s.col) (hk : R.colAt c s.col = some true) (hop : s.op = 4) (x : Lt W) :
    Calls Try.prog 26 #[.agg #[.slice A c.length ca], .agg #[.int .i64 s.col, .int .i64 s.op, .int .i64 s.src, .int .i64 s.oth, .bool s.v.t, .int .i64 s.v.n, .string s.v.s]] x.1 fun e w' => e = .returned (.bool (R.maySet c s)) ∧ ∃ y : Lt W, w' = y.1 := by
  obtain ⟨i0, i1, _⟩ := R.colAt_some hk
  obtain ⟨b, o, rfl, hcell⟩ := hc.at_ hk
  have hnum : R.isNum c s.col = false := by simp [R.isNum, hk]
  have E0 := Lib.hid hnum
  have d : decide (s.col < 1) = false := decide_eq_false (by omega)
  have d2 : decide ((c.length : Int) ≤ s.col) = false := decide_eq_false (by omega)
  have hmay : R.maySet c s = (if s.op = 1 then s.v.right && decide (s.v.t = true) else if s.op = 2 then decide (R.colAt c s.src = some true) else if s.op = 3 ∨ s.op = 4 ∨ s.op = 5 then !true && (R.isNum c s.src && (s.v.right && !s.v.t)) else if s.op = 6 then !true && (R.isNum c s.src && R.isNum c s.oth) else false) := by
    unfold R.maySet
    rw [hk]
    simp only []
    rw [decide_eq_true h1, Bool.true_and]
  clear hk hnum
  obtain ⟨r, hr⟩ : ∃ r, s.v.right = r := ⟨_, rfl⟩
  have ER := Lib.hid hr
  have HF := Lib.hid (show R.maySet c s = false by rw [hmay]; simp [hop])
  clear hmay hr
  go_enter Try.func26, Try.ntmps26
  go_wp2_with fail
  refine calls_here fun W1 hW1 => ?_
  have hb0 : Below W.heap.size W W1 := hW1 ▸ x.more2 _ _
  have hc1 := hc.below hb0
  have w0 : W1.cell? ⟨x.1.heap.size, 0, none⟩ = some (.slice (some ⟨b, o, none⟩) c.length ca) := by rw [hW1]; simp
  have w1 : W1.cell? ⟨x.1.heap.size + 1, 0, none⟩ = some (.int .i64 s.col) := by rw [hW1]; simp
  have w2 : W1.cell? ⟨x.1.heap.size + 1, 1, none⟩ = some (.int .i64 s.op) := by rw [hW1]; simp <;> omega
  have w3 : W1.cell? ⟨x.1.heap.size + 1, 2, none⟩ = some (.int .i64 s.src) := by rw [hW1]; simp
  have w4 : W1.cell? ⟨x.1.heap.size + 1, 3, none⟩ = some (.int .i64 s.oth) := by rw [hW1]; simp
  have w5 : W1.cell? ⟨x.1.heap.size + 1, 4, none⟩ = some (.bool s.v.t) := by rw [hW1]; simp
  have w6 : W1.cell? ⟨x.1.heap.size + 1, 5, none⟩ = some (.int .i64 s.v.n) := by rw [hW1]; simp
  have w7 : W1.cell? ⟨x.1.heap.size + 1, 6, none⟩ = some (.string s.v.s) := by rw [hW1]; simp
  have z0 := fun z : Lt W1 => z.cell w0
  have z1 := fun z : Lt W1 => z.cell w1
  have z2 := fun z : Lt W1 => z.cell w2
  have z3 := fun z : Lt W1 => z.cell w3
  have z4 := fun z : Lt W1 => z.cell w4
  have z5 := fun z : Lt W1 => z.cell w5
  have z6 := fun z : Lt W1 => z.cell w6
  have z7 := fun z : Lt W1 => z.cell w7
  clear hW1 w0 w1 w2 w3 w4 w5 w6 w7
  have zc := fun z : Lt W1 => z.old hb0 hcell
  refine (rvright_is ER.out (Lt.base W1)).mono ?_; rintro e w' ⟨rfl, y, rfl⟩
  go_wp2_with fail
  refine (number_is hc1 E0.out _).mono ?_; rintro e w' ⟨rfl, y, rfl⟩
  go_wp2_with fail
  go_ret
  first | exact ⟨ret_bool HF.out.symm, y.via hb0, rfl⟩ | exact ⟨ret_bool (by rw [HF.out]; simp), y.via hb0, rfl⟩ | exact ⟨ret_bool (by rw [HF.out]; cases s.v.t <;> rfl), y.via hb0, rfl⟩
set_option maxHeartbeats 4000000 in
theorem set_5_true {A : Option Addr} {c : List Bool} {ca : Nat} (hc : ColsAt W A c) (s : SetV) (h1 : 1 ≤ s.col) (hk : R.colAt c s.col = some true) (hop : s.op = 5) (x : Lt W) :
    Calls Try.prog 26 #[.agg #[.slice A c.length ca], .agg #[.int .i64 s.col, .int .i64 s.op, .int .i64 s.src, .int .i64 s.oth, .bool s.v.t, .int .i64 s.v.n, .string s.v.s]] x.1 fun e w' => e = .returned (.bool (R.maySet c s)) ∧ ∃ y : Lt W, w' = y.1 := by
  obtain ⟨i0, i1, _⟩ := R.colAt_some hk
  obtain ⟨b, o, rfl, hcell⟩ := hc.at_ hk
  have hnum : R.isNum c s.col = false := by simp [R.isNum, hk]
  have E0 := Lib.hid hnum
  have d : decide (s.col < 1) = false := decide_eq_false (by omega)
  have d2 : decide ((c.length : Int) ≤ s.col) = false := decide_eq_false (by omega)
  have hmay : R.maySet c s = (if s.op = 1 then s.v.right && decide (s.v.t = true) else if s.op = 2 then decide (R.colAt c s.src = some true) else if s.op = 3 ∨ s.op = 4 ∨ s.op = 5 then !true && (R.isNum c s.src && (s.v.right && !s.v.t)) else if s.op = 6 then !true && (R.isNum c s.src && R.isNum c s.oth) else false) := by
    unfold R.maySet
    rw [hk]
    simp only []
    rw [decide_eq_true h1, Bool.true_and]
  clear hk hnum
  obtain ⟨r, hr⟩ : ∃ r, s.v.right = r := ⟨_, rfl⟩
  have ER := Lib.hid hr
  have HF := Lib.hid (show R.maySet c s = false by rw [hmay]; simp [hop])
  clear hmay hr
  go_enter Try.func26, Try.ntmps26
  go_wp2_with fail
  refine calls_here fun W1 hW1 => ?_
  have hb0 : Below W.heap.size W W1 := hW1 ▸ x.more2 _ _
  have hc1 := hc.below hb0
  have w0 : W1.cell? ⟨x.1.heap.size, 0, none⟩ = some (.slice (some ⟨b, o, none⟩) c.length ca) := by rw [hW1]; simp
  have w1 : W1.cell? ⟨x.1.heap.size + 1, 0, none⟩ = some (.int .i64 s.col) := by rw [hW1]; simp
  have w2 : W1.cell? ⟨x.1.heap.size + 1, 1, none⟩ = some (.int .i64 s.op) := by rw [hW1]; simp <;> omega
  have w3 : W1.cell? ⟨x.1.heap.size + 1, 2, none⟩ = some (.int .i64 s.src) := by rw [hW1]; simp
  have w4 : W1.cell? ⟨x.1.heap.size + 1, 3, none⟩ = some (.int .i64 s.oth) := by rw [hW1]; simp
  have w5 : W1.cell? ⟨x.1.heap.size + 1, 4, none⟩ = some (.bool s.v.t) := by rw [hW1]; simp
  have w6 : W1.cell? ⟨x.1.heap.size + 1, 5, none⟩ = some (.int .i64 s.v.n) := by rw [hW1]; simp
  have w7 : W1.cell? ⟨x.1.heap.size + 1, 6, none⟩ = some (.string s.v.s) := by rw [hW1]; simp
  have z0 := fun z : Lt W1 => z.cell w0
  have z1 := fun z : Lt W1 => z.cell w1
  have z2 := fun z : Lt W1 => z.cell w2
  have z3 := fun z : Lt W1 => z.cell w3
  have z4 := fun z : Lt W1 => z.cell w4
  have z5 := fun z : Lt W1 => z.cell w5
  have z6 := fun z : Lt W1 => z.cell w6
  have z7 := fun z : Lt W1 => z.cell w7
  clear hW1 w0 w1 w2 w3 w4 w5 w6 w7
  have zc := fun z : Lt W1 => z.old hb0 hcell
  refine (rvright_is ER.out (Lt.base W1)).mono ?_; rintro e w' ⟨rfl, y, rfl⟩
  go_wp2_with fail
  refine (number_is hc1 E0.out _).mono ?_; rintro e w' ⟨rfl, y, rfl⟩
  go_wp2_with fail
  go_ret
  first | exact ⟨ret_bool HF.out.symm, y.via hb0, rfl⟩ | exact ⟨ret_bool (by rw [HF.out]; simp), y.via hb0, rfl⟩ | exact ⟨ret_bool (by rw [HF.out]; cases s.v.t <;> rfl), y.via hb0, rfl⟩
set_option maxHeartbeats 4000000 in
theorem set_sum_true {A : Option Addr} {c : List Bool} {ca : Nat} (hc : ColsAt W A c) (s : SetV) (h1 : 1 ≤ s.col) (hk : R.colAt c s.col = some true) (hop : s.op = 6) (x : Lt W) :
    Calls Try.prog 26 #[.agg #[.slice A c.length ca], .agg #[.int .i64 s.col, .int .i64 s.op, .int .i64 s.src, .int .i64 s.oth, .bool s.v.t, .int .i64 s.v.n, .string s.v.s]] x.1 fun e w' => e = .returned (.bool (R.maySet c s)) ∧ ∃ y : Lt W, w' = y.1 := by
  obtain ⟨i0, i1, _⟩ := R.colAt_some hk
  obtain ⟨b, o, rfl, hcell⟩ := hc.at_ hk
  have hnum : R.isNum c s.col = false := by simp [R.isNum, hk]
  have E0 := Lib.hid hnum
  have d : decide (s.col < 1) = false := decide_eq_false (by omega)
  have d2 : decide ((c.length : Int) ≤ s.col) = false := decide_eq_false (by omega)
  have hmay : R.maySet c s = (if s.op = 1 then s.v.right && decide (s.v.t = true) else if s.op = 2 then decide (R.colAt c s.src = some true) else if s.op = 3 ∨ s.op = 4 ∨ s.op = 5 then !true && (R.isNum c s.src && (s.v.right && !s.v.t)) else if s.op = 6 then !true && (R.isNum c s.src && R.isNum c s.oth) else false) := by
    unfold R.maySet
    rw [hk]
    simp only []
    rw [decide_eq_true h1, Bool.true_and]
  clear hk hnum
  obtain ⟨r, hr⟩ : ∃ r, s.v.right = r := ⟨_, rfl⟩
  have ER := Lib.hid hr
  clear hr
  have HF := Lib.hid (show R.maySet c s = false by rw [hmay]; simp [hop])
  clear hmay
  go_enter Try.func26, Try.ntmps26
  go_wp2_with fail
  refine calls_here fun W1 hW1 => ?_
  have hb0 : Below W.heap.size W W1 := hW1 ▸ x.more2 _ _
  have hc1 := hc.below hb0
  have w0 : W1.cell? ⟨x.1.heap.size, 0, none⟩ = some (.slice (some ⟨b, o, none⟩) c.length ca) := by rw [hW1]; simp
  have w1 : W1.cell? ⟨x.1.heap.size + 1, 0, none⟩ = some (.int .i64 s.col) := by rw [hW1]; simp
  have w2 : W1.cell? ⟨x.1.heap.size + 1, 1, none⟩ = some (.int .i64 s.op) := by rw [hW1]; simp <;> omega
  have w3 : W1.cell? ⟨x.1.heap.size + 1, 2, none⟩ = some (.int .i64 s.src) := by rw [hW1]; simp
  have w4 : W1.cell? ⟨x.1.heap.size + 1, 3, none⟩ = some (.int .i64 s.oth) := by rw [hW1]; simp
  have w5 : W1.cell? ⟨x.1.heap.size + 1, 4, none⟩ = some (.bool s.v.t) := by rw [hW1]; simp
  have w6 : W1.cell? ⟨x.1.heap.size + 1, 5, none⟩ = some (.int .i64 s.v.n) := by rw [hW1]; simp
  have w7 : W1.cell? ⟨x.1.heap.size + 1, 6, none⟩ = some (.string s.v.s) := by rw [hW1]; simp
  have z0 := fun z : Lt W1 => z.cell w0
  have z1 := fun z : Lt W1 => z.cell w1
  have z2 := fun z : Lt W1 => z.cell w2
  have z3 := fun z : Lt W1 => z.cell w3
  have z4 := fun z : Lt W1 => z.cell w4
  have z5 := fun z : Lt W1 => z.cell w5
  have z6 := fun z : Lt W1 => z.cell w6
  have z7 := fun z : Lt W1 => z.cell w7
  clear hW1 w0 w1 w2 w3 w4 w5 w6 w7
  have zc := fun z : Lt W1 => z.old hb0 hcell
  refine (rvright_is ER.out (Lt.base W1)).mono ?_; rintro e w' ⟨rfl, y, rfl⟩
  go_wp2_with fail
  refine (number_is hc1 E0.out _).mono ?_; rintro e w' ⟨rfl, y, rfl⟩
  go_wp2_with fail
  go_ret
  first | exact ⟨ret_bool HF.out.symm, y.via hb0, rfl⟩ | exact ⟨ret_bool (by rw [HF.out]; simp), y.via hb0, rfl⟩ | exact ⟨ret_bool (by rw [HF.out]; cases s.v.t <;> rfl), y.via hb0, rfl⟩
set_option maxHeartbeats 4000000 in
theorem set_else_true {A : Option Addr} {c : List Bool} {ca : Nat} (hc : ColsAt W A c) (s : SetV) (h1 : 1 ≤ s.col) (hk : R.colAt c s.col = some true) (n1 : ¬ s.op = 1) (n2 : ¬ s.op = 2) (n3 : ¬ s.op = 3) (n4 : ¬ s.op = 4) (n5 : ¬ s.op = 5) (n6 : ¬ s.op = 6) (x : Lt W) :
    Calls Try.prog 26 #[.agg #[.slice A c.length ca], .agg #[.int .i64 s.col, .int .i64 s.op, .int .i64 s.src, .int .i64 s.oth, .bool s.v.t, .int .i64 s.v.n, .string s.v.s]] x.1 fun e w' => e = .returned (.bool (R.maySet c s)) ∧ ∃ y : Lt W, w' = y.1 := by
  obtain ⟨i0, i1, _⟩ := R.colAt_some hk
  obtain ⟨b, o, rfl, hcell⟩ := hc.at_ hk
  have hnum : R.isNum c s.col = false := by simp [R.isNum, hk]
  have E0 := Lib.hid hnum
  have d : decide (s.col < 1) = false := decide_eq_false (by omega)
  have d2 : decide ((c.length : Int) ≤ s.col) = false := decide_eq_false (by omega)
  have hmay : R.maySet c s = (if s.op = 1 then s.v.right && decide (s.v.t = true) else if s.op = 2 then decide (R.colAt c s.src = some true) else if s.op = 3 ∨ s.op = 4 ∨ s.op = 5 then !true && (R.isNum c s.src && (s.v.right && !s.v.t)) else if s.op = 6 then !true && (R.isNum c s.src && R.isNum c s.oth) else false) := by
    unfold R.maySet
    rw [hk]
    simp only []
    rw [decide_eq_true h1, Bool.true_and]
  clear hk hnum
  obtain ⟨r, hr⟩ : ∃ r, s.v.right = r := ⟨_, rfl⟩
  have ER := Lib.hid hr
  have HF := Lib.hid (show R.maySet c s = false by rw [hmay]; simp [n1, n2, n3, n4, n5, n6])
  clear hmay hr
  go_enter Try.func26, Try.ntmps26
  go_wp2_with fail
  refine calls_here fun W1 hW1 => ?_
  have hb0 : Below W.heap.size W W1 := hW1 ▸ x.more2 _ _
  have hc1 := hc.below hb0
  have w0 : W1.cell? ⟨x.1.heap.size, 0, none⟩ = some (.slice (some ⟨b, o, none⟩) c.length ca) := by rw [hW1]; simp
  have w1 : W1.cell? ⟨x.1.heap.size + 1, 0, none⟩ = some (.int .i64 s.col) := by rw [hW1]; simp
  have w2 : W1.cell? ⟨x.1.heap.size + 1, 1, none⟩ = some (.int .i64 s.op) := by rw [hW1]; simp <;> omega
  have w3 : W1.cell? ⟨x.1.heap.size + 1, 2, none⟩ = some (.int .i64 s.src) := by rw [hW1]; simp
  have w4 : W1.cell? ⟨x.1.heap.size + 1, 3, none⟩ = some (.int .i64 s.oth) := by rw [hW1]; simp
  have w5 : W1.cell? ⟨x.1.heap.size + 1, 4, none⟩ = some (.bool s.v.t) := by rw [hW1]; simp
  have w6 : W1.cell? ⟨x.1.heap.size + 1, 5, none⟩ = some (.int .i64 s.v.n) := by rw [hW1]; simp
  have w7 : W1.cell? ⟨x.1.heap.size + 1, 6, none⟩ = some (.string s.v.s) := by rw [hW1]; simp
  have z0 := fun z : Lt W1 => z.cell w0
  have z1 := fun z : Lt W1 => z.cell w1
  have z2 := fun z : Lt W1 => z.cell w2
  have z3 := fun z : Lt W1 => z.cell w3
  have z4 := fun z : Lt W1 => z.cell w4
  have z5 := fun z : Lt W1 => z.cell w5
  have z6 := fun z : Lt W1 => z.cell w6
  have z7 := fun z : Lt W1 => z.cell w7
  clear hW1 w0 w1 w2 w3 w4 w5 w6 w7
  have zc := fun z : Lt W1 => z.old hb0 hcell
  refine (rvright_is ER.out (Lt.base W1)).mono ?_; rintro e w' ⟨rfl, y, rfl⟩
  go_wp2_with fail
  go_ret
  first | exact ⟨ret_bool HF.out.symm, y.via hb0, rfl⟩ | exact ⟨ret_bool (by rw [HF.out]; simp), y.via hb0, rfl⟩ | exact ⟨ret_bool (by rw [HF.out]; cases s.v.t <;> rfl), y.via hb0, rfl⟩

theorem set_any {A : Option Addr} {c : List Bool} {ca : Nat} (hc : ColsAt W A c) (s : SetV)  (x : Lt W) :
    Calls Try.prog 26 #[.agg #[.slice A c.length ca], .agg #[.int .i64 s.col, .int .i64 s.op, .int .i64 s.src, .int .i64 s.oth, .bool s.v.t, .int .i64 s.v.n, .string s.v.s]] x.1 fun e w' => e = .returned (.bool (R.maySet c s)) ∧ ∃ y : Lt W, w' = y.1 := by
  cases hk : R.colAt c s.col with
  | none => exact set_low hc s (.inr hk) x
  | some k =>
    by_cases h1 : 1 ≤ s.col
    · have hop : s.op = 1 ∨ s.op = 2 ∨ s.op = 3 ∨ s.op = 4 ∨ s.op = 5 ∨ s.op = 6 ∨ (¬ s.op = 1 ∧ ¬ s.op = 2 ∧ ¬ s.op = 3 ∧ ¬ s.op = 4 ∧ ¬ s.op = 5 ∧ ¬ s.op = 6) := by omega
      cases k
      · rcases hop with h | h | h | h | h | h | ⟨n1, n2, n3, n4, n5, n6⟩
        · exact set_to_false hc s h1 hk h x
        · exact set_copy_false hc s h1 hk h x
        · exact set_3_false hc s h1 hk h x
        · exact set_4_false hc s h1 hk h x
        · exact set_5_false hc s h1 hk h x
        · exact set_sum_false hc s h1 hk h x
        · exact set_else_false hc s h1 hk n1 n2 n3 n4 n5 n6 x
      · rcases hop with h | h | h | h | h | h | ⟨n1, n2, n3, n4, n5, n6⟩
        · exact set_to_true hc s h1 hk h x
        · exact set_copy_true hc s h1 hk h x
        · exact set_3_true hc s h1 hk h x
        · exact set_4_true hc s h1 hk h x
        · exact set_5_true hc s h1 hk h x
        · exact set_sum_true hc s h1 hk h x
        · exact set_else_true hc s h1 hk n1 n2 n3 n4 n5 n6 x
    · exact set_low hc s (.inl (by omega)) x
theorem set_is {A : Option Addr} {c : List Bool} {ca : Nat} (hc : ColsAt W A c) {s : SetV} {r : Bool} (h : R.maySet c s = r) (x : Lt W) :
    Calls Try.prog 26 #[.agg #[.slice A c.length ca], .agg #[.int .i64 s.col, .int .i64 s.op, .int .i64 s.src, .int .i64 s.oth, .bool s.v.t, .int .i64 s.v.n, .string s.v.s]] x.1 fun e w' => e = .returned (.bool r) ∧ ∃ y : Lt W, w' = y.1 := h ▸ set_any hc s x
end Go.Proofs.Ytpgbngmekfakkaa
