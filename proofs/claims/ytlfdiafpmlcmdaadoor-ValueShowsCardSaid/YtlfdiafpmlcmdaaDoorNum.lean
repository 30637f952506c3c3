/-
  Sums, differences and products of two numbers of 64 bits: the program's and the document's return the true one if it is of 64 bits, else 0 and 'no'. Conditions: both are of 64 bits.
-/
import Derived.Test.YtlfdiafpmlcmdaaDoorProg
import Derived.Test.YtlfdiafpmlcmdaaDoorBase
namespace Go.Proofs.YtlfdiafpmlcmdaaDoor
open Go.RowKit
namespace Num
def lo : Int := -9223372036854775808
def hi : Int := 9223372036854775807
/-- Is a number one of 64 bits? -/
def is (z : Int) : Bool := decide (lo ≤ z) && decide (z ≤ hi)
/-- It, or 0. -/
def of (z : Int) : Int := if is z then z else 0
theorem is_iff {z : Int} : is z = true ↔ -9223372036854775808 ≤ z ∧ z ≤ 9223372036854775807 := by
  unfold is lo hi; rw [Bool.and_eq_true, decide_eq_true_iff, decide_eq_true_iff]
theorem is_false {z : Int} : is z = false ↔ z < -9223372036854775808 ∨ 9223372036854775807 < z := by
  rw [← Bool.not_eq_true, is_iff]; omega
theorem of_yes {z : Int} (h : is z = true) : of z = z := by simp [of, h]
theorem of_no {z : Int} (h : is z = false) : of z = 0 := by simp [of, h]
theorem of_is (z : Int) : is (of z) = true := by
  cases h : is z
  · rw [of_no h]; decide
  · rw [of_yes h]; exact h
theorem wrap_in {z : Int} (h : is z = true) : wrap64 z = z := by
  rw [is_iff] at h; unfold wrap64; omega
theorem wrap_is (z : Int) : is (wrap64 z) = true := by
  rw [is_iff]; unfold wrap64; omega
theorem wrap_eq (z : Int) : ∃ k : Int, wrap64 z = z + k * 18446744073709551616 := by
  refine ⟨-((z + 9223372036854775808) / 18446744073709551616), ?_⟩
  unfold wrap64; omega

/-- A product of two, held against a bound, by a quotient: the document's way. -/
theorem le_div {x y m : Nat} (hy : 0 < y) : x ≤ m / y ↔ x * y ≤ m := Nat.le_div_iff_mul_le hy

/-- The program's way: the wrapped product, divided back. -/
theorem times_back {a b : Int} (ha : is a = true) (hb : is b = true) (hb0 : b ≠ 0) (hx : ¬ (b = -1 ∧ a = -9223372036854775808)) : wrap64 ((wrap64 (a * b)).tdiv b) = a ↔ is (a * b) = true := by
  constructor
  · intro h
    have hp := wrap_is (a * b)
    obtain ⟨k, hk⟩ := wrap_eq (a * b)
    generalize hP : wrap64 (a * b) = p at *
    have hd := Int.mul_tdiv_add_tmod p b
    have hlt : (p.tmod b).natAbs < b.natAbs := by
      rw [Int.natAbs_tmod]
      exact Nat.mod_lt _ (by omega)
    rw [is_iff] at ha hb hp
    -- the quotient itself is of 64 bits, but for one case
    have hq : p.tdiv b = a := by
      have hle : (p.tdiv b).natAbs ≤ p.natAbs := by
        rw [Int.natAbs_tdiv]; exact Nat.div_le_self _ _
      by_cases hq : is (p.tdiv b) = true
      · rw [wrap_in hq] at h; exact h
      · exfalso
        have hq' := is_false.1 (by simpa using hq)
        have hpe : p.tdiv b = 9223372036854775808 := by omega
        have : wrap64 (9223372036854775808 : Int) = -9223372036854775808 := by unfold wrap64; omega
        rw [hpe, this] at h
        have hp2 : p = -9223372036854775808 := by omega
        have hb1 : b.natAbs = 1 := by
          have h1 : (p.tdiv b).natAbs = p.natAbs / b.natAbs := Int.natAbs_tdiv p b
          rw [hpe, hp2] at h1
          have h2 : (9223372036854775808 : Nat) = 9223372036854775808 / b.natAbs := by simpa using h1
          rcases Nat.lt_or_ge 1 b.natAbs with h3 | h3
          · have : 9223372036854775808 / b.natAbs ≤ 9223372036854775808 / 2 := Nat.div_le_div_left h3 (by omega)
            omega
          · omega
        have : b = 1 ∨ b = -1 := by omega
        rcases this with rfl | rfl
        · rw [hp2] at hpe; simp at hpe
        · exact hx ⟨rfl, h.symm⟩
    rw [hq] at hd
    -- b * a + rest = a * b + k * 2^64, |rest| < |b| ≤ 2^63
    have hcomm : b * a = a * b := Int.mul_comm b a
    rw [hcomm] at hd
    have hr : (p.tmod b) = k * 18446744073709551616 := by omega
    have hk0 : k = 0 := by omega
    subst hk0
    rw [is_iff]
    omega
  · intro h
    rw [wrap_in h, Int.mul_tdiv_cancel _ hb0, wrap_in ha]
end Num
variable {W : World}

def sumV (z : Int) : Value := .tuple #[.int .i64 (Num.of z), .bool (Num.is z)]

theorem ret_num {z n : Int} {i : Bool} (hn : Num.of z = n) (hi : Num.is z = i) : Ending.returned (.tuple #[.int .i64 n, .bool i]) = .returned (sumV z) := by rw [sumV, hn, hi]

theorem add_any {a b : Int} (ha : Num.is a = true) (hb : Num.is b = true) (x : Lt W) : Calls Tryd.prog 19 #[.int .i64 a, .int .i64 b] x.1 fun e w' => e = .returned (sumV (a + b)) ∧ ∃ y : Lt W, w' = y.1 := by
  obtain ⟨h1, h2⟩ := Num.is_iff.1 ha
  obtain ⟨h3, h4⟩ := Num.is_iff.1 hb
  clear ha hb
  go_enter Tryd.func19, Tryd.ntmps19
  go_wp2
  · have h : (!decide (a < wrap64 (a + b)) == decide (0 < b)) = true := by assumption
    have hw : Num.is (a + b) = false := by
      cases hi : Num.is (a + b)
      · rfl
      · rw [Num.wrap_in hi] at h
        have e : decide (a < a + b) = decide (0 < b) := decide_eq_decide.2 (by omega)
        rw [e] at h
        cases hd : decide (0 < b) <;> simp [hd] at h
    go_ret2
    exact ⟨ret_num (Num.of_no hw) hw, x, rfl⟩
  · have h : (!decide (a < wrap64 (a + b)) == decide (0 < b)) = false := by assumption
    have hw : Num.is (a + b) = true := by
      cases hi : Num.is (a + b)
      · exfalso
        have hi' := Num.is_false.1 hi
        have hp : decide (a < wrap64 (a + b)) = !decide (0 < b) := by
          by_cases hb0 : 0 < b
          · have hz : wrap64 (a + b) = a + b - 18446744073709551616 := by unfold wrap64; omega
            rw [hz, decide_eq_true hb0, decide_eq_false (by omega)]; rfl
          · have hz : wrap64 (a + b) = a + b + 18446744073709551616 := by unfold wrap64; omega
            rw [hz, decide_eq_false hb0, decide_eq_true (by omega)]; rfl
        rw [hp] at h
        cases hd : decide (0 < b) <;> simp [hd] at h
      · rfl
    go_ret2
    exact ⟨ret_num (by rw [Num.of_yes hw]; exact (Num.wrap_in hw).symm) hw, x, rfl⟩

theorem sub_any {a b : Int} (ha : Num.is a = true) (hb : Num.is b = true) (x : Lt W) : Calls Tryd.prog 20 #[.int .i64 a, .int .i64 b] x.1 fun e w' => e = .returned (sumV (a - b)) ∧ ∃ y : Lt W, w' = y.1 := by
  obtain ⟨h1, h2⟩ := Num.is_iff.1 ha
  obtain ⟨h3, h4⟩ := Num.is_iff.1 hb
  clear ha hb
  go_enter Tryd.func20, Tryd.ntmps20
  go_wp2
  · have h : (!decide (wrap64 (a - b) < a) == decide (0 < b)) = true := by assumption
    have hw : Num.is (a - b) = false := by
      cases hi : Num.is (a - b)
      · rfl
      · rw [Num.wrap_in hi] at h
        have e : decide (a - b < a) = decide (0 < b) := decide_eq_decide.2 (by omega)
        rw [e] at h
        cases hd : decide (0 < b) <;> simp [hd] at h
    go_ret2
    exact ⟨ret_num (Num.of_no hw) hw, x, rfl⟩
  · have h : (!decide (wrap64 (a - b) < a) == decide (0 < b)) = false := by assumption
    have hw : Num.is (a - b) = true := by
      cases hi : Num.is (a - b)
      · exfalso
        have hi' := Num.is_false.1 hi
        have hp : decide (wrap64 (a - b) < a) = !decide (0 < b) := by
          by_cases hb0 : 0 < b
          · have hz : wrap64 (a - b) = a - b + 18446744073709551616 := by unfold wrap64; omega
            rw [hz, decide_eq_true hb0, decide_eq_false (by omega)]; rfl
          · have hz : wrap64 (a - b) = a - b - 18446744073709551616 := by unfold wrap64; omega
            rw [hz, decide_eq_false hb0, decide_eq_true (by omega)]; rfl
        rw [hp] at h
        cases hd : decide (0 < b) <;> simp [hd] at h
      · rfl
    go_ret2
    exact ⟨ret_num (by rw [Num.of_yes hw]; exact (Num.wrap_in hw).symm) hw, x, rfl⟩

theorem mul_back_no {a b : Int} (ha : Num.is a = true) (h0 : b ≠ 0) (h : ¬ wrap64 ((wrap64 (a * b)).tdiv b) = a) : Num.is (a * b) = false := by
  cases hi : Num.is (a * b)
  · rfl
  · exfalso
    rw [Num.wrap_in hi, Int.mul_tdiv_cancel _ h0, Num.wrap_in ha] at h
    exact h rfl
theorem beq_ne {a b : Int} (h : (a == b) = false) : a ≠ b := by simpa using h

set_option maxHeartbeats 1000000 in
theorem times_any {a b : Int} (ha : Num.is a = true) (hb : Num.is b = true) (x : Lt W) : Calls Tryd.prog 21 #[.int .i64 a, .int .i64 b] x.1 fun e w' => e = .returned (sumV (a * b)) ∧ ∃ y : Lt W, w' = y.1 := by
  by_cases ha0 : a = 0
  · subst ha0
    go_enter Tryd.func21, Tryd.ntmps21
    go_wp2
    go_ret2
    exact ⟨ret_num (by rw [Int.zero_mul]; rfl) (by rw [Int.zero_mul]; decide), x, rfl⟩
  by_cases hb0 : b = 0
  · subst hb0
    have hd : (a == 0) = false := by simpa using ha0
    clear ha0
    go_enter Tryd.func21, Tryd.ntmps21
    go_wp2
    go_ret2
    exact ⟨ret_num (by rw [Int.mul_zero]; rfl) (by rw [Int.mul_zero]; decide), x, rfl⟩
  have hda : (a == 0) = false := by simpa using ha0
  have hdb : (b == 0) = false := by simpa using hb0
  have Ha := Lib.hid ha
  have Hb := Lib.hid hb
  obtain ⟨h1, h2⟩ := Num.is_iff.1 ha
  obtain ⟨h3, h4⟩ := Num.is_iff.1 hb
  clear ha hb
  by_cases hs : b = -1 ∧ a = -9223372036854775808
  · obtain ⟨rfl, rfl⟩ := hs
    clear hda hdb ha0 hb0 Ha Hb h1 h2 h3 h4
    go_enter Tryd.func21, Tryd.ntmps21
    go_wp2
    all_goals go_ret2
    all_goals exact ⟨ret_num (by decide) (by decide), x, rfl⟩
  by_cases hs2 : a = -1 ∧ b = -9223372036854775808
  · obtain ⟨rfl, rfl⟩ := hs2
    clear hda hdb ha0 hb0 Ha Hb h1 h2 h3 h4 hs
    go_enter Tryd.func21, Tryd.ntmps21
    go_wp2
    all_goals go_ret2
    all_goals exact ⟨ret_num (by decide) (by decide), x, rfl⟩
  have hback := Num.times_back Ha.out Hb.out hb0 hs
  have hn1 : (b == -1 && a == -9223372036854775808) = false := by
    cases h : (b == -1 && a == -9223372036854775808)
    · rfl
    · exfalso; simp at h; exact hs h
  have hn2 : (a == -1 && b == -9223372036854775808) = false := by
    cases h : (a == -1 && b == -9223372036854775808)
    · rfl
    · exfalso; simp at h; exact hs2 h
  have HB := Lib.hid hback
  clear hback ha0 hs hs2
  by_cases hm : wrap64 ((wrap64 (a * b)).tdiv b) = a
  · have hi := HB.out.1 hm
    have HI := Lib.hid hi
    clear hi HB
    by_cases q1 : a = -1
    · have r1 : (a == -1) = true := by simpa using q1
      have r2 : (b == -9223372036854775808) = false := by rw [r1] at hn2; simpa using hn2
      by_cases q2 : b = -1
      · subst q1; subst q2
        clear r1 r2 hn1 hn2 hda hdb Ha Hb HI h1 h2 h3 h4 hm hb0
        go_enter Tryd.func21, Tryd.ntmps21
        go_wp2
        all_goals go_ret2
        all_goals exact ⟨ret_num (by decide) (by decide), x, rfl⟩
      · have r3 : (b == -1) = false := by simpa using q2
        have hlo : -9223372036854775807 ≤ b := by have := beq_ne r2; omega
        have hw1 : wrap64 (-1) = -1 := by unfold wrap64; omega
        subst q1
        clear hn1 hn2 q2 r1 hm
        go_enter Tryd.func21, Tryd.ntmps21
        go_wp2
        all_goals go_ret2
        all_goals exact ⟨ret_num (by rw [Num.of_yes HI.out, Int.neg_mul, Int.one_mul]) HI.out, x, rfl⟩
    · have r1 : (a == -1) = false := by simpa using q1
      by_cases q2 : b = -1
      · have r3 : (a == -9223372036854775808) = false := by rw [show (b == -1) = true by simpa using q2] at hn1; simpa using hn1
        have hlo : -9223372036854775807 ≤ a := by have := beq_ne r3; omega
        subst q2
        clear hn1 hn2 q1 hm
        go_enter Tryd.func21, Tryd.ntmps21
        go_wp2
        all_goals go_ret2
        all_goals exact ⟨ret_num (by rw [Num.of_yes HI.out, Int.mul_neg, Int.mul_one]) HI.out, x, rfl⟩
      · have r3 : (b == -1) = false := by simpa using q2
        clear hn1 hn2 q1 q2
        go_enter Tryd.func21, Tryd.ntmps21
        go_wp2
        all_goals go_ret2
        all_goals exact ⟨ret_num (by rw [Num.of_yes HI.out]; exact (Num.wrap_in HI.out).symm) HI.out, x, rfl⟩
  · have hi : Num.is (a * b) = false := by
      cases h : Num.is (a * b)
      · rfl
      · exact absurd (HB.out.2 h) hm
    have HI := Lib.hid hi
    have hm' : (wrap64 ((wrap64 (a * b)).tdiv b) != a) = true := by simpa using hm
    clear hi hm HB hn1 hn2
    go_enter Tryd.func21, Tryd.ntmps21
    go_wp2
    all_goals go_ret2
    all_goals exact ⟨ret_num (Num.of_no HI.out) HI.out, x, rfl⟩

theorem radd_any {a b : Int} (ha : Num.is a = true) (hb : Num.is b = true) (x : Lt W) : Calls Tryd.prog 22 #[.int .i64 a, .int .i64 b] x.1 fun e w' => e = .returned (sumV (a + b)) ∧ ∃ y : Lt W, w' = y.1 := by
  obtain ⟨h1, h2⟩ := Num.is_iff.1 ha
  obtain ⟨h3, h4⟩ := Num.is_iff.1 hb
  clear ha hb
  cases hi : Num.is (a + b)
  · have hi' := Num.is_false.1 hi
    have hn := Num.of_no hi
    have HI := Lib.hid hi
    have HN := Lib.hid hn
    clear hi hn
    rcases hi' with hl | hl
    · have hw : 0 ≤ wrap64 (a + b) := by unfold wrap64; omega
      have ga : a < 0 := by omega
      have gb : b < 0 := by omega
      go_enter Tryd.func22, Tryd.ntmps22
      go_wp2
      go_ret2
      exact ⟨ret_num HN.out HI.out, x, rfl⟩
    · have hw : wrap64 (a + b) < 0 := by unfold wrap64; omega
      have ga : 0 ≤ a := by omega
      have gb : 0 ≤ b := by omega
      go_enter Tryd.func22, Tryd.ntmps22
      go_wp2
      go_ret2
      exact ⟨ret_num HN.out HI.out, x, rfl⟩
  · have hw := Num.of_yes hi
    obtain ⟨k1, k2⟩ := Num.is_iff.1 hi
    have HI := Lib.hid hi
    have HW := Lib.hid hw
    clear hi hw
    by_cases ga : 0 ≤ a <;> by_cases gb : 0 ≤ b
    all_goals
      go_enter Tryd.func22, Tryd.ntmps22
      go_wp2
      all_goals go_ret2
      all_goals exact ⟨ret_num HW.out HI.out, x, rfl⟩

theorem rsub_any {a b : Int} (ha : Num.is a = true) (hb : Num.is b = true) (x : Lt W) : Calls Tryd.prog 23 #[.int .i64 a, .int .i64 b] x.1 fun e w' => e = .returned (sumV (a - b)) ∧ ∃ y : Lt W, w' = y.1 := by
  obtain ⟨h1, h2⟩ := Num.is_iff.1 ha
  obtain ⟨h3, h4⟩ := Num.is_iff.1 hb
  clear ha hb
  cases hi : Num.is (a - b)
  · have hi' := Num.is_false.1 hi
    have hn := Num.of_no hi
    have HI := Lib.hid hi
    have HN := Lib.hid hn
    clear hi hn
    rcases hi' with hl | hl
    · have hw : 0 ≤ wrap64 (a - b) := by unfold wrap64; omega
      have ga : a < 0 := by omega
      have gb : 0 ≤ b := by omega
      go_enter Tryd.func23, Tryd.ntmps23
      go_wp2
      go_ret2
      exact ⟨ret_num HN.out HI.out, x, rfl⟩
    · have hw : wrap64 (a - b) < 0 := by unfold wrap64; omega
      have ga : 0 ≤ a := by omega
      have gb : b < 0 := by omega
      go_enter Tryd.func23, Tryd.ntmps23
      go_wp2
      go_ret2
      exact ⟨ret_num HN.out HI.out, x, rfl⟩
  · have hw := Num.of_yes hi
    obtain ⟨k1, k2⟩ := Num.is_iff.1 hi
    have HI := Lib.hid hi
    have HW := Lib.hid hw
    clear hi hw
    by_cases ga : 0 ≤ a <;> by_cases gb : 0 ≤ b
    all_goals
      go_enter Tryd.func23, Tryd.ntmps23
      go_wp2
      all_goals go_ret2
      all_goals exact ⟨ret_num HW.out HI.out, x, rfl⟩

theorem size_any {a : Int} (ha : Num.is a = true) (x : Lt W) : Calls Tryd.prog 33 #[.int .i64 a] x.1 fun e w' => e = .returned (.int .u64 (a.natAbs : Int)) ∧ ∃ y : Lt W, w' = y.1 := by
  obtain ⟨h1, h2⟩ := Num.is_iff.1 ha
  clear ha
  go_enter Tryd.func33, Tryd.ntmps33
  go_wp2
  · have h : 0 ≤ a := by assumption
    go_ret
    exact ⟨ret_int (by omega), x, rfl⟩
  · have h : a < 0 := by assumption
    go_ret
    exact ⟨ret_int (by omega), x, rfl⟩

theorem Num.mul_abs (a b : Int) : (a * b).natAbs = a.natAbs * b.natAbs := Int.natAbs_mul a b

/-- The document's way: the sizes, held against the bound of the sign. -/
theorem Num.is_mul {a b : Int} {most : Nat} (hm : most = if decide (a < 0) != decide (b < 0) then 9223372036854775808 else 9223372036854775807) : Num.is (a * b) = decide (a.natAbs * b.natAbs ≤ most) := by
  have habs := Int.natAbs_mul a b
  have hsign : (decide (a < 0) != decide (b < 0)) = true → a * b ≤ 0 := by
    intro h
    by_cases h1 : a < 0 <;> by_cases h2 : b < 0 <;> simp [h1, h2] at h
    · exact Int.mul_nonpos_of_nonpos_of_nonneg (by omega) (by omega)
    · exact Int.mul_nonpos_of_nonneg_of_nonpos (by omega) (by omega)
  have hsign2 : (decide (a < 0) != decide (b < 0)) = false → 0 ≤ a * b := by
    intro h
    by_cases h1 : a < 0 <;> by_cases h2 : b < 0 <;> simp [h1, h2] at h
    · exact Int.mul_nonneg_of_nonpos_of_nonpos (by omega) (by omega)
    · exact Int.mul_nonneg (by omega) (by omega)
  rw [← habs]
  generalize a * b = z at *
  rw [Bool.eq_iff_iff, decide_eq_true_iff, Num.is_iff]
  cases hs : (decide (a < 0) != decide (b < 0))
  · have := hsign2 hs
    rw [hs] at hm
    simp at hm
    omega
  · have := hsign hs
    rw [hs] at hm
    simp at hm
    omega

set_option maxHeartbeats 1000000 in
theorem rtimes_any {a b : Int} (ha : Num.is a = true) (hb : Num.is b = true) (x : Lt W) : Calls Tryd.prog 24 #[.int .i64 a, .int .i64 b] x.1 fun e w' => e = .returned (sumV (a * b)) ∧ ∃ y : Lt W, w' = y.1 := by
  obtain ⟨h1, h2⟩ := Num.is_iff.1 ha
  obtain ⟨h3, h4⟩ := Num.is_iff.1 hb
  have Ha := Lib.hid ha
  have Hb := Lib.hid hb
  clear ha hb
  have hmul := fun most (hm : most = if decide (a < 0) != decide (b < 0) then 9223372036854775808 else 9223372036854775807) => Num.is_mul (a := a) (b := b) hm
  obtain ⟨p, hp⟩ : ∃ p, p = a.natAbs := ⟨_, rfl⟩
  obtain ⟨q, hq⟩ : ∃ q, q = b.natAbs := ⟨_, rfl⟩
  have hpb : (p : Int) ≤ 9223372036854775808 := by omega
  have hqb : (q : Int) ≤ 9223372036854775808 := by omega
  rw [← hp, ← hq] at hmul
  have hsz : ∀ z : Lt W, Calls Tryd.prog 33 #[.int .i64 a] z.1 fun e w' => e = .returned (.int .u64 (p : Int)) ∧ ∃ y : Lt W, w' = y.1 := fun z => by rw [hp]; exact size_any Ha.out z
  have hsz2 : ∀ z : Lt W, Calls Tryd.prog 33 #[.int .i64 b] z.1 fun e w' => e = .returned (.int .u64 (q : Int)) ∧ ∃ y : Lt W, w' = y.1 := fun z => by rw [hq]; exact size_any Hb.out z
  have H1 := Lib.hid hsz
  have H2 := Lib.hid hsz2
  have HM := Lib.hid hmul
  have HQ := Lib.hid hq
  clear hsz hsz2 hmul hp hq
  have hpn : (0 : Int) ≤ p := by omega
  have hqn : (0 : Int) ≤ q := by omega
  by_cases hq0 : q = 0
  · have hi : Num.is (a * b) = true := by
      have : b = 0 := by have := HQ.out; omega
      rw [this, Int.mul_zero]; decide
    have HI := Lib.hid hi
    clear hi
    subst hq0
    cases ga : decide (a < 0) <;> cases gb : decide (b < 0)
    all_goals
      go_enter Tryd.func24, Tryd.ntmps24
      go_wp2_with fail
      refine (H1.out x).mono ?_; rintro e w' ⟨rfl, y, rfl⟩
      go_wp2_with fail
      refine (H2.out y).mono ?_; rintro e w' ⟨rfl, y, rfl⟩
      go_wp2_with fail
      go_ret2
      exact ⟨ret_num (by rw [Num.of_yes HI.out]; exact (Num.wrap_in HI.out).symm) HI.out, y, rfl⟩
  · have hq1 : (0 : Int) < q := by omega
    have hq1' : (1 : Int) ≤ q := by omega
    obtain ⟨most, hmost⟩ : ∃ most : Nat, most = if decide (a < 0) != decide (b < 0) then 9223372036854775808 else 9223372036854775807 := ⟨_, rfl⟩
    have hi := HM.out most hmost
    have hdiv : decide ((p : Int) ≤ (most : Int) / (q : Int)) = Num.is (a * b) := by
      rw [hi]
      apply decide_eq_decide.2
      rw [← Int.natCast_ediv, Int.ofNat_le]
      exact Nat.le_div_iff_mul_le (by omega)
    have HMo := Lib.hid hmost
    clear hi hmost
    cases hI : Num.is (a * b)
    · rw [hI] at hdiv
      have hlt : (most : Int) / (q : Int) < p := by simpa using hdiv
      have HI := Lib.hid hI
      clear hI hdiv
      cases ga : decide (a < 0) <;> cases gb : decide (b < 0)
      all_goals
        have hmv := HMo.out
        rw [ga, gb] at hmv
        simp only [bne_self_eq_false, Bool.false_eq_true, if_false, Bool.true_bne, Bool.false_bne, Bool.not_false, if_true] at hmv
        subst hmv
        first | rw [show ((9223372036854775807 : Nat) : Int) = 9223372036854775807 from rfl] at hlt | rw [show ((9223372036854775808 : Nat) : Int) = 9223372036854775808 from rfl] at hlt
        go_enter Tryd.func24, Tryd.ntmps24
        go_wp2_with fail
        refine (H1.out x).mono ?_; rintro e w' ⟨rfl, y, rfl⟩
        go_wp2_with fail
        refine (H2.out y).mono ?_; rintro e w' ⟨rfl, y, rfl⟩
        go_wp2_with fail
        go_ret2
        exact ⟨ret_num (Num.of_no HI.out) HI.out, y, rfl⟩
    · rw [hI] at hdiv
      have hle : (p : Int) ≤ (most : Int) / (q : Int) := by simpa using hdiv
      have HI := Lib.hid hI
      clear hI hdiv
      cases ga : decide (a < 0) <;> cases gb : decide (b < 0)
      all_goals
        have hmv := HMo.out
        rw [ga, gb] at hmv
        simp only [bne_self_eq_false, Bool.false_eq_true, if_false, Bool.true_bne, Bool.false_bne, Bool.not_false, if_true] at hmv
        subst hmv
        first | rw [show ((9223372036854775807 : Nat) : Int) = 9223372036854775807 from rfl] at hle | rw [show ((9223372036854775808 : Nat) : Int) = 9223372036854775808 from rfl] at hle
        go_enter Tryd.func24, Tryd.ntmps24
        go_wp2_with fail
        refine (H1.out x).mono ?_; rintro e w' ⟨rfl, y, rfl⟩
        go_wp2_with fail
        refine (H2.out y).mono ?_; rintro e w' ⟨rfl, y, rfl⟩
        go_wp2_with fail
        go_ret2
        exact ⟨ret_num (by rw [Num.of_yes HI.out]; exact (Num.wrap_in HI.out).symm) HI.out, y, rfl⟩
end Go.Proofs.YtlfdiafpmlcmdaaDoor
