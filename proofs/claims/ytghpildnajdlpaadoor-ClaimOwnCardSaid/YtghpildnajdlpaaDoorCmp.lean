/-
  How two values stand to one another: the program's Compare and the document's are one function, and what order that is. Conditions: none.
-/
import Derived.Test.YtghpildnajdlpaaDoorVal
namespace Go.Proofs.YtghpildnajdlpaaDoor
open Go.RowKit

namespace B
theorem irrefl : ∀ x : List UInt8, Op.bytesLess x x = false
  | [] => rfl
  | a :: x => by simp [Op.bytesLess, irrefl x]
theorem cons (a b : UInt8) (x y : List UInt8) : Op.bytesLess (a :: x) (b :: y) = (decide (a < b) || (a == b && Op.bytesLess x y)) := rfl
theorem asymm : ∀ x y : List UInt8, Op.bytesLess x y = true → Op.bytesLess y x = false
  | x, [], h => by cases x <;> cases h
  | [], _ :: _, _ => rfl
  | a :: x, b :: y, h => by
    rw [cons] at h ⊢
    simp only [Bool.or_eq_true, decide_eq_true_eq, Bool.and_eq_true, beq_iff_eq] at h
    rcases h with h | ⟨rfl, h⟩
    · have h1 : ¬ b < a := by rw [UInt8.lt_iff_toNat_lt] at h ⊢; omega
      have h2 : ¬ b = a := by rintro rfl; rw [UInt8.lt_iff_toNat_lt] at h; omega
      simp [h1, h2]
    · simp [asymm x y h]
theorem conn : ∀ x y : List UInt8, Op.bytesLess x y = false → Op.bytesLess y x = false → x = y
  | [], [], _, _ => rfl
  | [], _ :: _, h, _ => by cases h
  | _ :: _, [], _, h => by cases h
  | a :: x, b :: y, h, h' => by
    rw [cons] at h h'
    simp only [Bool.or_eq_false_iff, decide_eq_false_iff_not, Bool.and_eq_false_iff, beq_eq_false_iff_ne] at h h'
    have e : a = b := by
      have h1 := h.1; have h2 := h'.1
      rw [UInt8.lt_iff_toNat_lt] at h1 h2
      exact UInt8.toNat_inj.1 (by omega)
    subst e
    rw [conn x y (h.2.resolve_left (fun k => k rfl)) (h'.2.resolve_left (fun k => k rfl))]
theorem trans : ∀ x y z : List UInt8, Op.bytesLess x y = true → Op.bytesLess y z = true → Op.bytesLess x z = true
  | x, [], _, h, _ => by cases x <;> cases h
  | _, _ :: y, [], _, h => by cases h
  | [], _ :: _, _ :: _, _, _ => rfl
  | a :: x, b :: y, c :: z, h, h' => by
    rw [cons] at h h' ⊢
    simp only [Bool.or_eq_true, decide_eq_true_eq, Bool.and_eq_true, beq_iff_eq] at h h' ⊢
    rcases h with h | ⟨rfl, h⟩
    · rcases h' with h' | ⟨rfl, h'⟩
      · left; rw [UInt8.lt_iff_toNat_lt] at h h' ⊢; omega
      · exact .inl h
    · rcases h' with h' | ⟨rfl, h'⟩
      · exact .inl h'
      · exact .inr ⟨rfl, trans x y z h h'⟩
/-- Two texts held against one another. -/
def cmp (x y : List UInt8) : Int := if Op.bytesLess x y then -1 else if Op.bytesLess y x then 1 else 0
theorem cmp_self (x : List UInt8) : cmp x x = 0 := by simp [cmp, irrefl]
theorem cmp_turn (x y : List UInt8) : cmp y x = -cmp x y := by
  unfold cmp
  cases h : Op.bytesLess x y <;> cases h' : Op.bytesLess y x <;> simp
  rw [asymm x y h] at h'; cases h'
theorem cmp_zero {x y : List UInt8} : cmp x y = 0 ↔ x = y := by
  constructor
  · intro h
    unfold cmp at h
    cases h1 : Op.bytesLess x y <;> cases h2 : Op.bytesLess y x <;> simp [h1, h2] at h
    exact conn x y h1 h2
  · rintro rfl; exact cmp_self x
theorem cmp_neg {x y : List UInt8} : cmp x y = -1 ↔ Op.bytesLess x y = true := by
  unfold cmp
  cases h1 : Op.bytesLess x y <;> cases h2 : Op.bytesLess y x <;> simp
theorem cmp_pos {x y : List UInt8} : cmp x y = 1 ↔ Op.bytesLess y x = true := by
  have h := cmp_turn x y
  rw [← cmp_neg]; omega
theorem cmp_range (x y : List UInt8) : cmp x y = -1 ∨ cmp x y = 0 ∨ cmp x y = 1 := by
  unfold cmp; split
  · exact .inl rfl
  · split
    · exact .inr (.inr rfl)
    · exact .inr (.inl rfl)
theorem cmp_cons (a b : UInt8) (x y : List UInt8) : cmp (a :: x) (b :: y) = if a < b then -1 else if b < a then 1 else cmp x y := by
  unfold cmp
  rw [cons, cons]
  by_cases h1 : a < b
  · simp [h1]
  · by_cases h2 : b < a
    · have h3 : ¬ a = b := by rintro rfl; exact h1 h2
      simp [h1, h2, h3]
    · have h3 : a = b := by
        rw [UInt8.lt_iff_toNat_lt] at h1 h2
        exact UInt8.toNat_inj.1 (by omega)
      subst h3; simp [h1]
theorem cmp_nil_nil : cmp [] [] = 0 := rfl
theorem cmp_nil_cons (b : UInt8) (y : List UInt8) : cmp [] (b :: y) = -1 := rfl
theorem cmp_cons_nil (a : UInt8) (x : List UInt8) : cmp (a :: x) [] = 1 := rfl
/-- What the first k bytes share is left out. -/
theorem cmp_drop : ∀ (k : Nat) (x y : List UInt8), x.take k = y.take k → cmp x y = cmp (x.drop k) (y.drop k)
  | 0, _, _, _ => rfl
  | k + 1, [], [], _ => rfl
  | k + 1, [], _ :: _, h => by simp at h
  | k + 1, _ :: _, [], h => by simp at h
  | k + 1, a :: x, b :: y, h => by
    simp only [List.take_succ_cons, List.cons.injEq] at h
    obtain ⟨rfl, h⟩ := h
    have h1 : ¬ a < a := by rw [UInt8.lt_iff_toNat_lt]; omega
    rw [cmp_cons, if_neg h1, if_neg h1, List.drop_succ_cons, List.drop_succ_cons]
    exact cmp_drop k x y h
theorem cmp_at {k : Nat} {x y : List UInt8} (h : x.take k = y.take k) (hx : k < x.length) (hy : k < y.length) : cmp x y = if x[k] < y[k] then -1 else if y[k] < x[k] then 1 else cmp (x.drop (k + 1)) (y.drop (k + 1)) := by
  rw [cmp_drop k x y h, List.drop_eq_getElem_cons hx, List.drop_eq_getElem_cons hy, cmp_cons]
/-- One is the other's beginning. -/
theorem cmp_end {k : Nat} {x y : List UInt8} (h : x.take k = y.take k) (hk : k = x.length ∨ k = y.length) (hx : k ≤ x.length) (hy : k ≤ y.length) : cmp x y = if x.length < y.length then -1 else if y.length < x.length then 1 else 0 := by
  rw [cmp_drop k x y h]
  have l1 : (x.drop k).length = x.length - k := List.length_drop
  have l2 : (y.drop k).length = y.length - k := List.length_drop
  generalize x.drop k = u at *
  generalize y.drop k = v at *
  cases u with
  | nil => cases v with
    | nil => simp at l1 l2; rw [if_neg (by omega), if_neg (by omega)]; rfl
    | cons b v => simp at l1 l2; rw [if_pos (by omega)]; rfl
  | cons a u => cases v with
    | nil => simp at l1 l2; rw [if_neg (by omega), if_pos (by omega)]; rfl
    | cons b v => simp at l1 l2; omega
theorem cmp_trans {x y z : List UInt8} (h1 : cmp x y ≤ 0) (h2 : cmp y z ≤ 0) : cmp x z ≤ 0 ∧ (cmp x z = 0 ↔ cmp x y = 0 ∧ cmp y z = 0) := by
  rcases cmp_range x y with a | a | a
  · rcases cmp_range y z with b | b | b
    · have c := cmp_neg.2 (trans x y z (cmp_neg.1 a) (cmp_neg.1 b)); omega
    · rw [cmp_zero] at b; subst b; rw [cmp_self]; omega
    · omega
  · rw [cmp_zero] at a; subst a; rw [cmp_self]; omega
  · omega
end B

/-- Two numbers held against one another. -/
def Num.cmp (a b : Int) : Int := if a < b then -1 else if b < a then 1 else 0
/-- Two values held against one another. -/
def cmpV (u v : Val) : Int := if u.t then (if v.t then B.cmp u.s.toList v.s.toList else 1) else if v.t then -1 else Num.cmp u.n v.n
theorem Num.cmp_turn (a b : Int) : Num.cmp b a = -Num.cmp a b := by unfold Num.cmp; split <;> split <;> omega
theorem Num.cmp_zero {a b : Int} : Num.cmp a b = 0 ↔ a = b := by unfold Num.cmp; split <;> (try split) <;> omega
theorem Num.cmp_range (a b : Int) : Num.cmp a b = -1 ∨ Num.cmp a b = 0 ∨ Num.cmp a b = 1 := by unfold Num.cmp; split <;> (try split) <;> omega
theorem Num.cmp_trans {x y z : Int} (h1 : Num.cmp x y ≤ 0) (h2 : Num.cmp y z ≤ 0) : Num.cmp x z ≤ 0 ∧ (Num.cmp x z = 0 ↔ Num.cmp x y = 0 ∧ Num.cmp y z = 0) := by
  rw [Num.cmp_zero, Num.cmp_zero, Num.cmp_zero]
  have e : ∀ {a b : Int}, Num.cmp a b ≤ 0 ↔ a ≤ b := by intro a b; unfold Num.cmp; split <;> (try split) <;> omega
  rw [e] at h1 h2 ⊢; omega
theorem cmpV_turn (u v : Val) : cmpV v u = -cmpV u v := by
  unfold cmpV
  cases u.t <;> cases v.t <;> simp [B.cmp_turn u.s.toList v.s.toList, Num.cmp_turn u.n v.n]
theorem cmpV_self (u : Val) : cmpV u u = 0 := by
  unfold cmpV
  cases u.t <;> simp [B.cmp_self, Num.cmp_zero]
theorem cmpV_range (u v : Val) : cmpV u v = -1 ∨ cmpV u v = 0 ∨ cmpV u v = 1 := by
  unfold cmpV
  cases u.t <;> cases v.t <;> simp [B.cmp_range, Num.cmp_range]
theorem cmpV_trans {x y z : Val} (h1 : cmpV x y ≤ 0) (h2 : cmpV y z ≤ 0) : cmpV x z ≤ 0 ∧ (cmpV x z = 0 ↔ cmpV x y = 0 ∧ cmpV y z = 0) := by
  unfold cmpV at *
  cases hx : x.t <;> cases hy : y.t <;> cases hz : z.t <;> simp only [hx, hy, hz, if_true, if_false, Bool.false_eq_true] at * <;> first | omega | exact Num.cmp_trans h1 h2 | exact B.cmp_trans h1 h2
/-- Values that may be and stand at one place are one. -/
theorem cmpV_right {u v : Val} (hu : u.right = true) (hv : v.right = true) : cmpV u v = 0 ↔ u = v := by
  constructor
  · intro h
    rw [Val.same_iff]
    unfold cmpV at h
    unfold Val.right at hu hv
    cases h1 : u.t <;> cases h2 : v.t <;> simp [h1, h2] at h hu hv ⊢
    · exact ⟨Num.cmp_zero.1 h, by rw [(size_nil _).1 (by simpa using hu), (size_nil _).1 (by simpa using hv)]⟩
    · exact ⟨by omega, B.cmp_zero.1 h⟩
  · rintro rfl; exact cmpV_self u
end Go.Proofs.YtghpildnajdlpaaDoor
