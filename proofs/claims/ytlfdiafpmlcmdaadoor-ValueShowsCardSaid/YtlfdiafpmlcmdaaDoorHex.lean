/-
  Texts of values, plain: what is shown, and that only one value shows so. No walk.
-/
import Derived.Test.YtlfdiafpmlcmdaaDoorHalf
import Derived.Test.YtlfdiafpmlcmdaaDoorDec
import Derived.Test.YtlfdiafpmlcmdaaDoorNum
namespace Go.Proofs.YtlfdiafpmlcmdaaDoor
open Go.RowKit

namespace V
theorem tab_small {k : Nat} (hk : k < 16) : 48 ≤ tab.getD k 0 ∧ tab.getD k 0 < 103 := (show ∀ k : Fin 16, 48 ≤ tab.getD k 0 ∧ tab.getD k 0 < 103 by decide +kernel) ⟨k, hk⟩
def dgt (k : Nat) : UInt8 := UInt8.ofNat (tab.getD k 0)
theorem dgt_nat {k : Nat} (hk : k < 16) : (dgt k).toNat = tab.getD k 0 := by
  unfold dgt; rw [UInt8.toNat_ofNat']; have := tab_small hk; omega
/-- A byte's two digits. -/
def hexOf (b : UInt8) : List UInt8 := [dgt (b.toNat / 16), dgt (b.toNat % 16)]
theorem lt16 (b : UInt8) : b.toNat / 16 < 16 := by have := b.toNat_lt; omega
/-- What a digit says, as a number. -/
def num (c : UInt8) : Nat := (hex (c.toNat : Int)).toNat
theorem hex_range {c : Int} : 0 ≤ hex c ∧ hex c < 16 := by
  unfold hex
  by_cases h : isHex c = true
  · rw [if_pos h]; unfold isHex at h
    simp only [Bool.or_eq_true, Bool.and_eq_true, decide_eq_true_eq] at h
    split <;> omega
  · rw [if_neg h]; omega
theorem num_int (c : UInt8) : ((num c : Nat) : Int) = hex (c.toNat : Int) := by
  unfold num; have := @hex_range (c.toNat : Int); omega
theorem num_lt (c : UInt8) : num c < 16 := by have := num_int c; have := @hex_range (c.toNat : Int); omega
theorem num_dgt {k : Nat} (hk : k < 16) : num (dgt k) = k ∧ isHex ((dgt k).toNat : Int) = true := by
  have h := tab_hex hk
  have e : (((dgt k).toNat : Nat) : Int) = (tab.getD k 0 : Nat) := by rw [dgt_nat hk]
  refine ⟨?_, by rw [e]; exact h.1⟩
  unfold num; rw [e, h.2]; rfl
theorem dgt_num {c : UInt8} (h : isHex (c.toNat : Int) = true) : dgt (num c) = c := by
  have := c.toNat_lt
  have h2 := (show ∀ k : Fin 256, isHex ((k : Nat) : Int) = true → tab.getD (hex ((k : Nat) : Int)).toNat 0 = (k : Nat) by decide +kernel) ⟨c.toNat, this⟩ h
  refine UInt8.toNat_inj.1 ?_
  rw [dgt_nat (num_lt c)]; exact h2
/-- The byte that two digits say. -/
def two (a b : UInt8) : UInt8 := UInt8.ofNat (num a * 16 + num b)
theorem two_nat (a b : UInt8) : (two a b).toNat = num a * 16 + num b := by
  unfold two; rw [UInt8.toNat_ofNat']; have := num_lt a; have := num_lt b; omega
theorem two_hexOf (b : UInt8) : ∃ c d, hexOf b = [c, d] ∧ two c d = b := by
  refine ⟨_, _, rfl, UInt8.toNat_inj.1 ?_⟩
  rw [two_nat, (num_dgt (lt16 b)).1, (num_dgt (Nat.mod_lt _ (by omega))).1]; omega
theorem hexOf_two {a b : UInt8} (ha : isHex (a.toNat : Int) = true) (hb : isHex (b.toNat : Int) = true) : hexOf (two a b) = [a, b] := by
  unfold hexOf
  rw [two_nat, show (num a * 16 + num b) / 16 = num a by have := num_lt b; omega, show (num a * 16 + num b) % 16 = num b by have := num_lt b; omega, dgt_num ha, dgt_num hb]
/-- The bytes that digits say, two by two. -/
def pairs : List UInt8 → List UInt8
  | a :: b :: r => two a b :: pairs r
  | _ => []
def hexes (l : List UInt8) : List UInt8 := l.flatMap hexOf
theorem hexes_cons (b : UInt8) (r : List UInt8) : hexes (b :: r) = dgt (b.toNat / 16) :: dgt (b.toNat % 16) :: hexes r := rfl
theorem hexes_append (l r : List UInt8) : hexes (l ++ r) = hexes l ++ hexes r := List.flatMap_append
theorem hexes_length (l : List UInt8) : (hexes l).length = 2 * l.length := by
  induction l with
  | nil => rfl
  | cons b r ih => rw [hexes_cons, List.length_cons, List.length_cons, List.length_cons, ih]; omega
theorem pairs_hexes (l : List UInt8) : pairs (hexes l) = l := by
  induction l with
  | nil => rfl
  | cons b r ih =>
    rw [hexes_cons, pairs, ih]
    congr 1
    refine UInt8.toNat_inj.1 ?_
    rw [two_nat, (num_dgt (lt16 b)).1, (num_dgt (Nat.mod_lt _ (by omega))).1]; omega
theorem hexes_hex (l : List UInt8) : ∀ c ∈ hexes l, isHex (c.toNat : Int) = true := by
  induction l with
  | nil => intro c hc; cases hc
  | cons b r ih =>
    rw [hexes_cons]; intro c hc
    rcases List.mem_cons.1 hc with rfl | hc
    · exact (num_dgt (lt16 b)).2
    rcases List.mem_cons.1 hc with rfl | hc
    · exact (num_dgt (Nat.mod_lt _ (by omega))).2
    · exact ih c hc
theorem hexes_pairs : ∀ (n : Nat) (l : List UInt8), l.length = 2 * n → (∀ c ∈ l, isHex (c.toNat : Int) = true) → hexes (pairs l) = l
  | 0, [], _, _ => rfl
  | n + 1, a :: b :: r, hl, h => by
    rw [pairs]
    show hexOf (two a b) ++ hexes (pairs r) = _
    rw [hexOf_two (h a (.head _)) (h b (.tail _ (.head _))), hexes_pairs n r (by simp only [List.length_cons] at hl; omega) (fun c hc => h c (.tail _ (.tail _ hc)))]
    rfl
end V

/-- A value's text. -/
def Val.shows (v : Val) : List UInt8 := if v.right then (if v.t then 120 :: V.hexes v.s.data.toList else Lib.itoa v.n) else []
/-- A text is some value's that may be. -/
def Says (s : List UInt8) (v : Val) : Prop := v.right = true ∧ Num.is v.n = true ∧ v.shows = s
theorem right_text {v : Val} (h : v.t = true) (hr : v.right = true) : v.n = 0 ∧ v.s.size ≤ 12 := by
  unfold Val.right at hr
  rw [if_pos h, Bool.and_eq_true, decide_eq_true_iff, decide_eq_true_iff] at hr
  exact hr
theorem right_number {v : Val} (h : v.t = false) (hr : v.right = true) : v.s = ⟨#[]⟩ := by
  unfold Val.right at hr
  rw [if_neg (by rw [h]; decide), decide_eq_true_iff] at hr
  obtain ⟨t, n, s⟩ := v
  obtain ⟨d⟩ := s
  have : d.size = 0 := hr
  rw [Array.size_eq_zero_iff] at this
  subst this; rfl
theorem shows_text {v : Val} (h : v.t = true) (hr : v.right = true) : v.shows = 120 :: V.hexes v.s.data.toList := by
  unfold Val.shows; rw [if_pos hr, if_pos h]
theorem shows_number {v : Val} (h : v.t = false) (hr : v.right = true) : v.shows = Lib.itoa v.n := by
  unfold Val.shows; rw [if_pos hr, if_neg (by rw [h]; decide)]
theorem shows_wrong {v : Val} (hr : v.right = false) : v.shows = [] := by
  unfold Val.shows; rw [if_neg (by rw [hr]; decide)]
theorem shows_ne {v : Val} (hr : v.right = true) : v.shows ≠ [] := by
  cases h : v.t
  · rw [shows_number h hr]; obtain ⟨c, r, e, _⟩ := D.itoa_head v.n; rw [e]; simp
  · rw [shows_text h hr]; simp
theorem bytes_data {a b : ByteArray} (h : a.data.toList = b.data.toList) : a = b := by
  cases a; cases b; simpa using h
/-- Only one value shows so. -/
theorem Says.one {s : List UInt8} {u v : Val} (hu : Says s u) (hv : Says s v) : u = v := by
  obtain ⟨r1, n1, e1⟩ := hu
  obtain ⟨r2, n2, e2⟩ := hv
  rw [← e2] at e1
  cases h1 : u.t <;> cases h2 : v.t
  · rw [shows_number h1 r1, shows_number h2 r2] at e1
    have := D.itoa_inj (Num.is_iff.1 n1) (Num.is_iff.1 n2) e1
    have q1 := right_number h1 r1
    have q2 := right_number h2 r2
    obtain ⟨t, n, s⟩ := u
    obtain ⟨t', n', s'⟩ := v
    simp_all
  · rw [shows_number h1 r1, shows_text h2 r2] at e1
    obtain ⟨c, r, e, hc⟩ := D.itoa_head u.n
    rw [e] at e1; injection e1 with e1; exact absurd e1 hc
  · rw [shows_text h1 r1, shows_number h2 r2] at e1
    obtain ⟨c, r, e, hc⟩ := D.itoa_head v.n
    rw [e] at e1; injection e1 with e1; exact absurd e1.symm hc
  · rw [shows_text h1 r1, shows_text h2 r2] at e1
    injection e1 with _ e1
    have e3 := congrArg V.pairs e1
    rw [V.pairs_hexes, V.pairs_hexes] at e3
    have e4 := bytes_data e3
    have q1 := (right_text h1 r1).1
    have q2 := (right_text h2 r2).1
    obtain ⟨t, n, s⟩ := u
    obtain ⟨t', n', s'⟩ := v
    simp_all
end Go.Proofs.YtlfdiafpmlcmdaaDoor
