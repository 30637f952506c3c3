/-
  Decimal numerals: what digits say, and that what is shown is read as it was. No program in sight.
-/
import Derived.Lib.ItoaMem
import Derived.Lib.ParseIntBTie
import Derived.RowKit
namespace Go.Proofs.YtlfdiafpmlcmdaaDoor.D
open Go.Lib Go.RowKit

/-- What a list of digits says behind 'acc'. -/
def val (acc : Nat) (l : List UInt8) : Nat := l.foldl (fun a c => a * 10 + (c.toNat - 48)) acc
theorem val_nil (acc : Nat) : val acc [] = acc := by unfold val; exact List.foldl_nil
theorem val_cons (acc : Nat) (c : UInt8) (r : List UInt8) : val acc (c :: r) = val (acc * 10 + (c.toNat - 48)) r := by unfold val; exact List.foldl_cons ..
/-- Is a byte a digit? -/
def isd (c : UInt8) : Prop := 48 ≤ c.toNat ∧ c.toNat ≤ 57
instance (c : UInt8) : Decidable (isd c) := inferInstanceAs (Decidable (_ ∧ _))

theorem val_append (l r : List UInt8) (acc : Nat) : val acc (l ++ r) = val (val acc l) r := List.foldl_append
theorem le_val : ∀ (l : List UInt8) (acc : Nat), acc ≤ val acc l
  | [], acc => by rw [val_nil]; exact Nat.le_refl _
  | c :: l, acc => by simp only [val_cons]; exact Nat.le_trans (by omega) (le_val l _)
theorem dig_nat {k : Nat} (h : k < 10) : (UInt8.ofNat (48 + k)).toNat = 48 + k := by
  rw [UInt8.toNat_ofNat']; omega
theorem dec_small {u : Nat} (h : u < 10) : decDigits u = [UInt8.ofNat (48 + u)] := by rw [decDigits, dif_pos h]
theorem dec_big {u : Nat} (h : ¬ u < 10) : decDigits u = decDigits (u / 10) ++ [UInt8.ofNat (48 + u % 10)] := by rw [decDigits, dif_neg h]
theorem val_dec (u : Nat) : val 0 (decDigits u) = u := by
  by_cases h : u < 10
  · rw [dec_small h]; simp only [val_cons, val_nil, dig_nat h]; omega
  · rw [dec_big h, val_append, val_dec (u / 10)]
    simp only [val_cons, val_nil, dig_nat (Nat.mod_lt u (by omega : 0 < 10))]; omega
  termination_by u
  decreasing_by omega
theorem dec_isd (u : Nat) : ∀ c ∈ decDigits u, isd c := by
  by_cases h : u < 10
  · rw [dec_small h]; intro c hc; rw [List.mem_singleton] at hc; subst hc
    unfold isd; rw [dig_nat h]; omega
  · rw [dec_big h]; intro c hc
    rcases List.mem_append.1 hc with h1 | h1
    · exact dec_isd (u / 10) c h1
    · rw [List.mem_singleton] at h1; subst h1
      unfold isd; rw [dig_nat (Nat.mod_lt u (by omega : 0 < 10))]; omega
  termination_by u
  decreasing_by omega
theorem dec_ne (u : Nat) : decDigits u ≠ [] := by
  by_cases h : u < 10
  · rw [dec_small h]; simp
  · rw [dec_big h]; simp
theorem parse_of : ∀ (l : List UInt8) (acc : Nat), (∀ c ∈ l, isd c) → val acc l ≤ 9223372036854775808 → parseUint10 acc l = .ok (val acc l)
  | [], acc, _, _ => by rw [val_nil]; rfl
  | c :: r, acc, hd, hv => by
    have hc := hd c (.head _)
    have h1 := le_val r (acc * 10 + (c.toNat - 48))
    simp only [val_cons] at hv ⊢
    unfold parseUint10
    rw [if_pos (show 48 ≤ c.toNat ∧ c.toNat ≤ 57 from hc), if_neg (by omega), if_neg (by omega)]
    exact parse_of r _ (fun c hc => hd c (.tail _ hc)) hv
theorem mag_of {u : Nat} (h : u ≤ 9223372036854775808) : parseMag (decDigits u) = .ok u := by
  unfold parseMag
  rw [if_neg (dec_ne u), parse_of _ _ (dec_isd u) (by rw [val_dec]; exact h), val_dec]
theorem dec_head (u : Nat) : ∃ c r, decDigits u = c :: r ∧ isd c := by
  cases h : decDigits u with
  | nil => exact absurd h (dec_ne u)
  | cons c r => exact ⟨c, r, rfl, dec_isd u c (by rw [h]; exact .head _)⟩

/-- WHAT IS SHOWN IS READ. -/
theorem parse_itoa {n : Int} (h0 : -9223372036854775808 ≤ n) (h1 : n ≤ 9223372036854775807) : parseIntB 64 (itoa n) = .ok n := by
  rw [parseIntB_64]
  unfold itoa
  split
  · rw [atoiAll_minus, mag_of (by omega)]
    simp only [signed]
    rw [if_neg (by omega)]
    congr 1; omega
  · obtain ⟨c, r, hc, hd⟩ := dec_head n.toNat
    rw [hc, atoiAll_plain c r (by unfold isd at hd; omega) (by unfold isd at hd; omega), ← hc, mag_of (by omega)]
    simp only [signless]
    rw [if_neg (by omega)]
    congr 1; omega
theorem itoa_inj {n m : Int} (hn : -9223372036854775808 ≤ n ∧ n ≤ 9223372036854775807) (hm : -9223372036854775808 ≤ m ∧ m ≤ 9223372036854775807) (h : itoa n = itoa m) : n = m := by
  have e := parse_itoa hn.1 hn.2
  rw [h, parse_itoa hm.1 hm.2] at e
  injection e with e; exact e.symm
theorem itoa_head (n : Int) : ∃ c r, itoa n = c :: r ∧ c ≠ 120 := by
  unfold itoa
  split
  · exact ⟨45, _, rfl, by decide⟩
  · obtain ⟨c, r, hc, hd⟩ := dec_head n.toNat
    refine ⟨c, r, hc, fun h => ?_⟩
    subst h; revert hd; decide

/-- What the document reads: every digit in turn, downwards from nothing, in 64 bits. -/
def cand (n : Int) : List UInt8 → Int
  | [] => n
  | c :: r => cand (if isd c then wrap64 (wrap64 (n * 10) - (c.toNat - 48 : Nat)) else n) r
theorem wrap_in {n : Int} (h0 : -9223372036854775808 ≤ n) (h1 : n ≤ 9223372036854775807) : wrap64 n = n := by
  unfold wrap64; omega
theorem cand_val : ∀ (l : List UInt8) (acc : Nat), (∀ c ∈ l, isd c) → val acc l ≤ 9223372036854775808 → cand (-(acc : Int)) l = -(val acc l : Int)
  | [], acc, _, _ => by rw [val_nil]; rfl
  | c :: r, acc, hd, hv => by
    have hc := hd c (.head _)
    have h1 := le_val r (acc * 10 + (c.toNat - 48))
    simp only [val_cons] at hv ⊢
    unfold cand
    rw [if_pos hc, wrap_in (n := -(acc : Int) * 10) (by omega) (by omega), wrap_in (by omega) (by omega)]
    rw [show -(acc : Int) * 10 - (c.toNat - 48 : Nat) = -((acc * 10 + (c.toNat - 48) : Nat) : Int) by push_cast; omega]
    exact cand_val r _ (fun c hc => hd c (.tail _ hc)) hv
/-- The candidate of a text that begins otherwise than with x. -/
def reads (l : List UInt8) : Int := if l.head? = some 45 then cand 0 l else wrap64 (-cand 0 l)
theorem reads_itoa {n : Int} (h0 : -9223372036854775808 ≤ n) (h1 : n ≤ 9223372036854775807) : reads (itoa n) = n := by
  unfold reads itoa
  split
  · rw [if_pos (show (45 :: decDigits n.natAbs).head? = some 45 from rfl)]
    have h45 : cand 0 (45 :: decDigits n.natAbs) = cand 0 (decDigits n.natAbs) := by
      rw [cand, if_neg (by decide)]
    rw [h45]
    have := cand_val (decDigits n.natAbs) 0 (dec_isd _) (by rw [val_dec]; omega)
    rw [val_dec] at this
    have e : (-((0 : Nat) : Int)) = 0 := rfl
    rw [e] at this
    rw [this]; omega
  · obtain ⟨c, r, hc, hd⟩ := dec_head n.toNat
    rw [if_neg (by rw [hc]; intro h; injection h with h; subst h; revert hd; decide)]
    have := cand_val (decDigits n.toNat) 0 (dec_isd _) (by rw [val_dec]; omega)
    rw [val_dec] at this
    have e : (-((0 : Nat) : Int)) = 0 := rfl
    rw [e] at this
    rw [this, wrap_in (by omega) (by omega)]; omega
end Go.Proofs.YtlfdiafpmlcmdaaDoor.D
