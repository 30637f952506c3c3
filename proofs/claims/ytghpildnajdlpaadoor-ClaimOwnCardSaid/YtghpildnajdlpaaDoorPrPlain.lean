/-
  Whether a value may be a column's, a part a table's. No walk.
-/
import Derived.Test.YtghpildnajdlpaaDoorPrSize
import Derived.Test.YtghpildnajdlpaaDoorTable
namespace Go.Proofs.YtghpildnajdlpaaDoor
open Go.RowKit

theorem Pr.inCol_low {t : List Bool} {c : Int} {v : Val} (h : c < 0) : Pr.inCol t c v = false := by
  unfold Pr.inCol
  rw [decide_eq_false (by omega : ¬ 0 ≤ c)]; rfl
theorem Pr.inCol_high {t : List Bool} {c : Int} {v : Val} (h0 : 0 ≤ c) (h : (t.length : Int) ≤ c) : Pr.inCol t c v = false := by
  unfold Pr.inCol
  have : t[c.toNat]? = none := List.getElem?_eq_none (by omega)
  rw [this]; simp
theorem Pr.inCol_at {t : List Bool} {c : Int} {v : Val} {b : Bool} (h0 : 0 ≤ c) (h : t[c.toNat]? = some b) : Pr.inCol t c v = (decide (v.t = b) && v.right) := by
  unfold Pr.inCol
  rw [h, decide_eq_true h0]
  by_cases e : v.t = b
  · rw [e]; simp
  · have : ¬ (some b = some v.t) := fun k => e (Option.some.inj k).symm
    rw [decide_eq_false e, decide_eq_false this]; rfl
/-- The column at a place. -/
theorem ColsAt.col {W : World} {A : Option Addr} {t : List Bool} (h : ColsAt W A t) {c : Int} (h0 : 0 ≤ c) (h1 : c < t.length) : ∃ (u : Bool) (b o : Nat), t[c.toNat]? = some u ∧ A = some ⟨b, o, none⟩ ∧ W.cell? ⟨b, o + c.toNat, none⟩ = some (.bool u) := by
  have hk : c.toNat < t.length := by omega
  obtain ⟨b, o, hB, hc⟩ := h (fun e => by subst e; simp at hk)
  exact ⟨t[c.toNat], b, o, List.getElem?_eq_getElem hk, hB, hc _ _ (List.getElem?_eq_getElem hk)⟩
theorem Pr.ops (o : Int) : o = 1 ∨ o = 2 ∨ o = 3 ∨ o = 4 ∨ o = 5 ∨ o = 6 ∨ o = 7 ∨ o = 8 ∨ o = 9 ∨ o = 10 ∨ o = 11 ∨ o = 12 ∨ ((o == 1) = false ∧ (o == 2) = false ∧ (o == 3) = false ∧ (o == 4) = false ∧ (o == 5) = false ∧ (o == 6) = false ∧ (o == 7) = false ∧ (o == 8) = false ∧ (o == 9) = false ∧ (o == 10) = false ∧ (o == 11) = false ∧ (o == 12) = false) := by
  simp only [beq_eq_false_iff_ne]; omega
theorem Pr.partOk_none {t : List Bool} {o c : Int} {v w : Val} {n : Nat} (h : (o == 1) = false ∧ (o == 2) = false ∧ (o == 3) = false ∧ (o == 4) = false ∧ (o == 5) = false ∧ (o == 6) = false ∧ (o == 7) = false ∧ (o == 8) = false ∧ (o == 9) = false ∧ (o == 10) = false ∧ (o == 11) = false ∧ (o == 12) = false) : Pr.partOk t o c v w n = false := by
  simp only [beq_eq_false_iff_ne] at h
  obtain ⟨h1, h2, h3, h4, h5, h6, h7, h8, h9, h10, h11, h12⟩ := h
  unfold Pr.partOk
  rw [if_neg (by omega), if_neg (by omega), if_neg h9, if_neg h10, if_neg (by omega)]
/-- What the program's Check answers. -/
def Pr.err (t : List Bool) (p : Pr) : Int := if R.may t.length = true then (if p.may t = true then 0 else 30) else 1
theorem Pr.err_no {t : List Bool} {p : Pr} (h : R.may t.length = false) : p.err t = 1 := by unfold Pr.err; rw [h]; rfl
theorem Pr.err_bad {t : List Bool} {p : Pr} (h : R.may t.length = true) (h' : p.may t = false) : p.err t = 30 := by unfold Pr.err; rw [h, h']; rfl
theorem Pr.err_ok {t : List Bool} {p : Pr} (h : R.may t.length = true) (h' : p.may t = true) : p.err t = 0 := by unfold Pr.err; rw [h, h']; rfl
theorem len_zero (n : Nat) : ((n : Int) == 0) = decide (n = 0) := by rw [Bool.eq_iff_iff]; simp
theorem len_one (n : Nat) : ((n : Int) == 1) = decide (n = 1) := by rw [Bool.eq_iff_iff]; simp; omega
theorem len_pos (n : Nat) : decide ((0 : Int) < n) = decide (0 < n) := by rw [Bool.eq_iff_iff]; simp
end Go.Proofs.YtghpildnajdlpaaDoor
