/-
  The plain law of one set to a value, and of one column copied onto itself. No program in sight.
-/
import Derived.Test.YtpgbngmekfakkaaRowLaw
namespace Go.Proofs.Ytpgbngmekfakkaa
namespace R

def zeroV : Val := ⟨false, 0, ⟨#[]⟩⟩
def toSet (j : Int) (v : Val) : SetV := ⟨j, 1, 0, 0, v⟩
def selfSet (j : Int) : SetV := ⟨j, 2, j, 0, zeroV⟩
theorem sets_one {c : List Bool} {s : SetV} : sets c [s] = maySet c s := by
  rw [Bool.eq_iff_iff, sets_iff]
  simp [Apart]
theorem upd_one (r : List Val) (s : SetV) : upd r [s] 1 = if toIs r s then some (r.set s.col.toNat (toV r s)) else none := by
  simp [upd]
theorem may_toSet {c : List Bool} {j : Int} {v : Val} : maySet c (toSet j v) = (decide (1 ≤ j) && (decide (colAt c j = some v.t) && v.right)) := by
  unfold maySet toSet
  simp only []
  cases h : colAt c j with
  | none => simp
  | some k =>
    simp only [if_true]
    by_cases hk : v.t = k
    · subst hk; simp
    · have : ¬ k = v.t := fun e => hk e.symm
      simp [hk, this]
theorem may_selfSet {c : List Bool} {j : Int} {k : Bool} (h : colAt c j = some k) (h1 : 1 ≤ j) : maySet c (selfSet j) = true := by
  simp [maySet, selfSet, h, h1]
theorem err_toSet {c : List Bool} {r : List Val} {j : Int} {v : Val} (hf : fits c r = true) (hm : maySet c (toSet j v) = false) : err c r [toSet j v] = 20 ∧ out c r [toSet j v] = [] := by
  simp [err, out, hf, sets_one, hm]
theorem ok_toSet {c : List Bool} {r : List Val} {j : Int} {v : Val} (hf : fits c r = true) (hm : maySet c (toSet j v) = true) : err c r [toSet j v] = 0 ∧ out c r [toSet j v] = r.set j.toNat v := by
  have hi : toIs r (toSet j v) = true := by simp [toIs, toSet]
  have hv : toV r (toSet j v) = v := by simp [toV, toSet]
  simp [err, out, hf, sets_one, hm, upd_one, hi, hv]
  rfl
theorem set_self {w : List Val} {j : Nat} {v : Val} (h : w[j]? = some v) : w.set j v = w := by
  apply List.ext_getElem?
  intro i
  by_cases hi : j = i
  · subst hi; rw [List.getElem?_set_self (List.getElem?_eq_some_iff.1 h).1, h]
  · rw [List.getElem?_set_ne hi]
theorem ok_selfSet {c : List Bool} {w : List Val} {j : Int} {k : Bool} {v : Val} (hf : fits c w = true) (h : colAt c j = some k) (h1 : 1 ≤ j) (hv : w[j.toNat]? = some v) : err c w [selfSet j] = 0 ∧ out c w [selfSet j] = w := by
  have hm := may_selfSet h h1
  have hi : toIs w (selfSet j) = true := by simp [toIs, selfSet]
  have hn : toV w (selfSet j) = v := by
    show nth w j = v
    unfold nth
    rw [List.getD_eq_getElem?_getD, hv]; rfl
  have hs : w.set (selfSet j).col.toNat v = w := set_self hv
  simp [err, out, hf, sets_one, hm, upd_one, hi, hn, hs]
theorem fits_set {c : List Bool} {r : List Val} {j : Int} {v : Val} (hf : fits c r = true) (h : colAt c j = some v.t) : fits c (r.set j.toNat v) = v.right := by
  obtain ⟨hmay, hl⟩ := fits_may hf
  obtain ⟨h0, h1, h2⟩ := colAt_some h
  have hj : j.toNat < r.length := by omega
  cases hr : v.right
  · rw [← Bool.not_eq_true]
    intro hw
    have := (cellOk_of hw (List.getElem?_set_self hj) h2).2
    rw [hr] at this; cases this
  · have hall : (List.range (r.set j.toNat v).length).all (cellOk c (r.set j.toNat v)) = true := by
      rw [List.all_eq_true]
      intro i hi
      have hi := List.mem_range.1 hi
      rw [List.length_set] at hi
      by_cases he : j.toNat = i
      · subst he
        simp [cellOk, List.getElem?_set_self hj, h2, hr]
      · have hu : r[i]? = some r[i] := List.getElem?_eq_getElem hi
        have hb : c[i]? = some (c[i]'(by omega)) := List.getElem?_eq_getElem (by omega)
        obtain ⟨e1, e2⟩ := cellOk_of hf hu hb
        simp [cellOk, List.getElem?_set_ne he, hu, hb, e1, e2]
    unfold fits
    rw [hall, hmay, List.length_set, hl]
    simp
end R
end Go.Proofs.Ytpgbngmekfakkaa
