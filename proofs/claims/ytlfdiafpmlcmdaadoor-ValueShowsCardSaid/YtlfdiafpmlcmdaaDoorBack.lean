/-
  What is shown is read as it was, plain; and what is read shows so. No walk.
-/
import Derived.Test.YtlfdiafpmlcmdaaDoorRead
namespace Go.Proofs.YtlfdiafpmlcmdaaDoor
open Go.RowKit

theorem shows_short {v : Val} (hn : Num.is v.n = true) : v.shows.length ≤ 25 := by
  cases hr : v.right
  · rw [shows_wrong hr]; simp
  · cases ht : v.t
    · rw [shows_number ht hr]
      have h := Num.is_iff.1 hn
      have := Lib.itoa_length_le v.n h.1 h.2
      omega
    · rw [shows_text ht hr, List.length_cons, V.hexes_length, size_data]
      have := (right_text ht hr).2; omega
theorem readOf_nil : readOf [] = none := by
  unfold readOf; rw [if_neg (by simp)]; rfl
/-- What is shown is read as it was. -/
theorem readOf_shows {v : Val} (hr : v.right = true) (hn : Num.is v.n = true) : readOf v.shows = some v := by
  cases ht : v.t
  · rw [shows_number ht hr]
    obtain ⟨c, r, hc, hx⟩ := D.itoa_head v.n
    unfold readOf
    rw [if_neg (by rw [hc]; intro e; injection e with e; exact hx e)]
    unfold numOf
    rw [D.parse_itoa (Num.is_iff.1 hn).1 (Num.is_iff.1 hn).2]
    show (if _ then _ else _) = _
    rw [if_pos rfl]
    have := right_number ht hr
    obtain ⟨t, n, s⟩ := v
    simp_all
  · rw [shows_text ht hr]
    obtain ⟨q1, q2⟩ := right_text ht hr
    unfold readOf
    rw [if_pos (show (120 :: V.hexes v.s.data.toList).head? = some 120 from rfl)]
    show textOf (V.hexes _) = _
    unfold textOf
    rw [if_pos ⟨by rw [V.hexes_length]; omega, by rw [V.hexes_length, size_data]; omega, V.hexes_hex _⟩, V.pairs_hexes]
    obtain ⟨t, n, s⟩ := v
    simp_all
/-- What is read shows so. -/
theorem says_of {l : List UInt8} {v : Val} (h : readOf l = some v) : Says l v := by
  unfold readOf at h
  split at h
  · rename_i hx
    cases l with
    | nil => cases hx
    | cons c r =>
      injection hx with hx
      subst hx
      rw [List.tail_cons] at h
      unfold textOf at h
      split at h
      · rename_i hc
        obtain ⟨h1, h2, h3⟩ := hc
        injection h with h
        subst h
        have hp := V.pairs_length (r.length / 2) r (by omega)
        have hr : Val.right ⟨true, 0, ⟨(V.pairs r).toArray⟩⟩ = true := by
          unfold Val.right
          rw [if_pos rfl, Bool.and_eq_true, decide_eq_true_iff, decide_eq_true_iff]
          refine ⟨rfl, ?_⟩
          show (V.pairs r).length ≤ 12
          omega
        refine ⟨hr, show Num.is 0 = true by decide, ?_⟩
        rw [shows_text rfl hr]
        show 120 :: V.hexes (V.pairs r) = _
        rw [V.hexes_pairs (r.length / 2) r (by omega) h3]
      · cases h
  · unfold numOf at h
    split at h
    · rename_i v' hv
      split at h
      · rename_i hi
        injection h with h
        subst h
        have hb := Lib.parseIntB_bounds hv
        have hr : Val.right ⟨false, v', ⟨#[]⟩⟩ = true := rfl
        have hvi : Num.is v' = true := Num.is_iff.2 ⟨by have := hb.1; omega, by have := hb.2; omega⟩
        refine ⟨hr, hvi, ?_⟩
        rw [shows_number rfl hr]; exact hi
      · cases h
    · cases h
theorem readOf_says {l : List UInt8} {v : Val} (h : Says l v) : readOf l = some v := by
  obtain ⟨h1, h2, rfl⟩ := h
  exact readOf_shows h1 h2
end Go.Proofs.YtlfdiafpmlcmdaaDoor
