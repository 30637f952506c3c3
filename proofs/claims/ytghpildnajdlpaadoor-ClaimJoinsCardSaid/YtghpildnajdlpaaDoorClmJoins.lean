/-
  The plain law of ClaimJoins: what two claims about one thing join to may be, covers both, and is in conflict with just what one of them is in conflict with. No program in sight.
-/
import Derived.Test.YtghpildnajdlpaaDoorClmMay
import Derived.Test.YtghpildnajdlpaaDoorClmJoin
namespace Go.Proofs.YtghpildnajdlpaaDoor
open Go.RowKit

namespace M
theorem join_nat {a b : Nat} (ha : a < 7) (hb : b < 7) : join (a : Int) (b : Int) = (best a b 7 : Nat) := by simp [join, right_nat ha, right_nat hb]
theorem joins_fit : ∀ a, a < 7 → ∀ b, b < 7 → ∀ c, c < 7 → fit (best a b 7) c = (fit a c && fit b c) := by decide +kernel
theorem joins_cov : ∀ a, a < 7 → ∀ b, b < 7 → cov (best a b 7) a = true ∧ cov (best a b 7) b = true := by decide +kernel
theorem joins_pos : ∀ a, a < 7 → ∀ b, b < 7 → a ≠ 0 → best a b 7 ≠ 0 := by decide +kernel
theorem join_right {a b : Int} (ha : right a = true) (hb : right b = true) : right (join a b) = true := by
  obtain ⟨m, hm, rfl⟩ := nat ha
  obtain ⟨n, hn, rfl⟩ := nat hb
  rw [join_nat hm hn]
  exact right_nat (best_lt m n 7 (by omega))
theorem join_fits {a b : Int} (ha : right a = true) (hb : right b = true) (c : Int) : fits (join a b) c = (fits a c && fits b c) := by
  obtain ⟨m, hm, rfl⟩ := nat ha
  obtain ⟨n, hn, rfl⟩ := nat hb
  cases hc : right c
  · simp [fits, hc]
  · obtain ⟨k, hk, rfl⟩ := nat hc
    rw [join_nat hm hn, fits_nat (best_lt m n 7 (by omega)) hk, fits_nat hm hk, fits_nat hn hk]
    exact joins_fit m hm n hn k hk
theorem join_covers {a b : Int} (ha : right a = true) (hb : right b = true) : covers (join a b) a = true ∧ covers (join a b) b = true := by
  obtain ⟨m, hm, rfl⟩ := nat ha
  obtain ⟨n, hn, rfl⟩ := nat hb
  rw [join_nat hm hn, covers_nat (best_lt m n 7 (by omega)) hm, covers_nat (best_lt m n 7 (by omega)) hn]
  exact joins_cov m hm n hn
theorem join_pos {a b : Int} (ha : right a = true) (hb : right b = true) (h0 : a ≠ 0) : join a b ≠ 0 := by
  obtain ⟨m, hm, rfl⟩ := nat ha
  obtain ⟨n, hn, rfl⟩ := nat hb
  rw [join_nat hm hn]
  have := joins_pos m hm n hn (by omega)
  omega
end M
namespace Cl
/-- The modes that a row's claim may have. -/
def rowMode (m : Int) : Prop := m = 3 ∨ m = 5 ∨ m = 6
theorem rowMode_right {m : Int} (h : rowMode m) : M.right m = true := by rw [M.right_iff]; unfold rowMode at h; omega
theorem rowMode_join {m n : Int} (hm : rowMode m) (hn : rowMode n) : rowMode (M.join m n) ∧ (M.join m n = 6 ↔ m = 6 ∨ n = 6) := by
  unfold rowMode at *
  rcases hm with rfl | rfl | rfl <;> rcases hn with rfl | rfl | rfl <;> (constructor <;> decide +kernel)
theorem okRow_mode {t : List Bool} {c : Cl} (h : okRow t c = true) : c.key.right = true ∧ t.head? = some c.key.t ∧ rowMode c.mode ∧ (c.mode ≠ 6 → c.im = []) ∧ (c.mode = 6 → c.im.all (okIm t c.key) = true) := by
  unfold okRow at h
  rw [Bool.and_eq_true, Bool.and_eq_true, decide_eq_true_iff] at h
  obtain ⟨⟨h1, h2⟩, h3⟩ := h
  refine ⟨h1, h2, ?_⟩
  unfold rowMode
  by_cases ha : c.mode = 3 ∨ c.mode = 5
  · rw [if_pos ha, decide_eq_true_iff] at h3
    exact ⟨by omega, fun _ => List.eq_nil_of_length_eq_zero h3, fun e => by omega⟩
  · rw [if_neg ha] at h3
    by_cases hb : c.mode = 6
    · rw [if_pos hb] at h3
      exact ⟨by omega, fun e => absurd hb e, fun _ => h3⟩
    · rw [if_neg hb] at h3; cases h3
theorem okRow_of {t : List Bool} {c : Cl} (h1 : c.key.right = true) (h2 : t.head? = some c.key.t) (h3 : rowMode c.mode) (h4 : c.mode ≠ 6 → c.im = []) (h5 : c.mode = 6 → c.im.all (okIm t c.key) = true) : okRow t c = true := by
  unfold okRow
  rw [h1, h2, decide_eq_true rfl, Bool.true_and, Bool.true_and]
  unfold rowMode at h3
  by_cases ha : c.mode = 3 ∨ c.mode = 5
  · rw [if_pos ha, h4 (by omega)]; rfl
  · rw [if_neg ha, if_pos (by omega)]; exact h5 (by omega)
theorem same_kinds {a b : Cl} (h : a.same b = true) : a.table = b.table ∧ ((a.kind = 1 ∧ b.kind = 1) ∨ (a.kind = 2 ∧ b.kind = 2 ∧ a.key = b.key) ∨ (a.kind = 3 ∧ b.kind = 3 ∧ a.p = b.p)) := by
  unfold same at h
  rw [Bool.and_eq_true, decide_eq_true_iff] at h
  refine ⟨h.1, ?_⟩
  have h := h.2
  by_cases h1 : a.kind = 1 ∧ b.kind = 1
  · exact .inl h1
  · rw [if_neg h1] at h
    by_cases h2 : a.kind = 2 ∧ b.kind = 2
    · rw [if_pos h2, decide_eq_true_iff] at h
      exact .inr (.inl ⟨h2.1, h2.2, h⟩)
    · rw [if_neg h2] at h
      by_cases h3 : a.kind = 3 ∧ b.kind = 3
      · rw [if_pos h3] at h
        exact .inr (.inr ⟨h3.1, h3.2, (Pr.same_iff _ _).1 h⟩)
      · rw [if_neg h3] at h; cases h
theorem same_of {a b : Cl} (ht : a.table = b.table) (h : (a.kind = 1 ∧ b.kind = 1) ∨ (a.kind = 2 ∧ b.kind = 2 ∧ a.key = b.key) ∨ (a.kind = 3 ∧ b.kind = 3 ∧ a.p = b.p)) : a.same b = true := by
  unfold same
  rw [decide_eq_true ht, Bool.true_and]
  rcases h with h | ⟨h1, h2, h3⟩ | ⟨h1, h2, h3⟩
  · rw [if_pos h]
  · rw [if_neg (by omega), if_pos ⟨h1, h2⟩]; exact decide_eq_true h3
  · rw [if_neg (by omega), if_neg (by omega), if_pos ⟨h1, h2⟩]; exact (Pr.same_iff _ _).2 h3
/-- What may be, of a claim: its table, and what its kind asks. -/
theorem may_parts {ts : List (List Bool)} {c : Cl} (h : may ts c = true) : 0 ≤ c.table ∧ ∃ t, ts[c.table.toNat]? = some t ∧ R.may t.length = true ∧ ok t c = true := by
  unfold may at h
  rw [Bool.and_eq_true, decide_eq_true_iff] at h
  refine ⟨h.1, ?_⟩
  have h := h.2
  cases ht : ts[c.table.toNat]? with
  | none => rw [ht] at h; cases h
  | some t =>
    rw [ht] at h
    have h : (R.may t.length && ok t c) = true := h
    rw [Bool.and_eq_true] at h
    exact ⟨t, rfl, h.1, h.2⟩
/-- The modes of claims about one thing that may be. -/
theorem modes_right {t : List Bool} {a : Cl} (h : ok t a = true) : M.right a.mode = true ∧ a.mode ≠ 0 := by
  unfold ok at h
  by_cases h1 : a.kind = 1
  · rw [if_pos h1, Bool.and_eq_true] at h
    exact ⟨h.1, by simpa using h.2⟩
  · rw [if_neg h1] at h
    by_cases h2 : a.kind = 2
    · rw [if_pos h2] at h
      have h3 := (okRow_mode h).2.2.1
      exact ⟨rowMode_right h3, by unfold rowMode at h3; omega⟩
    · rw [if_neg h2] at h
      by_cases h3 : a.kind = 3
      · rw [if_pos h3, Bool.and_eq_true, decide_eq_true_iff] at h
        rw [h.1]; decide
      · rw [if_neg h3] at h; cases h
theorem hits_nil {p : Pr} : hits p [] = false := rfl
section
variable {ts : List (List Bool)} {a b : Cl}
theorem joins_may (ha : may ts a = true) (hb : may ts b = true) (hs : a.same b = true) : may ts (a.join b) = true := by
  obtain ⟨h0, t, ht, hm, hk⟩ := may_parts ha
  obtain ⟨_, t', ht', _, hk'⟩ := may_parts hb
  obtain ⟨htab, hkind⟩ := same_kinds hs
  rw [← htab, ht] at ht'
  obtain rfl := Option.some.inj ht'
  have hr := modes_right hk
  have hr' := modes_right hk'
  rw [join_yes hs]
  unfold may
  rw [decide_eq_true (show 0 ≤ a.table from h0), Bool.true_and]
  show (match ts[a.table.toNat]? with
    | some t => R.may t.length && ok t _
    | none => false) = true
  rw [ht]
  show (R.may t.length && ok t _) = true
  rw [hm, Bool.true_and]
  unfold ok at hk hk' ⊢
  rcases hkind with ⟨k1, k2⟩ | ⟨k1, k2, key⟩ | ⟨k1, k2, hp⟩
  · rw [if_pos (show a.kind = 1 from k1), Bool.and_eq_true]
    refine ⟨M.join_right hr.1 hr'.1, ?_⟩
    have := M.join_pos hr.1 hr'.1 hr.2
    show (!decide (M.join a.mode b.mode = 0)) = true
    simp [this]
  · rw [if_neg (by omega), if_pos k1] at hk
    rw [if_neg (by omega), if_pos k2] at hk'
    rw [if_neg (show ¬ a.kind = 1 by omega), if_pos (show a.kind = 2 from k1)]
    obtain ⟨g1, g2, g3, g4, g5⟩ := okRow_mode hk
    obtain ⟨_, _, g3', g4', g5'⟩ := okRow_mode hk'
    obtain ⟨j1, j2⟩ := rowMode_join g3 g3'
    refine okRow_of g1 g2 j1 (fun h => ?_) (fun _ => ?_)
    · have h' : M.join a.mode b.mode ≠ 6 := h
      rw [Ne, j2] at h'
      show more a.im b.im = []
      rw [g4 (fun e => h' (.inl e)), g4' (fun e => h' (.inr e))]; rfl
    · show (more a.im b.im).all (okIm t a.key) = true
      rw [List.all_eq_true]
      intro r hr2
      rcases (more_mem b.im a.im).1 hr2 with h | h
      · by_cases e : a.mode = 6
        · exact List.all_eq_true.1 (g5 e) r h
        · rw [g4 e] at h; cases h
      · by_cases e : b.mode = 6
        · rw [key]; exact List.all_eq_true.1 (g5' e) r h
        · rw [g4' e] at h; cases h
  · rw [if_neg (by omega), if_neg (by omega), if_pos k1, Bool.and_eq_true, decide_eq_true_iff] at hk
    rw [if_neg (by omega), if_neg (by omega), if_pos k2, Bool.and_eq_true, decide_eq_true_iff] at hk'
    rw [if_neg (show ¬ a.kind = 1 by omega), if_neg (show ¬ a.kind = 2 by omega), if_pos (show a.kind = 3 from k1), Bool.and_eq_true, decide_eq_true_iff]
    exact ⟨by show M.join a.mode b.mode = 3; rw [hk.1, hk'.1]; decide +kernel, hk.2⟩
theorem joins_same (hs : a.same b = true) : (a.join b).same a = true := by
  obtain ⟨htab, hkind⟩ := same_kinds hs
  rw [join_yes hs]
  refine same_of rfl ?_
  rcases hkind with ⟨k1, k2⟩ | ⟨k1, k2, key⟩ | ⟨k1, k2, hp⟩
  · exact .inl ⟨k1, k1⟩
  · exact .inr (.inl ⟨k1, k1, rfl⟩)
  · exact .inr (.inr ⟨k1, k1, rfl⟩)
theorem joins_covers (ha : may ts a = true) (hb : may ts b = true) (hs : a.same b = true) : (a.join b).covers a = true ∧ (a.join b).covers b = true := by
  obtain ⟨h0, t, ht, hm, hk⟩ := may_parts ha
  obtain ⟨_, t', ht', _, hk'⟩ := may_parts hb
  obtain ⟨htab, hkind⟩ := same_kinds hs
  rw [← htab, ht] at ht'
  obtain rfl := Option.some.inj ht'
  have hr := modes_right hk
  have hr' := modes_right hk'
  have h1 := joins_same hs
  have h2 : (a.join b).same b = true := by
    rw [join_yes hs]
    exact same_of htab hkind
  have hc := M.join_covers hr.1 hr'.1
  unfold covers
  rw [h1, h2, join_yes hs]
  refine ⟨?_, ?_⟩
  · show (true && M.covers (M.join a.mode b.mode) a.mode && a.im.all (has (more a.im b.im))) = true
    rw [hc.1, Bool.true_and, Bool.true_and, List.all_eq_true]
    exact fun r h => has_iff.2 ((more_mem b.im a.im).2 (.inl h))
  · show (true && M.covers (M.join a.mode b.mode) b.mode && b.im.all (has (more a.im b.im))) = true
    rw [hc.2, Bool.true_and, Bool.true_and, List.all_eq_true]
    exact fun r h => has_iff.2 ((more_mem b.im a.im).2 (.inr h))
set_option linter.unusedSimpArgs false in
theorem joins_conf (ha : may ts a = true) (hb : may ts b = true) (hs : a.same b = true) (c : Cl) : (a.join b).conf c = (a.conf c || b.conf c) := by
  obtain ⟨h0, t, ht, hm, hk⟩ := may_parts ha
  obtain ⟨_, t', ht', _, hk'⟩ := may_parts hb
  obtain ⟨htab, hkind⟩ := same_kinds hs
  rw [← htab, ht] at ht'
  obtain rfl := Option.some.inj ht'
  have hr := modes_right hk
  have hr' := modes_right hk'
  have hf := M.join_fits hr.1 hr'.1 c.mode
  rw [join_yes hs]
  unfold conf
  rw [← htab]
  show (decide (a.table = c.table) && (if a.kind = 3 ∧ c.kind = 2 then meets _ c else if a.kind = 2 ∧ c.kind = 3 then meets c _ else if a.kind = 2 ∧ c.kind = 2 then decide (a.key = c.key) && !M.fits (M.join a.mode b.mode) c.mode else if a.kind = 1 ∧ c.kind = 1 then !M.fits (M.join a.mode b.mode) c.mode else false)) = _
  by_cases htc : a.table = c.table
  · rw [decide_eq_true htc, Bool.true_and, Bool.true_and, Bool.true_and]
    rcases hkind with ⟨k1, k2⟩ | ⟨k1, k2, key⟩ | ⟨k1, k2, hp⟩
    · by_cases kc : c.kind = 1
      · simp only [k1, k2, kc, Int.reduceEq, false_and, and_false, true_and, and_true, and_self, if_true, if_false, reduceIte]
        rw [hf, Bool.not_and]
      · simp only [k1, k2, kc, Int.reduceEq, false_and, and_false, true_and, and_true, and_self, if_true, if_false, reduceIte] <;> rfl
    · unfold ok at hk hk'
      rw [if_neg (by omega), if_pos k1] at hk
      rw [if_neg (by omega), if_pos k2] at hk'
      obtain ⟨_, _, g3, g4, _⟩ := okRow_mode hk
      obtain ⟨_, _, g3', g4', _⟩ := okRow_mode hk'
      obtain ⟨_, j2⟩ := rowMode_join g3 g3'
      by_cases kc : c.kind = 3
      · simp only [k1, k2, kc, Int.reduceEq, false_and, and_false, true_and, and_true, and_self, if_true, if_false, reduceIte]
        unfold meets
        show (decide (M.join a.mode b.mode = 6) && hits c.p (more a.im b.im)) = _
        rw [hits_more]
        by_cases e1 : a.mode = 6
        · by_cases e2 : b.mode = 6
          · rw [decide_eq_true (j2.2 (.inl e1)), decide_eq_true e1, decide_eq_true e2]; simp
          · rw [decide_eq_true (j2.2 (.inl e1)), decide_eq_true e1, decide_eq_false e2, g4' e2, hits_nil]; simp
        · by_cases e2 : b.mode = 6
          · rw [decide_eq_true (j2.2 (.inr e2)), decide_eq_false e1, decide_eq_true e2, g4 e1, hits_nil]; simp
          · rw [decide_eq_false (fun e => (j2.1 e).elim e1 e2), decide_eq_false e1, decide_eq_false e2]; simp
      · by_cases kd : c.kind = 2
        · simp only [k1, k2, kd, Int.reduceEq, false_and, and_false, true_and, and_true, and_self, if_true, if_false, reduceIte]
          rw [hf, Bool.not_and, ← key]
          cases decide (a.key = c.key) <;> simp
        · simp only [k1, k2, kc, kd, Int.reduceEq, false_and, and_false, true_and, and_true, and_self, if_true, if_false, reduceIte] <;> rfl
    · by_cases kc : c.kind = 2
      · simp only [k1, k2, kc, Int.reduceEq, false_and, and_false, true_and, and_true, and_self, if_true, if_false, reduceIte]
        unfold meets
        show (decide (c.mode = 6) && hits a.p c.im) = ((decide (c.mode = 6) && hits a.p c.im) || (decide (c.mode = 6) && hits b.p c.im))
        rw [← hp, Bool.or_self]
      · simp only [k1, k2, kc, Int.reduceEq, false_and, and_false, true_and, and_true, and_self, if_true, if_false, reduceIte] <;> rfl
  · rw [decide_eq_false htc]; rfl
end
end Cl
end Go.Proofs.YtghpildnajdlpaaDoor
