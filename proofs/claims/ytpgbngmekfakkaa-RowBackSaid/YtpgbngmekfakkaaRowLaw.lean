/-
  The plain law of updates: what stays, what an order of sets does not change. No program in sight.
-/
import Derived.Test.YtpgbngmekfakkaaUpd
namespace Go.Proofs.Ytpgbngmekfakkaa
namespace R

theorem mem_get {α : Type} {l : List α} {a : α} (h : a ∈ l) : ∃ i, i < l.length ∧ l[i]? = some a := by
  obtain ⟨i, hi⟩ := List.mem_iff_getElem?.1 h
  exact ⟨i, (List.getElem?_eq_some_iff.1 hi).1, hi⟩
theorem met_iff {l : List SetV} {k : Nat} {j : Int} : met l k j = true ↔ ∃ i s, i < k ∧ l[i]? = some s ∧ s.col = j := by
  unfold met
  rw [List.any_eq_true]
  constructor
  · rintro ⟨i, hi, h⟩
    cases hs : l[i]? with
    | none => rw [hs] at h; cases h
    | some s => rw [hs] at h; exact ⟨i, s, List.mem_range.1 hi, hs, by simpa using h⟩
  · rintro ⟨i, s, hi, hs, h⟩
    exact ⟨i, List.mem_range.2 hi, by rw [hs]; simpa using h⟩
/-- No column is set twice. -/
def Apart (l : List SetV) : Prop := l.Pairwise fun a b => a.col ≠ b.col
theorem apart_iff {l : List SetV} : Apart l ↔ ∀ (i j : Nat) (s s' : SetV), i < j → l[i]? = some s → l[j]? = some s' → s.col ≠ s'.col := by
  unfold Apart
  rw [List.pairwise_iff_getElem]
  constructor
  · intro h i j s s' hij hs hs'
    obtain ⟨hi, rfl⟩ := List.getElem?_eq_some_iff.1 hs
    obtain ⟨hj, rfl⟩ := List.getElem?_eq_some_iff.1 hs'
    exact h i j hi hj hij
  · intro h i j hi hj hij
    exact h i j _ _ hij (List.getElem?_eq_getElem hi) (List.getElem?_eq_getElem hj)
theorem sets_iff {c : List Bool} {l : List SetV} : sets c l = true ↔ l.length ≤ 3 ∧ (∀ s ∈ l, maySet c s = true) ∧ Apart l := by
  rw [apart_iff]
  simp only [sets, Bool.and_eq_true, decide_eq_true_eq, List.all_eq_true, List.mem_range]
  constructor
  · rintro ⟨h1, h2⟩
    refine ⟨h1, fun s hs => ?_, fun i j s s' hij hs hs' he => ?_⟩
    · obtain ⟨i, hi, hg⟩ := mem_get hs
      have := h2 i hi
      simp only [setOk, hg, Bool.and_eq_true] at this
      exact this.1
    · have hj := (List.getElem?_eq_some_iff.1 hs').1
      have := h2 j hj
      simp only [setOk, hs', Bool.and_eq_true, Bool.not_eq_true'] at this
      rw [met_iff.2 ⟨i, s, hij, hs, he⟩] at this
      cases this.2
  · rintro ⟨h1, h2, h3⟩
    refine ⟨h1, fun i hi => ?_⟩
    have hs : l[i]? = some l[i] := List.getElem?_eq_getElem hi
    simp only [setOk, hs, Bool.and_eq_true, Bool.not_eq_true']
    refine ⟨h2 _ (List.getElem_mem hi), ?_⟩
    rw [← Bool.not_eq_true, met_iff]
    rintro ⟨k, s, hk, hs', he⟩
    exact h3 k i s _ hk hs' hs he
theorem sets_reverse (c : List Bool) (l : List SetV) : sets c l.reverse = sets c l := by
  rw [Bool.eq_iff_iff, sets_iff, sets_iff]
  simp only [List.length_reverse, List.mem_reverse, Apart, List.pairwise_reverse]
  constructor
  · rintro ⟨h1, h2, h3⟩; exact ⟨h1, h2, h3.imp fun h e => h e.symm⟩
  · rintro ⟨h1, h2, h3⟩; exact ⟨h1, h2, h3.imp fun h e => h e.symm⟩

theorem upd_isSome (r : List Val) (l : List SetV) : ∀ k, k ≤ l.length → ((upd r l k).isSome = true ↔ ∀ i s, i < k → l[i]? = some s → toIs r s = true)
  | 0, _ => by simp [upd]
  | k + 1, hk => by
    have ih := upd_isSome r l k (by omega)
    have hs : l[k]? = some l[k] := List.getElem?_eq_getElem (by omega)
    unfold upd
    rw [hs]
    cases hu : upd r l k with
    | none =>
      simp only [Option.isSome_none, Bool.false_eq_true, false_iff]
      intro h
      have : (upd r l k).isSome = true := ih.2 fun i s hi h' => h i s (by omega) h'
      rw [hu] at this; cases this
    | some out =>
      have hall := ih.1 (by rw [hu]; rfl)
      simp only []
      cases ht : toIs r l[k] with
      | false =>
        simp only [Bool.false_eq_true, if_false, Option.isSome_none, false_iff]
        intro h
        rw [h k _ (by omega) hs] at ht; cases ht
      | true =>
        simp only [if_true, Option.isSome_some, true_iff]
        intro i s hi h'
        by_cases he : i = k
        · subst he; rw [hs] at h'; injection h' with h'; subst h'; exact ht
        · exact hall i s (by omega) h'
theorem upd_isSome_mem (r : List Val) (l : List SetV) : (upd r l l.length).isSome = true ↔ ∀ s ∈ l, toIs r s = true := by
  rw [upd_isSome r l l.length (Nat.le_refl _)]
  constructor
  · intro h s hs
    obtain ⟨i, hi, hg⟩ := mem_get hs
    exact h i s hi hg
  · intro h i s _ hg
    exact h s (List.mem_of_getElem? hg)

/-- What a column holds behind the first k sets. -/
theorem upd_get {c : List Bool} {r : List Val} {l : List SetV} (ha : Apart l) (hm : ∀ s ∈ l, maySet c s = true) : ∀ k out, k ≤ l.length → upd r l k = some out → ∀ (j : Nat) u, r[j]? = some u →
    (∀ i s, i < k → l[i]? = some s → s.col = j → out[j]? = some (toV r s)) ∧ ((∀ i s, i < k → l[i]? = some s → s.col ≠ j) → out[j]? = some u)
  | 0, out, _, h, j, u, hu => by
    simp [upd] at h
    subst h
    exact ⟨fun i s hi => by omega, fun _ => hu⟩
  | k + 1, out, hk, h, j, u, hu => by
    have hs : l[k]? = some l[k] := List.getElem?_eq_getElem (by omega)
    unfold upd at h
    rw [hs] at h
    cases ho : upd r l k with
    | none => rw [ho] at h; cases h
    | some out0 =>
      rw [ho] at h
      simp only [] at h
      split at h
      · injection h with h
        obtain ⟨ih1, ih2⟩ := upd_get ha hm k out0 (by omega) ho j u hu
        have hlen := upd_length ho
        have hj : j < r.length := (List.getElem?_eq_some_iff.1 hu).1
        have hc0 := may_col (hm l[k] (List.getElem_mem (by omega)))
        by_cases hcol : (l[k]'(by omega)).col = j
        · have hjn : (l[k]'(by omega)).col.toNat = j := by omega
          refine ⟨fun i s hi hsi hsc => ?_, fun hno => absurd hcol (hno k _ (by omega) hs)⟩
          have hik : i = k := by
            rcases Nat.lt_or_ge i k with hlt | hge
            · exact absurd (hsc.trans hcol.symm) (apart_iff.1 ha i k s _ hlt hsi hs)
            · omega
          subst hik
          rw [hs] at hsi
          injection hsi with hsi
          subst hsi; subst h
          rw [hjn, List.getElem?_set_self (by omega)]
        · have hjn : (l[k]'(by omega)).col.toNat ≠ j := by omega
          subst h
          rw [List.getElem?_set_ne hjn]
          refine ⟨fun i s hi hsi hsc => ?_, fun hno => ih2 fun i s hi hsi => hno i s (by omega) hsi⟩
          by_cases hik : i = k
          · subst hik; rw [hs] at hsi; injection hsi with hsi; subst hsi; exact absurd hsc hcol
          · exact ih1 i s (by omega) hsi hsc
      · cases h

theorem upd_reverse {c : List Bool} {r out : List Val} {l : List SetV} (hst : sets c l = true) (h : upd r l l.length = some out) : upd r l.reverse l.reverse.length = some out := by
  obtain ⟨_, hm, ha⟩ := sets_iff.1 hst
  obtain ⟨_, hm', ha'⟩ := sets_iff.1 ((sets_reverse c l).trans hst)
  have hs : (upd r l.reverse l.reverse.length).isSome = true := by
    rw [upd_isSome_mem]
    intro s hs
    exact (upd_isSome_mem r l).1 (by rw [h]; rfl) s (List.mem_reverse.1 hs)
  obtain ⟨out', h'⟩ := Option.isSome_iff_exists.1 hs
  rw [h']
  congr 1
  apply List.ext_getElem?
  intro j
  have e1 := upd_length h
  have e2 := upd_length h'
  by_cases hj : j < r.length
  · have hu : r[j]? = some r[j] := List.getElem?_eq_getElem hj
    obtain ⟨g1, g2⟩ := upd_get ha hm l.length out (Nat.le_refl _) h j _ hu
    obtain ⟨k1, k2⟩ := upd_get ha' hm' l.reverse.length out' (Nat.le_refl _) h' j _ hu
    by_cases hex : ∃ s ∈ l, s.col = j
    · obtain ⟨s, hs, hsc⟩ := hex
      obtain ⟨i, hi, hg⟩ := mem_get hs
      obtain ⟨i', hi', hg'⟩ := mem_get (List.mem_reverse.2 hs)
      rw [g1 i s hi hg hsc, k1 i' s hi' hg' hsc]
    · have hno : ∀ s ∈ l, s.col ≠ j := fun s hs hc => hex ⟨s, hs, hc⟩
      rw [g2 fun i s _ hg => hno s (List.mem_of_getElem? hg), k2 fun i s _ hg => hno s (List.mem_reverse.1 (List.mem_of_getElem? hg))]
  · rw [List.getElem?_eq_none (by omega), List.getElem?_eq_none (by omega)]
theorem err_reverse (c : List Bool) (r : List Val) (l : List SetV) : err c r l.reverse = err c r l ∧ out c r l.reverse = out c r l := by
  unfold err out
  rw [sets_reverse]
  cases hf : fits c r
  · simp
  cases hst : sets c l
  · simp
  · simp only [if_true, Bool.and_self]
    cases h : upd r l l.length with
    | some o => rw [upd_reverse hst h]; simp
    | none =>
      cases h' : upd r l.reverse l.reverse.length with
      | none => simp
      | some o =>
        have := upd_reverse ((sets_reverse c l).trans hst) h'
        rw [List.reverse_reverse, h] at this
        cases this

theorem cellOk_of {c : List Bool} {r : List Val} (h : fits c r = true) {i : Nat} {u : Val} {b : Bool} (hu : r[i]? = some u) (hb : c[i]? = some b) : u.t = b ∧ u.right = true := by
  simp only [fits, Bool.and_eq_true, List.all_eq_true, List.mem_range] at h
  have := h.2 i (List.getElem?_eq_some_iff.1 hu).1
  simpa [cellOk, hu, hb] using this
theorem nth_ok {c : List Bool} {r : List Val} (h : fits c r = true) {i : Int} {b : Bool} (hb : colAt c i = some b) : (nth r i).t = b ∧ (nth r i).right = true := by
  obtain ⟨h0, h1, h2⟩ := colAt_some hb
  have hl := (fits_may h).2
  have hlt : i.toNat < r.length := by omega
  have hu : r[i.toNat]? = some (nth r i) := by
    unfold nth
    rw [List.getElem?_eq_getElem hlt, List.getD_eq_getElem?_getD, List.getElem?_eq_getElem hlt]; rfl
  exact cellOk_of h hu h2
theorem num_right (z : Int) : (num z).right = true := rfl
/-- What a column is set to is the column's. -/
theorem toV_ok {c : List Bool} {r : List Val} {s : SetV} (hf : fits c r = true) (hm : maySet c s = true) : ∃ k, colAt c s.col = some k ∧ (toV r s).t = k ∧ (toV r s).right = true := by
  unfold maySet at hm
  cases hk : colAt c s.col with
  | none => rw [hk] at hm; cases hm
  | some k =>
    rw [hk] at hm
    simp only [Bool.and_eq_true, decide_eq_true_eq] at hm
    obtain ⟨_, hm⟩ := hm
    refine ⟨k, rfl, ?_⟩
    unfold toV
    by_cases o1 : s.op = 1
    · rw [if_pos o1] at hm ⊢
      simp only [Bool.and_eq_true, decide_eq_true_eq] at hm
      exact ⟨hm.2, hm.1⟩
    rw [if_neg o1] at hm ⊢
    by_cases o2 : s.op = 2
    · rw [if_pos o2] at hm ⊢
      exact nth_ok hf (of_decide_eq_true hm)
    rw [if_neg o2] at hm ⊢
    by_cases o3 : s.op = 3 ∨ s.op = 4 ∨ s.op = 5
    · rw [if_pos o3] at hm
      simp only [Bool.and_eq_true, Bool.not_eq_true'] at hm
      obtain rfl := hm.1
      rcases o3 with h | h | h <;> simp [h] <;> exact ⟨rfl, num_right _⟩
    rw [if_neg o3] at hm
    by_cases o6 : s.op = 6
    · rw [if_pos o6] at hm
      simp only [Bool.and_eq_true, Bool.not_eq_true'] at hm
      obtain rfl := hm.1
      simp [o6]
      exact ⟨rfl, num_right _⟩
    · rw [if_neg o6] at hm; cases hm
/-- What is told fits; what isn't set stays. -/
theorem out_stays {c : List Bool} {r out : List Val} {l : List SetV} (hf : fits c r = true) (hst : sets c l = true) (h : upd r l l.length = some out) :
    fits c out = true ∧ out.length = r.length ∧ ∀ j : Nat, (∀ s ∈ l, s.col ≠ j) → out[j]? = r[j]? := by
  obtain ⟨_, hm, ha⟩ := sets_iff.1 hst
  obtain ⟨hmay, hl⟩ := fits_may hf
  have hlen := upd_length h
  have key : ∀ j : Nat, (∀ s ∈ l, s.col ≠ j) → out[j]? = r[j]? := by
    intro j hno
    by_cases hj : j < r.length
    · have hu : r[j]? = some r[j] := List.getElem?_eq_getElem hj
      rw [hu]
      exact (upd_get ha hm l.length out (Nat.le_refl _) h j _ hu).2 fun i s _ hg => hno s (List.mem_of_getElem? hg)
    · rw [List.getElem?_eq_none (by omega), List.getElem?_eq_none (by omega)]
  refine ⟨?_, hlen, key⟩
  have hall : (List.range out.length).all (cellOk c out) = true := by
    rw [List.all_eq_true]
    intro j hj
    have hj := List.mem_range.1 hj
    have hjr : j < r.length := by omega
    have hjc : j < c.length := by omega
    have hu : r[j]? = some r[j] := List.getElem?_eq_getElem hjr
    have hb : c[j]? = some c[j] := List.getElem?_eq_getElem hjc
    by_cases hex : ∃ s ∈ l, s.col = j
    · obtain ⟨s, hs, hsc⟩ := hex
      obtain ⟨i, hi, hg⟩ := mem_get hs
      have ho := (upd_get ha hm l.length out (Nat.le_refl _) h j _ hu).1 i s hi hg hsc
      obtain ⟨k, hk, h1, h2⟩ := toV_ok hf (hm s hs)
      obtain ⟨_, _, h3⟩ := colAt_some hk
      rw [hsc, Int.toNat_natCast, hb] at h3
      injection h3 with h3
      simp [cellOk, ho, hb, h1, h2, h3]
    · have ho := key j fun s hs hc => hex ⟨s, hs, hc⟩
      obtain ⟨h1, h2⟩ := cellOk_of hf hu hb
      rw [hu] at ho
      simp [cellOk, ho, hb, h1, h2]
  simp only [fits, hmay, hall, Bool.and_true, Bool.true_and, decide_eq_true_eq]
  omega
end R
end Go.Proofs.Ytpgbngmekfakkaa
