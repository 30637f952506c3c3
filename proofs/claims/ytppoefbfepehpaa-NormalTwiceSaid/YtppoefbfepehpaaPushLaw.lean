/-
  Predicates without PNot, and the span of their keys: what is said, plain. No walk.
-/
import Derived.Test.YtppoefbfepehpaaSpanLaw
import Derived.Test.YtppoefbfepehpaaPr
import Derived.Test.YtppoefbfepehpaaPrPlain
namespace Go.Proofs.Ytppoefbfepehpaa
open Go.RowKit

namespace Pr
abbrev zv : Val := ⟨false, 0, ⟨#[]⟩⟩
/-- A leaf's opposite. -/
def turned (o c : Int) (v w : Val) : Pr :=
  if o = 1 then mk 2 0 zv zv [] else if o = 2 then mk 1 0 zv zv [] else if o = 9 then mk 12 0 zv zv [mk 5 c v zv [], mk 7 c w zv []]
  else mk (if o = 3 then 4 else if o = 4 then 3 else if o = 5 then 8 else if o = 6 then 7 else if o = 7 then 6 else 5) c v zv []
/-- A predicate, or its opposite, without PNot. -/
def push : Pr → Bool → Pr := fold fun o c v w l fs not =>
  if o = 10 then (match fs with | f :: _ => f (!not) | [] => mk 0 0 zv zv []) else if o = 11 ∨ o = 12 then mk (if not then 23 - o else o) 0 zv zv (fs.map fun f => f not)
  else if not then turned o c v w else if o ≤ 2 then mk o 0 zv zv [] else mk o c v w l
theorem push_mk (o c : Int) (v w : Val) (l : List Pr) (not : Bool) : (mk o c v w l).push not = if o = 10 then (match l with | q :: _ => q.push (!not) | [] => mk 0 0 zv zv []) else if o = 11 ∨ o = 12 then mk (if not then 23 - o else o) 0 zv zv (l.map fun q => q.push not)
    else if not then turned o c v w else if o ≤ 2 then mk o 0 zv zv [] else mk o c v w l := by
  unfold push
  rw [fold_mk]
  cases l with
  | nil => rfl
  | cons q l => simp [List.map_map]; rfl
/-- What a part may be, but for what it says. -/
def shapeOk (o : Int) (n : Nat) : Bool := if 1 ≤ o ∧ o ≤ 9 then decide (n = 0) else if o = 10 then decide (n = 1) else if o = 11 ∨ o = 12 then decide (0 < n) else false
def shape : Pr → Bool := fold fun o _ _ _ l fs => shapeOk o l.length && fs.all id
theorem shape_mk (o c : Int) (v w : Val) (l : List Pr) : (mk o c v w l).shape = (shapeOk o l.length && l.all shape) := by
  show fold _ _ = _
  rw [fold_mk, List.all_map]; rfl
/-- Has it no PNot? -/
def bare : Pr → Bool := fold fun o _ _ _ _ fs => fs.all id && decide (o ≠ 10)
theorem bare_mk (o c : Int) (v w : Val) (l : List Pr) : (mk o c v w l).bare = (l.all bare && decide (o ≠ 10)) := by
  show fold _ _ = _
  rw [fold_mk, List.all_map]; rfl
theorem shape_cases {o c : Int} {v w : Val} {l : List Pr} (h : (mk o c v w l).shape = true) : (1 ≤ o ∧ o ≤ 9 ∧ l = []) ∨ (o = 10 ∧ ∃ q, l = [q] ∧ q.shape = true) ∨ ((o = 11 ∨ o = 12) ∧ l ≠ [] ∧ ∀ q ∈ l, q.shape = true) := by
  rw [shape_mk, Bool.and_eq_true, List.all_eq_true] at h
  obtain ⟨h1, h2⟩ := h
  unfold shapeOk at h1
  split at h1
  · rename_i ho; exact .inl ⟨ho.1, ho.2, List.eq_nil_of_length_eq_zero (of_decide_eq_true h1)⟩
  · split at h1
    · rename_i ho
      obtain ⟨q, rfl⟩ := List.length_eq_one_iff.1 (of_decide_eq_true h1)
      exact .inr (.inl ⟨ho, q, rfl, h2 q (by simp)⟩)
    · split at h1
      · rename_i ho
        have := of_decide_eq_true h1
        exact .inr (.inr ⟨ho, fun e => by subst e; simp at this, h2⟩)
      · cases h1
theorem shape_leaf {o c : Int} {v w : Val} (h : 1 ≤ o ∧ o ≤ 9) : (mk o c v w []).shape = true := by
  rw [shape_mk]; unfold shapeOk; rw [if_pos h]; rfl
theorem shape_list {o c : Int} {v w : Val} {l : List Pr} (h : o = 11 ∨ o = 12) (hn : l ≠ []) (hl : ∀ q ∈ l, q.shape = true) : (mk o c v w l).shape = true := by
  rw [shape_mk, Bool.and_eq_true, List.all_eq_true]
  refine ⟨?_, hl⟩
  unfold shapeOk
  rw [if_neg (by omega), if_neg (by omega), if_pos h, decide_eq_true_iff]
  cases l with
  | nil => exact absurd rfl hn
  | cons q l => simp
theorem partOk_shape {t : List Bool} {o c : Int} {v w : Val} {n : Nat} (h : partOk t o c v w n = true) : shapeOk o n = true := by
  unfold partOk at h
  unfold shapeOk
  by_cases h1 : o = 1 ∨ o = 2
  · rw [if_pos h1] at h; rw [if_pos (by omega)]; exact h
  · rw [if_neg h1] at h
    by_cases h2 : 3 ≤ o ∧ o ≤ 8
    · rw [if_pos h2, Bool.and_eq_true] at h; rw [if_pos (by omega)]; exact h.1
    · rw [if_neg h2] at h
      by_cases h3 : o = 9
      · rw [if_pos h3, Bool.and_eq_true, Bool.and_eq_true] at h; rw [if_pos (by omega)]; exact h.1.1
      · rw [if_neg h3] at h
        rw [if_neg (by omega)]; exact h
theorem parts_shape {t : List Bool} : ∀ p : Pr, p.parts t = true → p.shape = true := by
  refine ind fun p ih h => ?_
  obtain ⟨o, c, v, w, l⟩ := p
  rw [parts_mk, Bool.and_eq_true, List.all_eq_true] at h
  rw [shape_mk, Bool.and_eq_true, List.all_eq_true]
  exact ⟨partOk_shape h.1, fun q hq => ih q hq (h.2 q hq)⟩
theorem push_not {c : Int} {v w : Val} (q : Pr) (n : Bool) : (mk 10 c v w [q]).push n = q.push (!n) := by rw [push_mk]; rfl
theorem push_list {o c : Int} {v w : Val} {l : List Pr} (h : o = 11 ∨ o = 12) (n : Bool) : (mk o c v w l).push n = mk (if n then 23 - o else o) 0 zv zv (l.map fun q => q.push n) := by
  rw [push_mk, if_neg (by omega), if_pos h]
theorem push_leaf {o c : Int} {v w : Val} (h : 1 ≤ o ∧ o ≤ 9) (n : Bool) : (mk o c v w []).push n = if n then turned o c v w else if o ≤ 2 then mk o 0 zv zv [] else mk o c v w [] := by
  rw [push_mk, if_neg (by omega), if_neg (by omega)]
theorem turned_cases {o : Int} (h : 1 ≤ o ∧ o ≤ 9) (c : Int) (v w : Val) : turned o c v w = mk 12 0 zv zv [mk 5 c v zv [], mk 7 c w zv []] ∧ o = 9 ∨ (∃ o' c' v', turned o c v w = mk o' c' v' zv [] ∧ 1 ≤ o' ∧ o' ≤ 8 ∧ ((o' ≤ 2 → c' = 0 ∧ v' = zv)) ∧ (3 ≤ o' → c' = c ∧ v' = v ∧ 3 ≤ o ∧ o ≤ 8)) := by
  obtain rfl | rfl | rfl | rfl | rfl | rfl | rfl | rfl | rfl : o = 1 ∨ o = 2 ∨ o = 3 ∨ o = 4 ∨ o = 5 ∨ o = 6 ∨ o = 7 ∨ o = 8 ∨ o = 9 := by omega
  · exact .inr ⟨2, 0, zv, rfl, by omega, by omega, fun _ => ⟨rfl, rfl⟩, fun h => by omega⟩
  · exact .inr ⟨1, 0, zv, rfl, by omega, by omega, fun _ => ⟨rfl, rfl⟩, fun h => by omega⟩
  · exact .inr ⟨4, c, v, rfl, by omega, by omega, fun h => by omega, fun _ => ⟨rfl, rfl, by omega, by omega⟩⟩
  · exact .inr ⟨3, c, v, rfl, by omega, by omega, fun h => by omega, fun _ => ⟨rfl, rfl, by omega, by omega⟩⟩
  · exact .inr ⟨8, c, v, rfl, by omega, by omega, fun h => by omega, fun _ => ⟨rfl, rfl, by omega, by omega⟩⟩
  · exact .inr ⟨7, c, v, rfl, by omega, by omega, fun h => by omega, fun _ => ⟨rfl, rfl, by omega, by omega⟩⟩
  · exact .inr ⟨6, c, v, rfl, by omega, by omega, fun h => by omega, fun _ => ⟨rfl, rfl, by omega, by omega⟩⟩
  · exact .inr ⟨5, c, v, rfl, by omega, by omega, fun h => by omega, fun _ => ⟨rfl, rfl, by omega, by omega⟩⟩
  · exact .inl ⟨rfl, rfl⟩
theorem bare_leaf {o c : Int} {v w : Val} (h : o ≠ 10) : (mk o c v w []).bare = true := by rw [bare_mk, decide_eq_true h]; rfl
/-- What is without PNot is a predicate still, and stays as it is. -/
theorem push_bare : ∀ p : Pr, p.shape = true → ∀ n, (p.push n).shape = true ∧ (p.push n).bare = true ∧ (p.push n).push false = p.push n := by
  refine ind fun p ih h n => ?_
  obtain ⟨o, c, v, w, l⟩ := p
  rcases shape_cases h with ⟨h1, h9, rfl⟩ | ⟨rfl, q, rfl, hq⟩ | ⟨ho, hn, hl⟩
  · rw [push_leaf ⟨h1, h9⟩]
    cases n
    · simp only [Bool.false_eq_true, if_false]
      split
      · rename_i h2
        refine ⟨shape_leaf ⟨h1, h9⟩, bare_leaf (by omega), ?_⟩
        rw [push_leaf ⟨h1, h9⟩, if_neg (by simp), if_pos h2]
      · rename_i h2
        refine ⟨shape_leaf ⟨h1, h9⟩, bare_leaf (by omega), ?_⟩
        rw [push_leaf ⟨h1, h9⟩, if_neg (by simp), if_neg h2]
    · simp only [if_true]
      rcases turned_cases ⟨h1, h9⟩ c v w with ⟨e, _⟩ | ⟨o', c', v', e, h1', h8', h2', _⟩
      · rw [e]
        refine ⟨rfl, rfl, ?_⟩
        rw [push_list (.inr rfl)]
        simp only [List.map_cons, List.map_nil]
        rw [push_leaf (by omega), push_leaf (by omega)]; rfl
      · rw [e]
        refine ⟨shape_leaf (by omega), bare_leaf (by omega), ?_⟩
        rw [push_leaf (by omega), if_neg (by simp)]
        split
        · rename_i h2; obtain ⟨rfl, rfl⟩ := h2' h2; rfl
        · rfl
  · rw [push_not]; exact ih q (by simp [Pr.l]) hq _
  · rw [push_list ho]
    have ho' : (if n then 23 - o else o) = 11 ∨ (if n then 23 - o else o) = 12 := by cases n <;> simp <;> omega
    refine ⟨shape_list ho' (by simpa using hn) fun x hx => ?_, ?_, ?_⟩
    · obtain ⟨q, hq, rfl⟩ := List.mem_map.1 hx
      exact (ih q hq (hl q hq) n).1
    · rw [bare_mk, Bool.and_eq_true, List.all_eq_true, decide_eq_true_iff]
      refine ⟨fun x hx => ?_, by omega⟩
      obtain ⟨q, hq, rfl⟩ := List.mem_map.1 hx
      exact (ih q hq (hl q hq) n).2.1
    · rw [push_list ho', if_neg (by simp)]
      congr 1
      rw [List.map_map]
      exact List.map_congr_left fun q hq => (ih q hq (hl q hq) n).2.2
/-- What may be a table's may be so without PNot, but for its size. -/
theorem push_parts {t : List Bool} : ∀ p : Pr, p.parts t = true → ∀ n, (p.push n).parts t = true := by
  refine ind fun p ih h n => ?_
  obtain ⟨o, c, v, w, l⟩ := p
  have hs := parts_shape _ h
  rw [parts_mk, Bool.and_eq_true, List.all_eq_true] at h
  obtain ⟨h, hk⟩ := h
  have tf : ∀ o' c' v', (o' = 1 ∨ o' = 2) → (mk o' c' v' zv []).parts t = true := fun o' c' v' h => by rw [parts_mk]; unfold partOk; rw [if_pos h]; rfl
  have leafOk : ∀ o', 3 ≤ o' → o' ≤ 8 → ∀ v' w', inCol t c v' = true → (mk o' c v' w' []).parts t = true := fun o' h3 h8 v' w' hc => by rw [parts_mk]; unfold partOk; rw [if_neg (by omega), if_pos ⟨h3, h8⟩, hc]; rfl
  rcases shape_cases hs with ⟨h1, h9, rfl⟩ | ⟨rfl, q, rfl, hq⟩ | ⟨ho, hn, hl⟩
  · rw [push_leaf ⟨h1, h9⟩]
    have h38 : 3 ≤ o ∧ o ≤ 8 → inCol t c v = true := fun h' => by
      unfold partOk at h; rw [if_neg (by omega), if_pos h', Bool.and_eq_true] at h; exact h.2
    have h99 : o = 9 → inCol t c v = true ∧ inCol t c w = true := fun h' => by
      unfold partOk at h; rw [if_neg (by omega), if_neg (by omega), if_pos h', Bool.and_eq_true, Bool.and_eq_true] at h; exact ⟨h.1.2, h.2⟩
    cases n
    · simp only [Bool.false_eq_true, if_false]
      split
      · exact tf o 0 zv (by omega)
      · rw [parts_mk, h]; rfl
    · simp only [if_true]
      rcases turned_cases ⟨h1, h9⟩ c v w with ⟨e, h'⟩ | ⟨o', c', v', e, h1', h8', h2', h3'⟩
      · rw [e, parts_mk]
        obtain ⟨k1, k2⟩ := h99 h'
        simp only [List.all_cons, List.all_nil, leafOk 5 (by omega) (by omega) v zv k1, leafOk 7 (by omega) (by omega) w zv k2]
        rfl
      · rw [e]
        by_cases h2 : o' ≤ 2
        · exact tf _ _ _ (by omega)
        · obtain ⟨rfl, rfl, k⟩ := h3' (by omega)
          exact leafOk o' (by omega) h8' _ _ (h38 k)
  · rw [push_not]; exact ih q (by simp [Pr.l]) (hk q (by simp)) _
  · rw [push_list ho, parts_mk, Bool.and_eq_true, List.all_eq_true]
    refine ⟨?_, fun x hx => ?_⟩
    · have ho' : (if n then 23 - o else o) = 11 ∨ (if n then 23 - o else o) = 12 := by cases n <;> simp <;> omega
      unfold partOk
      rw [if_neg (by omega), if_neg (by omega), if_neg (by omega), if_neg (by omega), if_pos ho', List.length_map, decide_eq_true_iff]
      exact List.length_pos_iff.2 hn
    · obtain ⟨q, hq, rfl⟩ := List.mem_map.1 hx
      exact ih q hq (hk q hq) n
theorem holds_leaf {o c : Int} {v w : Val} (r : List Val) (h : 3 ≤ o ∧ o ≤ 9) : (mk o c v w []).holds r = leaf o c v w r := by
  rw [holds_mk]; unfold says; rw [if_neg (by omega), if_pos h]
theorem inCol_in {t : List Bool} {c : Int} {v : Val} (h : inCol t c v = true) : 0 ≤ c ∧ c < t.length := by
  unfold inCol at h
  rw [Bool.and_eq_true, Bool.and_eq_true, decide_eq_true_iff, decide_eq_true_iff] at h
  have := (List.getElem?_eq_some_iff.1 h.2.1).1
  omega
theorem says_11 (r : List Val) (c : Int) (v w : Val) (l : List Bool) : says r 11 c v w l = l.all id := by simp [says]
theorem says_12 (r : List Val) (c : Int) (v w : Val) (l : List Bool) : says r 12 c v w l = l.any id := by simp [says]
theorem any_not (f : Pr → Bool) (l : List Pr) : (l.map fun q => f q != true).any id = !(l.map f).all id := by
  induction l with
  | nil => rfl
  | cons q l ih => rw [List.map_cons, List.map_cons, List.any_cons, List.all_cons, ih]; cases f q <;> rfl
theorem all_not (f : Pr → Bool) (l : List Pr) : (l.map fun q => f q != true).all id = !(l.map f).any id := by
  induction l with
  | nil => rfl
  | cons q l ih => rw [List.map_cons, List.map_cons, List.any_cons, List.all_cons, ih]; cases f q <;> rfl
/-- Without PNot it says the same, or the opposite, of every row with a table's columns. -/
theorem holds_push {t : List Bool} (r : List Val) (hr : r.length = t.length) : ∀ p : Pr, p.parts t = true → ∀ n, (p.push n).holds r = (p.holds r != n) := by
  refine ind fun p ih h n => ?_
  obtain ⟨o, c, v, w, l⟩ := p
  have hs := parts_shape _ h
  rw [parts_mk, Bool.and_eq_true, List.all_eq_true] at h
  obtain ⟨h, hk⟩ := h
  rcases shape_cases hs with ⟨h1, h9, rfl⟩ | ⟨rfl, q, rfl, hq⟩ | ⟨ho, hn, hl⟩
  · rw [push_leaf ⟨h1, h9⟩]
    cases n
    · simp only [Bool.false_eq_true, if_false, Bool.bne_false]
      split
      · obtain rfl | rfl : o = 1 ∨ o = 2 := by omega
        · rfl
        · rfl
      · rfl
    · simp only [if_true, Bool.bne_true]
      have hin : 3 ≤ o → 0 ≤ c ∧ c < r.length := fun h3 => by
        rw [hr]
        unfold partOk at h
        rw [if_neg (by omega)] at h
        by_cases h8 : o ≤ 8
        · rw [if_pos ⟨h3, h8⟩, Bool.and_eq_true] at h; exact inCol_in h.2
        · rw [if_neg (by omega), if_pos (by omega), Bool.and_eq_true] at h; exact inCol_in h.2
      have e3 : ∀ o' v' w', 3 ≤ o' ∧ o' ≤ 9 → 3 ≤ o → (mk o' c v' w' []).holds r = (if o' = 3 then decide (cmpV (nth r c) v' = 0) else if o' = 4 then decide (cmpV (nth r c) v' ≠ 0) else if o' = 5 then decide (cmpV (nth r c) v' < 0) else if o' = 6 then decide (cmpV (nth r c) v' ≤ 0)
          else if o' = 7 then decide (0 < cmpV (nth r c) v') else if o' = 8 then decide (0 ≤ cmpV (nth r c) v') else decide (0 ≤ cmpV (nth r c) v') && decide (cmpV (nth r c) w' ≤ 0)) := fun o' v' w' h' h3 => by
        rw [holds_leaf _ h']; unfold leaf
        rw [decide_eq_true (hin h3).1, decide_eq_true (hin h3).2]; rfl
      obtain rfl | rfl | rfl | rfl | rfl | rfl | rfl | rfl | rfl : o = 1 ∨ o = 2 ∨ o = 3 ∨ o = 4 ∨ o = 5 ∨ o = 6 ∨ o = 7 ∨ o = 8 ∨ o = 9 := by omega
      · rfl
      · rfl
      · show (mk 4 c v zv []).holds r = _
        rw [e3 4 _ _ (by omega) (by omega), e3 3 _ _ (by omega) (by omega)]; simp
      · show (mk 3 c v zv []).holds r = _
        rw [e3 4 _ _ (by omega) (by omega), e3 3 _ _ (by omega) (by omega)]; simp
      · show (mk 8 c v zv []).holds r = _
        rw [e3 8 _ _ (by omega) (by omega), e3 5 _ _ (by omega) (by omega)]
        rcases cmpV_range (nth r c) v with k | k | k <;> simp [k]
      · show (mk 7 c v zv []).holds r = _
        rw [e3 7 _ _ (by omega) (by omega), e3 6 _ _ (by omega) (by omega)]
        rcases cmpV_range (nth r c) v with k | k | k <;> simp [k]
      · show (mk 6 c v zv []).holds r = _
        rw [e3 6 _ _ (by omega) (by omega), e3 7 _ _ (by omega) (by omega)]
        rcases cmpV_range (nth r c) v with k | k | k <;> simp [k]
      · show (mk 5 c v zv []).holds r = _
        rw [e3 5 _ _ (by omega) (by omega), e3 8 _ _ (by omega) (by omega)]
        rcases cmpV_range (nth r c) v with k | k | k <;> simp [k]
      · show (mk 12 0 zv zv [mk 5 c v zv [], mk 7 c w zv []]).holds r = _
        rw [holds_mk, e3 9 _ _ (by omega) (by omega)]
        simp only [List.map_cons, List.map_nil]
        rw [e3 5 _ _ (by omega) (by omega), e3 7 _ _ (by omega) (by omega)]
        rcases cmpV_range (nth r c) v with k | k | k <;> rcases cmpV_range (nth r c) w with k' | k' | k' <;> simp [says, k, k']
  · rw [push_not, ih q (by simp [Pr.l]) (hk q (by simp)), holds_mk]
    simp only [List.map_cons, List.map_nil]
    show _ = (says r 10 c v w [q.holds r] != n)
    unfold says
    simp
  · rw [push_list ho, holds_mk, holds_mk, List.map_map]
    have e : l.map (holds r ∘ fun q => q.push n) = l.map (fun q => q.holds r != n) := List.map_congr_left fun q hq => ih q hq (hk q hq) n
    rw [e]
    rcases ho with rfl | rfl
    · cases n
      · simp [says]
      · show says r 12 0 zv zv (l.map fun q => q.holds r != true) = (says r 11 c v w (l.map (holds r)) != true)
        rw [says_11, says_12, any_not, Bool.bne_true]
    · cases n
      · simp [says]
      · show says r 11 0 zv zv (l.map fun q => q.holds r != true) = (says r 12 c v w (l.map (holds r)) != true)
        rw [says_11, says_12, all_not, Bool.bne_true]

/-- The span of a leaf's keys. -/
def leafSpan (o : Int) (v w : Val) : Sp := if o = 3 then ⟨false, true, false, v, true, false, v⟩ else if o = 5 ∨ o = 6 then ⟨false, false, false, zv, true, decide (o = 5), v⟩ else if o = 7 ∨ o = 8 then ⟨false, true, decide (o = 7), v, false, false, zv⟩
  else if o = 9 then Sp.clean ⟨false, true, false, v, true, false, w⟩ else Sp.full
/-- All together, from the first one on. -/
def fold1 (f : Sp → Sp → Sp) : List Sp → Sp
  | [] => Sp.full
  | a :: l => l.foldl f a
/-- The span of a predicate's keys. -/
def keys : Pr → Sp := fold fun o c v w _ fs => if o = 2 then Sp.nothing else if o = 11 then fold1 Sp.meet fs else if o = 12 then fold1 Sp.hull fs else if c ≠ 0 then Sp.full else leafSpan o v w
theorem keys_mk (o c : Int) (v w : Val) (l : List Pr) : (mk o c v w l).keys = if o = 2 then Sp.nothing else if o = 11 then fold1 Sp.meet (l.map keys) else if o = 12 then fold1 Sp.hull (l.map keys) else if c ≠ 0 then Sp.full else leafSpan o v w := fold_mk _ o c v w l
theorem full_within (x : Val) : Sp.full.within x = true := rfl
theorem fold_meet {x : Val} : ∀ (l : List Sp) (a : Sp), a.within x = true → (∀ s ∈ l, s.within x = true) → (l.foldl Sp.meet a).within x = true
  | [], _, h, _ => h
  | s :: l, a, h, hl => fold_meet l _ (by rw [Sp.within_meet, h, hl s (by simp)]; rfl) fun s hs => hl s (by simp [hs])
theorem fold_hull {x : Val} : ∀ (l : List Sp) (a : Sp), (a.within x = true ∨ ∃ s ∈ l, s.within x = true) → (l.foldl Sp.hull a).within x = true
  | [], _, h => by rcases h with h | ⟨s, hs, _⟩; exact h; simp at hs
  | s :: l, a, h => by
    refine fold_hull l _ ?_
    rcases h with h | ⟨u, hu, h⟩
    · exact .inl (Sp.hull_left h)
    · rcases List.mem_cons.1 hu with rfl | hu
      · exact .inl (Sp.hull_right h)
      · exact .inr ⟨u, hu, h⟩
/-- What a predicate without PNot holds of has its key within the span. -/
theorem keys_within (r : List Val) : ∀ p : Pr, p.shape = true → p.bare = true → p.holds r = true → p.keys.within (nth r 0) = true := by
  refine ind fun p ih hs hb h => ?_
  obtain ⟨o, c, v, w, l⟩ := p
  rw [keys_mk]
  rw [bare_mk, Bool.and_eq_true, List.all_eq_true, decide_eq_true_iff] at hb
  rcases shape_cases hs with ⟨h1, h9, rfl⟩ | ⟨rfl, _⟩ | ⟨ho, hn, hl⟩
  · by_cases h2 : o = 2
    · subst h2; cases h
    · rw [if_neg h2, if_neg (by omega), if_neg (by omega)]
      by_cases hc : c = 0
      · subst hc
        rw [if_neg (by simp)]
        by_cases h1' : o = 1
        · subst h1'; rfl
        · rw [holds_leaf _ (by omega)] at h
          unfold leaf at h
          rw [Bool.and_eq_true] at h
          have h := h.2
          unfold leafSpan
          obtain rfl | rfl | rfl | rfl | rfl | rfl | rfl : o = 3 ∨ o = 4 ∨ o = 5 ∨ o = 6 ∨ o = 7 ∨ o = 8 ∨ o = 9 := by omega
          · simp at h; simp [Sp.within, h]
          · rfl
          · simp at h; simp [Sp.within, h]
          · simp at h; simp [Sp.within]; omega
          · simp at h; simp [Sp.within]; omega
          · simp at h; simp [Sp.within]; omega
          · simp at h
            simp only [show ¬ (9 : Int) = 3 by omega, show ¬ ((9 : Int) = 5 ∨ (9 : Int) = 6) by omega, show ¬ ((9 : Int) = 7 ∨ (9 : Int) = 8) by omega, if_false, if_true]
            rw [Sp.within_clean]
            simp [Sp.within]; omega
      · rw [if_pos hc]; exact full_within _
  · exact absurd rfl hb.2
  · rw [if_neg (by omega)]
    rw [holds_mk] at h
    obtain ⟨q, l, rfl⟩ := List.exists_cons_of_ne_nil hn
    rcases ho with rfl | rfl
    · rw [if_pos rfl]
      rw [says_11, List.all_map, List.all_eq_true] at h
      have hk : ∀ x ∈ q :: l, x.keys.within (nth r 0) = true := fun x hx => ih x hx (hl x hx) (hb.1 x hx) (h x hx)
      refine fold_meet _ _ (hk q (by simp)) fun s hs => ?_
      obtain ⟨x, hx, rfl⟩ := List.mem_map.1 hs
      exact hk x (by simp [hx])
    · rw [if_neg (by omega), if_pos rfl]
      rw [says_12, List.any_map, List.any_eq_true] at h
      obtain ⟨x, hx, hxh⟩ := h
      have hk := ih x hx (hl x hx) (hb.1 x hx) hxh
      refine fold_hull _ _ ?_
      rcases List.mem_cons.1 hx with rfl | hx
      · exact .inl hk
      · exact .inr ⟨_, List.mem_map_of_mem hx, hk⟩
end Pr
end Go.Proofs.Ytppoefbfepehpaa
