/-
  Claims, plain: what one is about, which two are in conflict, cover one another, what two join to, whether one may be. No program in sight.
-/
import Derived.Test.YtghpildnajdlpaaDoorPr
import Derived.Test.YtghpildnajdlpaaDoorMode09
import Derived.Test.YtghpildnajdlpaaDoorRowFn09
namespace Go.Proofs.YtghpildnajdlpaaDoor
open Go.RowKit

/-- A claim. -/
structure Cl where
  kind : Int
  table : Int
  mode : Int
  key : Val
  im : List (List Val)
  p : Pr
namespace Cl
def same (a b : Cl) : Bool := decide (a.table = b.table) && (if a.kind = 1 ∧ b.kind = 1 then true else if a.kind = 2 ∧ b.kind = 2 then decide (a.key = b.key) else if a.kind = 3 ∧ b.kind = 3 then a.p.same b.p else false)
/-- Does a predicate hold of one of some rows? -/
def hits (p : Pr) (l : List (List Val)) : Bool := l.any fun r => !decide (r.length = 0) && p.holds r
def meets (p w : Cl) : Bool := decide (w.mode = 6) && hits p.p w.im
def conf (a b : Cl) : Bool := decide (a.table = b.table) && (if a.kind = 3 ∧ b.kind = 2 then meets a b else if a.kind = 2 ∧ b.kind = 3 then meets b a else if a.kind = 2 ∧ b.kind = 2 then decide (a.key = b.key) && !M.fits a.mode b.mode else if a.kind = 1 ∧ b.kind = 1 then !M.fits a.mode b.mode else false)
/-- Is a row one of some? -/
def has (l : List (List Val)) (r : List Val) : Bool := l.any fun x => decide (x = r)
def covers (a b : Cl) : Bool := same a b && M.covers a.mode b.mode && b.im.all (has a.im)
/-- Rows with others behind them, each if it is not there yet. -/
def more (l : List (List Val)) : List (List Val) → List (List Val)
  | [] => l
  | r :: s => more (if has l r then l else l ++ [r]) s
def join (a b : Cl) : Cl := if same a b then { a with mode := M.join a.mode b.mode, im := more a.im b.im } else a
/-- May an image be a row's? -/
def okIm (t : List Bool) (k : Val) (r : List Val) : Bool := decide (r.length = 0) || (R.fits t r && decide (r.head? = some k))
def okRow (t : List Bool) (c : Cl) : Bool := c.key.right && decide (t.head? = some c.key.t) && (if c.mode = 3 ∨ c.mode = 5 then decide (c.im.length = 0) else if c.mode = 6 then c.im.all (okIm t c.key) else false)
def ok (t : List Bool) (c : Cl) : Bool := if c.kind = 1 then M.right c.mode && !decide (c.mode = 0) else if c.kind = 2 then okRow t c else if c.kind = 3 then decide (c.mode = 3) && c.p.may t else false
def may (ts : List (List Bool)) (c : Cl) : Bool := decide (0 ≤ c.table) && (match ts[c.table.toNat]? with
  | some t => R.may t.length && ok t c
  | none => false)

theorem has_iff {l : List (List Val)} {r : List Val} : has l r = true ↔ r ∈ l := by
  unfold has
  rw [List.any_eq_true]
  constructor
  · rintro ⟨x, hx, h⟩; exact (of_decide_eq_true h) ▸ hx
  · intro h; exact ⟨r, h, decide_eq_true rfl⟩
theorem more_mem {r : List Val} : ∀ (s l : List (List Val)), r ∈ more l s ↔ r ∈ l ∨ r ∈ s
  | [], l => by simp [more]
  | x :: s, l => by
    rw [more, more_mem s]
    split
    · rename_i h
      have := has_iff.1 h
      constructor
      · rintro (h | h)
        · exact .inl h
        · exact .inr (List.mem_cons_of_mem _ h)
      · rintro (h | h)
        · exact .inl h
        · rcases List.mem_cons.1 h with rfl | h
          · exact .inl this
          · exact .inr h
    · rw [List.mem_append, List.mem_singleton, List.mem_cons, or_assoc]
theorem more_nil : ∀ l, more l [] = l := fun _ => rfl
theorem more_take {l s : List (List Val)} {k : Nat} {r : List Val} (h : s[k]? = some r) : more l (s.take (k + 1)) = if has (more l (s.take k)) r then more l (s.take k) else more l (s.take k) ++ [r] := by
  have key : ∀ (s l : List (List Val)) (r : List Val), more l (s ++ [r]) = if has (more l s) r then more l s else more l s ++ [r] := by
    intro s
    induction s with
    | nil => intro l r; rfl
    | cons x s ih => intro l r; rw [List.cons_append, more, more, ih]
  rw [List.take_add_one, h]
  exact key _ _ _
theorem more_length : ∀ (s l : List (List Val)), (more l s).length ≤ l.length + s.length
  | [], l => by simp [more]
  | x :: s, l => by
    rw [more, List.length_cons]
    have h1 := more_length s l
    have h2 := more_length s (l ++ [x])
    rw [List.length_append, List.length_cons, List.length_nil] at h2
    split <;> omega
theorem hits_iff {p : Pr} {l : List (List Val)} : hits p l = true ↔ ∃ r ∈ l, r.length ≠ 0 ∧ p.holds r = true := by
  unfold hits
  rw [List.any_eq_true]
  simp
theorem hits_more {p : Pr} {s l : List (List Val)} : hits p (more l s) = (hits p l || hits p s) := by
  rw [Bool.eq_iff_iff, Bool.or_eq_true, hits_iff, hits_iff, hits_iff]
  constructor
  · rintro ⟨r, hr, h⟩
    rcases (more_mem s l).1 hr with hr | hr
    · exact .inl ⟨r, hr, h⟩
    · exact .inr ⟨r, hr, h⟩
  · rintro (⟨r, hr, h⟩ | ⟨r, hr, h⟩)
    · exact ⟨r, (more_mem s l).2 (.inl hr), h⟩
    · exact ⟨r, (more_mem s l).2 (.inr hr), h⟩
/-- Rows that are the same as sets hit alike. -/
theorem hits_set {p : Pr} {l s : List (List Val)} (h : ∀ r, r ∈ l ↔ r ∈ s) : hits p l = hits p s := by
  rw [Bool.eq_iff_iff, hits_iff, hits_iff]
  constructor
  · rintro ⟨r, hr, h'⟩; exact ⟨r, (h r).1 hr, h'⟩
  · rintro ⟨r, hr, h'⟩; exact ⟨r, (h r).2 hr, h'⟩
theorem has_set {l s : List (List Val)} (h : ∀ r, r ∈ l ↔ r ∈ s) (r : List Val) : has l r = has s r := by
  rw [Bool.eq_iff_iff, has_iff, has_iff]; exact h r
theorem all_set {l s : List (List Val)} (f : List Val → Bool) (h : ∀ r, r ∈ l ↔ r ∈ s) : l.all f = s.all f := by
  rw [Bool.eq_iff_iff, List.all_eq_true, List.all_eq_true]
  exact ⟨fun h' r hr => h' r ((h r).2 hr), fun h' r hr => h' r ((h r).1 hr)⟩

theorem fits_turn (a b : Int) : M.fits a b = M.fits b a := by
  by_cases ha : M.right a = true
  · by_cases hb : M.right b = true
    · obtain ⟨m, hm, rfl⟩ := M.nat ha
      obtain ⟨n, hn, rfl⟩ := M.nat hb
      rw [M.fits_nat hm hn, M.fits_nat hn hm]
      exact (show ∀ m : Fin 7, ∀ n : Fin 7, M.fit m n = M.fit n m by decide +kernel) ⟨m, hm⟩ ⟨n, hn⟩
    · have hb := (Bool.not_eq_true _).mp hb
      simp [M.fits, hb]
  · have ha := (Bool.not_eq_true _).mp ha
    simp [M.fits, ha]
theorem same_turn (a b : Cl) : same a b = same b a := by
  rw [Bool.eq_iff_iff]
  unfold same
  rw [Bool.and_eq_true, Bool.and_eq_true, decide_eq_true_iff, decide_eq_true_iff]
  refine and_congr eq_comm ?_
  by_cases h1 : a.kind = 1 ∧ b.kind = 1
  · rw [if_pos h1, if_pos ⟨h1.2, h1.1⟩]
  · rw [if_neg h1, if_neg (show ¬ (b.kind = 1 ∧ a.kind = 1) by omega)]
    by_cases h2 : a.kind = 2 ∧ b.kind = 2
    · rw [if_pos h2, if_pos ⟨h2.2, h2.1⟩, decide_eq_true_iff, decide_eq_true_iff]; exact eq_comm
    · rw [if_neg h2, if_neg (show ¬ (b.kind = 2 ∧ a.kind = 2) by omega)]
      by_cases h3 : a.kind = 3 ∧ b.kind = 3
      · rw [if_pos h3, if_pos ⟨h3.2, h3.1⟩, Pr.same_iff, Pr.same_iff]; exact eq_comm
      · rw [if_neg h3, if_neg (show ¬ (b.kind = 3 ∧ a.kind = 3) by omega)]
theorem conf_turn (a b : Cl) : conf a b = conf b a := by
  rw [Bool.eq_iff_iff]
  unfold conf
  rw [Bool.and_eq_true, Bool.and_eq_true, decide_eq_true_iff, decide_eq_true_iff]
  refine and_congr eq_comm ?_
  by_cases h1 : a.kind = 3 ∧ b.kind = 2
  · rw [if_pos h1, if_neg (show ¬ (b.kind = 3 ∧ a.kind = 2) by omega), if_pos ⟨h1.2, h1.1⟩]
  · rw [if_neg h1]
    by_cases h2 : a.kind = 2 ∧ b.kind = 3
    · rw [if_pos h2, if_pos ⟨h2.2, h2.1⟩]
    · rw [if_neg h2, if_neg (show ¬ (b.kind = 3 ∧ a.kind = 2) by omega), if_neg (show ¬ (b.kind = 2 ∧ a.kind = 3) by omega), fits_turn b.mode a.mode]
      by_cases h3 : a.kind = 2 ∧ b.kind = 2
      · rw [if_pos h3, if_pos ⟨h3.2, h3.1⟩, Bool.and_eq_true, Bool.and_eq_true, decide_eq_true_iff, decide_eq_true_iff]
        exact and_congr eq_comm Iff.rfl
      · rw [if_neg h3, if_neg (show ¬ (b.kind = 2 ∧ a.kind = 2) by omega)]
        by_cases h4 : a.kind = 1 ∧ b.kind = 1
        · rw [if_pos h4, if_pos ⟨h4.2, h4.1⟩]
        · rw [if_neg h4, if_neg (show ¬ (b.kind = 1 ∧ a.kind = 1) by omega)]
/-- The order of images, and how often one is there, play no part. -/
theorem conf_images {a c : Cl} (hk : c.kind = a.kind) (ht : c.table = a.table) (hm : c.mode = a.mode) (hy : c.key = a.key) (hp : c.p = a.p) (h : ∀ r, r ∈ c.im ↔ r ∈ a.im) (b : Cl) : conf c b = conf a b := by
  unfold conf meets
  rw [hk, ht, hm, hy, hp, hits_set h]
theorem same_images {a c : Cl} (hk : c.kind = a.kind) (ht : c.table = a.table) (hy : c.key = a.key) (hp : c.p = a.p) (b : Cl) : same c b = same a b := by
  unfold same
  rw [hk, ht, hy, hp]
theorem covers_images {a c : Cl} (hk : c.kind = a.kind) (ht : c.table = a.table) (hm : c.mode = a.mode) (hy : c.key = a.key) (hp : c.p = a.p) (h : ∀ r, r ∈ c.im ↔ r ∈ a.im) (b : Cl) : covers c b = covers a b ∧ covers b c = covers b a := by
  unfold covers
  rw [same_images hk ht hy hp, same_turn b c, same_images hk ht hy hp, same_turn a b, hm]
  refine ⟨?_, ?_⟩
  · congr 1
    rw [Bool.eq_iff_iff, List.all_eq_true, List.all_eq_true]
    simp only [has_set h]
  · rw [all_set _ h]
end Cl
end Go.Proofs.YtghpildnajdlpaaDoor
