/-
  Predicates: what one is, whether it holds of a row, how many parts it has, whether it may be. No program in sight.
-/
import Derived.Test.YtghpildnajdlpaaDoorCmp
namespace Go.Proofs.YtghpildnajdlpaaDoor
open Go.RowKit

/-- A predicate. -/
inductive Pr where
  | mk (op col : Int) (v w : Val) (l : List Pr)
namespace Pr
def op : Pr → Int | mk o _ _ _ _ => o
def col : Pr → Int | mk _ c _ _ _ => c
def v : Pr → Val | mk _ _ v _ _ => v
def w : Pr → Val | mk _ _ _ w _ => w
def l : Pr → List Pr | mk _ _ _ _ l => l
theorem eta (p : Pr) : mk p.op p.col p.v p.w p.l = p := by cases p; rfl
section
variable {α : Type} (f : Int → Int → Val → Val → List Pr → List α → α)
mutual
def fold : Pr → α | mk o c v w l => f o c v w l (folds l)
def folds : List Pr → List α | [] => [] | p :: l => fold p :: folds l
end
theorem folds_map : ∀ l : List Pr, folds f l = l.map (fold f)
  | [] => by simp [folds]
  | p :: l => by simp [folds, folds_map l]
theorem fold_mk (o c : Int) (v w : Val) (l : List Pr) : fold f (mk o c v w l) = f o c v w l (l.map (fold f)) := by
  simp [fold, folds_map]
end
theorem le_sum : ∀ {l : List Nat} {n : Nat}, n ∈ l → n ≤ l.sum
  | a :: l, n, h => by
    rw [List.sum_cons]
    rcases List.mem_cons.1 h with rfl | h
    · omega
    · have := le_sum h; omega
/-- How many parts it has. -/
def size : Pr → Nat := fold fun _ _ _ _ _ l => 1 + l.sum
theorem size_mk (o c : Int) (v w : Val) (l : List Pr) : (mk o c v w l).size = 1 + (l.map size).sum := fold_mk _ o c v w l
theorem size_eq (p : Pr) : p.size = 1 + (p.l.map size).sum := by cases p; exact size_mk _ _ _ _ _
theorem size_pos (p : Pr) : 1 ≤ p.size := by rw [size_eq]; omega
theorem size_kid {p q : Pr} (h : q ∈ p.l) : q.size < p.size := by
  rw [size_eq p]
  have := le_sum (List.mem_map_of_mem (f := size) h)
  omega
theorem len_le : ∀ l : List Pr, l.length ≤ (l.map size).sum
  | [] => by simp
  | p :: l => by have := len_le l; have := size_pos p; simp; omega
theorem len_lt (p : Pr) : p.l.length < p.size := by rw [size_eq]; have := len_le p.l; omega
theorem take_sum : ∀ (l : List Pr) (k : Nat), ((l.take k).map size).sum ≤ (l.map size).sum
  | [], k => by simp
  | p :: l, 0 => by simp
  | p :: l, k + 1 => by
    have := take_sum l k
    rw [List.take_succ_cons, List.map_cons, List.map_cons, List.sum_cons, List.sum_cons]; omega
theorem ind {P : Pr → Prop} (h : ∀ p, (∀ q ∈ p.l, P q) → P p) : ∀ p, P p := by
  have key : ∀ n p, size p ≤ n → P p := by
    intro n
    induction n with
    | zero => intro p hp; have := size_pos p; omega
    | succ n ih => exact fun p hp => h p fun q hq => ih q (by have := size_kid hq; omega)
  exact fun p => key _ p (Nat.le_refl _)

/-- May it be asked about: not deep, few parts? -/
def few (most wide many : Nat) : Pr → Nat → Bool := fold fun o c v w l fs d => decide (d ≤ most) && decide (l.length ≤ wide) && fs.all (fun f => f (d + 1)) && decide (size (mk o c v w l) ≤ many)
theorem few_mk (m k n : Nat) (o c : Int) (v w : Val) (l : List Pr) (d : Nat) : (mk o c v w l).few m k n d = (decide (d ≤ m) && decide (l.length ≤ k) && l.all (fun q => q.few m k n (d + 1)) && decide ((mk o c v w l).size ≤ n)) := by
  unfold few
  rw [fold_mk]
  simp [List.all_map]; rfl
theorem few_size {m k n : Nat} {p : Pr} {d : Nat} (h : p.few m k n d = true) : p.size ≤ n := by
  cases p
  rw [few_mk] at h
  simp only [Bool.and_eq_true, decide_eq_true_eq] at h
  exact h.2

def nth (r : List Val) (c : Int) : Val := r.getD c.toNat ⟨false, 0, ⟨#[]⟩⟩
/-- Does one that is about a column hold? -/
def leaf (o c : Int) (v w : Val) (r : List Val) : Bool :=
  decide (0 ≤ c) && decide (c < r.length) && (if o = 3 then decide (cmpV (nth r c) v = 0) else if o = 4 then decide (cmpV (nth r c) v ≠ 0) else if o = 5 then decide (cmpV (nth r c) v < 0) else if o = 6 then decide (cmpV (nth r c) v ≤ 0)
    else if o = 7 then decide (0 < cmpV (nth r c) v) else if o = 8 then decide (0 ≤ cmpV (nth r c) v) else decide (0 ≤ cmpV (nth r c) v) && decide (cmpV (nth r c) w ≤ 0))
/-- Does it hold, by what its parts say? -/
def says (r : List Val) (o c : Int) (v w : Val) (l : List Bool) : Bool :=
  if o = 1 then true else if 3 ≤ o ∧ o ≤ 9 then leaf o c v w r else if o = 10 then !(l.headD false) else if o = 11 then l.all id else if o = 12 then l.any id else false
/-- Does it hold? -/
def holds (r : List Val) : Pr → Bool := fold fun o c v w _ l => says r o c v w l
theorem holds_mk (r : List Val) (o c : Int) (v w : Val) (l : List Pr) : (mk o c v w l).holds r = says r o c v w (l.map (holds r)) := fold_mk _ o c v w l
theorem holds_eq (r : List Val) (p : Pr) : p.holds r = says r p.op p.col p.v p.w (p.l.map (holds r)) := by cases p; exact holds_mk _ _ _ _ _ _

/-- Is a value one of a column's? -/
def inCol (t : List Bool) (c : Int) (v : Val) : Bool := decide (0 ≤ c) && (decide (t[c.toNat]? = some v.t) && v.right)
/-- May a part be, but for its own parts? -/
def partOk (t : List Bool) (o c : Int) (v w : Val) (n : Nat) : Bool :=
  if o = 1 ∨ o = 2 then decide (n = 0) else if 3 ≤ o ∧ o ≤ 8 then decide (n = 0) && inCol t c v else if o = 9 then decide (n = 0) && inCol t c v && inCol t c w
  else if o = 10 then decide (n = 1) else if o = 11 ∨ o = 12 then decide (0 < n) else false
/-- May all its parts be? -/
def parts (t : List Bool) : Pr → Bool := fold fun o c v w l fs => partOk t o c v w l.length && fs.all id
theorem parts_mk (t : List Bool) (o c : Int) (v w : Val) (l : List Pr) : (mk o c v w l).parts t = (partOk t o c v w l.length && l.all (parts t)) := by
  show fold _ _ = _
  rw [fold_mk, List.all_map]; rfl
theorem parts_eq (t : List Bool) (p : Pr) : p.parts t = (partOk t p.op p.col p.v p.w p.l.length && p.l.all (parts t)) := by cases p; exact parts_mk _ _ _ _ _ _
def may (t : List Bool) (p : Pr) : Bool := decide (1 ≤ t.length) && decide (t.length ≤ 4) && decide (p.size ≤ 15) && p.parts t

/-- Are two the same? -/
def same : Pr → Pr → Bool := fold fun o c v w l fs q => decide (o = q.op) && decide (c = q.col) && decide (v = q.v) && decide (w = q.w) && decide (l.length = q.l.length) && (List.range l.length).all fun i => match fs[i]?, q.l[i]? with
  | some f, some x => f x
  | _, _ => false
theorem same_mk (o c : Int) (v w : Val) (l : List Pr) (q : Pr) : (mk o c v w l).same q = (decide (o = q.op) && decide (c = q.col) && decide (v = q.v) && decide (w = q.w) && decide (l.length = q.l.length) && (List.range l.length).all fun i => match l[i]?, q.l[i]? with
    | some p, some x => p.same x
    | _, _ => false) := by
  unfold same
  rw [fold_mk]
  congr 1
  congr 1
  funext i
  rw [List.getElem?_map]
  cases l[i]? <;> cases q.l[i]? <;> rfl
theorem same_iff : ∀ p q : Pr, p.same q = true ↔ p = q := by
  refine ind fun p ih q => ?_
  obtain ⟨o, c, v, w, l⟩ := p
  obtain ⟨o', c', v', w', l'⟩ := q
  rw [same_mk]
  rw [Bool.and_eq_true, Bool.and_eq_true, Bool.and_eq_true, Bool.and_eq_true, Bool.and_eq_true, decide_eq_true_iff, decide_eq_true_iff, decide_eq_true_iff, decide_eq_true_iff, decide_eq_true_iff, List.all_eq_true]
  simp only [List.mem_range, op, col, Pr.v, Pr.w, Pr.l, mk.injEq]
  constructor
  · rintro ⟨⟨⟨⟨⟨rfl, rfl⟩, rfl⟩, rfl⟩, hl⟩, h⟩
    refine ⟨rfl, rfl, rfl, rfl, ?_⟩
    apply List.ext_getElem hl
    intro i hi hi'
    have := h i hi
    rw [List.getElem?_eq_getElem hi, List.getElem?_eq_getElem hi'] at this
    exact (ih _ (List.getElem_mem hi) _).1 this
  · rintro ⟨rfl, rfl, rfl, rfl, rfl⟩
    refine ⟨⟨⟨⟨⟨rfl, rfl⟩, rfl⟩, rfl⟩, rfl⟩, fun i hi => ?_⟩
    rw [List.getElem?_eq_getElem hi]
    exact (ih _ (List.getElem_mem hi) _).2 rfl
theorem same_self (p : Pr) : p.same p = true := (same_iff p p).2 rfl
end Pr

/-- The parts of a predicate lie behind an address, and theirs in turn. -/
def Pr.At (W : World) : Pr → Option Addr → Nat → Prop := Pr.fold fun _ _ _ _ l fs A ca => ((A = none → ca = 0) ∧ l.length ≤ ca) ∧ (l ≠ [] → ∃ b o, A = some ⟨b, o, none⟩ ∧ ∀ i p f, l[i]? = some p → fs[i]? = some f → ∃ A' ca',
  (W.cell? ⟨b, o + i * 9, none⟩ = some (.int .i64 p.op) ∧ W.cell? ⟨b, o + i * 9 + 1, none⟩ = some (.int .i64 p.col) ∧
   W.cell? ⟨b, o + i * 9 + 2, none⟩ = some (.bool p.v.t) ∧ W.cell? ⟨b, o + i * 9 + 3, none⟩ = some (.int .i64 p.v.n) ∧ W.cell? ⟨b, o + i * 9 + 4, none⟩ = some (.string p.v.s) ∧
   W.cell? ⟨b, o + i * 9 + 5, none⟩ = some (.bool p.w.t) ∧ W.cell? ⟨b, o + i * 9 + 6, none⟩ = some (.int .i64 p.w.n) ∧ W.cell? ⟨b, o + i * 9 + 7, none⟩ = some (.string p.w.s) ∧
   W.cell? ⟨b, o + i * 9 + 8, none⟩ = some (.slice A' p.l.length ca')) ∧ f A' ca')
/-- A part's nine cells. -/
def Pr.Cells (W : World) (p : Pr) (A : Option Addr) (ca : Nat) (b o : Nat) : Prop :=
  W.cell? ⟨b, o, none⟩ = some (.int .i64 p.op) ∧ W.cell? ⟨b, o + 1, none⟩ = some (.int .i64 p.col) ∧
   W.cell? ⟨b, o + 2, none⟩ = some (.bool p.v.t) ∧ W.cell? ⟨b, o + 3, none⟩ = some (.int .i64 p.v.n) ∧ W.cell? ⟨b, o + 4, none⟩ = some (.string p.v.s) ∧
   W.cell? ⟨b, o + 5, none⟩ = some (.bool p.w.t) ∧ W.cell? ⟨b, o + 6, none⟩ = some (.int .i64 p.w.n) ∧ W.cell? ⟨b, o + 7, none⟩ = some (.string p.w.s) ∧
   W.cell? ⟨b, o + 8, none⟩ = some (.slice A p.l.length ca)
theorem Pr.at_mk {W : World} {o c : Int} {v w : Val} {l : List Pr} {A : Option Addr} {ca : Nat} : (Pr.mk o c v w l).At W A ca ↔ ((A = none → ca = 0) ∧ l.length ≤ ca) ∧ (l ≠ [] → ∃ b o, A = some ⟨b, o, none⟩ ∧ ∀ (i : Nat) (p : Pr), l[i]? = some p → ∃ A' ca', p.Cells W A' ca' b (o + i * 9) ∧ p.At W A' ca') := by
  unfold Pr.At
  rw [Pr.fold_mk]
  constructor
  · rintro ⟨h1, h⟩
    refine ⟨h1, fun hn => ?_⟩
    obtain ⟨b, o, hA, hk⟩ := h hn
    refine ⟨b, o, hA, fun i p hp => ?_⟩
    obtain ⟨A', ca', hc, hf⟩ := hk i p _ hp (by rw [List.getElem?_map, hp]; rfl)
    exact ⟨A', ca', hc, hf⟩
  · rintro ⟨h1, h⟩
    refine ⟨h1, fun hn => ?_⟩
    obtain ⟨b, o, hA, hk⟩ := h hn
    refine ⟨b, o, hA, fun i p f hp hf => ?_⟩
    rw [List.getElem?_map, hp] at hf
    simp only [Option.map_some, Option.some.injEq] at hf
    subst hf
    obtain ⟨A', ca', hc, hf⟩ := hk i p hp
    exact ⟨A', ca', hc, hf⟩
theorem Pr.Cells.below {W w : World} {p : Pr} {A : Option Addr} {ca b o : Nat} (h : p.Cells W A ca b o) (hb : Below W.heap.size W w) : p.Cells w A ca b o := by
  obtain ⟨h0, h1, h2, h3, h4, h5, h6, h7, h8⟩ := h
  exact ⟨(hb.cell (cell_lt h0)).trans h0, (hb.cell (cell_lt h1)).trans h1, (hb.cell (cell_lt h2)).trans h2, (hb.cell (cell_lt h3)).trans h3, (hb.cell (cell_lt h4)).trans h4, (hb.cell (cell_lt h5)).trans h5, (hb.cell (cell_lt h6)).trans h6, (hb.cell (cell_lt h7)).trans h7, (hb.cell (cell_lt h8)).trans h8⟩
theorem Pr.At.below {W w : World} (hb : Below W.heap.size W w) : ∀ {p : Pr} {A : Option Addr} {ca : Nat}, p.At W A ca → p.At w A ca := by
  have key : ∀ p : Pr, ∀ A ca, p.At W A ca → p.At w A ca := by
    refine Pr.ind fun p ih A ca h => ?_
    obtain ⟨o, c, v, w', l⟩ := p
    rw [Pr.at_mk] at h ⊢
    refine ⟨h.1, fun hn => ?_⟩
    obtain ⟨b, o, hA, hk⟩ := h.2 hn
    refine ⟨b, o, hA, fun i p hp => ?_⟩
    obtain ⟨A', ca', hc, hf⟩ := hk i p hp
    exact ⟨A', ca', hc.below hb, ih p (List.mem_of_getElem? hp) _ _ hf⟩
  exact fun {p A ca} h => key p A ca h
/-- The part at a place. -/
theorem Pr.At.kid {W : World} {o c : Int} {v w : Val} {l : List Pr} {A : Option Addr} {ca : Nat} (h : (Pr.mk o c v w l).At W A ca) {k : Nat} (hk : k < l.length) :
    ∃ (b off : Nat) (q : Pr) (A' : Option Addr) (ca' : Nat), l[k]? = some q ∧ q ∈ l ∧ A = some ⟨b, off, none⟩ ∧ q.Cells W A' ca' b (off + k * 9) ∧ q.At W A' ca' := by
  rw [Pr.at_mk] at h
  obtain ⟨b, off, hA, hc⟩ := h.2 (fun e => by subst e; simp at hk)
  have hq : l[k]? = some l[k] := List.getElem?_eq_getElem hk
  obtain ⟨A', ca', h1, h2⟩ := hc k _ hq
  exact ⟨b, off, l[k], A', ca', hq, List.getElem_mem hk, hA, h1, h2⟩
end Go.Proofs.YtghpildnajdlpaaDoor
