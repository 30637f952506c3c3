/-
  Spans of keys, plain: what lies in one, what two meet in, their hull; and structs in memory as rows of cells. No walk.
-/
import Derived.Test.YtghpildnajdlpaaDoorCmp
import Derived.Test.YtghpildnajdlpaaDoorRowAt
namespace Go.Proofs.YtghpildnajdlpaaDoor
open Go.RowKit

/-- Block g holds these cells from its head on, and may be written. -/
structure Blk (w : World) (g : Nat) (l : List Value) : Prop where
  lt : g < w.heap.size
  free : ∀ j, w.frozen? ⟨g, j, none⟩ = false
  cell : ∀ (j : Nat) (v : Value), l[j]? = some v → w.cell? ⟨g, j, none⟩ = some v
theorem Blk.below {w w' : World} {g : Nat} {l : List Value} (h : Blk w g l) (hb : Below w.heap.size w w') : Blk w' g l :=
  ⟨Nat.lt_of_lt_of_le h.lt hb.size, fun j => (hb.frozen h.lt).trans (h.free j), fun j v hj => (hb.cell h.lt).trans (h.cell j v hj)⟩
theorem Blk.other {w w' : World} {g : Nat} {l : List Value} (h : Blk w g l) (hs : w.heap.size ≤ w'.heap.size) (hb : w'.heap[g]? = w.heap[g]?) : Blk w' g l :=
  ⟨Nat.lt_of_lt_of_le h.lt hs, fun j => (World.frozen?_of_block (a := ⟨g, j, none⟩) hb).trans (h.free j), fun j v hj => (World.cell?_of_block (a := ⟨g, j, none⟩) hb).trans (h.cell j v hj)⟩
theorem Blk.setOther {w : World} {g : Nat} {l : List Value} (h : Blk w g l) {a : Addr} (ha : g ≠ a.block) (v : Value) : Blk (w.setCell a v) g l :=
  h.other (by simp [World.setCell]) (Below.heap_setCell w a v g ha)
theorem Blk.set1 {w : World} {g : Nat} {l : List Value} (h : Blk w g l) {j : Nat} (hj : j < l.length) (v : Value) : Blk (w.setCell ⟨g, j, none⟩ v) g (l.set j v) := by
  refine ⟨by have := h.lt; simpa [World.setCell] using this, fun i => by rw [World.frozen?_setCell]; exact h.free i, fun i u hu => ?_⟩
  by_cases he : j = i
  · subst he
    rw [List.getElem?_set_self hj] at hu
    injection hu with hu; subst hu
    exact World.cell?_setCell_same _ _ _ (h.cell j _ (List.getElem?_eq_getElem hj))
  · rw [List.getElem?_set_ne he] at hu
    exact (World.cell?_setCell_other _ _ _ _ (fun e => he (by injection e))).trans (h.cell i u hu)
theorem Blk.new {w : World} {l : Array Value} {t : TypeId} : Blk (w.alloc (.cells l t)) w.heap.size l.toList :=
  ⟨by simp, fun j => by simp, fun j v hj => by rw [cell_new rfl]; simpa using hj⟩
theorem Blk.new' {w : World} {l : Array Value} {t : TypeId} {g : Nat} (hg : g = w.heap.size) : Blk (w.alloc (.cells l t)) g l.toList := by subst hg; exact Blk.new
theorem Blk.alloc {w : World} {g : Nat} {l : List Value} (h : Blk w g l) (o : Obj) : Blk (w.alloc o) g l := h.below (below_alloc o)

structure Sp where
  none : Bool
  lo : Bool
  olo : Bool
  l : Val
  hi : Bool
  ohi : Bool
  h : Val
namespace Sp
theorem same_iff {a b : Sp} : a = b ↔ a.none = b.none ∧ a.lo = b.lo ∧ a.olo = b.olo ∧ a.l = b.l ∧ a.hi = b.hi ∧ a.ohi = b.ohi ∧ a.h = b.h := by
  cases a; cases b; simp
instance : DecidableEq Sp := fun _ _ => decidable_of_iff _ same_iff.symm
def cells (s : Sp) : List Value := [.bool s.none, .bool s.lo, .bool s.olo, .bool s.l.t, .int .i64 s.l.n, .string s.l.s, .bool s.hi, .bool s.ohi, .bool s.h.t, .int .i64 s.h.n, .string s.h.s]
abbrev val (s : Sp) : Value := .agg #[.bool s.none, .bool s.lo, .bool s.olo, .bool s.l.t, .int .i64 s.l.n, .string s.l.s, .bool s.hi, .bool s.ohi, .bool s.h.t, .int .i64 s.h.n, .string s.h.s]
abbrev z : Val := ⟨false, 0, ⟨#[]⟩⟩
abbrev nothing : Sp := ⟨true, false, false, z, false, false, z⟩
/-- A span's ends leave nothing between them. -/
def shut (s : Sp) : Bool := s.lo && s.hi && (decide (0 < cmpV s.l s.h) || decide (cmpV s.l s.h = 0) && (s.olo || s.ohi))
def clean (s : Sp) : Sp := if s.none || s.shut then nothing else ⟨false, s.lo, s.lo && s.olo, if s.lo then s.l else z, s.hi, s.hi && s.ohi, if s.hi then s.h else z⟩
def within (s : Sp) (v : Val) : Bool := !s.none && !(s.lo && (decide (cmpV v s.l < 0) || decide (cmpV v s.l = 0) && s.olo)) && (!s.hi || decide (cmpV v s.h < 0) || decide (cmpV v s.h = 0) && !s.ohi)
/-- The lower end where two meet. -/
def meetLo (a b : Sp) : Sp := if b.lo && (!a.lo || decide (0 < cmpV b.l a.l)) then { a with lo := true, l := b.l, olo := b.olo } else if b.lo && decide (cmpV b.l a.l = 0) then { a with olo := a.olo || b.olo } else a
def meetHi (a b : Sp) : Sp := if b.hi && (!a.hi || decide (cmpV b.h a.h < 0)) then { a with hi := true, h := b.h, ohi := b.ohi } else if b.hi && decide (cmpV b.h a.h = 0) then { a with ohi := a.ohi || b.ohi } else a
def meet (a b : Sp) : Sp := if a.clean.none || b.clean.none then nothing else (meetHi (meetLo a.clean b.clean) b.clean).clean
/-- The lower end of the hull. -/
def hullLo (a b : Sp) : Sp := if cmpV b.l a.l < 0 then { a with l := b.l, olo := b.olo } else if cmpV b.l a.l = 0 then { a with olo := a.olo && b.olo } else a
def hullHi (a b : Sp) : Sp := if 0 < cmpV b.h a.h then { a with h := b.h, ohi := b.ohi } else if cmpV b.h a.h = 0 then { a with ohi := a.ohi && b.ohi } else a
def hullEnds (a b : Sp) : Sp := { a with lo := a.lo && b.lo, hi := a.hi && b.hi }
def hull (a b : Sp) : Sp := if a.clean.none then b.clean else if b.clean.none then a.clean else (hullEnds (hullHi (hullLo a.clean b.clean) b.clean) b.clean).clean

theorem clean_none (s : Sp) : s.clean.none = (s.none || s.shut) := by
  unfold clean
  cases s.none || s.shut <;> rfl
/-- What is clean is nothing itself as soon as it says so. -/
theorem clean_nothing {s : Sp} (h : s.clean.none = true) : s.clean = nothing := by
  rw [clean_none] at h
  unfold clean
  rw [if_pos h]
end Sp
end Go.Proofs.YtghpildnajdlpaaDoor
