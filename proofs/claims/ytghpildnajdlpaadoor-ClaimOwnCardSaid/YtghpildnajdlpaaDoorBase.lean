/-
  Words that all proofs of this seat use: a world behind another one, in which nothing of what was there has turned; and a region that draws its order, walked once where all its callees are such.
-/
import Derived.WalkKit
import Derived.BigQuiet
import Derived.Deep.QuietTactic
import Derived.Deep.RegionWith
import Derived.WalkLawsBesides
import Derived.WalkSpells
import Derived.Lib.Hide
namespace Go.Proofs.YtghpildnajdlpaaDoor
open Go.RowKit

/-- A world behind W: of what was there nothing has turned. -/
def Lt (W : World) := { w : World // Below W.heap.size W w }
def Lt.base (W : World) : Lt W := ⟨W, Below.refl _ _⟩
instance (W : World) : Nonempty (Lt W) := ⟨Lt.base W⟩
def Lt.next {W : World} (x : Lt W) {w : World} (h : Below x.1.heap.size x.1 w) : Lt W := ⟨w, x.2.trans (h.mono x.2.size)⟩
theorem cell_lt {W : World} {a : Addr} {v : Value} (h : W.cell? a = some v) : a.block < W.heap.size := by
  rcases Nat.lt_or_ge a.block W.heap.size with hlt | hge
  · exact hlt
  · exfalso; simp [World.cell?, Array.getElem?_eq_none hge] at h
theorem Lt.cell {W : World} (x : Lt W) {a : Addr} {v : Value} (h : W.cell? a = some v) : x.1.cell? a = some v := by
  rw [x.2.cell (cell_lt h)]; exact h
/-- 'it returns v, in some world behind W'. -/
theorem Lt.end_ {W : World} (x : Lt W) {w : World} (h : Below x.1.heap.size x.1 w) : ∃ y : Lt W, w = y.1 := ⟨x.next h, rfl⟩

/-- A region that draws its order: one walk, in the order of the text, in any world behind W. -/
theorem wp_region_pure {P : Program} {id : Nat} {Q : Exit → Act → World → Prop} {a : Act} {W : World} (x : Lt W) {l : List Oper} (hm : P.follows .mixedOrders = true) (hB : Region.lexB .any l.toArray = true)
    (h : wpQuiet P l.toArray (fun w' => ∃ y : Lt W, w' = y.1) (fun a' => ∀ w', (∃ y : Lt W, w' = y.1) → Q .normal a' w') l a) : (Code.region id l.toArray true).wp P Q a x.1 :=
  wp_region_quiet (C := fun w' => ∃ y : Lt W, w' = y.1) hm hB ⟨x.next (Below.drew (Below.refl _ _)), rfl⟩ (by simpa using h)

/-- The same, from the world at hand. -/
theorem wp_region_here {P : Program} {id : Nat} {Q : Exit → Act → World → Prop} {a : Act} {W : World} {l : List Oper} (hm : P.follows .mixedOrders = true) (hB : Region.lexB .any l.toArray = true)
    (h : wpQuiet P l.toArray (fun w' => ∃ y : Lt W, w' = y.1) (fun a' => ∀ w', (∃ y : Lt W, w' = y.1) → Q .normal a' w') l a) : (Code.region id l.toArray true).wp P Q a W :=
  wp_region_pure (Lt.base W) hm hB h
/-- A world behind a world behind W. -/
def Lt.via {W W1 : World} (z : Lt W1) (h : Below W.heap.size W W1) : Lt W := ⟨z.1, h.trans (z.2.mono h.size)⟩
theorem Lt.old {W W1 : World} (z : Lt W1) (h : Below W.heap.size W W1) {a : Addr} {v : Value} (hc : W.cell? a = some v) : z.1.cell? a = some v := (z.via h).cell hc
theorem below_then {W W1 W2 : World} (h : Below W.heap.size W W1) (k : Below W1.heap.size W1 W2) : Below W.heap.size W W2 := h.trans (k.mono h.size)
theorem Lt.below {W : World} (x : Lt W) : Below W.heap.size W x.1 := x.2
theorem Lt.more {W : World} (x : Lt W) (o : Obj) : Below W.heap.size W (x.1.alloc o) := x.2.alloc x.2.size o
theorem Lt.more2 {W : World} (x : Lt W) (o o' : Obj) : Below W.heap.size W ((x.1.alloc o).alloc o') := (x.more o).alloc (x.more o).size o'

/-- The world at hand, under a name of its own. -/
theorem calls_here {P : Program} {f : FuncId} {args : Array Value} {w : World} {Q : Ending → World → Prop} (h : ∀ W1, W1 = w → Calls P f args W1 Q) : Calls P f args w Q := h w rfl
theorem wp_here {P : Program} {c : Code} {Q : Exit → Act → World → Prop} {a : Act} {w : World} (h : ∀ W1, W1 = w → c.wp P Q a W1) : c.wp P Q a w := h w rfl

/-- A function with a body, called by its number, is entered. -/
theorem enters {P : Program} {f : FuncId} {fn : Func} (hf : P.funcs[f]? = some fn) (hn : (fn.name == "runtime.NumGoroutine") = false) (hb : fn.body.isNone = false) (args : Array Value) (w : World) : (callFunc f args).run P w = .ok (.enter f args) w := by
  have h1 : ¬ fn.name = "runtime.NumGoroutine" := by simpa using hn
  have h2 : ¬ fn.body = none := fun h => by rw [h] at hb; cases hb
  simp [callFunc, hf, h1, h2, go_sem]

theorem ret_bool {a b : Bool} (h : a = b) : Ending.returned (.bool a) = Ending.returned (.bool b) := by rw [h]
theorem ret_int {k : IntKind} {a b : Int} (h : a = b) : Ending.returned (.int k a) = Ending.returned (.int k b) := by rw [h]
end Go.Proofs.YtghpildnajdlpaaDoor
