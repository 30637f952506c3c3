/-
  How rows and tables lie in memory.
-/
import Derived.Test.YtghpildnajdlpaaDoorVal
namespace Go.Proofs.YtghpildnajdlpaaDoor
open Go.RowKit

/-- A row's values lie behind an address. -/
def RowAt (W : World) (A : Option Addr) (r : List Val) : Prop := r ≠ [] → ∃ b o, A = some ⟨b, o, none⟩ ∧
  ∀ i u, r[i]? = some u → W.cell? ⟨b, o + i * 3, none⟩ = some (.bool u.t) ∧ W.cell? ⟨b, o + i * 3 + 1, none⟩ = some (.int .i64 u.n) ∧ W.cell? ⟨b, o + i * 3 + 2, none⟩ = some (.string u.s)
/-- A table's columns lie behind an address. -/
def ColsAt (W : World) (A : Option Addr) (c : List Bool) : Prop := c ≠ [] → ∃ b o, A = some ⟨b, o, none⟩ ∧ ∀ i u, c[i]? = some u → W.cell? ⟨b, o + i, none⟩ = some (.bool u)
theorem RowAt.below {W w : World} {A : Option Addr} {r : List Val} (h : RowAt W A r) (hb : Below W.heap.size W w) : RowAt w A r := fun hn => by
  obtain ⟨b, o, hA, hc⟩ := h hn
  refine ⟨b, o, hA, fun i u hu => ?_⟩
  obtain ⟨h0, h1, h2⟩ := hc i u hu
  exact ⟨(hb.cell (cell_lt h0)).trans h0, (hb.cell (cell_lt h1)).trans h1, (hb.cell (cell_lt h2)).trans h2⟩
theorem ColsAt.below {W w : World} {A : Option Addr} {c : List Bool} (h : ColsAt W A c) (hb : Below W.heap.size W w) : ColsAt w A c := fun hn => by
  obtain ⟨b, o, hA, hc⟩ := h hn
  exact ⟨b, o, hA, fun i u hu => (hb.cell (cell_lt (hc i u hu))).trans (hc i u hu)⟩

theorem cell_new {w : World} {cs : Array Value} {t : TypeId} {n j : Nat} (hn : n = w.heap.size) : (w.alloc (.cells cs t)).cell? ⟨n, j, none⟩ = cs[j]? := by
  subst hn
  exact cell_of_row _ _ j cs t (0, 0) (heap_alloc_new w _)
theorem cell_old {w : World} {o : Obj} {a : Addr} {v : Value} (h : w.cell? a = some v) : (w.alloc o).cell? a = some v := (World.cell?_alloc_lt _ _ _ (cell_lt h)).trans h

theorem paddr (b o j : Nat) : (⟨b, o, none⟩ : Addr).add j = ⟨b, o + j, none⟩ := by
  unfold Addr.add
  split
  · rename_i h; subst h; rfl
  · rfl
end Go.Proofs.YtghpildnajdlpaaDoor
