/-
  Rows that grow in a row of slices of one's own, their values where they lay before: what a loop keeps. No walk.
-/
import Derived.Test.YtghpildnajdlpaaDoorClmMem
namespace Go.Proofs.YtghpildnajdlpaaDoor
open Go.RowKit

/-- n rows laid behind one another in memory made since V; in block gc alone has anything turned that was there at V; the rows' values lie in W. -/
structure ApInv (W V : World) (gc : Nat) (l : List (List Val)) (n : Nat) (K : List RK) (A2 : Option Addr) (ca2 : Nat) (wr : World) : Prop where
  below : Below W.heap.size W wr
  base : W.heap.size ≤ gc ∧ gc < V.heap.size ∧ V.heap.size ≤ wr.heap.size
  rest : ∀ b, b < V.heap.size → b ≠ gc → wr.heap[b]? = V.heap[b]?
  len : l.length = n
  map : K.map RK.r = l
  row : wr.ownsRow V.heap.size 43 1 (.slice A2 n ca2) n (rcells K)
  kids : ∀ x ∈ K, RowAt W x.A x.r ∧ (x.A = none → x.ca = 0)
theorem ApInv.start {W V : World} {gc : Nat} (hb : Below W.heap.size W V) (h1 : W.heap.size ≤ gc) (h2 : gc < V.heap.size) : ApInv W V gc [] 0 [] none 0 V :=
  ⟨hb, ⟨h1, h2, Nat.le_refl _⟩, fun _ _ _ => rfl, rfl, rfl, World.ownsRow_nil _ _ _ _, fun x hx => by simp at hx⟩
theorem ApInv.old {W V : World} {gc : Nat} {l : List (List Val)} {n : Nat} {K : List RK} {A2 : Option Addr} {ca2 : Nat} {wr w4 w5 : World} (h : ApInv W V gc l n K A2 ca2 wr) (hb4 : Below wr.heap.size wr w4) {ob : Obj} (hgrow : (w4.alloc ob).grownBy w5 (Value.slice A2 n ca2).ownBlock) : ∀ b, b < V.heap.size → w5.heap[b]? = wr.heap[b]? := fun b hb => by
  have hs4 := hb4.size
  have hB := h.base
  have hne : (Value.slice A2 n ca2).ownBlock ≠ some b := fun e => by have := (h.row.lt b e).1; omega
  rw [hgrow.block b (by simp; omega) (fun e => hne e.symm), (below_alloc ob).block b (by omega), hb4.block b (by omega)]
theorem ApInv.step {W V : World} {gc : Nat} {l : List (List Val)} {n : Nat} {K : List RK} {A2 : Option Addr} {ca2 : Nat} {wr : World} (h : ApInv W V gc l n K A2 ca2 wr) {x : List Val} {A4 : Option Addr} {ca4 : Nat} (hat : RowAt W A4 x) (hn : A4 = none → ca4 = 0) {w4 w5 : World} (hb4 : Below wr.heap.size wr w4) {ob : Obj}
    {g cap : Nat} (hrow5 : w5.ownsRow V.heap.size 43 1 (.slice (some ⟨g, 0, none⟩) (n + 1) cap) (n + 1) (rcells K ++ [.slice A4 x.length ca4])) (hgrow : (w4.alloc ob).grownBy w5 (Value.slice A2 n ca2).ownBlock) : ApInv W V gc (l ++ [x]) (n + 1) (K ++ [⟨x, A4, ca4⟩]) (some ⟨g, 0, none⟩) cap w5 := by
  have e5 := h.old hb4 hgrow
  have hB := h.base
  have hH : (w4.alloc ob).heap.size = w4.heap.size + 1 := by simp
  have hs4 := hb4.size
  have hs5 := hgrow.size
  refine ⟨⟨?_, ?_, ?_, ?_, ?_⟩, ⟨hB.1, hB.2.1, by omega⟩, fun b hb hne => (e5 b hb).trans (h.rest b hb hne), by rw [List.length_append, h.len]; rfl, by rw [List.map_append, h.map]; rfl, by rw [rcells_append]; exact hrow5, ?_⟩
  · exact hgrow.os.trans (hb4.os.trans h.below.os)
  · exact hgrow.tape.trans (hb4.tape.trans h.below.tape)
  · exact hgrow.output.trans (hb4.output.trans h.below.output)
  · have := h.below.size; omega
  · intro b hb
    rw [e5 b (by omega)]
    exact h.below.block b hb
  · intro y hy
    rcases List.mem_append.1 hy with hy | hy
    · exact h.kids y hy
    · rw [List.mem_singleton] at hy; subst hy; exact ⟨hat, hn⟩
theorem ApInv.set {W V : World} {gc : Nat} {l : List (List Val)} {n : Nat} {K : List RK} {A2 : Option Addr} {ca2 : Nat} {wr : World} (h : ApInv W V gc l n K A2 ca2 wr) (j : Nat) (v : Value) : ApInv W V gc l n K A2 ca2 (wr.setCell ⟨gc, j, none⟩ v) := by
  have hB := h.base
  refine ⟨h.below.setCell hB.1 _, ⟨hB.1, hB.2.1, by simpa [World.setCell] using hB.2.2⟩, fun b hb hne => (Below.heap_setCell wr _ _ b hne).trans (h.rest b hb hne), h.len, h.map, ?_, h.kids⟩
  exact h.row.kept (row := some gc) ⟨rfl, rfl, rfl, by simp [World.setCell], fun k _ hk => Below.heap_setCell wr _ _ k (fun e => hk (by rw [e]))⟩ (.inr fun e => by have := (h.row.lt _ e).1; omega)
theorem ApInv.below_ {W V : World} {gc : Nat} {l : List (List Val)} {n : Nat} {K : List RK} {A2 : Option Addr} {ca2 : Nat} {wr w : World} (h : ApInv W V gc l n K A2 ca2 wr) (hb : Below wr.heap.size wr w) : ApInv W V gc l n K A2 ca2 w := by
  have hB := h.base
  exact ⟨below_then h.below hb, ⟨hB.1, hB.2.1, Nat.le_trans hB.2.2 hb.size⟩, fun b hlt hne => (hb.block b (by omega)).trans (h.rest b hlt hne), h.len, h.map, row_below h.row hb, h.kids⟩
theorem ApInv.keep {W V : World} {gc : Nat} {l : List (List Val)} {n : Nat} {K : List RK} {A2 : Option Addr} {ca2 : Nat} {wr : World} (h : ApInv W V gc l n K A2 ca2 wr) {g : Nat} {cs : List Value} (hg : Blk V g cs) (hne : g ≠ gc) : Blk wr g cs := hg.other h.base.2.2 (h.rest g hg.lt hne)
theorem ApInv.at_ {W V : World} {gc : Nat} {l : List (List Val)} {n : Nat} {K : List RK} {A2 : Option Addr} {ca2 : Nat} {wr : World} (h : ApInv W V gc l n K A2 ca2 wr) : ImgsAt wr A2 ca2 l := by
  have hkid : ∀ (i : Nat) (r : List Val), l[i]? = some r → ∃ x ∈ K, K[i]? = some x ∧ x.r = r := fun i r hr => by
    rw [← h.map, List.getElem?_map] at hr
    obtain ⟨x, hx, rfl⟩ := Option.map_eq_some_iff.1 hr
    exact ⟨x, List.mem_of_getElem? hx, hx, rfl⟩
  have hlen : K.length = n := by rw [← h.len, ← h.map, List.length_map]
  have hln := h.len
  rcases h.row.2 with ⟨e, hz⟩ | ⟨g, cap, cur, e, hbg, hg, hnc, _⟩
  · have hl0 : l = [] := List.eq_nil_of_length_eq_zero (by omega)
    injection e with e1 e2 e3
    exact ⟨⟨fun _ => e3, by rw [hl0]; exact Nat.zero_le _⟩, fun hn => absurd hl0 hn⟩
  · injection e with e1 e2 e3
    subst e1; subst e3
    have hrow := h.row
    have hcell : ∀ (i : Nat) (x : RK), K[i]? = some x → wr.cell? ⟨g, i, none⟩ = some (.slice x.A x.r.length x.ca) := fun i x hx => by
      have hi := (List.getElem?_eq_some_iff.1 hx).1
      rw [hrow.cellAt i (by omega)]
      exact rcells_get hx
    refine ⟨⟨fun e => (by cases e), by omega⟩, fun _ => ⟨g, 0, rfl, fun i r hr => ?_⟩⟩
    obtain ⟨x, hx, hi, rfl⟩ := hkid i r hr
    obtain ⟨h1, h2⟩ := h.kids x hx
    exact ⟨x.A, x.ca, by rw [Nat.zero_add]; exact hcell i x hi, h1.below h.below, h2⟩
end Go.Proofs.YtghpildnajdlpaaDoor
