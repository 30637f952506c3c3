/-
  A list of parts that grows in a row of one's own: what a loop keeps. No walk.
-/
import Derived.Test.YtppoefbfepehpaaTurned
namespace Go.Proofs.Ytppoefbfepehpaa
open Go.RowKit

theorem row_below {base : Nat} {t : TypeId} {size : Nat} {v : Value} {n : Nat} {xs : List Value} {w w' : World} (h : w.ownsRow base t size v n xs) (hb : Below w.heap.size w w') : w'.ownsRow base t size v n xs :=
  h.kept (row := none) ⟨hb.os, hb.tape, hb.output, hb.size, fun k hk _ => hb.block k hk⟩ (Classical.em _)
theorem row_set {base : Nat} {t : TypeId} {size : Nat} {v : Value} {n : Nat} {xs : List Value} {w : World} (h : w.ownsRow base t size v n xs) {a : Addr} (ha : a.block < base) (u : Value) : (w.setCell a u).ownsRow base t size v n xs :=
  h.kept (row := some a.block) ⟨rfl, rfl, rfl, by simp [World.setCell], fun k _ hk => Below.heap_setCell w _ _ k (fun e => hk (by rw [e]))⟩ (.inr fun e => by have := (h.lt _ e).1; omega)
theorem OwnP.rest {w w' : World} {g : Nat} {K : List PK} (h : OwnP w g K) (hlt : g < w'.heap.size) (hb : w'.heap[g]? = w.heap[g]?) : OwnP w' g K := by
  have e : ∀ j, w'.cell? ⟨g, j, none⟩ = w.cell? ⟨g, j, none⟩ := fun j => World.cell?_of_block (a := ⟨g, j, none⟩) hb
  refine ⟨hlt, fun j => (World.frozen?_of_block (a := ⟨g, j, none⟩) hb).trans (h.free j), fun i k hk => ?_⟩
  obtain ⟨h0, h1, h2, h3, h4, h5, h6, h7, h8⟩ := h.cell i k hk
  exact ⟨(e _).trans h0, (e _).trans h1, (e _).trans h2, (e _).trans h3, (e _).trans h4, (e _).trans h5, (e _).trans h6, (e _).trans h7, (e _).trans h8⟩
theorem OwnP.setKids {w : World} {g : Nat} {o c : Int} {v u : Val} {l : List Pr} {A : Option Addr} {ca : Nat} (h : OwnP w g [⟨.mk o c v u l, A, ca⟩]) (l' : List Pr) (A' : Option Addr) (n ca' : Nat) (hn : n = l'.length) : OwnP (w.setCell ⟨g, 8, none⟩ (.slice A' n ca')) g [⟨.mk o c v u l', A', ca'⟩] := by
  subst hn
  have off : ∀ {a b : Nat}, a ≠ b → (⟨g, a, none⟩ : Addr) ≠ ⟨g, b, none⟩ := fun hne e => hne (by injection e)
  obtain ⟨h0, h1, h2, h3, h4, h5, h6, h7, h8⟩ := h.first
  refine ⟨by have := h.lt; simpa [World.setCell] using this, fun j => by rw [World.frozen?_setCell]; exact h.free j, fun i k' hk' => ?_⟩
  cases i with
  | zero =>
    simp at hk'; subst hk'
    have e : ∀ m, m ≠ 8 → (w.setCell ⟨g, 8, none⟩ (.slice A' l'.length ca')).cell? ⟨g, m, none⟩ = w.cell? ⟨g, m, none⟩ := fun m hm => World.cell?_setCell_other _ _ _ _ (off (by omega))
    exact ⟨(e 0 (by omega)).trans h0, (e 1 (by omega)).trans h1, (e 2 (by omega)).trans h2, (e 3 (by omega)).trans h3, (e 4 (by omega)).trans h4, (e 5 (by omega)).trans h5, (e 6 (by omega)).trans h6, (e 7 (by omega)).trans h7, World.cell?_setCell_same _ _ _ h8⟩
  | succ i => simp at hk'

/-- What the loop keeps: k parts laid in a row of one's own; the list's head in block gq; of what lies below B nothing else has turned. -/
structure RowInv (W : World) (B gq : Nat) (ws : World) (o : Int) (L : List Pr) (k : Nat) (K : List PK) (A2 : Option Addr) (ca2 : Nat) (wr : World) : Prop where
  low : W.heap.size ≤ gq
  hq : gq < B
  size : B ≤ wr.heap.size
  below : Below W.heap.size W wr
  rest : ∀ b, b < B → b ≠ gq → wr.heap[b]? = ws.heap[b]?
  map : K.map PK.p = L.take k
  box : OwnP wr gq [⟨.mk o 0 Pr.zv Pr.zv (L.take k), A2, ca2⟩]
  row : wr.ownsRow B 29 9 (.slice A2 k ca2) k (pcells K)
  kids : ∀ x ∈ K, x.p.At wr x.A x.ca ∧ x.p.Own (fun b => B ≤ b ∧ (Value.slice A2 k ca2).ownBlock ≠ some b) wr x.A

theorem RowInv.step {W ws : World} {B gq : Nat} {o : Int} {L : List Pr} {k : Nat} {K : List PK} {A2 : Option Addr} {ca2 : Nat} {wr : World} (h : RowInv W B gq ws o L k K A2 ca2 wr) {x : Pr} (hx : L[k]? = some x) {w4 w5 : World} (hb4 : Below wr.heap.size wr w4) {A4 : Option Addr} {ca4 : Nat} (hat : x.At w4 A4 ca4) (hown : x.Own (fun b => wr.heap.size ≤ b) w4 A4) {ob : Obj}
    {g cap : Nat} (hrow5 : w5.ownsRow B 29 9 (.slice (some ⟨g, 0, none⟩) (k + 1) cap) (k + 1) (pcells K ++ PK.cells ⟨x, A4, ca4⟩)) (hgrow : (w4.alloc ob).grownBy w5 (Value.slice A2 k ca2).ownBlock) (hat5 : (Value.slice A2 k ca2).ownBlock = some g ∨ g = (w4.alloc ob).heap.size) :
    RowInv W B gq ws o L (k + 1) (K ++ [⟨x, A4, ca4⟩]) (some ⟨g, 0, none⟩) cap (w5.setCell ⟨gq, 8, none⟩ (.slice (some ⟨g, 0, none⟩) (k + 1) cap)) := by
  have hH : (w4.alloc ob).heap.size = w4.heap.size + 1 := by simp
  have hl1 := h.size
  have hlow := h.low
  have hqB := h.hq
  have hs4 := hb4.size
  have hs5 := hgrow.size
  have hbase : ∀ b, (Value.slice A2 k ca2).ownBlock = some b → B ≤ b ∧ b < wr.heap.size := h.row.lt
  have hgb : B ≤ g := by
    rcases hat5 with e | e
    · exact (hbase g e).1
    · omega
  have e5 : ∀ b, b < w4.heap.size → (Value.slice A2 k ca2).ownBlock ≠ some b → w5.heap[b]? = w4.heap[b]? := fun b hb hne => (hgrow.block b (by omega) (fun e => hne e.symm)).trans ((below_alloc ob).block b hb)
  have e6 : ∀ b, b ≠ gq → (w5.setCell ⟨gq, 8, none⟩ (.slice (some ⟨g, 0, none⟩) (k + 1) cap)).heap[b]? = w5.heap[b]? := fun b hb => Below.heap_setCell w5 _ _ b hb
  have z6 : (w5.setCell ⟨gq, 8, none⟩ (.slice (some ⟨g, 0, none⟩) (k + 1) cap)).heap.size = w5.heap.size := by simp [World.setCell]
  have nob : ∀ b, b < B → (Value.slice A2 k ca2).ownBlock ≠ some b := fun b hb e => by have := (hbase b e).1; omega
  have htk : L.take (k + 1) = L.take k ++ [x] := by rw [List.take_add_one, hx]; rfl
  have hkl : k < L.length := (List.getElem?_eq_some_iff.1 hx).1
  refine ⟨hlow, hqB, by rw [z6]; omega, ⟨?_, ?_, ?_, ?_, ?_⟩, ?_, ?_, ?_, ?_, ?_⟩
  · exact hgrow.os.trans (hb4.os.trans h.below.os)
  · exact hgrow.tape.trans (hb4.tape.trans h.below.tape)
  · exact hgrow.output.trans (hb4.output.trans h.below.output)
  · rw [z6]; have := h.below.size; omega
  · intro b hb
    rw [e6 b (by omega), e5 b (by omega) (nob b (by omega)), hb4.block b (by omega)]
    exact h.below.block b hb
  · intro b hb hne
    rw [e6 b hne, e5 b (by omega) (nob b hb), hb4.block b (by omega)]
    exact h.rest b hb hne
  · rw [List.map_append, h.map, htk]; rfl
  · refine OwnP.setKids ((h.box.below hb4).other (by omega) (e5 _ (by omega) (nob _ (by omega)))) (L.take (k + 1)) _ _ _ ?_
    rw [List.length_take]; omega
  · have : pcells (K ++ [⟨x, A4, ca4⟩]) = pcells K ++ PK.cells ⟨x, A4, ca4⟩ := by rw [pcells_append, pcells_cons]; simp [pcells]
    rw [this]
    exact row_set hrow5 (by show gq < B; omega) _
  · intro y hy
    rcases List.mem_append.1 hy with hy | hy
    · obtain ⟨h1, h2⟩ := h.kids y hy
      have h3 := h2.there
      have hk6 : ∀ b, (B ≤ b ∧ (Value.slice A2 k ca2).ownBlock ≠ some b) ∧ b < wr.heap.size → b < wr.heap.size → (w5.setCell ⟨gq, 8, none⟩ (.slice (some ⟨g, 0, none⟩) (k + 1) cap)).heap[b]? = wr.heap[b]? := fun b hb hlt => by
        rw [e6 b (by omega), e5 b (by omega) hb.1.2, hb4.block b hlt]
      refine ⟨h1.keep hk6 h3, h3.keep (fun b hb => ⟨hb.1.1, fun e => ?_⟩) (by rw [z6]; omega) hk6⟩
      have e' : g = b := by injection e
      rcases hat5 with e2 | e2
      · exact hb.1.2 (by rw [e2, e'])
      · omega
    · rw [List.mem_singleton] at hy; subst hy
      have h3 := hown.there
      have hk6 : ∀ b, wr.heap.size ≤ b ∧ b < w4.heap.size → b < w4.heap.size → (w5.setCell ⟨gq, 8, none⟩ (.slice (some ⟨g, 0, none⟩) (k + 1) cap)).heap[b]? = w4.heap[b]? := fun b hb hlt => by
        rw [e6 b (by omega), e5 b hlt (fun e => by have := (hbase b e).2; omega)]
      refine ⟨hat.keep hk6 h3, h3.keep (fun b hb => ⟨by omega, fun e => ?_⟩) (by rw [z6]; omega) hk6⟩
      have e' : g = b := by injection e
      rcases hat5 with e2 | e2
      · have := (hbase g e2).2; omega
      · omega

theorem RowInv.end_ {W ws : World} {B gq : Nat} {o : Int} {L : List Pr} {K : List PK} {A2 : Option Addr} {ca2 : Nat} {wr w6 : World} (h : RowInv W B gq ws o L L.length K A2 ca2 wr) {gr : Nat} (hgr : gr < B) (hw : wr.heap.size ≤ w6.heap.size) (hb : ∀ b, b ≠ gr → w6.heap[b]? = wr.heap[b]?) :
    (Pr.mk o 0 Pr.zv Pr.zv L).At w6 A2 ca2 ∧ (Pr.mk o 0 Pr.zv Pr.zv L).Own (fun b => W.heap.size ≤ b) w6 A2 := by
  have hmap := h.map
  have hlow := h.low
  have hqB := h.hq
  rw [List.take_length] at hmap
  have hlen : K.length = L.length := by rw [← hmap, List.length_map]
  rcases h.row.2 with ⟨e, hz⟩ | ⟨g, cap, cur, e, hbg, hg, hcap, _⟩
  · have hl0 := List.eq_nil_of_length_eq_zero hz
    injection e with e1 e2 e3
    exact ⟨Pr.at_mk.2 ⟨⟨fun _ => e3, by rw [hl0]; exact Nat.zero_le _⟩, fun hn => absurd hl0 hn⟩, Pr.own_mk.2 fun hn => absurd hl0 hn⟩
  · injection e with e1 e2 e3
    subst e1
    have ho6 := (row_own h.row hlen).other hw (hb g (by omega))
    have hkids : ∀ x ∈ K, x.p.At w6 x.A x.ca ∧ x.p.Own (fun b => W.heap.size ≤ b) w6 x.A := fun x hx => by
      obtain ⟨h1, h2⟩ := h.kids x hx
      have hk : ∀ b, (B ≤ b ∧ (Value.slice (some ⟨g, 0, none⟩) L.length ca2).ownBlock ≠ some b) → b < wr.heap.size → w6.heap[b]? = wr.heap[b]? := fun b h _ => hb b (by omega)
      exact ⟨h1.keep hk h2, h2.keep (fun b h => by omega) hw hk⟩
    exact ⟨ho6.at_ hmap (fun x hx => (hkids x hx).1) o 0 Pr.zv Pr.zv ca2 (by omega), ho6.own hmap (by show W.heap.size ≤ g; omega) (fun x hx => (hkids x hx).2) o 0 Pr.zv Pr.zv⟩
end Go.Proofs.Ytppoefbfepehpaa
