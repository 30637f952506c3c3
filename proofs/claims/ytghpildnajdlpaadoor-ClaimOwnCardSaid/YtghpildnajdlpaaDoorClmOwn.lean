/-
  Claims in memory of one's own: where rows and their values lie, what an append of a row leaves, a claim's cells stored. No walk.
-/
import Derived.Test.YtghpildnajdlpaaDoorClmSame
import Derived.Test.YtghpildnajdlpaaDoorClone09
import Derived.Test.YtghpildnajdlpaaDoorPrTwin09
namespace Go.Proofs.YtghpildnajdlpaaDoor
open Go.RowKit

/-- A slice's m cells lie in a block of which P holds, from its head on, and may be written. -/
def SlOwn (P : Nat → Prop) (W : World) (A : Option Addr) (m : Nat) : Prop := m ≠ 0 → ∃ b, A = some ⟨b, 0, none⟩ ∧ P b ∧ b < W.heap.size ∧ (∀ j, W.frozen? ⟨b, j, none⟩ = false) ∧ ∀ j, j < m → ∃ u, W.cell? ⟨b, j, none⟩ = some u
theorem SlOwn.keep {P P' : Nat → Prop} {W w : World} {A : Option Addr} {m : Nat} (hP : ∀ b, P b → P' b) (hs : W.heap.size ≤ w.heap.size) (hb : ∀ b, P b → b < W.heap.size → w.heap[b]? = W.heap[b]?) (h : SlOwn P W A m) : SlOwn P' w A m := fun hm => by
  obtain ⟨b, hA, hPb, hlt, hf, hc⟩ := h hm
  refine ⟨b, hA, hP b hPb, Nat.lt_of_lt_of_le hlt hs, fun j => (World.frozen?_of_block (a := ⟨b, j, none⟩) (hb b hPb hlt)).trans (hf j), fun j hj => ?_⟩
  obtain ⟨u, hu⟩ := hc j hj
  exact ⟨u, (World.cell?_of_block (a := ⟨b, j, none⟩) (hb b hPb hlt)).trans hu⟩
theorem SlOwn.there {P : Nat → Prop} {W : World} {A : Option Addr} {m : Nat} (h : SlOwn P W A m) : SlOwn (fun b => P b ∧ b < W.heap.size) W A m := fun hm => by
  obtain ⟨b, hA, hPb, hlt, hf, hc⟩ := h hm
  exact ⟨b, hA, ⟨hPb, hlt⟩, hlt, hf, hc⟩
theorem SlOwn.mono {P P' : Nat → Prop} (hP : ∀ b, P b → P' b) {W : World} {A : Option Addr} {m : Nat} (h : SlOwn P W A m) : SlOwn P' W A m := h.keep hP (Nat.le_refl _) fun _ _ _ => rfl
theorem SlOwn.below {P : Nat → Prop} {W w : World} (hb : Below W.heap.size W w) {A : Option Addr} {m : Nat} (h : SlOwn P W A m) : SlOwn P w A m := h.keep (fun _ h => h) hb.size fun b _ hlt => hb.block b hlt
/-- A store anywhere leaves it so. -/
theorem SlOwn.set {P : Nat → Prop} {W : World} {A : Option Addr} {m : Nat} (h : SlOwn P W A m) (a : Addr) (v : Value) : SlOwn P (W.setCell a v) A m := fun hm => by
  obtain ⟨b, hA, hPb, hlt, hf, hc⟩ := h hm
  refine ⟨b, hA, hPb, by simpa [World.setCell] using hlt, fun j => by rw [World.frozen?_setCell]; exact hf j, fun j hj => ?_⟩
  obtain ⟨u, hu⟩ := hc j hj
  by_cases he : a = ⟨b, j, none⟩
  · subst he; exact ⟨v, World.cell?_setCell_same _ _ _ hu⟩
  · exact ⟨u, (World.cell?_setCell_other _ _ _ _ he).trans hu⟩
/-- A row that lies in such memory stays as it reads where that memory is kept. -/
theorem RowAt.keepOwn {P : Nat → Prop} {W w : World} (hb : ∀ b, P b → b < W.heap.size → w.heap[b]? = W.heap[b]?) {A : Option Addr} {r : List Val} (h : RowAt W A r) (ho : SlOwn P W A (r.length * 3)) : RowAt w A r := fun hn => by
  obtain ⟨b, o, hA, hc⟩ := h hn
  obtain ⟨b2, hA2, hPb, hlt, _, _⟩ := ho (by have : r.length ≠ 0 := fun e => hn (List.eq_nil_of_length_eq_zero e); omega)
  rw [hA] at hA2
  simp only [Option.some.injEq, Addr.mk.injEq] at hA2
  obtain ⟨rfl, rfl, _⟩ := hA2
  have e : ∀ j, w.cell? ⟨b, j, none⟩ = W.cell? ⟨b, j, none⟩ := fun j => World.cell?_of_block (a := ⟨b, j, none⟩) (hb b hPb hlt)
  refine ⟨b, 0, hA, fun i u hu => ?_⟩
  obtain ⟨h0, h1, h2⟩ := hc i u hu
  exact ⟨(e _).trans h0, (e _).trans h1, (e _).trans h2⟩
/-- What slices.Clone hands back. -/
theorem Owns.row {w0 w : World} {v : Value} {r : List Val} (h : Owns w0 w v r) : ∃ A ca, v = .slice A r.length ca ∧ RowAt w A r ∧ (A = none → ca = 0) ∧ SlOwn (fun b => w0.heap.size ≤ b) w A (r.length * 3) := by
  have h' := h
  unfold Owns at h'
  rcases h'.2 with ⟨rfl, hz⟩ | ⟨g, cap, cur, rfl, hbg, hg, hnc, hcm, hcs, htake⟩
  · refine ⟨none, 0, by rw [hz], fun hn => absurd (List.eq_nil_of_length_eq_zero hz) hn, fun _ => rfl, fun hm => absurd hz (by omega)⟩
  · refine ⟨some ⟨g, 0, none⟩, cap, rfl, fun _ => ⟨g, 0, rfl, fun i u hu => ?_⟩, fun e => (by cases e), fun _ => ⟨g, rfl, hbg, (Array.getElem?_eq_some_iff.1 hg).1, fun j => h'.frozenAt j, fun j hj => ?_⟩⟩
    · have hi := (List.getElem?_eq_some_iff.1 hu).1
      obtain ⟨h0, h1, h2⟩ := cellsOf_get r i u hu
      rw [Nat.zero_add, h'.cellAt _ (by omega), h'.cellAt _ (by omega), h'.cellAt _ (by omega)]
      exact ⟨h0, h1, h2⟩
    · rw [h'.cellAt j hj]
      exact ⟨_, List.getElem?_eq_getElem (by rw [cellsOf_length]; exact hj)⟩

/-- A row, and where it lies. -/
structure RK where
  r : List Val
  A : Option Addr
  ca : Nat
def rcells (K : List RK) : List Value := K.map fun k => .slice k.A k.r.length k.ca
theorem rcells_one (K : List RK) : ∀ u ∈ rcells K, u.oneCell' = true := by
  intro u hu
  obtain ⟨k, _, rfl⟩ := List.mem_map.1 hu
  rfl
theorem rcells_get {K : List RK} {i : Nat} {k : RK} (h : K[i]? = some k) : (rcells K)[i]? = some (.slice k.A k.r.length k.ca) := by
  unfold rcells
  rw [List.getElem?_map, h]; rfl
theorem rcells_append (K K' : List RK) : rcells (K ++ K') = rcells K ++ rcells K' := by simp [rcells]
theorem rcells_length (K : List RK) : (rcells K).length = K.length := by simp [rcells]
theorem info_row : (Tryd.prog.info? 43).map (fun i => (i.zero, i.size, i.bytes)) = some (some (.slice none 0 0), 1, 24) := by kernel_rfl

/-- Rows in memory of one's own: a block with a slice each, their values in other blocks. -/
def ImgsOwn (P : Nat → Prop) (W : World) (A : Option Addr) (l : List (List Val)) : Prop := l ≠ [] → ∃ b, A = some ⟨b, 0, none⟩ ∧ P b ∧ b < W.heap.size ∧ (∀ j, W.frozen? ⟨b, j, none⟩ = false) ∧
  ∀ (i : Nat) (r : List Val), l[i]? = some r → ∃ A' ca', W.cell? ⟨b, i, none⟩ = some (.slice A' r.length ca') ∧ SlOwn (fun b' => P b' ∧ b' ≠ b) W A' (r.length * 3)
theorem ImgsOwn.keep {P P' : Nat → Prop} {W w : World} {A : Option Addr} {l : List (List Val)} (hP : ∀ b, P b → P' b) (hs : W.heap.size ≤ w.heap.size) (hb : ∀ b, P b → b < W.heap.size → w.heap[b]? = W.heap[b]?) (h : ImgsOwn P W A l) : ImgsOwn P' w A l := fun hn => by
  obtain ⟨b, hA, hPb, hlt, hf, hc⟩ := h hn
  refine ⟨b, hA, hP b hPb, Nat.lt_of_lt_of_le hlt hs, fun j => (World.frozen?_of_block (a := ⟨b, j, none⟩) (hb b hPb hlt)).trans (hf j), fun i r hr => ?_⟩
  obtain ⟨A', ca', h1, h2⟩ := hc i r hr
  exact ⟨A', ca', (World.cell?_of_block (a := ⟨b, i, none⟩) (hb b hPb hlt)).trans h1, h2.keep (fun b' h => ⟨hP b' h.1, h.2⟩) hs (fun b' h => hb b' h.1)⟩
theorem ImgsOwn.there {P : Nat → Prop} {W : World} {A : Option Addr} {l : List (List Val)} (h : ImgsOwn P W A l) : ImgsOwn (fun b => P b ∧ b < W.heap.size) W A l := fun hn => by
  obtain ⟨b, hA, hPb, hlt, hf, hc⟩ := h hn
  refine ⟨b, hA, ⟨hPb, hlt⟩, hlt, hf, fun i r hr => ?_⟩
  obtain ⟨A', ca', h1, h2⟩ := hc i r hr
  exact ⟨A', ca', h1, h2.there.mono (fun b' h => ⟨⟨h.1.1, h.2⟩, h.1.2⟩)⟩
theorem ImgsOwn.below {P : Nat → Prop} {W w : World} (hb : Below W.heap.size W w) {A : Option Addr} {l : List (List Val)} (h : ImgsOwn P W A l) : ImgsOwn P w A l := h.keep (fun _ h => h) hb.size fun b _ hlt => hb.block b hlt
theorem ImgsAt.keepOwn {P : Nat → Prop} {W w : World} (hb : ∀ b, P b → b < W.heap.size → w.heap[b]? = W.heap[b]?) {A : Option Addr} {ca : Nat} {l : List (List Val)} (h : ImgsAt W A ca l) (ho : ImgsOwn P W A l) : ImgsAt w A ca l := by
  refine ⟨h.1, fun hn => ?_⟩
  obtain ⟨b, o, hA, hc⟩ := h.2 hn
  obtain ⟨b2, hA2, hPb, hlt, _, hc2⟩ := ho hn
  rw [hA] at hA2
  simp only [Option.some.injEq, Addr.mk.injEq] at hA2
  obtain ⟨rfl, rfl, _⟩ := hA2
  refine ⟨b, 0, hA, fun i r hr => ?_⟩
  obtain ⟨A', ca', h1, h2, h3⟩ := hc i r hr
  obtain ⟨A2, ca2, h4, h5⟩ := hc2 i r hr
  rw [Nat.zero_add] at h1 ⊢
  rw [h1] at h4
  obtain rfl : A' = A2 := by injection h4 with h4; injection h4
  exact ⟨A', ca', (World.cell?_of_block (a := ⟨b, i, none⟩) (hb b hPb hlt)).trans h1, h2.keepOwn (fun b' h => hb b' h.1) h5, h3⟩

/-- What a loop keeps that lays rows of its own, one behind the other; G: blocks behind the base that are not of the rows. -/
structure ImInv (W : World) (B : Nat) (G : Nat → Prop) (l : List (List Val)) (K : List RK) (A2 : Option Addr) (ca2 : Nat) (wr : World) : Prop where
  below : Below W.heap.size W wr
  base : W.heap.size ≤ B ∧ B ≤ wr.heap.size
  map : K.map RK.r = l
  row : wr.ownsRow B 43 1 (.slice A2 l.length ca2) l.length (rcells K)
  prot : ∀ b, G b → (Value.slice A2 l.length ca2).ownBlock ≠ some b ∧ b < wr.heap.size
  kids : ∀ x ∈ K, RowAt wr x.A x.r ∧ (x.A = none → x.ca = 0) ∧ SlOwn (fun b => B ≤ b ∧ (Value.slice A2 l.length ca2).ownBlock ≠ some b ∧ ¬ G b) wr x.A (x.r.length * 3)
theorem ImInv.start {W w : World} {B : Nat} (hb : Below W.heap.size W w) (h : W.heap.size ≤ B ∧ B ≤ w.heap.size) : ImInv W B (fun _ => False) [] [] none 0 w := ⟨hb, h, rfl, World.ownsRow_nil _ _ _ _, fun _ hb => hb.elim, fun x hx => by simp at hx⟩
/-- The blocks ahead of the base, and the kept ones, are as they were. -/
theorem ImInv.old {W : World} {B : Nat} {G : Nat → Prop} {l : List (List Val)} {K : List RK} {A2 : Option Addr} {ca2 : Nat} {wr w4 w5 : World} (h : ImInv W B G l K A2 ca2 wr) (hb4 : Below wr.heap.size wr w4) {ob : Obj} (hgrow : (w4.alloc ob).grownBy w5 (Value.slice A2 l.length ca2).ownBlock) : ∀ b, b < B ∨ G b → w5.heap[b]? = wr.heap[b]? := fun b hb => by
  have hs4 := hb4.size
  have hB := h.base.2
  have hlt : b < wr.heap.size := by
    rcases hb with hb | hb
    · omega
    · exact (h.prot b hb).2
  have hne : (Value.slice A2 l.length ca2).ownBlock ≠ some b := by
    rcases hb with hb | hb
    · intro e; have := (h.row.lt b e).1; omega
    · exact (h.prot b hb).1
  rw [hgrow.block b (by simp; omega) (fun e => hne e.symm), (below_alloc ob).block b (by omega), hb4.block b hlt]
theorem ImInv.step {W : World} {B : Nat} {G : Nat → Prop} {l : List (List Val)} {K : List RK} {A2 : Option Addr} {ca2 : Nat} {wr : World} (h : ImInv W B G l K A2 ca2 wr) {x : List Val} {w4 w5 : World} (hb4 : Below wr.heap.size wr w4) {A4 : Option Addr} {ca4 : Nat} (hat : RowAt w4 A4 x) (hn : A4 = none → ca4 = 0) (hown : SlOwn (fun b => wr.heap.size ≤ b) w4 A4 (x.length * 3)) {ob : Obj}
    {g cap : Nat} (hrow5 : w5.ownsRow B 43 1 (.slice (some ⟨g, 0, none⟩) (l.length + 1) cap) (l.length + 1) (rcells K ++ [.slice A4 x.length ca4])) (hgrow : (w4.alloc ob).grownBy w5 (Value.slice A2 l.length ca2).ownBlock) (hat5 : (Value.slice A2 l.length ca2).ownBlock = some g ∨ g = (w4.alloc ob).heap.size)
    {a : Addr} (ha : W.heap.size ≤ a.block ∧ (a.block < B ∨ G a.block)) (v : Value) : ImInv W B G (l ++ [x]) (K ++ [⟨x, A4, ca4⟩]) (some ⟨g, 0, none⟩) cap (w5.setCell a v) := by
  have hH : (w4.alloc ob).heap.size = w4.heap.size + 1 := by simp
  have hs4 := hb4.size
  have hs5 := hgrow.size
  have hB := h.base
  have hbase : ∀ b, (Value.slice A2 l.length ca2).ownBlock = some b → B ≤ b ∧ b < wr.heap.size := h.row.lt
  have hgb : B ≤ g := by
    rcases hat5 with e | e
    · exact (hbase g e).1
    · omega
  have hgG : ∀ b, G b → g ≠ b := fun b hb e => by
    subst e
    rcases hat5 with e2 | e2
    · exact (h.prot g hb).1 e2
    · have := (h.prot g hb).2; omega
  have e5 : ∀ b, b < w4.heap.size → (Value.slice A2 l.length ca2).ownBlock ≠ some b → w5.heap[b]? = w4.heap[b]? := fun b hb hne => (hgrow.block b (by omega) (fun e => hne e.symm)).trans ((below_alloc ob).block b hb)
  have e6 : ∀ b, b ≠ a.block → (w5.setCell a v).heap[b]? = w5.heap[b]? := fun b hb => Below.heap_setCell w5 _ _ b hb
  have z6 : (w5.setCell a v).heap.size = w5.heap.size := by simp [World.setCell]
  have nob : ∀ b, b < B → (Value.slice A2 l.length ca2).ownBlock ≠ some b := fun b hb e => by have := (hbase b e).1; omega
  have hl1 : (l ++ [x]).length = l.length + 1 := by simp
  have haw : a.block < wr.heap.size := by
    rcases ha.2 with h1 | h1
    · omega
    · exact (h.prot _ h1).2
  have hag : a.block ≠ g := by
    rcases ha.2 with h1 | h1
    · omega
    · exact (hgG _ h1).symm
  refine ⟨⟨?_, ?_, ?_, ?_, ?_⟩, ⟨hB.1, by omega⟩, by rw [List.map_append, h.map]; rfl, ?_, ?_, ?_⟩
  · exact hgrow.os.trans (hb4.os.trans h.below.os)
  · exact hgrow.tape.trans (hb4.tape.trans h.below.tape)
  · exact hgrow.output.trans (hb4.output.trans h.below.output)
  · rw [z6]; have := h.below.size; omega
  · intro b hb
    rw [e6 b (by omega), e5 b (by omega) (nob b (by omega)), hb4.block b (by omega)]
    exact h.below.block b hb
  · rw [hl1, rcells_append]
    exact hrow5.kept (row := some a.block) ⟨rfl, rfl, rfl, by simp [World.setCell], fun k _ hk => Below.heap_setCell w5 _ _ k (fun e => hk (by rw [e]))⟩ (.inr fun e => hag (by injection e with e; exact e.symm))
  · intro b hb
    refine ⟨fun e => hgG b hb (by injection e), ?_⟩
    have := (h.prot b hb).2
    rw [z6]; omega
  · intro y hy
    rw [hl1]
    rcases List.mem_append.1 hy with hy | hy
    · obtain ⟨h1, h2, h3⟩ := h.kids y hy
      have h3' := h3.there
      have hk6 : ∀ b, (B ≤ b ∧ (Value.slice A2 l.length ca2).ownBlock ≠ some b ∧ ¬ G b) ∧ b < wr.heap.size → b < wr.heap.size → (w5.setCell a v).heap[b]? = wr.heap[b]? := fun b hb hlt => by
        rw [e6 b (fun e => by
          subst e
          rcases ha.2 with h4 | h4
          · omega
          · exact hb.1.2.2 h4), e5 b (by omega) hb.1.2.1, hb4.block b hlt]
      refine ⟨h1.keepOwn hk6 h3', h2, h3'.keep (fun b hb => ⟨hb.1.1, fun e => ?_, hb.1.2.2⟩) (by rw [z6]; omega) hk6⟩
      have e' : g = b := by injection e
      rcases hat5 with e2 | e2
      · exact hb.1.2.1 (by rw [e2, e'])
      · omega
    · rw [List.mem_singleton] at hy; subst hy
      have h3 := hown.there
      have hk6 : ∀ b, wr.heap.size ≤ b ∧ b < w4.heap.size → b < w4.heap.size → (w5.setCell a v).heap[b]? = w4.heap[b]? := fun b hb hlt => by
        rw [e6 b (by omega), e5 b hlt (fun e => by have := (hbase b e).2; omega)]
      refine ⟨hat.keepOwn hk6 h3, hn, h3.keep (fun b hb => ⟨by omega, fun e => ?_, fun hg => ?_⟩) (by rw [z6]; omega) hk6⟩
      · have e' : g = b := by injection e
        rcases hat5 with e2 | e2
        · have := (hbase g e2).2; omega
        · omega
      · have := (h.prot b hg).2; omega
/-- A world that keeps the rows' blocks, and those ahead of the call. -/
theorem ImInv.more {W : World} {B : Nat} {G : Nat → Prop} {l : List (List Val)} {K : List RK} {A2 : Option Addr} {ca2 : Nat} {wr w : World} (h : ImInv W B G l K A2 ca2 wr) (hb : Below W.heap.size W w) (hs : wr.heap.size ≤ w.heap.size) (hk : ∀ b, B ≤ b → ¬ G b → b < wr.heap.size → w.heap[b]? = wr.heap[b]?) (ho : w.ownsRow B 43 1 (.slice A2 l.length ca2) l.length (rcells K)) : ImInv W B G l K A2 ca2 w :=
  ⟨hb, ⟨h.base.1, Nat.le_trans h.base.2 hs⟩, h.map, ho, fun b hb => ⟨(h.prot b hb).1, Nat.lt_of_lt_of_le (h.prot b hb).2 hs⟩, fun x hx => by
    obtain ⟨h1, h2, h3⟩ := h.kids x hx
    exact ⟨h1.keepOwn (fun b hb => hk b hb.1 hb.2.2) h3, h2, h3.keep (fun _ h => h) hs (fun b hb => hk b hb.1 hb.2.2)⟩⟩
theorem ImInv.below_ {W : World} {B : Nat} {G : Nat → Prop} {l : List (List Val)} {K : List RK} {A2 : Option Addr} {ca2 : Nat} {wr w : World} (h : ImInv W B G l K A2 ca2 wr) (hb : Below wr.heap.size wr w) : ImInv W B G l K A2 ca2 w :=
  h.more (below_then h.below hb) hb.size (fun b _ _ hlt => hb.block b hlt) (row_below h.row hb)
theorem ImInv.set {W : World} {B : Nat} {G : Nat → Prop} {l : List (List Val)} {K : List RK} {A2 : Option Addr} {ca2 : Nat} {wr : World} (h : ImInv W B G l K A2 ca2 wr) {a : Addr} (ha : W.heap.size ≤ a.block ∧ (a.block < B ∨ G a.block)) (v : Value) : ImInv W B G l K A2 ca2 (wr.setCell a v) := by
  refine h.more (h.below.setCell ha.1 _) (by simp [World.setCell]) (fun b hb hg _ => Below.heap_setCell wr _ _ b (fun e => ?_)) ?_
  · subst e
    rcases ha.2 with h4 | h4
    · omega
    · exact hg h4
  · exact h.row.kept (row := some a.block) ⟨rfl, rfl, rfl, by simp [World.setCell], fun k _ hk => Below.heap_setCell wr _ _ k (fun e => hk (by rw [e]))⟩ (.inr fun e => by
      rcases ha.2 with h4 | h4
      · have := (h.row.lt _ e).1; omega
      · exact (h.prot _ h4).1 e)
theorem ImInv.puts {W : World} {B : Nat} {G : Nat → Prop} {l : List (List Val)} {K : List RK} {A2 : Option Addr} {ca2 : Nat} {wr : World} (h : ImInv W B G l K A2 ca2 wr) {g : Nat} (hg : W.heap.size ≤ g ∧ (g < B ∨ G g)) (o : Nat) (vs : List Value) : ImInv W B G l K A2 ca2 (puts wr g o vs) := by
  induction vs generalizing wr o with
  | nil => exact h
  | cons v vs ih => exact ih (h.set (a := ⟨g, o, none⟩) hg v) (o + 1)
/-- Blocks that were made since are kept from now on. -/
theorem ImInv.protect {W : World} {B : Nat} {G G' : Nat → Prop} {l : List (List Val)} {K : List RK} {A2 : Option Addr} {ca2 : Nat} {wr w : World} (h : ImInv W B G l K A2 ca2 wr) (hb : Below wr.heap.size wr w) (hg : ∀ b, G' b → G b ∨ (wr.heap.size ≤ b ∧ b < w.heap.size)) : ImInv W B G' l K A2 ca2 w := by
  refine ⟨below_then h.below hb, ⟨h.base.1, Nat.le_trans h.base.2 hb.size⟩, h.map, row_below h.row hb, fun b hb' => ?_, fun x hx => ?_⟩
  · rcases hg b hb' with h1 | h1
    · exact ⟨(h.prot b h1).1, Nat.lt_of_lt_of_le (h.prot b h1).2 hb.size⟩
    · exact ⟨fun e => by have := (h.row.lt _ e).2; omega, h1.2⟩
  · obtain ⟨h1, h2, h3⟩ := h.kids x hx
    refine ⟨h1.below hb, h2, h3.there.keep (fun b hb' => ⟨hb'.1.1, hb'.1.2.1, fun hG => ?_⟩) hb.size (fun b _ hlt => hb.block b hlt)⟩
    rcases hg b hG with h4 | h4
    · exact hb'.1.2.2 h4
    · omega
/-- Of a world ahead of the call's own. -/
theorem ImInv.root {W W1 : World} {B : Nat} {G : Nat → Prop} {l : List (List Val)} {K : List RK} {A2 : Option Addr} {ca2 : Nat} {wr : World} (h : ImInv W1 B G l K A2 ca2 wr) (hb : Below W.heap.size W W1) : ImInv W B G l K A2 ca2 wr :=
  ⟨below_then hb h.below, ⟨Nat.le_trans hb.size h.base.1, h.base.2⟩, h.map, h.row, h.prot, h.kids⟩
theorem ImInv.free {W : World} {B : Nat} {G : Nat → Prop} {l : List (List Val)} {K : List RK} {A2 : Option Addr} {ca2 : Nat} {wr : World} (h : ImInv W B G l K A2 ca2 wr) : ImInv W B (fun _ => False) l K A2 ca2 wr :=
  ⟨h.below, h.base, h.map, h.row, fun _ hb => hb.elim, fun x hx => ⟨(h.kids x hx).1, (h.kids x hx).2.1, (h.kids x hx).2.2.mono (fun _ hb => ⟨hb.1, hb.2.1, fun h => h⟩)⟩⟩
/-- What it comes to. -/
theorem ImInv.at_ {W : World} {B : Nat} {G : Nat → Prop} {l : List (List Val)} {K : List RK} {A2 : Option Addr} {ca2 : Nat} {wr : World} (h : ImInv W B G l K A2 ca2 wr) : ImgsAt wr A2 ca2 l ∧ ImgsOwn (fun b => B ≤ b) wr A2 l := by
  have hlen : K.length = l.length := by rw [← h.map, List.length_map]
  have hkid : ∀ (i : Nat) (r : List Val), l[i]? = some r → ∃ x ∈ K, K[i]? = some x ∧ x.r = r := fun i r hr => by
    rw [← h.map, List.getElem?_map] at hr
    obtain ⟨x, hx, rfl⟩ := Option.map_eq_some_iff.1 hr
    exact ⟨x, List.mem_of_getElem? hx, hx, rfl⟩
  rcases h.row.2 with ⟨e, hz⟩ | ⟨g, cap, cur, e, hbg, hg, hnc, _⟩
  · have hl0 := List.eq_nil_of_length_eq_zero hz
    injection e with e1 e2 e3
    exact ⟨⟨⟨fun _ => e3, by omega⟩, fun hn => absurd hl0 hn⟩, fun hn => absurd hl0 hn⟩
  · injection e with e1 e2 e3
    subst e1; subst e3
    have hrow := h.row
    have hcell : ∀ (i : Nat) (x : RK), K[i]? = some x → wr.cell? ⟨g, i, none⟩ = some (.slice x.A x.r.length x.ca) := fun i x hx => by
      have hi := (List.getElem?_eq_some_iff.1 hx).1
      rw [hrow.cellAt i (by omega)]
      exact rcells_get hx
    refine ⟨⟨⟨fun e => (by cases e), hnc⟩, fun _ => ⟨g, 0, rfl, fun i r hr => ?_⟩⟩, fun _ => ⟨g, rfl, hbg, (Array.getElem?_eq_some_iff.1 hg).1, fun j => hrow.frozenAt j, fun i r hr => ?_⟩⟩
    · obtain ⟨x, hx, hi, rfl⟩ := hkid i r hr
      obtain ⟨h1, h2, _⟩ := h.kids x hx
      exact ⟨x.A, x.ca, by rw [Nat.zero_add]; exact hcell i x hi, h1, h2⟩
    · obtain ⟨x, hx, hi, rfl⟩ := hkid i r hr
      obtain ⟨_, _, h3⟩ := h.kids x hx
      exact ⟨x.A, x.ca, hcell i x hi, h3.mono (fun b hb => ⟨hb.1, fun e => hb.2.1 (by rw [e]; rfl)⟩)⟩

/-- Some of a block's cells stored over. -/
theorem Blk.putsAt {w : World} {g : Nat} {l : List Value} (h : Blk w g l) (o : Nat) (vs : List Value) (hl : o + vs.length ≤ l.length) : Blk (puts w g o vs) g (l.take o ++ vs ++ l.drop (o + vs.length)) := by
  refine ⟨by rw [puts_size]; exact h.lt, fun j => by rw [puts_frozen]; exact h.free j, fun j v hj => ?_⟩
  have off : ∀ {a b : Nat}, a ≠ b → (⟨g, a, none⟩ : Addr) ≠ ⟨g, b, none⟩ := fun hne e => hne (by injection e)
  by_cases h1 : j < o
  · rw [puts_other _ _ _ _ _ (fun i _ => off (by omega))]
    rw [List.append_assoc, List.getElem?_append_left (by rw [List.length_take]; omega), List.getElem?_take, if_pos h1] at hj
    exact h.cell j v hj
  · by_cases h2 : j < o + vs.length
    · have hj' : vs[j - o]? = some v := by
        rw [List.getElem?_append_left (by rw [List.length_append, List.length_take]; omega), List.getElem?_append_right (by rw [List.length_take]; omega), List.length_take] at hj
        rw [← hj]; congr 1; omega
      have := puts_same w g vs o (fun i hi => ⟨l[o + i]'(by omega), h.cell _ _ (List.getElem?_eq_getElem (by omega))⟩) (j - o) v hj'
      rw [show o + (j - o) = j by omega] at this
      exact this
    · rw [puts_other _ _ _ _ _ (fun i hi => off (by omega))]
      rw [List.getElem?_append_right (by rw [List.length_append, List.length_take]; omega), List.getElem?_drop, List.length_append, List.length_take] at hj
      refine h.cell j v ?_
      rw [← hj]; congr 1; omega
theorem Blk.puts0 {w : World} {g : Nat} {l l' : List Value} (h : Blk w g l) (hl : l'.length = l.length) : Blk (puts w g 0 l') g l' := by
  have := h.putsAt 0 l' (by omega)
  simpa [hl] using this
theorem Blk.putsOther {w : World} {g g' : Nat} {l : List Value} (h : Blk w g' l) (hne : g' ≠ g) (o : Nat) (vs : List Value) : Blk (puts w g o vs) g' l :=
  h.other (by rw [puts_size]; exact Nat.le_refl _) (puts_block w g o _ g' hne)

/-- A claim's sixteen cells, wherever its rows and its predicate's parts lie. -/
def Cl.cells (c : Cl) (A : Option Addr) (ca : Nat) (P : Option Addr) (pa : Nat) : List Value := [.int .i64 c.kind, .int .i64 c.table, .int .i64 c.mode, .bool c.key.t, .int .i64 c.key.n, .string c.key.s, .slice A c.im.length ca, .int .i64 c.p.op, .int .i64 c.p.col, .bool c.p.v.t, .int .i64 c.p.v.n, .string c.p.v.s, .bool c.p.w.t, .int .i64 c.p.w.n, .string c.p.w.s, .slice P c.p.l.length pa]
theorem Cl.cells_length (c : Cl) (A : Option Addr) (ca : Nat) (P : Option Addr) (pa : Nat) : (c.cells A ca P pa).length = 16 := rfl
/-- A claim's sixteen stores. -/
abbrev cput (w : World) (g : Nat) (c : Cl) (A : Option Addr) (ca : Nat) (P : Option Addr) (pa : Nat) : World :=
  (((((((((((((((w.setCell ⟨g, 0, none⟩ (.int .i64 c.kind)).setCell ⟨g, 1, none⟩ (.int .i64 c.table)).setCell ⟨g, 2, none⟩ (.int .i64 c.mode)).setCell ⟨g, 3, none⟩ (.bool c.key.t)).setCell ⟨g, 4, none⟩ (.int .i64 c.key.n)).setCell ⟨g, 5, none⟩ (.string c.key.s)).setCell ⟨g, 6, none⟩ (.slice A c.im.length ca)).setCell ⟨g, 7, none⟩ (.int .i64 c.p.op)).setCell ⟨g, 8, none⟩ (.int .i64 c.p.col)).setCell ⟨g, 9, none⟩ (.bool c.p.v.t)).setCell ⟨g, 10, none⟩ (.int .i64 c.p.v.n)).setCell ⟨g, 11, none⟩ (.string c.p.v.s)).setCell ⟨g, 12, none⟩ (.bool c.p.w.t)).setCell ⟨g, 13, none⟩ (.int .i64 c.p.w.n)).setCell ⟨g, 14, none⟩ (.string c.p.w.s)).setCell ⟨g, 15, none⟩ (.slice P c.p.l.length pa)
theorem cput_eq (w : World) (g : Nat) (c : Cl) (A : Option Addr) (ca : Nat) (P : Option Addr) (pa : Nat) : cput w g c A ca P pa = puts w g 0 (c.cells A ca P pa) := rfl
/-- A claim that a function hands back out of its block. -/
theorem claim_out {fn : Func} {k : Nat} (hr : fn.results = #[.cell k 31]) {tmps : Array Value} {g : Nat} (ht : tmps[k]? = some (.pointer (some ⟨g, 0, none⟩))) {w : World} {c : Cl} {A : Option Addr} {ca : Nat} {P : Option Addr} {pa : Nat} (h : Blk w g (c.cells A ca P pa)) : (results fn tmps).run Tryd.prog w = .ok (c.arg A ca P pa) w := by
  have f0 := h.cell 0 _ rfl
  have f1 := h.cell 1 _ rfl
  have f2 := h.cell 2 _ rfl
  have f3 := h.cell 3 _ rfl
  have f4 := h.cell 4 _ rfl
  have f5 := h.cell 5 _ rfl
  have f6 := h.cell 6 _ rfl
  have f7 := h.cell 7 _ rfl
  have f8 := h.cell 8 _ rfl
  have f9 := h.cell 9 _ rfl
  have f10 := h.cell 10 _ rfl
  have f11 := h.cell 11 _ rfl
  have f12 := h.cell 12 _ rfl
  have f13 := h.cell 13 _ rfl
  have f14 := h.cell 14 _ rfl
  have f15 := h.cell 15 _ rfl
  simp [results, hr, ht, go_sem, f0, f1, f2, f3, f4, f5, f6, f7, f8, f9, f10, f11, f12, f13, f14, f15]
  unfold Cl.arg; rfl

/-- The parts of a predicate of one's own: their cells may be written. -/
theorem Pr.Own.slice {P : Nat → Prop} {W : World} {p : Pr} {A : Option Addr} (h : p.Own P W A) : SlOwn P W A (p.l.length * 9) := by
  obtain ⟨o, c, v, w, l⟩ := p
  intro hm
  obtain ⟨b, hA, hP, hlt, hf, hk⟩ := Pr.own_mk.1 h (fun e => hm (by show l.length * 9 = 0; rw [e]; rfl))
  refine ⟨b, hA, hP, hlt, hf, fun j hj => ?_⟩
  have hj' : j < l.length * 9 := hj
  have hi : j / 9 < l.length := by omega
  obtain ⟨o1, c1, v1, w1, A', ca', hc, _⟩ := hk (j / 9) _ (List.getElem?_eq_getElem hi)
  obtain ⟨h0, h1, h2, h3, h4, h5, h6, h7, h8⟩ := hc
  have hm9 := Nat.mod_lt j (by omega : 0 < 9)
  have e : j = j / 9 * 9 + j % 9 := by omega
  rw [e]
  generalize j / 9 * 9 = q at *
  generalize j % 9 = m at *
  match m, hm9 with
  | 0, _ => exact ⟨_, h0⟩
  | 1, _ => exact ⟨_, h1⟩
  | 2, _ => exact ⟨_, h2⟩
  | 3, _ => exact ⟨_, h3⟩
  | 4, _ => exact ⟨_, h4⟩
  | 5, _ => exact ⟨_, h5⟩
  | 6, _ => exact ⟨_, h6⟩
  | 7, _ => exact ⟨_, h7⟩
  | 8, _ => exact ⟨_, h8⟩
/-- What a function hands back that makes a claim of its own: the claim c, its rows and parts in new memory. -/
def COwn (W : World) (c : Cl) (e : Ending) (w' : World) : Prop := ∃ (A : Option Addr) (ca : Nat) (P : Option Addr) (pa : Nat), e = .returned (.agg #[.int .i64 c.kind, .int .i64 c.table, .int .i64 c.mode, .bool c.key.t, .int .i64 c.key.n, .string c.key.s, .slice A c.im.length ca, .int .i64 c.p.op, .int .i64 c.p.col, .bool c.p.v.t, .int .i64 c.p.v.n, .string c.p.v.s, .bool c.p.w.t, .int .i64 c.p.w.n, .string c.p.w.s, .slice P c.p.l.length pa]) ∧ c.At w' A ca P pa ∧ (∃ B G K, ImInv W B G c.im K A ca w' ∧ c.p.Own (fun b => W.heap.size ≤ b ∧ G b) w' P) ∧ Below W.heap.size W w'
end Go.Proofs.YtghpildnajdlpaaDoor
