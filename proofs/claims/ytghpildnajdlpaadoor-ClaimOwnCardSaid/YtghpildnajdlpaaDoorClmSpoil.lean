/-
  Memory of one's own, written over: what may be written, and that all else stays. No walk.
-/
import Derived.Test.YtghpildnajdlpaaDoorClmTwin
namespace Go.Proofs.YtghpildnajdlpaaDoor
open Go.RowKit

/-- Only cells in blocks of which R holds have turned; each is still there. -/
structure Wrote (R : Nat → Prop) (V w : World) : Prop where
  os : w.os = V.os
  tape : w.tape = V.tape
  output : w.output = V.output
  size : w.heap.size = V.heap.size
  block : ∀ b, ¬ R b → w.heap[b]? = V.heap[b]?
  frozen : ∀ a, w.frozen? a = V.frozen? a
  cells : ∀ a u, V.cell? a = some u → ∃ u', w.cell? a = some u'
theorem Wrote.refl (R : Nat → Prop) (V : World) : Wrote R V V := ⟨rfl, rfl, rfl, rfl, fun _ _ => rfl, fun _ => rfl, fun _ u h => ⟨u, h⟩⟩
theorem Wrote.set {R : Nat → Prop} {V w : World} (h : Wrote R V w) {a : Addr} (ha : R a.block) (v : Value) : Wrote R V (w.setCell a v) :=
  ⟨h.os, h.tape, h.output, by rw [← h.size]; simp [World.setCell], fun b hb => (Below.heap_setCell w a v b (fun e => hb (by rw [e]; exact ha))).trans (h.block b hb), fun a' => by rw [World.frozen?_setCell]; exact h.frozen a', fun a' u hu => by
    obtain ⟨u', hu'⟩ := h.cells a' u hu
    by_cases he : a = a'
    · subst he; exact ⟨v, World.cell?_setCell_same _ _ _ hu'⟩
    · exact ⟨u', (World.cell?_setCell_other _ _ _ _ he).trans hu'⟩⟩
theorem Wrote.drew {R : Nat → Prop} {V w : World} (h : Wrote R V w) : Wrote R V w.drew := ⟨h.os, h.tape, h.output, h.size, h.block, h.frozen, h.cells⟩
theorem Wrote.below {R : Nat → Prop} {W V w : World} (h : Wrote R V w) (hb : Below W.heap.size W V) (hR : ∀ b, R b → W.heap.size ≤ b) : Below W.heap.size W w :=
  ⟨h.os.trans hb.os, h.tape.trans hb.tape, h.output.trans hb.output, by rw [h.size]; exact hb.size, fun b hlt => (h.block b (fun hr => by have := hR b hr; omega)).trans (hb.block b hlt)⟩
theorem Wrote.blk {R : Nat → Prop} {V w : World} (h : Wrote R V w) {g : Nat} {l : List Value} (hk : Blk V g l) (hg : ¬ R g) : Blk w g l := hk.other (by rw [h.size]; exact Nat.le_refl _) (h.block g hg)
/-- Cells that may be written stay such. -/
theorem SlOwn.wrote {R : Nat → Prop} {V w : World} (hw : Wrote R V w) {A : Option Addr} {m : Nat} (h : SlOwn R V A m) : SlOwn R w A m := fun hm => by
  obtain ⟨b, hA, hP, hlt, hf, hc⟩ := h hm
  exact ⟨b, hA, hP, by rw [hw.size]; exact hlt, fun j => (hw.frozen _).trans (hf j), fun j hj => by
    obtain ⟨u, hu⟩ := hc j hj
    exact hw.cells _ u hu⟩
/-- Rows whose values may be written, but not where they lie. -/
def ImgsW (R : Nat → Prop) (W : World) (A : Option Addr) (l : List (List Val)) : Prop := l ≠ [] → ∃ b, A = some ⟨b, 0, none⟩ ∧ ¬ R b ∧ ∀ (i : Nat) (r : List Val), l[i]? = some r → ∃ A' ca', W.cell? ⟨b, i, none⟩ = some (.slice A' r.length ca') ∧ SlOwn R W A' (r.length * 3)
theorem ImgsW.wrote {R : Nat → Prop} {V w : World} (hw : Wrote R V w) {A : Option Addr} {l : List (List Val)} (h : ImgsW R V A l) : ImgsW R w A l := fun hn => by
  obtain ⟨b, hA, hb, hc⟩ := h hn
  refine ⟨b, hA, hb, fun i r hr => ?_⟩
  obtain ⟨A', ca', h1, h2⟩ := hc i r hr
  exact ⟨A', ca', (World.cell?_of_block (a := ⟨b, i, none⟩) (hw.block b hb)).trans h1, h2.wrote hw⟩
theorem ImgsW.below {R : Nat → Prop} {V w : World} (hb : Below V.heap.size V w) {A : Option Addr} {l : List (List Val)} (h : ImgsW R V A l) : ImgsW R w A l := fun hn => by
  obtain ⟨b, hA, hR, hc⟩ := h hn
  refine ⟨b, hA, hR, fun i r hr => ?_⟩
  obtain ⟨A', ca', h1, h2⟩ := hc i r hr
  exact ⟨A', ca', (hb.cell (cell_lt h1)).trans h1, h2.below hb⟩
/-- A row, wherever the others are written over. -/
theorem ImgsW.row {R : Nat → Prop} {V : World} {A : Option Addr} {l : List (List Val)} (h : ImgsW R V A l) {i : Nat} {r : List Val} (hr : l[i]? = some r) : ∃ (b : Nat) (A' : Option Addr) (ca' : Nat), A = some ⟨b, 0, none⟩ ∧ ∀ w, Wrote R V w → w.cell? ⟨b, i, none⟩ = some (.slice A' r.length ca') ∧
    ∀ m, m < r.length → ∃ (b' : Nat) (u0 u1 u2 : Value), A' = some ⟨b', 0, none⟩ ∧ R b' ∧ w.cell? ⟨b', m * 3, none⟩ = some u0 ∧ w.cell? ⟨b', m * 3 + 1, none⟩ = some u1 ∧ w.cell? ⟨b', m * 3 + 2, none⟩ = some u2 ∧ ∀ j, w.frozen? ⟨b', j, none⟩ = false := by
  obtain ⟨b, hA, hb, hc⟩ := h (fun e => by rw [e] at hr; cases hr)
  obtain ⟨A', ca', h1, h2⟩ := hc i r hr
  refine ⟨b, A', ca', hA, fun w hw => ⟨(World.cell?_of_block (a := ⟨b, i, none⟩) (hw.block b hb)).trans h1, fun m hm => ?_⟩⟩
  obtain ⟨b', hA', hR, _, hf, hk⟩ := (h2.wrote hw) (by omega)
  obtain ⟨u0, h0⟩ := hk (m * 3) (by omega)
  obtain ⟨u1, h1⟩ := hk (m * 3 + 1) (by omega)
  obtain ⟨u2, h2⟩ := hk (m * 3 + 2) (by omega)
  exact ⟨b', u0, u1, u2, hA', hR, h0, h1, h2, hf⟩
/-- A part's first cell likewise. -/
theorem SlOwn.part {R : Nat → Prop} {V : World} {P : Option Addr} {n : Nat} (h : SlOwn R V P (n * 9)) {i : Nat} (hi : i < n) : ∃ b, P = some ⟨b, 0, none⟩ ∧ R b ∧ ∀ w, Wrote R V w → ∃ u, w.cell? ⟨b, i * 9, none⟩ = some u ∧ ∀ j, w.frozen? ⟨b, j, none⟩ = false := by
  obtain ⟨b, hP, hR, _, hf, hc⟩ := h (by omega)
  refine ⟨b, hP, hR, fun w hw => ?_⟩
  obtain ⟨u, hu⟩ := hc (i * 9) (by omega)
  obtain ⟨u', hu'⟩ := hw.cells _ u hu
  exact ⟨u', hu', fun j => (hw.frozen _).trans (hf j)⟩
theorem ImInv.hd {W : World} {B : Nat} {G : Nat → Prop} {l : List (List Val)} {K : List RK} {A2 : Option Addr} {ca2 : Nat} {wr : World} (h : ImInv W B G l K A2 ca2 wr) {b o : Nat} (hA : A2 = some ⟨b, o, none⟩) : W.heap.size ≤ b ∧ b < wr.heap.size := by
  subst hA
  have h1 := h.row.lt b rfl
  have h2 := h.base.1
  exact ⟨by omega, h1.2⟩
/-- A claim of one's own reads as it did where its blocks are kept. -/
theorem own_keeps {W w U : World} {B : Nat} {G : Nat → Prop} {c : Cl} {K : List RK} {A : Option Addr} {ca : Nat} {P : Option Addr} {pa : Nat} (hat : c.At w A ca P pa) (him : ImInv W B G c.im K A ca w) (hp : c.p.Own (fun b => W.heap.size ≤ b ∧ G b) w P)
    (hk : ∀ b, W.heap.size ≤ b → b < w.heap.size → U.heap[b]? = w.heap[b]?) : c.At U A ca P pa := by
  have hB := him.base.1
  exact ⟨hat.im.keepOwn (fun b hb hlt => hk b (Nat.le_trans hB hb) hlt) him.at_.2, hat.p.keep (fun b hb hlt => hk b hb.1 hlt) hp⟩
/-- What a claim of one's own may be written over in. -/
theorem own_writes {W w : World} {B : Nat} {G : Nat → Prop} {c : Cl} {K : List RK} {A : Option Addr} {ca : Nat} {P : Option Addr} (him : ImInv W B G c.im K A ca w) (hp : c.p.Own (fun b => W.heap.size ≤ b ∧ G b) w P)
    {R : Nat → Prop} (hR : ∀ b, W.heap.size ≤ b → b < w.heap.size → (∀ o, A ≠ some ⟨b, o, none⟩) → R b) (hN : ∀ b o, A = some ⟨b, o, none⟩ → ¬ R b) : ImgsW R w A c.im ∧ SlOwn R w P (c.p.l.length * 9) := by
  have hB := him.base
  refine ⟨fun hn => ?_, ?_⟩
  · obtain ⟨b, hA, hPb, hlt, _, hc⟩ := him.at_.2 hn
    refine ⟨b, hA, hN b 0 hA, fun i r hr => ?_⟩
    obtain ⟨A', ca', h1, h2⟩ := hc i r hr
    refine ⟨A', ca', h1, h2.there.mono (fun b' hb' => hR b' (Nat.le_trans hB.1 hb'.1.1) hb'.2 (fun o e => ?_))⟩
    rw [hA] at e
    exact hb'.1.2 (by injection e with e; injection e with e; exact e.symm)
  · refine hp.slice.there.mono (fun b hb => hR b hb.1.1 hb.2 (fun o e => ?_))
    have := (him.prot b hb.1.2).1
    rw [e] at this
    exact this rfl
end Go.Proofs.YtghpildnajdlpaaDoor
