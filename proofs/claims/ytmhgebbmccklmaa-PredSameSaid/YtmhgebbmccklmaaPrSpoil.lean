/-
  A predicate's parts, at all depths, written over, walked: the statement's spoil. Conditions: the parts lie in blocks of one's own.
-/
import Derived.Test.YtmhgebbmccklmaaPrOwn
namespace Go.Proofs.Ytmhgebbmccklmaa
open Go.RowKit

/-- Only blocks of which P holds, and new ones, have turned; what lies in those as parts of one's own still does. -/
structure Spoiled (P : Nat → Prop) (W w : World) : Prop where
  os : w.os = W.os
  tape : w.tape = W.tape
  output : w.output = W.output
  size : W.heap.size ≤ w.heap.size
  block : ∀ b, b < W.heap.size → ¬ P b → w.heap[b]? = W.heap[b]?
  own : ∀ (q : Pr) (A : Option Addr), q.Own P W A → q.Own P w A
theorem Spoiled.refl (P : Nat → Prop) (W : World) : Spoiled P W W := ⟨rfl, rfl, rfl, Nat.le_refl _, fun _ _ _ => rfl, fun _ _ h => h⟩
theorem Spoiled.trans {P : Nat → Prop} {a b c : World} (h : Spoiled P a b) (k : Spoiled P b c) : Spoiled P a c :=
  ⟨k.os.trans h.os, k.tape.trans h.tape, k.output.trans h.output, Nat.le_trans h.size k.size, fun b hb hp => (k.block b (Nat.lt_of_lt_of_le hb h.size) hp).trans (h.block b hb hp), fun q A hq => k.own q A (h.own q A hq)⟩
theorem Spoiled.of_below {P : Nat → Prop} {W w : World} (hb : Below W.heap.size W w) : Spoiled P W w := ⟨hb.os, hb.tape, hb.output, hb.size, fun b h _ => hb.block b h, fun _ _ h => h.below hb⟩
theorem Cells.set0 {w : World} {o c : Int} {v w' : Val} {l : List Pr} {A : Option Addr} {ca b i g j : Nat} (h : (Pr.mk o c v w' l).Cells w A ca b (i * 9)) (n : Int) : ∃ o', (Pr.mk o' c v w' l).Cells (w.setCell ⟨g, j * 9, none⟩ (.int .i64 n)) A ca b (i * 9) := by
  have off : ∀ {a d : Nat}, a ≠ d → (⟨g, a, none⟩ : Addr) ≠ ⟨b, d, none⟩ := fun hne e => hne (by injection e)
  obtain ⟨h0, h1, h2, h3, h4, h5, h6, h7, h8⟩ := h
  have e : ∀ m, 0 < m → m < 9 → (w.setCell ⟨g, j * 9, none⟩ (.int .i64 n)).cell? ⟨b, i * 9 + m, none⟩ = w.cell? ⟨b, i * 9 + m, none⟩ := fun m h1 h2 => World.cell?_setCell_other _ _ _ _ (off (by omega))
  by_cases hs : (⟨g, j * 9, none⟩ : Addr) = ⟨b, i * 9, none⟩
  · refine ⟨n, ?_, (e 1 (by omega) (by omega)).trans h1, (e 2 (by omega) (by omega)).trans h2, (e 3 (by omega) (by omega)).trans h3, (e 4 (by omega) (by omega)).trans h4, (e 5 (by omega) (by omega)).trans h5, (e 6 (by omega) (by omega)).trans h6, (e 7 (by omega) (by omega)).trans h7, (e 8 (by omega) (by omega)).trans h8⟩
    rw [hs]; exact World.cell?_setCell_same _ _ _ h0
  · exact ⟨o, (World.cell?_setCell_other _ _ _ _ hs).trans h0, (e 1 (by omega) (by omega)).trans h1, (e 2 (by omega) (by omega)).trans h2, (e 3 (by omega) (by omega)).trans h3, (e 4 (by omega) (by omega)).trans h4, (e 5 (by omega) (by omega)).trans h5, (e 6 (by omega) (by omega)).trans h6, (e 7 (by omega) (by omega)).trans h7, (e 8 (by omega) (by omega)).trans h8⟩
theorem Cells.set3 {w : World} {o c : Int} {v w' : Val} {l : List Pr} {A : Option Addr} {ca b i g j : Nat} (h : (Pr.mk o c v w' l).Cells w A ca b (i * 9)) (n : Int) : ∃ v', (Pr.mk o c v' w' l).Cells (w.setCell ⟨g, j * 9 + 3, none⟩ (.int .i64 n)) A ca b (i * 9) := by
  have off : ∀ {a d : Nat}, a ≠ d → (⟨g, a, none⟩ : Addr) ≠ ⟨b, d, none⟩ := fun hne e => hne (by injection e)
  obtain ⟨h0, h1, h2, h3, h4, h5, h6, h7, h8⟩ := h
  have e0 : (w.setCell ⟨g, j * 9 + 3, none⟩ (.int .i64 n)).cell? ⟨b, i * 9, none⟩ = w.cell? ⟨b, i * 9, none⟩ := World.cell?_setCell_other _ _ _ _ (off (by omega))
  have e : ∀ m, m ≠ 3 → m < 9 → (w.setCell ⟨g, j * 9 + 3, none⟩ (.int .i64 n)).cell? ⟨b, i * 9 + m, none⟩ = w.cell? ⟨b, i * 9 + m, none⟩ := fun m h1 h2 => World.cell?_setCell_other _ _ _ _ (off (by omega))
  by_cases hs : (⟨g, j * 9 + 3, none⟩ : Addr) = ⟨b, i * 9 + 3, none⟩
  · refine ⟨⟨v.t, n, v.s⟩, e0.trans h0, (e 1 (by omega) (by omega)).trans h1, (e 2 (by omega) (by omega)).trans h2, ?_, (e 4 (by omega) (by omega)).trans h4, (e 5 (by omega) (by omega)).trans h5, (e 6 (by omega) (by omega)).trans h6, (e 7 (by omega) (by omega)).trans h7, (e 8 (by omega) (by omega)).trans h8⟩
    rw [hs]; exact World.cell?_setCell_same _ _ _ h3
  · exact ⟨v, e0.trans h0, (e 1 (by omega) (by omega)).trans h1, (e 2 (by omega) (by omega)).trans h2, (World.cell?_setCell_other _ _ _ _ hs).trans h3, (e 4 (by omega) (by omega)).trans h4, (e 5 (by omega) (by omega)).trans h5, (e 6 (by omega) (by omega)).trans h6, (e 7 (by omega) (by omega)).trans h7, (e 8 (by omega) (by omega)).trans h8⟩
theorem own_set {P : Nat → Prop} {W : World} {a : Addr} {u : Value} (hs : ∀ {o c : Int} {v w' : Val} {l : List Pr} {A : Option Addr} {ca b i : Nat}, (Pr.mk o c v w' l).Cells W A ca b (i * 9) → ∃ o' v', (Pr.mk o' c v' w' l).Cells (W.setCell a u) A ca b (i * 9)) (q : Pr) (A : Option Addr) (h : q.Own P W A) : q.Own P (W.setCell a u) A := by
  have key : ∀ p : Pr, ∀ A, p.Own P W A → p.Own P (W.setCell a u) A := by
    refine Pr.ind fun p ih A h => ?_
    obtain ⟨o, c, v, w', l⟩ := p
    rw [Pr.own_mk] at h ⊢
    intro hn
    obtain ⟨b, hA, hPb, hlt, hf, hk⟩ := h hn
    refine ⟨b, hA, hPb, by simpa [World.setCell] using hlt, fun j => by rw [World.frozen?_setCell]; exact hf j, fun i p hp => ?_⟩
    obtain ⟨o1, c1, v1, w1, A', ca', hc, ho⟩ := hk i p hp
    obtain ⟨o2, v2, hc2⟩ := hs hc
    exact ⟨o2, c1, v2, w1, A', ca', hc2, ih p (List.mem_of_getElem? hp) _ ho⟩
  exact key q A h
theorem Spoiled.set0 {P : Nat → Prop} {W : World} {g j : Nat} (hg : P g) (n : Int) : Spoiled P W (W.setCell ⟨g, j * 9, none⟩ (.int .i64 n)) :=
  ⟨rfl, rfl, rfl, by simp [World.setCell], fun b _ hp => Below.heap_setCell W _ _ b (fun e => hp (by rw [e]; exact hg)), fun q A h => own_set (fun hc => by obtain ⟨o', h'⟩ := Cells.set0 (g := g) (j := j) hc n; exact ⟨o', _, h'⟩) q A h⟩
theorem Spoiled.set3 {P : Nat → Prop} {W : World} {g j : Nat} (hg : P g) (n : Int) : Spoiled P W (W.setCell ⟨g, j * 9 + 3, none⟩ (.int .i64 n)) :=
  ⟨rfl, rfl, rfl, by simp [World.setCell], fun b _ hp => Below.heap_setCell W _ _ b (fun e => hp (by rw [e]; exact hg)), fun q A h => own_set (fun hc => by obtain ⟨v', h'⟩ := Cells.set3 (g := g) (j := j) hc n; exact ⟨_, v', h'⟩) q A h⟩

set_option maxHeartbeats 2000000 in
theorem spoil_all (p : Pr) : ∀ (P : Nat → Prop) (w : World) (o c : Int) (v w' : Val) (A : Option Addr) (ca : Nat), (∀ b, P b → b < w.heap.size) → p.Own P w A → p.size ≤ 1000000000 →
    Calls Try.prog 24 #[.agg #[.int .i64 o, .int .i64 c, .bool v.t, .int .i64 v.n, .string v.s, .bool w'.t, .int .i64 w'.n, .string w'.s, .slice A p.l.length ca]] w fun e w2 => e = .returned (.tuple #[]) ∧ Spoiled P w w2 := by
  refine Pr.ind (P := fun p => ∀ (P : Nat → Prop) (w : World) (o c : Int) (v w' : Val) (A : Option Addr) (ca : Nat), (∀ b, P b → b < w.heap.size) → p.Own P w A → p.size ≤ 1000000000 →
    Calls Try.prog 24 #[.agg #[.int .i64 o, .int .i64 c, .bool v.t, .int .i64 v.n, .string v.s, .bool w'.t, .int .i64 w'.n, .string w'.s, .slice A p.l.length ca]] w fun e w2 => e = .returned (.tuple #[]) ∧ Spoiled P w w2) ?_ p
  rintro ⟨po, pc, pv, pw, l⟩ ih P w0 o c v w A ca hP hown hsz
  have IH := Lib.hid ih
  have HP := Lib.hid hP
  have hlen : l.length ≤ 1000000000 := by have h1 := Pr.len_le l; have h2 := Pr.size_mk po pc pv pw l; omega
  clear ih hP
  show Calls Try.prog 24 #[.agg #[.int .i64 o, .int .i64 c, .bool v.t, .int .i64 v.n, .string v.s, .bool w.t, .int .i64 w.n, .string w.s, .slice A l.length ca]] w0 _
  go_enter Try.func24, Try.ntmps24
  go_wp2_with fail
  refine wp_here fun W1 hW1 => ?_
  have hb1 : Below w0.heap.size w0 W1 := hW1 ▸ below_alloc _
  have hs1 : W1.heap.size = w0.heap.size + 1 := by rw [hW1]; simp
  have g8 : W1.cell? ⟨w0.heap.size, 8, none⟩ = some (.slice A l.length ca) := by rw [hW1, cell_new rfl]; rfl
  clear hW1
  have hnP : ¬ P w0.heap.size := fun h => by have := HP.out _ h; omega
  go_loopw [2] (fun i wr => ∃ (k : Nat), i = .int .i64 k ∧ k ≤ l.length ∧ Spoiled P W1 wr) (fun i _ => l.length - (intOf i).toNat)
  case atStart => exact ⟨0, rfl, by omega, Spoiled.refl _ _⟩
  case round =>
    rename_i wr
    obtain ⟨k, rfl, hk, hsp⟩ := hrel
    have hbox : wr.cell? ⟨w0.heap.size, 8, none⟩ = some (.slice A l.length ca) := (World.cell?_of_block (a := ⟨w0.heap.size, 8, none⟩) (hsp.block _ (by show w0.heap.size < W1.heap.size; omega) hnP)).trans g8
    by_cases hlt : k < l.length
    · have hor := hsp.own _ _ (hown.below hb1)
      have hor' := Pr.own_mk.1 hor
      obtain ⟨g, hA, hPg, hgl, hf, hkids⟩ := hor' (fun e => by subst e; simp at hlt)
      obtain ⟨o1, c1, v1, w1, A', ca', hc, hok⟩ := hkids k l[k] (List.getElem?_eq_getElem hlt)
      obtain ⟨q, hq⟩ : ∃ q, q = l[k] := ⟨_, rfl⟩
      rw [← hq] at hc hok
      have hmem : q ∈ l := by rw [hq]; exact List.getElem_mem hlt
      have hqs : q.size ≤ 1000000000 := by have := Pr.size_kid (p := .mk po pc pv pw l) hmem; omega
      have hne : g ≠ w0.heap.size := fun e => hnP (e ▸ hPg)
      subst hA
      obtain ⟨e0, e1, e2, e3, e4, e5, e6, e7, e8⟩ := hc
      have off : ∀ {a d : Nat}, a ≠ d → (⟨g, a, none⟩ : Addr) ≠ ⟨g, d, none⟩ := fun hne e => hne (by injection e)
      have offb : ∀ {a d : Nat}, (⟨g, a, none⟩ : Addr) ≠ ⟨w0.heap.size, d, none⟩ := fun e => hne (by injection e)
      have m1 : (wr.setCell ⟨g, k * 9, none⟩ (.int .i64 99)).cell? ⟨w0.heap.size, 8, none⟩ = some (.slice (some ⟨g, 0, none⟩) l.length ca) := (World.cell?_setCell_other _ _ _ _ offb).trans hbox
      have m3 : (wr.setCell ⟨g, k * 9, none⟩ (.int .i64 99)).cell? ⟨g, k * 9 + 3, none⟩ = some (.int .i64 v1.n) := (World.cell?_setCell_other _ _ _ _ (off (by omega))).trans e3
      have f : ∀ j, j ≠ 0 → j ≠ 3 → ((wr.setCell ⟨g, k * 9, none⟩ (.int .i64 99)).setCell ⟨g, k * 9 + 3, none⟩ (.int .i64 7)).cell? ⟨g, k * 9 + j, none⟩ = wr.cell? ⟨g, k * 9 + j, none⟩ := fun j h0 h3 => by
        rw [World.cell?_setCell_other _ _ _ _ (off (by omega)), World.cell?_setCell_other _ _ _ _ (off (by omega))]
      have n8 : ((wr.setCell ⟨g, k * 9, none⟩ (.int .i64 99)).setCell ⟨g, k * 9 + 3, none⟩ (.int .i64 7)).cell? ⟨w0.heap.size, 8, none⟩ = some (.slice (some ⟨g, 0, none⟩) l.length ca) := (World.cell?_setCell_other _ _ _ _ offb).trans m1
      have f0 : ((wr.setCell ⟨g, k * 9, none⟩ (.int .i64 99)).setCell ⟨g, k * 9 + 3, none⟩ (.int .i64 7)).cell? ⟨g, k * 9, none⟩ = some (.int .i64 99) := by
        rw [World.cell?_setCell_other _ _ _ _ (off (by omega))]; exact World.cell?_setCell_same _ _ _ e0
      have f3 : ((wr.setCell ⟨g, k * 9, none⟩ (.int .i64 99)).setCell ⟨g, k * 9 + 3, none⟩ (.int .i64 7)).cell? ⟨g, k * 9 + 3, none⟩ = some (.int .i64 7) := World.cell?_setCell_same _ _ _ m3
      have f1 := (f 1 (by omega) (by omega)).trans e1
      have f2 := (f 2 (by omega) (by omega)).trans e2
      have f4 := (f 4 (by omega) (by omega)).trans e4
      have f5 := (f 5 (by omega) (by omega)).trans e5
      have f6 := (f 6 (by omega) (by omega)).trans e6
      have f7 := (f 7 (by omega) (by omega)).trans e7
      have f8 := (f 8 (by omega) (by omega)).trans e8
      have hsp2 := (hsp.trans (Spoiled.set0 (g := g) (j := k) hPg 99)).trans (Spoiled.set3 (g := g) (j := k) hPg 7)
      have hok2 := (Spoiled.set3 (g := g) (j := k) hPg 7).own _ _ ((Spoiled.set0 (g := g) (j := k) hPg 99).own _ _ hok)
      have HC := Lib.hid (IH.out q hmem P _ 99 c1 ⟨v1.t, 7, v1.s⟩ w1 A' ca' (fun b hb => Nat.lt_of_lt_of_le (HP.out b hb) (Nat.le_trans hb1.size hsp2.size)) hok2 hqs)
      clear hok hok2 hor hor' hkids off offb f hq
      go_wp2_with fail
      refine HC.out.mono ?_; rintro e w5 ⟨rfl, hsp5⟩
      go_wp2_with fail
      go_roundw
      case rel => exact ⟨k + 1, by go_num, by omega, hsp2.trans hsp5⟩
      case measure => simp [intOf]; omega
    · obtain rfl : k = l.length := by omega
      go_wp2_with fail
      go_end0
      exact ⟨rfl, (Spoiled.of_below hb1).trans hsp⟩
end Go.Proofs.Ytmhgebbmccklmaa
