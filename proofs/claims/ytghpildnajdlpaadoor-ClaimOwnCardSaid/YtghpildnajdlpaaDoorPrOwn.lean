/-
  Predicates in memory of one's own: where their parts lie, what a store there leaves. No walk.
-/
import Derived.Test.YtghpildnajdlpaaDoorPrSize
import Derived.Test.YtghpildnajdlpaaDoorRowAt
namespace Go.Proofs.YtghpildnajdlpaaDoor
open Go.RowKit

/-- The parts lie in blocks of which P holds, each from its block's head on, and may be written. -/
def Pr.Own (P : Nat → Prop) (W : World) : Pr → Option Addr → Prop := Pr.fold fun _ _ _ _ l fs A => l ≠ [] → ∃ b, A = some ⟨b, 0, none⟩ ∧ P b ∧ b < W.heap.size ∧ (∀ j, W.frozen? ⟨b, j, none⟩ = false) ∧
  ∀ i p f, l[i]? = some p → fs[i]? = some f → ∃ (o c : Int) (v w : Val) (A' : Option Addr) (ca' : Nat), (Pr.mk o c v w p.l).Cells W A' ca' b (i * 9) ∧ f A'
theorem Pr.own_mk {P : Nat → Prop} {W : World} {o c : Int} {v w : Val} {l : List Pr} {A : Option Addr} : (Pr.mk o c v w l).Own P W A ↔ (l ≠ [] → ∃ b, A = some ⟨b, 0, none⟩ ∧ P b ∧ b < W.heap.size ∧ (∀ j, W.frozen? ⟨b, j, none⟩ = false) ∧
    ∀ (i : Nat) (p : Pr), l[i]? = some p → ∃ (o c : Int) (v w : Val) (A' : Option Addr) (ca' : Nat), (Pr.mk o c v w p.l).Cells W A' ca' b (i * 9) ∧ p.Own P W A') := by
  unfold Pr.Own
  rw [Pr.fold_mk]
  constructor
  · intro h hn
    obtain ⟨b, hA, hP, hlt, hf, hk⟩ := h hn
    refine ⟨b, hA, hP, hlt, hf, fun i p hp => ?_⟩
    exact hk i p _ hp (by rw [List.getElem?_map, hp]; rfl)
  · intro h hn
    obtain ⟨b, hA, hP, hlt, hf, hk⟩ := h hn
    refine ⟨b, hA, hP, hlt, hf, fun i p f hp hf => ?_⟩
    rw [List.getElem?_map, hp] at hf
    simp only [Option.map_some, Option.some.injEq] at hf
    subst hf
    exact hk i p hp
/-- What keeps the blocks of which P holds, and adds others, leaves it so. -/
theorem Pr.Own.keep {P P' : Nat → Prop} {W w : World} (hP : ∀ b, P b → P' b) (hs : W.heap.size ≤ w.heap.size) (hb : ∀ b, P b → b < W.heap.size → w.heap[b]? = W.heap[b]?) : ∀ {p : Pr} {A : Option Addr}, p.Own P W A → p.Own P' w A := by
  have key : ∀ p : Pr, ∀ A, p.Own P W A → p.Own P' w A := by
    refine Pr.ind fun p ih A h => ?_
    obtain ⟨o, c, v, w', l⟩ := p
    rw [Pr.own_mk] at h ⊢
    intro hn
    obtain ⟨b, hA, hPb, hlt, hf, hk⟩ := h hn
    refine ⟨b, hA, hP b hPb, Nat.lt_of_lt_of_le hlt hs, fun j => (World.frozen?_of_block (a := ⟨b, j, none⟩) (hb b hPb hlt)).trans (hf j), fun i p hp => ?_⟩
    obtain ⟨o1, c1, v1, w1, A', ca', hc, ho⟩ := hk i p hp
    refine ⟨o1, c1, v1, w1, A', ca', ?_, ih p (List.mem_of_getElem? hp) _ ho⟩
    have e : ∀ j, w.cell? ⟨b, j, none⟩ = W.cell? ⟨b, j, none⟩ := fun j => World.cell?_of_block (a := ⟨b, j, none⟩) (hb b hPb hlt)
    obtain ⟨h0, h1, h2, h3, h4, h5, h6, h7, h8⟩ := hc
    exact ⟨(e _).trans h0, (e _).trans h1, (e _).trans h2, (e _).trans h3, (e _).trans h4, (e _).trans h5, (e _).trans h6, (e _).trans h7, (e _).trans h8⟩
  exact fun {p A} h => key p A h
theorem Pr.Own.below {P : Nat → Prop} {W w : World} (hb : Below W.heap.size W w) {p : Pr} {A : Option Addr} (h : p.Own P W A) : p.Own P w A := h.keep (fun _ h => h) hb.size (fun b _ hlt => hb.block b hlt)
theorem Pr.Own.mono {P P' : Nat → Prop} (hP : ∀ b, P b → P' b) {W : World} {p : Pr} {A : Option Addr} (h : p.Own P W A) : p.Own P' W A := h.keep hP (Nat.le_refl _) (fun _ _ _ => rfl)
/-- The blocks are there already. -/
theorem Pr.Own.there {P : Nat → Prop} {W : World} {p : Pr} {A : Option Addr} (h : p.Own P W A) : p.Own (fun b => P b ∧ b < W.heap.size) W A := by
  have key : ∀ p : Pr, ∀ A, p.Own P W A → p.Own (fun b => P b ∧ b < W.heap.size) W A := by
    refine Pr.ind fun p ih A h => ?_
    obtain ⟨o, c, v, w', l⟩ := p
    rw [Pr.own_mk] at h ⊢
    intro hn
    obtain ⟨b, hA, hPb, hlt, hf, hk⟩ := h hn
    refine ⟨b, hA, ⟨hPb, hlt⟩, hlt, hf, fun i p hp => ?_⟩
    obtain ⟨o1, c1, v1, w1, A', ca', hc, ho⟩ := hk i p hp
    exact ⟨o1, c1, v1, w1, A', ca', hc, ih p (List.mem_of_getElem? hp) _ ho⟩
  exact key p A h

/-- A part, and where its own parts lie. -/
structure PK where
  p : Pr
  A : Option Addr
  ca : Nat
def PK.cells (k : PK) : List Value := [.int .i64 k.p.op, .int .i64 k.p.col, .bool k.p.v.t, .int .i64 k.p.v.n, .string k.p.v.s, .bool k.p.w.t, .int .i64 k.p.w.n, .string k.p.w.s, .slice k.A k.p.l.length k.ca]
def pcells (K : List PK) : List Value := K.flatMap PK.cells
theorem pcells_cons (k : PK) (K : List PK) : pcells (k :: K) = k.cells ++ pcells K := rfl
theorem pcells_append (K K' : List PK) : pcells (K ++ K') = pcells K ++ pcells K' := by simp [pcells]
theorem PK.cells_length (k : PK) : k.cells.length = 9 := rfl
theorem pcells_length (K : List PK) : (pcells K).length = K.length * 9 := by
  induction K with
  | nil => rfl
  | cons k K ih => rw [pcells_cons, List.length_append, ih, PK.cells_length, List.length_cons]; omega
theorem pcells_one (K : List PK) : ∀ u ∈ pcells K, u.oneCell' = true := by
  intro u hu
  simp only [pcells, List.mem_flatMap] at hu
  obtain ⟨k, _, hk⟩ := hu
  simp [PK.cells] at hk
  rcases hk with rfl | rfl | rfl | rfl | rfl | rfl | rfl | rfl | rfl <;> rfl
theorem pcells_get : ∀ (K : List PK) (i : Nat) (k : PK), K[i]? = some k → ∀ j, j < 9 → (pcells K)[i * 9 + j]? = k.cells[j]?
  | [], i, k, h, _, _ => by simp at h
  | k' :: K, 0, k, h, j, hj => by
    simp at h; subst h
    rw [pcells_cons, Nat.zero_mul, Nat.zero_add, List.getElem?_append_left (by rw [PK.cells_length]; exact hj)]
  | k' :: K, i + 1, k, h, j, hj => by
    rw [pcells_cons, List.getElem?_append_right (by rw [PK.cells_length]; omega), PK.cells_length]
    rw [show (i + 1) * 9 + j - 9 = i * 9 + j by omega]
    exact pcells_get K i k (by simpa using h) j hj
theorem pcells_at (K : List PK) (j : Nat) (c : Value) (h : (pcells K)[j]? = some c) : ∃ k, K[j / 9]? = some k ∧ k.cells[j % 9]? = some c := by
  have hj : j < (pcells K).length := (List.getElem?_eq_some_iff.1 h).1
  rw [pcells_length] at hj
  have hi : j / 9 < K.length := by omega
  have hk : K[j / 9]? = some K[j / 9] := List.getElem?_eq_getElem hi
  refine ⟨_, hk, ?_⟩
  have := pcells_get K _ _ hk (j % 9) (Nat.mod_lt _ (by omega))
  rw [show j / 9 * 9 + j % 9 = j by omega, h] at this
  exact this.symm
theorem paddr_add (b o j : Nat) : (⟨b, o, none⟩ : Addr).add j = ⟨b, o + j, none⟩ := by
  unfold Addr.add
  split
  · rename_i h; subst h; rfl
  · rfl
/-- Parts lie behind an address, one behind the other. -/
def PKs (W : World) (b o : Nat) (K : List PK) : Prop := ∀ (i : Nat) (k : PK), K[i]? = some k → k.p.Cells W k.A k.ca b (o + i * 9)
theorem PKs.news {W : World} {b o : Nat} {K : List PK} (h : PKs W b o K) : ∀ j c, (pcells K)[j]? = some c → W.cell? ((⟨b, o, none⟩ : Addr).add j) = some c := by
  intro j c hj
  obtain ⟨k, hk, hc⟩ := pcells_at K j c hj
  obtain ⟨h0, h1, h2, h3, h4, h5, h6, h7, h8⟩ := h _ _ hk
  rw [paddr_add]
  have hm := Nat.mod_lt j (by omega : 0 < 9)
  have hj9 : o + j = o + j / 9 * 9 + j % 9 := by omega
  rw [hj9]
  generalize o + j / 9 * 9 = q at *
  generalize j % 9 = m at *
  match m, hm, hc with
  | 0, _, hc | 1, _, hc | 2, _, hc | 3, _, hc | 4, _, hc | 5, _, hc | 6, _, hc | 7, _, hc | 8, _, hc => simp [PK.cells] at hc; subst hc; assumption
/-- The parts with their own places, out of a predicate that lies in memory. -/
theorem Pr.At.ks {W : World} {o c : Int} {v w : Val} {l : List Pr} {A : Option Addr} {ca : Nat} (h : (Pr.mk o c v w l).At W A ca) : ∃ K : List PK, K.map PK.p = l ∧ (∀ k ∈ K, k.p.At W k.A k.ca) ∧ (l ≠ [] → ∃ b off, A = some ⟨b, off, none⟩ ∧ PKs W b off K) := by
  rw [Pr.at_mk] at h
  by_cases hn : l = []
  · subst hn; exact ⟨[], rfl, fun k hk => by simp at hk, fun h => absurd rfl h⟩
  · obtain ⟨b, off, hA, hk⟩ := h.2 hn
    have key : ∀ (l' : List Pr) (s : Nat), (∀ (i : Nat) (p : Pr), l'[i]? = some p → ∃ A' ca', p.Cells W A' ca' b (off + (s + i) * 9) ∧ p.At W A' ca') →
        ∃ K : List PK, K.map PK.p = l' ∧ (∀ k ∈ K, k.p.At W k.A k.ca) ∧ ∀ (i : Nat) (k : PK), K[i]? = some k → k.p.Cells W k.A k.ca b (off + (s + i) * 9) := by
      intro l'
      induction l' with
      | nil => intro s _; exact ⟨[], rfl, fun k hk => by simp at hk, fun i k hk => by simp at hk⟩
      | cons p l' ih =>
        intro s hs
        obtain ⟨A', ca', h1, h2⟩ := hs 0 p rfl
        obtain ⟨K, e, ha, hc⟩ := ih (s + 1) (fun i q hq => by
          have := hs (i + 1) q (by simpa using hq)
          rw [show s + (i + 1) = s + 1 + i by omega] at this
          exact this)
        refine ⟨⟨p, A', ca'⟩ :: K, by simp [e], fun k hk => ?_, fun i k hk => ?_⟩
        · rcases List.mem_cons.1 hk with rfl | hk
          · exact h2
          · exact ha k hk
        · cases i with
          | zero => simp at hk; subst hk; exact h1
          | succ i =>
            have := hc i k (by simpa using hk)
            rw [show s + 1 + i = s + (i + 1) by omega] at this
            exact this
    obtain ⟨K, e, ha, hc⟩ := key l 0 (fun i p hp => by rw [Nat.zero_add]; exact hk i p hp)
    exact ⟨K, e, ha, fun _ => ⟨b, off, hA, fun i k hk => by have := hc i k hk; rw [Nat.zero_add] at this; exact this⟩⟩

/-- Cells stored one behind the other. -/
def puts (w : World) (g : Nat) : Nat → List Value → World
  | _, [] => w
  | o, v :: l => puts (w.setCell ⟨g, o, none⟩ v) g (o + 1) l
theorem puts_size (w : World) (g : Nat) (o : Nat) (l : List Value) : (puts w g o l).heap.size = w.heap.size := by
  induction l generalizing w o with
  | nil => rfl
  | cons v l ih => rw [puts, ih]; simp [World.setCell]
theorem puts_frozen (w : World) (g : Nat) (o : Nat) (l : List Value) (a : Addr) : (puts w g o l).frozen? a = w.frozen? a := by
  induction l generalizing w o with
  | nil => rfl
  | cons v l ih => rw [puts, ih, World.frozen?_setCell]
theorem puts_other (w : World) (g : Nat) (l : List Value) : ∀ (o : Nat) (a : Addr), (∀ j, j < l.length → a ≠ ⟨g, o + j, none⟩) → (puts w g o l).cell? a = w.cell? a := by
  induction l generalizing w with
  | nil => intro o a _; rfl
  | cons v l ih =>
    intro o a h
    rw [puts, ih _ _ _ (fun j hj => by
      have := h (j + 1) (by simp; omega)
      rw [show o + (j + 1) = o + 1 + j by omega] at this
      exact this)]
    exact World.cell?_setCell_other _ _ _ _ (h 0 (by simp)).symm
theorem puts_same (w : World) (g : Nat) (l : List Value) : ∀ (o : Nat), (∀ j, j < l.length → ∃ u, w.cell? ⟨g, o + j, none⟩ = some u) → ∀ j v, l[j]? = some v → (puts w g o l).cell? ⟨g, o + j, none⟩ = some v := by
  induction l generalizing w with
  | nil => intro o _ j v h; simp at h
  | cons x l ih =>
    intro o hu j v h
    have off : ∀ {a b : Nat}, a ≠ b → (⟨g, a, none⟩ : Addr) ≠ ⟨g, b, none⟩ := fun hne e => hne (by injection e)
    rw [puts]
    cases j with
    | zero =>
      simp at h; subst h
      obtain ⟨u, hu0⟩ := hu 0 (by simp)
      rw [puts_other _ _ _ _ _ (fun j _ => off (by omega))]
      exact World.cell?_setCell_same _ _ _ hu0
    | succ j =>
      rw [show o + (j + 1) = o + 1 + j by omega]
      refine ih _ (o + 1) (fun j hj => ?_) j v (by simpa using h)
      obtain ⟨u, hu1⟩ := hu (j + 1) (by simp; omega)
      rw [show o + (j + 1) = o + 1 + j by omega] at hu1
      exact ⟨u, by rw [World.cell?_setCell_other _ _ _ _ (off (by omega))]; exact hu1⟩
theorem puts_block (w : World) (g : Nat) (o : Nat) (l : List Value) (b : Nat) (hb : b ≠ g) : (puts w g o l).heap[b]? = w.heap[b]? := by
  induction l generalizing w o with
  | nil => rfl
  | cons v l ih => rw [puts, ih]; exact Below.heap_setCell w _ v b hb
theorem puts_below {B : Nat} {w0 w : World} (h : Below B w0 w) {g : Nat} (hg : B ≤ g) (o : Nat) (l : List Value) : Below B w0 (puts w g o l) := by
  induction l generalizing w o with
  | nil => exact h
  | cons v l ih => rw [puts]; exact ih (h.setCell hg _) _

/-- Block g holds parts, may be written, and is there. -/
structure OwnP (w : World) (g : Nat) (K : List PK) : Prop where
  lt : g < w.heap.size
  free : ∀ j, w.frozen? ⟨g, j, none⟩ = false
  cell : PKs w g 0 K
theorem OwnP.below {w w' : World} {g : Nat} {K : List PK} (h : OwnP w g K) (hb : Below w.heap.size w w') : OwnP w' g K :=
  ⟨Nat.lt_of_lt_of_le h.lt hb.size, fun j => (hb.frozen h.lt).trans (h.free j), fun i k hk => (h.cell i k hk).below hb⟩
theorem OwnP.set {w : World} {g : Nat} {K : List PK} (h : OwnP w g K) {i : Nat} (hi : i < K.length) (k : PK) : OwnP (puts w g (i * 9) k.cells) g (K.set i k) := by
  refine ⟨by rw [puts_size]; exact h.lt, fun j => by rw [puts_frozen]; exact h.free j, fun i' k' hk' => ?_⟩
  have off : ∀ {a b : Nat}, a ≠ b → (⟨g, a, none⟩ : Addr) ≠ ⟨g, b, none⟩ := fun hne e => hne (by injection e)
  rw [Nat.zero_add]
  by_cases he : i = i'
  · subst he
    rw [List.getElem?_set_self hi] at hk'
    injection hk' with hk'; subst hk'
    obtain ⟨h0, h1, h2, h3, h4, h5, h6, h7, h8⟩ := h.cell i K[i] (List.getElem?_eq_getElem hi)
    rw [Nat.zero_add] at h0 h1 h2 h3 h4 h5 h6 h7 h8
    have key := puts_same w g k.cells (i * 9) (fun j hj => by
      rw [PK.cells_length] at hj
      match j, hj with
      | 0, _ => exact ⟨_, h0⟩
      | 1, _ => exact ⟨_, h1⟩
      | 2, _ => exact ⟨_, h2⟩
      | 3, _ => exact ⟨_, h3⟩
      | 4, _ => exact ⟨_, h4⟩
      | 5, _ => exact ⟨_, h5⟩
      | 6, _ => exact ⟨_, h6⟩
      | 7, _ => exact ⟨_, h7⟩
      | 8, _ => exact ⟨_, h8⟩)
    exact ⟨key 0 _ rfl, key 1 _ rfl, key 2 _ rfl, key 3 _ rfl, key 4 _ rfl, key 5 _ rfl, key 6 _ rfl, key 7 _ rfl, key 8 _ rfl⟩
  · rw [List.getElem?_set_ne he] at hk'
    have hc := h.cell i' k' hk'
    rw [Nat.zero_add] at hc
    obtain ⟨h0, h1, h2, h3, h4, h5, h6, h7, h8⟩ := hc
    have e : ∀ m, m < 9 → (puts w g (i * 9) k.cells).cell? ⟨g, i' * 9 + m, none⟩ = w.cell? ⟨g, i' * 9 + m, none⟩ := fun m hm => puts_other _ _ _ _ _ (fun j hj => off (by rw [PK.cells_length] at hj; omega))
    exact ⟨(e 0 (by omega)).trans h0, (e 1 (by omega)).trans h1, (e 2 (by omega)).trans h2, (e 3 (by omega)).trans h3, (e 4 (by omega)).trans h4, (e 5 (by omega)).trans h5, (e 6 (by omega)).trans h6, (e 7 (by omega)).trans h7, (e 8 (by omega)).trans h8⟩
theorem OwnP.at_ {w : World} {g : Nat} {K : List PK} (h : OwnP w g K) {l : List Pr} (hl : K.map PK.p = l) (ha : ∀ k ∈ K, k.p.At w k.A k.ca) (o c : Int) (v w' : Val) (ca : Nat) (hca : l.length ≤ ca) : (Pr.mk o c v w' l).At w (some ⟨g, 0, none⟩) ca := by
  rw [Pr.at_mk]
  refine ⟨⟨fun e => (by cases e), hca⟩, fun _ => ⟨g, 0, rfl, fun i p hp => ?_⟩⟩
  rw [← hl, List.getElem?_map] at hp
  obtain ⟨k, hk, rfl⟩ := Option.map_eq_some_iff.1 hp
  exact ⟨k.A, k.ca, h.cell i k hk, ha k (List.mem_of_getElem? hk)⟩
theorem OwnP.own {P : Nat → Prop} {w : World} {g : Nat} {K : List PK} (h : OwnP w g K) {l : List Pr} (hl : K.map PK.p = l) (hg : P g) (ha : ∀ k ∈ K, k.p.Own P w k.A) (o c : Int) (v w' : Val) : (Pr.mk o c v w' l).Own P w (some ⟨g, 0, none⟩) := by
  rw [Pr.own_mk]
  refine fun _ => ⟨g, rfl, hg, h.lt, h.free, fun i p hp => ?_⟩
  rw [← hl, List.getElem?_map] at hp
  obtain ⟨k, hk, rfl⟩ := Option.map_eq_some_iff.1 hp
  have hc := h.cell i k hk
  rw [Nat.zero_add] at hc
  exact ⟨k.p.op, k.p.col, k.p.v, k.p.w, k.A, k.ca, hc, ha k (List.mem_of_getElem? hk)⟩
/-- A predicate in a block of its own. -/
theorem OwnP.one {w : World} {t : TypeId} (k : PK) {n : Nat} (hn : n = w.heap.size) : OwnP (w.alloc (.cells #[.int .i64 k.p.op, .int .i64 k.p.col, .bool k.p.v.t, .int .i64 k.p.v.n, .string k.p.v.s, .bool k.p.w.t, .int .i64 k.p.w.n, .string k.p.w.s, .slice k.A k.p.l.length k.ca] t)) n [k] := by
  subst hn
  refine ⟨by simp, fun j => by simp, fun i k' hk' => ?_⟩
  cases i with
  | zero =>
    simp at hk'; subst hk'
    exact ⟨by rw [cell_new rfl]; rfl, by rw [cell_new rfl]; rfl, by rw [cell_new rfl]; rfl, by rw [cell_new rfl]; rfl, by rw [cell_new rfl]; rfl, by rw [cell_new rfl]; rfl, by rw [cell_new rfl]; rfl, by rw [cell_new rfl]; rfl, by rw [cell_new rfl]; rfl⟩
  | succ i => simp at hk'
theorem OwnP.first {w : World} {g : Nat} {k : PK} (h : OwnP w g [k]) : k.p.Cells w k.A k.ca g 0 := h.cell 0 k rfl
theorem OwnP.setSlice {w : World} {g : Nat} {k : PK} (h : OwnP w g [k]) (A' : Option Addr) (ca' : Nat) : OwnP (w.setCell ⟨g, 8, none⟩ (.slice A' k.p.l.length ca')) g [⟨k.p, A', ca'⟩] := by
  have off : ∀ {a b : Nat}, a ≠ b → (⟨g, a, none⟩ : Addr) ≠ ⟨g, b, none⟩ := fun hne e => hne (by injection e)
  obtain ⟨h0, h1, h2, h3, h4, h5, h6, h7, h8⟩ := h.first
  refine ⟨by have := h.lt; simpa [World.setCell] using this, fun j => by rw [World.frozen?_setCell]; exact h.free j, fun i k' hk' => ?_⟩
  cases i with
  | zero =>
    simp at hk'; subst hk'
    have e : ∀ m, m ≠ 8 → (w.setCell ⟨g, 8, none⟩ (.slice A' k.p.l.length ca')).cell? ⟨g, m, none⟩ = w.cell? ⟨g, m, none⟩ := fun m hm => World.cell?_setCell_other _ _ _ _ (off (by omega))
    exact ⟨(e 0 (by omega)).trans h0, (e 1 (by omega)).trans h1, (e 2 (by omega)).trans h2, (e 3 (by omega)).trans h3, (e 4 (by omega)).trans h4, (e 5 (by omega)).trans h5, (e 6 (by omega)).trans h6, (e 7 (by omega)).trans h7, World.cell?_setCell_same _ _ _ h8⟩
  | succ i => simp at hk'
theorem OwnP.other {w w' : World} {g : Nat} {K : List PK} (h : OwnP w g K) (hs : w.heap.size ≤ w'.heap.size) (hb : w'.heap[g]? = w.heap[g]?) : OwnP w' g K := by
  have e : ∀ j, w'.cell? ⟨g, j, none⟩ = w.cell? ⟨g, j, none⟩ := fun j => World.cell?_of_block (a := ⟨g, j, none⟩) hb
  refine ⟨Nat.lt_of_lt_of_le h.lt hs, fun j => (World.frozen?_of_block (a := ⟨g, j, none⟩) hb).trans (h.free j), fun i k hk => ?_⟩
  obtain ⟨h0, h1, h2, h3, h4, h5, h6, h7, h8⟩ := h.cell i k hk
  exact ⟨(e _).trans h0, (e _).trans h1, (e _).trans h2, (e _).trans h3, (e _).trans h4, (e _).trans h5, (e _).trans h6, (e _).trans h7, (e _).trans h8⟩
/-- What keeps the blocks in which the parts lie keeps them as they read. -/
theorem Pr.At.keep {P : Nat → Prop} {W w : World} (hb : ∀ b, P b → b < W.heap.size → w.heap[b]? = W.heap[b]?) : ∀ {p : Pr} {A : Option Addr} {ca : Nat}, p.At W A ca → p.Own P W A → p.At w A ca := by
  have key : ∀ p : Pr, ∀ A ca, p.At W A ca → p.Own P W A → p.At w A ca := by
    refine Pr.ind fun p ih A ca h ho => ?_
    obtain ⟨o, c, v, w', l⟩ := p
    rw [Pr.at_mk] at h ⊢
    rw [Pr.own_mk] at ho
    refine ⟨h.1, fun hn => ?_⟩
    obtain ⟨b, off, hA, hk⟩ := h.2 hn
    obtain ⟨b2, hA2, hPb, hlt, hf, hk2⟩ := ho hn
    rw [hA] at hA2
    simp only [Option.some.injEq, Addr.mk.injEq] at hA2
    obtain ⟨rfl, rfl, _⟩ := hA2
    have e : ∀ j, w.cell? ⟨b, j, none⟩ = W.cell? ⟨b, j, none⟩ := fun j => World.cell?_of_block (a := ⟨b, j, none⟩) (hb b hPb hlt)
    refine ⟨b, 0, hA, fun i p hp => ?_⟩
    obtain ⟨A', ca', hc, hat⟩ := hk i p hp
    obtain ⟨o1, c1, v1, w1, A1, ca1, hc1, ho1⟩ := hk2 i p hp
    obtain ⟨h0, h1, h2, h3, h4, h5, h6, h7, h8⟩ := hc
    have e8 := hc1.2.2.2.2.2.2.2.2
    rw [Nat.zero_add] at h8
    rw [h8] at e8
    have : A' = A1 := by injection e8 with e8; injection e8
    subst this
    refine ⟨A', ca', ⟨(e _).trans h0, (e _).trans h1, (e _).trans h2, (e _).trans h3, (e _).trans h4, (e _).trans h5, (e _).trans h6, (e _).trans h7, (e _).trans (by rw [Nat.zero_add]; exact h8)⟩, ih p (List.mem_of_getElem? hp) _ _ hat ho1⟩
  exact fun {p A ca} h ho => key p A ca h ho
end Go.Proofs.YtghpildnajdlpaaDoor
