/-
  A predicate of one's own by hand, walked: the statement's twin hands back the same parts in new memory. Conditions: the predicate lies in memory as it reads; at most a billion parts.
-/
import Derived.Test.YtghpildnajdlpaaDoorPrClone09
import Derived.Deep.AppendLies
namespace Go.Proofs.YtghpildnajdlpaaDoor
open Go.RowKit

theorem row_below {base : Nat} {t : TypeId} {size : Nat} {v : Value} {n : Nat} {xs : List Value} {w w' : World} (h : w.ownsRow base t size v n xs) (hb : Below w.heap.size w w') : w'.ownsRow base t size v n xs :=
  h.kept (row := none) ⟨hb.os, hb.tape, hb.output, hb.size, fun k hk _ => hb.block k hk⟩ (Classical.em _)
theorem row_set {base : Nat} {t : TypeId} {size : Nat} {v : Value} {n : Nat} {xs : List Value} {w : World} (h : w.ownsRow base t size v n xs) {a : Addr} (ha : a.block < base) (u : Value) : (w.setCell a u).ownsRow base t size v n xs :=
  h.kept (row := some a.block) ⟨rfl, rfl, rfl, by simp [World.setCell], fun k _ hk => Below.heap_setCell w _ _ k (fun e => hk (by rw [e]))⟩ (.inr fun e => by have := (h.lt _ e).1; omega)
theorem OwnP.setKids {w : World} {g : Nat} {o c : Int} {v u : Val} {l : List Pr} {A : Option Addr} {ca : Nat} (h : OwnP w g [⟨.mk o c v u l, A, ca⟩]) (l' : List Pr) (A' : Option Addr) (n ca' : Nat) (hn : n = l'.length) : OwnP (w.setCell ⟨g, 8, none⟩ (.slice A' n ca')) g [⟨.mk o c v u l', A', ca'⟩] := by
  subst hn
  have off : ∀ {a b : Nat}, a ≠ b → (⟨g, a, none⟩ : Addr) ≠ ⟨g, b, none⟩ := fun hne e => hne (by injection e)
  obtain ⟨h0, h1, h2, h3, h4, h5, h6, h7, h8⟩ := h.first
  refine ⟨by have := h.lt; simpa [World.setCell] using this, fun j => by rw [World.frozen?_setCell]; exact h.free j, fun i k' hk' => ?_⟩
  cases i with
  | zero =>
    simp at hk'; subst hk'
    have e : ∀ m, m ≠ 8 → (w.setCell ⟨g, 8, none⟩ (.slice A' l'.length ca')).cell? ⟨g, m, none⟩ = w.cell? ⟨g, m, none⟩ := fun m hm => World.cell?_setCell_other _ _ _ _ (off (by omega))
    exact ⟨(e 0 (by omega)).trans h0, (e 1 (by omega)).trans h1, (e 2 (by omega)).trans h2, (e 3 (by omega)).trans h3, (e 4 (by omega)).trans h4, (e 5 (by omega)).trans h5, (e 6 (by omega)).trans h6, (e 7 (by omega)).trans h7, World.cell?_setCell_same _ _ _ h8⟩
  | succ i => simp at hk'

/-- What the loop keeps: k parts laid in a row of one's own. -/
structure TwinInv (W : World) (o c : Int) (v u : Val) (l : List Pr) (k : Nat) (K : List PK) (A2 : Option Addr) (ca2 : Nat) (wr : World) : Prop where
  below : Below W.heap.size W wr
  map : K.map PK.p = l.take k
  box : OwnP wr W.heap.size [⟨.mk o c v u (l.take k), A2, ca2⟩]
  res : OwnP wr (W.heap.size + 1) [⟨.mk 0 0 ⟨false, 0, ⟨#[]⟩⟩ ⟨false, 0, ⟨#[]⟩⟩ [], none, 0⟩]
  row : wr.ownsRow (W.heap.size + 2) 29 9 (.slice A2 k ca2) k (pcells K)
  kids : ∀ x ∈ K, x.p.At wr x.A x.ca ∧ x.p.Own (fun b => W.heap.size + 2 ≤ b ∧ (Value.slice A2 k ca2).ownBlock ≠ some b) wr x.A

theorem TwinInv.step {W : World} {o c : Int} {v u : Val} {l : List Pr} {k : Nat} {K : List PK} {A2 : Option Addr} {ca2 : Nat} {wr : World} (h : TwinInv W o c v u l k K A2 ca2 wr) {x : Pr} (hx : l[k]? = some x) {w4 w5 : World} (hb4 : Below wr.heap.size wr w4) {A4 : Option Addr} {ca4 : Nat} (hat : x.At w4 A4 ca4) (hown : x.Own (fun b => wr.heap.size ≤ b) w4 A4) {ob : Obj}
    {g cap : Nat} (hrow5 : w5.ownsRow (W.heap.size + 2) 29 9 (.slice (some ⟨g, 0, none⟩) (k + 1) cap) (k + 1) (pcells K ++ PK.cells ⟨x, A4, ca4⟩)) (hgrow : (w4.alloc ob).grownBy w5 (Value.slice A2 k ca2).ownBlock) (hat5 : (Value.slice A2 k ca2).ownBlock = some g ∨ g = (w4.alloc ob).heap.size) :
    TwinInv W o c v u l (k + 1) (K ++ [⟨x, A4, ca4⟩]) (some ⟨g, 0, none⟩) cap (w5.setCell ⟨W.heap.size, 8, none⟩ (.slice (some ⟨g, 0, none⟩) (k + 1) cap)) := by
  have hH : (w4.alloc ob).heap.size = w4.heap.size + 1 := by simp
  have hl1 := h.res.lt
  have hs4 := hb4.size
  have hs5 := hgrow.size
  have hbase : ∀ b, (Value.slice A2 k ca2).ownBlock = some b → W.heap.size + 2 ≤ b ∧ b < wr.heap.size := h.row.lt
  have hgb : W.heap.size + 2 ≤ g := by
    rcases hat5 with e | e
    · exact (hbase g e).1
    · omega
  have e5 : ∀ b, b < w4.heap.size → (Value.slice A2 k ca2).ownBlock ≠ some b → w5.heap[b]? = w4.heap[b]? := fun b hb hne => (hgrow.block b (by omega) (fun e => hne e.symm)).trans ((below_alloc ob).block b hb)
  have e6 : ∀ b, b ≠ W.heap.size → (w5.setCell ⟨W.heap.size, 8, none⟩ (.slice (some ⟨g, 0, none⟩) (k + 1) cap)).heap[b]? = w5.heap[b]? := fun b hb => Below.heap_setCell w5 _ _ b hb
  have z6 : (w5.setCell ⟨W.heap.size, 8, none⟩ (.slice (some ⟨g, 0, none⟩) (k + 1) cap)).heap.size = w5.heap.size := by simp [World.setCell]
  have nob : ∀ b, b < W.heap.size + 2 → (Value.slice A2 k ca2).ownBlock ≠ some b := fun b hb e => by have := (hbase b e).1; omega
  have htk : l.take (k + 1) = l.take k ++ [x] := by rw [List.take_add_one, hx]; rfl
  have hkl : k < l.length := (List.getElem?_eq_some_iff.1 hx).1
  refine ⟨⟨?_, ?_, ?_, ?_, ?_⟩, ?_, ?_, ?_, ?_, ?_⟩
  · exact hgrow.os.trans (hb4.os.trans h.below.os)
  · exact hgrow.tape.trans (hb4.tape.trans h.below.tape)
  · exact hgrow.output.trans (hb4.output.trans h.below.output)
  · rw [z6]; have := h.below.size; omega
  · intro b hb
    rw [e6 b (by omega), e5 b (by omega) (nob b (by omega)), hb4.block b (by omega)]
    exact h.below.block b hb
  · rw [List.map_append, h.map, htk]; rfl
  · refine OwnP.setKids ((h.box.below hb4).other (by omega) (e5 _ (by omega) (nob _ (by omega)))) (l.take (k + 1)) _ _ _ ?_
    rw [List.length_take]; omega
  · have h5 := (h.res.below hb4).other (w' := w5) (by omega) (e5 _ (by omega) (nob _ (by omega)))
    exact h5.other (by rw [z6]; exact Nat.le_refl _) (e6 _ (by omega))
  · have : pcells (K ++ [⟨x, A4, ca4⟩]) = pcells K ++ PK.cells ⟨x, A4, ca4⟩ := by rw [pcells_append, pcells_cons]; simp [pcells]
    rw [this]
    exact row_set hrow5 (by show W.heap.size < W.heap.size + 2; omega) _
  · intro y hy
    rcases List.mem_append.1 hy with hy | hy
    · obtain ⟨h1, h2⟩ := h.kids y hy
      have h3 := h2.there
      have hk6 : ∀ b, (W.heap.size + 2 ≤ b ∧ (Value.slice A2 k ca2).ownBlock ≠ some b) ∧ b < wr.heap.size → b < wr.heap.size → (w5.setCell ⟨W.heap.size, 8, none⟩ (.slice (some ⟨g, 0, none⟩) (k + 1) cap)).heap[b]? = wr.heap[b]? := fun b hb hlt => by
        rw [e6 b (by omega), e5 b (by omega) hb.1.2, hb4.block b hlt]
      refine ⟨h1.keep hk6 h3, h3.keep (fun b hb => ⟨hb.1.1, fun e => ?_⟩) (by rw [z6]; omega) hk6⟩
      have e' : g = b := by injection e
      rcases hat5 with e2 | e2
      · exact hb.1.2 (by rw [e2, e'])
      · omega
    · rw [List.mem_singleton] at hy; subst hy
      have h3 := hown.there
      have hk6 : ∀ b, wr.heap.size ≤ b ∧ b < w4.heap.size → b < w4.heap.size → (w5.setCell ⟨W.heap.size, 8, none⟩ (.slice (some ⟨g, 0, none⟩) (k + 1) cap)).heap[b]? = w4.heap[b]? := fun b hb hlt => by
        rw [e6 b (by omega), e5 b hlt (fun e => by have := (hbase b e).2; omega)]
      refine ⟨hat.keep hk6 h3, h3.keep (fun b hb => ⟨by omega, fun e => ?_⟩) (by rw [z6]; omega) hk6⟩
      have e' : g = b := by injection e
      rcases hat5 with e2 | e2
      · have := (hbase g e2).2; omega
      · omega

theorem TwinInv.end_ {W : World} {o c : Int} {v u : Val} {l : List Pr} {K : List PK} {A2 : Option Addr} {ca2 : Nat} {wr w6 : World} (h : TwinInv W o c v u l l.length K A2 ca2 wr) (hw : wr.heap.size ≤ w6.heap.size) (hb : ∀ b, b ≠ W.heap.size + 1 → w6.heap[b]? = wr.heap[b]?) :
    (Pr.mk o c v u l).At w6 A2 ca2 ∧ (Pr.mk o c v u l).Own (fun b => W.heap.size ≤ b) w6 A2 := by
  have hmap := h.map
  rw [List.take_length] at hmap
  have hlen : K.length = l.length := by rw [← hmap, List.length_map]
  rcases h.row.2 with ⟨e, hz⟩ | ⟨g, cap, cur, e, hbg, hg, hnc, _⟩
  · have hl0 := List.eq_nil_of_length_eq_zero hz
    injection e with e1 e2 e3
    exact ⟨Pr.at_mk.2 ⟨⟨fun _ => e3, by rw [hl0]; exact Nat.zero_le _⟩, fun hn => absurd hl0 hn⟩, Pr.own_mk.2 fun hn => absurd hl0 hn⟩
  · injection e with e1 e2 e3
    subst e1
    have hrow := h.row
    have ho : OwnP wr g K := by
      refine ⟨(Array.getElem?_eq_some_iff.1 hg).1, fun j => hrow.frozenAt j, fun i k hk => ?_⟩
      have hi := (List.getElem?_eq_some_iff.1 hk).1
      rw [Nat.zero_add]
      have e : ∀ m, m < 9 → wr.cell? ⟨g, i * 9 + m, none⟩ = k.cells[m]? := fun m hm => by rw [hrow.cellAt _ (by omega)]; exact pcells_get K i k hk m hm
      exact ⟨e 0 (by omega), e 1 (by omega), e 2 (by omega), e 3 (by omega), e 4 (by omega), e 5 (by omega), e 6 (by omega), e 7 (by omega), e 8 (by omega)⟩
    have ho6 := ho.other hw (hb g (by omega))
    have hkids : ∀ x ∈ K, x.p.At w6 x.A x.ca ∧ x.p.Own (fun b => W.heap.size ≤ b) w6 x.A := fun x hx => by
      obtain ⟨h1, h2⟩ := h.kids x hx
      have hk : ∀ b, (W.heap.size + 2 ≤ b ∧ (Value.slice (some ⟨g, 0, none⟩) l.length ca2).ownBlock ≠ some b) → b < wr.heap.size → w6.heap[b]? = wr.heap[b]? := fun b h _ => hb b (by omega)
      exact ⟨h1.keep hk h2, h2.keep (fun b h => by omega) hw hk⟩
    exact ⟨ho6.at_ hmap (fun x hx => (hkids x hx).1) o c v u ca2 (by omega), ho6.own hmap (by show W.heap.size ≤ g; omega) (fun x hx => (hkids x hx).2) o c v u⟩

set_option maxHeartbeats 4000000 in
theorem twin_all : ∀ p : Pr, p.size ≤ 1000000000 → ∀ (W : World) (A : Option Addr) (ca : Nat), p.At W A ca → Calls Tryd.prog 53 #[p.arg A ca] W (PCloned W p) := by
  refine Pr.ind fun p ih hsz W A ca hat => ?_
  obtain ⟨o, c, v, w, l⟩ := p
  have IH := Lib.hid (show ∀ q ∈ l, ∀ (W : World) (A : Option Addr) (ca : Nat), q.At W A ca → Calls Tryd.prog 53 #[q.arg A ca] W (PCloned W q) from fun q hq => ih q hq (by have := Pr.size_kid (p := .mk o c v w l) hq; omega))
  have hlen : l.length ≤ 1000000000 := by have h1 := Pr.len_le l; have h2 := Pr.size_mk o c v w l; omega
  obtain ⟨i0, hi, hz0, hz1, hz2⟩ := info_parts info_pr
  clear ih
  show Calls Tryd.prog 53 #[.agg #[.int .i64 o, .int .i64 c, .bool v.t, .int .i64 v.n, .string v.s, .bool w.t, .int .i64 w.n, .string w.s, .slice A l.length ca]] W _
  go_enter Tryd.func53, Tryd.ntmps53
  go_wp2_with fail
  refine wp_here fun w3 hw3 => ?_
  have hinv : TwinInv W o c v w l 0 [] none 0 w3 := by
    have hbox1 : OwnP ((W.alloc (.cells #[.int .i64 o, .int .i64 c, .bool v.t, .int .i64 v.n, .string v.s, .bool w.t, .int .i64 w.n, .string w.s, .slice none 0 0] 29)).alloc (.cells #[.int .i64 0, .int .i64 0, .bool false, .int .i64 0, .string ⟨#[]⟩, .bool false, .int .i64 0, .string ⟨#[]⟩, .slice none 0 0] 29)) W.heap.size [⟨.mk o c v w [], none, 0⟩] := (OwnP.one (w := W) (t := 29) ⟨.mk o c v w [], none, 0⟩ rfl).below (below_alloc _)
    have hres1 : OwnP ((W.alloc (.cells #[.int .i64 o, .int .i64 c, .bool v.t, .int .i64 v.n, .string v.s, .bool w.t, .int .i64 w.n, .string w.s, .slice none 0 0] 29)).alloc (.cells #[.int .i64 0, .int .i64 0, .bool false, .int .i64 0, .string ⟨#[]⟩, .bool false, .int .i64 0, .string ⟨#[]⟩, .slice none 0 0] 29)) (W.heap.size + 1) [⟨.mk 0 0 ⟨false, 0, ⟨#[]⟩⟩ ⟨false, 0, ⟨#[]⟩⟩ [], none, 0⟩] := OwnP.one (t := 29) ⟨.mk 0 0 ⟨false, 0, ⟨#[]⟩⟩ ⟨false, 0, ⟨#[]⟩⟩ [], none, 0⟩ (by simp)
    rw [hw3]
    exact ⟨below_then (below_alloc _) (below_alloc _), rfl, hbox1, hres1, World.ownsRow_nil _ _ _ _, fun x hx => by simp at hx⟩
  clear hw3
  have hn : A = none → ca = 0 := (Pr.at_mk.1 hat).1.1
  have HAT := Lib.hid hat
  clear hat
  go_loopw [4] (fun i wr => ∃ (k : Nat) (K : List PK) (A2 : Option Addr) (ca2 : Nat), i = .int .i64 k ∧ k ≤ l.length ∧ TwinInv W o c v w l k K A2 ca2 wr) (fun i _ => l.length - (intOf i).toNat)
  case atStart => exact ⟨0, [], none, 0, rfl, by omega, hinv⟩
  case round =>
    rename_i wr
    obtain ⟨k, K, A2, ca2, rfl, hk, hin⟩ := hrel
    have HIN := Lib.hid hin
    have hb8 : wr.cell? ⟨W.heap.size, 8, none⟩ = some (.slice A2 k ca2) := by
      have := hin.box.first.2.2.2.2.2.2.2.2
      simp only [Nat.zero_add] at this
      rw [this]
      show some (Value.slice A2 (l.take k).length ca2) = _
      rw [List.length_take, Nat.min_eq_left hk]
    by_cases hlt : k < l.length
    · obtain ⟨x, hx⟩ : ∃ x, l[k]? = some x := ⟨_, List.getElem?_eq_getElem hlt⟩
      have hxl : x ∈ l := List.mem_of_getElem? hx
      obtain ⟨b, off, hA, hkids⟩ := (Pr.at_mk.1 HAT.out).2 (fun e => by subst e; simp at hlt)
      obtain ⟨A', ca', hc, hxat0⟩ := hkids k x hx
      have hxat := hxat0.below hin.below
      obtain ⟨c0, c1, c2, c3, c4, c5, c6, c7, c8⟩ := hc.below hin.below
      subst hA
      have hrow := hin.row
      have hbl : W.heap.size + 1 < wr.heap.size := hin.res.lt
      have hbf := hin.box.free
      have HX := Lib.hid hx
      have hob : ∀ b, (Value.slice A2 k ca2).ownBlock = some b → W.heap.size + 2 ≤ b := fun b e => (hrow.lt b e).1
      have hnb : some W.heap.size ≠ (Value.slice A2 k ca2).ownBlock := fun e => by have := hob _ e.symm; omega
      have hcell5 : ∀ (w4 w5 : World) (ob : Obj), Below wr.heap.size wr w4 → (w4.alloc ob).grownBy w5 (Value.slice A2 k ca2).ownBlock → w5.cell? ⟨W.heap.size, 8, none⟩ = some (.slice A2 k ca2) ∧ w5.frozen? ⟨W.heap.size, 8, none⟩ = false := fun w4 w5 ob h4 h5 => by
        have hs4 := h4.size
        have e5 : w5.heap[W.heap.size]? = wr.heap[W.heap.size]? := by
          rw [h5.block _ (by simp; omega) hnb, (below_alloc ob).block _ (by omega), h4.block _ (by omega)]
        exact ⟨(World.cell?_of_block (a := ⟨W.heap.size, 8, none⟩) e5).trans hb8, (World.frozen?_of_block (a := ⟨W.heap.size, 8, none⟩) e5).trans (hbf 8)⟩
      have hnews4 : ∀ (w4 : World) (A4 : Option Addr) (ca4 : Nat) (t : TypeId) (j : Nat) (u : Value), (PK.cells ⟨x, A4, ca4⟩)[j]? = some u → (w4.alloc (.cells #[.int .i64 x.op, .int .i64 x.col, .bool x.v.t, .int .i64 x.v.n, .string x.v.s, .bool x.w.t, .int .i64 x.w.n, .string x.w.s, .slice A4 x.l.length ca4] t)).cell? ((⟨w4.heap.size, 0, none⟩ : Addr).add j) = some u := fun w4 A4 ca4 t j u hu => PKs.news (OwnP.one (w := w4) (t := t) ⟨x, A4, ca4⟩ rfl).cell j u (by rw [pcells_cons]; simpa [pcells] using hu)
      have hones4 : ∀ (A4 : Option Addr) (ca4 : Nat), ∀ u ∈ PK.cells ⟨x, A4, ca4⟩, u.oneCell' = true := fun A4 ca4 u hu => pcells_one [⟨x, A4, ca4⟩] u (by rw [pcells_cons]; simpa [pcells] using hu)
      have i1 : (0 : Int) ≤ (k : Int) := by omega
      have i2 : (k : Int) < (l.length : Int) := by omega
      clear hx hkids hc hxat0 hin hn hinv
      go_wp2_with fail
      go_region_law (first
        | (refine step_append_lies _ (by rfl) (.tmp 15) (.tmp 21) 27 (by rfl) (W.heap.size + 2) 29 i0 _ 9 104 Tryd.underlying27 hi hz0 hz1 hz2 rfl (by omega) (.slice A2 k ca2) k (pcells K) (by simp [Act.eval]) (hrow4 _) ⟨w4.heap.size, 0, none⟩ 1 1 (PK.cells ⟨x, A4, ca4⟩) (by simp [Act.eval]) rfl (hnews4 w4 A4 ca4 _) (hones4 A4 ca4) (by omega) (by unfold maxLen; omega) (by omega) (by simp; omega) _ rfl ?_; intro g cap w5 hrow5 hgrow5 hat5 hlt5; obtain ⟨b85, bf5⟩ := hcell5 _ _ _ hbx4 hgrow5)
        | (go_simp; go_at_call 53; refine (IH.out _ hxl _ _ _ (hxat.below ((Below.refl _ _).drew))).mono ?_; rintro e w4 ⟨A4, ca4, rfl, hat4, hown4, hb4⟩; have hbx4 := undrew hb4; have hb84 := (hbx4.cell (cell_lt hb8)).trans hb8; have hb8a : ∀ ob, (w4.alloc ob).cell? ⟨W.heap.size, 8, none⟩ = some (.slice A2 k ca2) := fun ob => cell_old hb84; have hrow4 := fun ob => (row_below hrow hbx4).alloc ob; have hs4 := hbx4.size))
      all_goals
        go_wp2_with fail
        go_roundw
        case rel => exact ⟨k + 1, K ++ [⟨x, A4, ca4⟩], some ⟨g, 0, none⟩, cap, by go_num, by omega, HIN.out.step HX.out hbx4 hat4 hown4 hrow5 hgrow5 hat5⟩
        case measure => simp [intOf]; omega
    · obtain rfl : k = l.length := by omega
      have hboxr : OwnP wr W.heap.size [⟨.mk o c v w l, A2, ca2⟩] := by have := hin.box; rwa [List.take_length] at this
      have hresr := hin.res
      have hbW := hin.below
      obtain ⟨b0, b1, b2, b3, b4, b5, b6, b7, b8⟩ := hboxr.first
      obtain ⟨r0, r1, r2, r3, r4, r5, r6, r7, r8⟩ := hresr.first
      have rf := hresr.free
      simp only [Nat.zero_add] at b0 b1 b2 b3 b4 b5 b6 b7 b8 r0 r1 r2 r3 r4 r5 r6 r7 r8
      clear hin
      go_wp2_with fail
      have hfin : OwnP (puts wr (W.heap.size + 1) 0 (PK.cells ⟨.mk o c v w l, A2, ca2⟩)) (W.heap.size + 1) [⟨.mk o c v w l, A2, ca2⟩] := hresr.set (i := 0) (by simp) ⟨.mk o c v w l, A2, ca2⟩
      obtain ⟨f0, f1, f2, f3, f4, f5, f6, f7, f8⟩ := hfin.first
      simp only [Nat.zero_add] at f0 f1 f2 f3 f4 f5 f6 f7 f8
      refine bodyPost_ret (v := .agg #[.int .i64 o, .int .i64 c, .bool v.t, .int .i64 v.n, .string v.s, .bool w.t, .int .i64 w.n, .string w.s, .slice A2 l.length ca2]) ?_ rfl ?_
      · show (results _ _).run Tryd.prog (puts wr (W.heap.size + 1) 0 (PK.cells ⟨.mk o c v w l, A2, ca2⟩)) = .ok _ (puts wr (W.heap.size + 1) 0 (PK.cells ⟨.mk o c v w l, A2, ca2⟩))
        simp [results, Tryd.results53, go_sem, f0, f1, f2, f3, f4, f5, f6, f7, f8]
        exact ⟨rfl, rfl, rfl, rfl, rfl, rfl, rfl, rfl, rfl⟩
      · have hend := HIN.out.end_ (w6 := puts wr (W.heap.size + 1) 0 (PK.cells ⟨.mk o c v w l, A2, ca2⟩)) (by rw [puts_size]; exact Nat.le_refl _) (fun b hb => puts_block _ _ _ _ _ hb)
        have hbp : Below W.heap.size W (puts wr (W.heap.size + 1) 0 (PK.cells ⟨.mk o c v w l, A2, ca2⟩)) := puts_below hbW (by omega) 0 _
        exact ⟨A2, ca2, rfl, hend.1, hend.2, hbp⟩
end Go.Proofs.YtghpildnajdlpaaDoor
