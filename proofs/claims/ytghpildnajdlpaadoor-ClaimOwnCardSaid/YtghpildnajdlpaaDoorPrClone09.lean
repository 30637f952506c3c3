/-
  A predicate of one's own, walked: the program's Clone and And hand back the same parts in new memory. Conditions: the predicate lies in memory as it reads; at most a billion parts.
-/
import Derived.Test.YtghpildnajdlpaaDoorPrOwn
import Derived.Maps.AppendAt
import Derived.Laws.AppendOwnNone
import Derived.Lib.SliceRun
import Derived.Deep.RegionLaw
namespace Go.Proofs.YtghpildnajdlpaaDoor
open Go.RowKit

theorem info_pr : (Tryd.prog.info? 29).map (fun i => (i.zero, i.size, i.bytes)) = some (some (.agg #[.int .i64 0, .int .i64 0, .bool false, .int .i64 0, .string ⟨#[]⟩, .bool false, .int .i64 0, .string ⟨#[]⟩, .slice none 0 0]), 9, 104) := by kernel_rfl

/-- A slice of parts in new memory, the same parts. -/
def Cloned (W0 W : World) (l : List Pr) (e : Ending) (w' : World) : Prop := ∃ (A' : Option Addr) (ca' : Nat) (K : List PK), e = .returned (.slice A' l.length ca') ∧ ((A' = none → ca' = 0) ∧ l.length ≤ ca') ∧ Below W.heap.size W w' ∧ K.map PK.p = l ∧ (∀ k ∈ K, k.p.At W0 k.A k.ca) ∧ (l ≠ [] → ∃ g, A' = some ⟨g, 0, none⟩ ∧ W.heap.size ≤ g ∧ OwnP w' g K)
theorem cloned_nil (W0 W : World) {w' : World} {l : List Pr} (hb : Below W.heap.size W w') (hl : l = []) {A : Option Addr} {ca : Nat} (hn : A = none → ca = 0) : Cloned W0 W l (.returned (.slice A l.length ca)) w' :=
  ⟨A, ca, [], rfl, ⟨hn, by rw [hl]; exact Nat.zero_le _⟩, hb, by rw [hl]; rfl, fun k hk => by simp at hk, fun h => absurd hl h⟩
theorem cloned_own {W0 W w' : World} {v : Value} {K : List PK} {l : List Pr} (hl : K.map PK.p = l) (ha : ∀ k ∈ K, k.p.At W0 k.A k.ca) (hown : w'.ownsRow W.heap.size 29 9 v K.length (pcells K)) (hb : Below W.heap.size W w') : Cloned W0 W l (.returned v) w' := by
  have hlen : K.length = l.length := by rw [← hl, List.length_map]
  rcases hown.2 with ⟨rfl, hz⟩ | ⟨g, cap, cur, rfl, hbg, hg, hnc, hcm, hcs, htake⟩
  · rw [hz] at hlen
    rw [show (Value.slice none 0 0) = .slice none l.length 0 by rw [← hlen]]
    exact ⟨none, 0, K, rfl, ⟨fun _ => rfl, by omega⟩, hb, hl, ha, fun hn => absurd (List.eq_nil_of_length_eq_zero hlen.symm) hn⟩
  · have hown' := hown
    rw [hlen] at hown' ⊢
    refine ⟨_, cap, K, rfl, ⟨fun e => (by cases e), by omega⟩, hb, hl, ha, fun _ => ⟨g, rfl, hbg, ?_, fun j => hown'.frozenAt j, fun i k hk => ?_⟩⟩
    · exact (Array.getElem?_eq_some_iff.1 hg).1
    · have hi := (List.getElem?_eq_some_iff.1 hk).1
      rw [Nat.zero_add]
      have e : ∀ m, m < 9 → w'.cell? ⟨g, i * 9 + m, none⟩ = k.cells[m]? := fun m hm => by rw [hown'.cellAt _ (by omega)]; exact pcells_get K i k hk m hm
      exact ⟨e 0 (by omega), e 1 (by omega), e 2 (by omega), e 3 (by omega), e 4 (by omega), e 5 (by omega), e 6 (by omega), e 7 (by omega), e 8 (by omega)⟩

set_option maxHeartbeats 1000000 in
theorem psclone_any {W0 W : World} (hb0 : Below W0.heap.size W0 W) {o c : Int} {v w : Val} {l : List Pr} {A : Option Addr} {ca : Nat} (hat : (Pr.mk o c v w l).At W0 A ca) (hl : l.length ≤ 1000000000) :
    Calls Tryd.prog 73 #[.slice A l.length ca] W (Cloned W0 W l) := by
  obtain ⟨i0, hi, hz0, hz1, hz2⟩ := info_parts info_pr
  obtain ⟨K, hK, hKat, hKs⟩ := hat.ks
  have hn := (Pr.at_mk.1 hat).1.1
  have hlen : K.length = l.length := by rw [← hK, List.length_map]
  cases A with
  | none =>
    have hl0 : l = [] := by
      apply Classical.byContradiction
      intro h
      obtain ⟨b, off, hA, _⟩ := hKs h
      cases hA
    subst hl0
    obtain rfl := hn rfl
    clear hKs hat hn
    have heq := fun wx : World => Lib.run_eql_slice_nil (P := Tryd.prog) wx 27 29 none 0 0 0 0 Tryd.underlying27
    have HE := Lib.hid (cloned_nil W0 W (Below.refl _ _) rfl (fun _ => rfl) : Cloned W0 W [] (.returned (.slice none 0 0)) W)
    go_enter Tryd.func73, Tryd.ntmps73
    go_wp2
    go_ret
    exact HE.out
  | some ad =>
    have hnews : ∀ j c, (pcells K)[j]? = some c → ∀ ob, (W.alloc ob).cell? (ad.add j) = some c := by
      intro j c hj ob
      have hne : l ≠ [] := fun e => by
        subst e
        have := (List.getElem?_eq_some_iff.1 hj).1
        rw [pcells_length] at this
        rw [List.length_nil] at hlen
        omega
      obtain ⟨b, off, hA, hc⟩ := hKs hne
      obtain rfl := Option.some.inj hA
      have := PKs.news (W := W) (fun i k hk => (hc i k hk).below hb0) j c hj
      rw [World.cell?_alloc_lt _ _ _ (cell_lt this)]
      exact this
    have HN := Lib.hid hnews
    have HK := Lib.hid hK
    have HLEN := Lib.hid hlen
    have HKA := Lib.hid hKat
    clear hnews hn hKs hK hKat hat hlen
    have heq := fun wx : World => Lib.run_eql_slice_nil (P := Tryd.prog) wx 27 29 (some ad) l.length ca 0 0 Tryd.underlying27
    have hown0 := World.ownsRow_lit (e := 29) (size := 9) (base := W.heap.size) W #[] 0 (Nat.le_refl _) (by omega) (by simp)
    go_enter Tryd.func73, Tryd.ntmps73
    go_wp2_with (at_builtin; refine wpList_append_own_at _ rfl _ _ 27 rfl W.heap.size 29 i0 _ 9 104 Tryd.underlying27 hi hz0 hz1 hz2 rfl (by omega) _ 0 [] rfl hown0 ad l.length ca (pcells K) rfl (by rw [pcells_length, HLEN.out]) (fun j u hu => HN.out j u hu _) (pcells_one K) (by unfold maxLen; omega) (by omega) (by simp) ?_; intro v' w1 hown1 hgrow1 _ hat1)
    go_ret
    have hgrow2 : (W.alloc (.cells #[] 29)).grownBy w1 (some W.heap.size) := hgrow1
    refine cloned_own HK.out HKA.out ?_ ((below_alloc _).grown hgrow2 (by simp) (fun k hk => by injection hk with hk; omega))
    rw [HLEN.out]
    simpa using hown1

theorem undrew {w w' : World} (h : Below w.drew.heap.size w.drew w') : Below w.heap.size w w' := ⟨h.os, h.tape, h.output, h.size, h.block⟩
/-- The same predicate, its parts in new memory. -/
def PCloned (W : World) (p : Pr) (e : Ending) (w' : World) : Prop := ∃ (A' : Option Addr) (ca' : Nat), e = .returned (.agg #[.int .i64 p.op, .int .i64 p.col, .bool p.v.t, .int .i64 p.v.n, .string p.v.s, .bool p.w.t, .int .i64 p.w.n, .string p.w.s, .slice A' p.l.length ca']) ∧ p.At w' A' ca' ∧ p.Own (fun b => W.heap.size ≤ b) w' A' ∧ Below W.heap.size W w'

theorem clone_step {W1 w3 wr w4 : World} {g k : Nat} {K K' : List PK} {l : List Pr} {x : PK} {A4 : Option Addr} {ca4 : Nat} (hbr : Below W1.heap.size w3 wr) (hg : W1.heap.size ≤ g) (hor : OwnP wr g K') (hx : K'[k]? = some x) (hK' : K'.map PK.p = l)
    (hd : ∀ (i : Nat) (x : PK), i < k → K'[i]? = some x → x.p.At wr x.A x.ca ∧ x.p.Own (fun b => g < b) wr x.A) (hrest : ∀ i : Nat, k ≤ i → K'[i]? = K[i]?) (hb : Below wr.heap.size wr w4) (hat : x.p.At w4 A4 ca4) (hown : x.p.Own (fun b => wr.heap.size ≤ b) w4 A4) :
    Below W1.heap.size w3 (puts w4 g (k * 9) (PK.cells ⟨x.p, A4, ca4⟩)) ∧ OwnP (puts w4 g (k * 9) (PK.cells ⟨x.p, A4, ca4⟩)) g (K'.set k ⟨x.p, A4, ca4⟩) ∧ (K'.set k ⟨x.p, A4, ca4⟩).map PK.p = l ∧
      (∀ (i : Nat) (y : PK), i < k + 1 → (K'.set k ⟨x.p, A4, ca4⟩)[i]? = some y → y.p.At (puts w4 g (k * 9) (PK.cells ⟨x.p, A4, ca4⟩)) y.A y.ca ∧ y.p.Own (fun b => g < b) (puts w4 g (k * 9) (PK.cells ⟨x.p, A4, ca4⟩)) y.A) ∧ (∀ i : Nat, k + 1 ≤ i → (K'.set k ⟨x.p, A4, ca4⟩)[i]? = K[i]?) := by
  have hk : k < K'.length := (List.getElem?_eq_some_iff.1 hx).1
  have hgl := hor.lt
  have hb4 : Below W1.heap.size w3 w4 := hbr.trans (hb.mono (by omega))
  refine ⟨puts_below hb4 hg _ _, (hor.below hb).set hk _, ?_, fun i y hi hy => ?_, fun i hi => ?_⟩
  · rw [← hK']
    apply List.ext_getElem?
    intro i
    rw [List.getElem?_map, List.getElem?_map]
    by_cases he : k = i
    · subst he; rw [List.getElem?_set_self hk, hx]; rfl
    · rw [List.getElem?_set_ne he]
  · have hsz : w4.heap.size ≤ (puts w4 g (k * 9) (PK.cells ⟨x.p, A4, ca4⟩)).heap.size := by rw [puts_size]; exact Nat.le_refl _
    have hk5 : ∀ b, g < b → b < w4.heap.size → (puts w4 g (k * 9) (PK.cells ⟨x.p, A4, ca4⟩)).heap[b]? = w4.heap[b]? := fun b h _ => puts_block _ _ _ _ _ (by omega)
    by_cases he : k = i
    · subst he
      rw [List.getElem?_set_self hk] at hy
      injection hy with hy; subst hy
      have ho := hown.mono (P' := fun b => g < b) (fun b h => by omega)
      exact ⟨hat.keep hk5 ho, ho.keep (fun _ h => h) hsz hk5⟩
    · rw [List.getElem?_set_ne he] at hy
      obtain ⟨h1, h2⟩ := hd i y (by omega) hy
      have h1' := h1.below hb
      have h2' := h2.below hb
      exact ⟨h1'.keep hk5 h2', h2'.keep (fun _ h => h) hsz hk5⟩
  · rw [List.getElem?_set_ne (by omega)]
    exact hrest i (by omega)

theorem clone_end {W W1 wr w6 : World} {g : Nat} {K' : List PK} {l : List Pr} {o c : Int} {v w : Val} {ca2 : Nat} (hg : W1.heap.size ≤ g) (hs : W.heap.size + 1 < W1.heap.size) (hca : l.length ≤ ca2) (hor : OwnP wr g K') (hK' : K'.map PK.p = l)
    (hd : ∀ (i : Nat) (x : PK), i < l.length → K'[i]? = some x → x.p.At wr x.A x.ca ∧ x.p.Own (fun b => g < b) wr x.A) (hw : wr.heap.size ≤ w6.heap.size) (hb : ∀ b, b ≠ W.heap.size + 1 → w6.heap[b]? = wr.heap[b]?) :
    (Pr.mk o c v w l).At w6 (some ⟨g, 0, none⟩) ca2 ∧ (Pr.mk o c v w l).Own (fun b => W.heap.size ≤ b) w6 (some ⟨g, 0, none⟩) := by
  have hall : ∀ x ∈ K', x.p.At w6 x.A x.ca ∧ x.p.Own (fun b => g < b) w6 x.A := fun x hx => by
    obtain ⟨i, hi⟩ := List.mem_iff_getElem?.1 hx
    have hil : i < l.length := by rw [← hK', List.length_map]; exact (List.getElem?_eq_some_iff.1 hi).1
    obtain ⟨h1, h2⟩ := hd i x hil hi
    have hk : ∀ b, g < b → b < wr.heap.size → w6.heap[b]? = wr.heap[b]? := fun b h _ => hb b (by omega)
    exact ⟨h1.keep hk h2, h2.keep (fun _ h => h) hw hk⟩
  have ho := hor.other hw (hb g (by omega))
  exact ⟨ho.at_ hK' (fun x hx => (hall x hx).1) o c v w ca2 hca, ho.own hK' (by show W.heap.size ≤ g; omega) (fun x hx => (hall x hx).2.mono (fun b h => by omega)) o c v w⟩

set_option maxHeartbeats 4000000 in
theorem pclone_all : ∀ p : Pr, p.size ≤ 1000000000 → ∀ (W : World) (A : Option Addr) (ca : Nat), p.At W A ca → Calls Tryd.prog 52 #[p.arg A ca] W (PCloned W p) := by
  refine Pr.ind fun p ih hsz W A ca hat => ?_
  obtain ⟨o, c, v, w, l⟩ := p
  have IH := Lib.hid (show ∀ q ∈ l, ∀ (W : World) (A : Option Addr) (ca : Nat), q.At W A ca → Calls Tryd.prog 52 #[q.arg A ca] W (PCloned W q) from fun q hq => ih q hq (by have := Pr.size_kid (p := .mk o c v w l) hq; omega))
  have hlen : l.length ≤ 1000000000 := by have h1 := Pr.len_le l; have h2 := Pr.size_mk o c v w l; omega
  clear ih
  show Calls Tryd.prog 52 #[.agg #[.int .i64 o, .int .i64 c, .bool v.t, .int .i64 v.n, .string v.s, .bool w.t, .int .i64 w.n, .string w.s, .slice A l.length ca]] W _
  go_enter Tryd.func52, Tryd.ntmps52
  go_wp2_with fail
  refine calls_here fun W1 hW1 => ?_
  have hb1 : Below W.heap.size W W1 := hW1 ▸ below_then (below_alloc _) (below_alloc _)
  have hs1 : W1.heap.size = W.heap.size + 2 := by rw [hW1]; simp
  have hbox1 : OwnP W1 W.heap.size [⟨.mk o c v w l, A, ca⟩] := hW1 ▸ (OwnP.one (w := W) (t := 29) ⟨.mk o c v w l, A, ca⟩ rfl).below (below_alloc _)
  have hres1 : OwnP W1 (W.heap.size + 1) [⟨.mk 0 0 ⟨false, 0, ⟨#[]⟩⟩ ⟨false, 0, ⟨#[]⟩⟩ [], none, 0⟩] := hW1 ▸ OwnP.one (t := 29) ⟨.mk 0 0 ⟨false, 0, ⟨#[]⟩⟩ ⟨false, 0, ⟨#[]⟩⟩ [], none, 0⟩ (by simp)
  clear hW1
  refine (psclone_any hb1 hat hlen).mono ?_
  rintro e w2 ⟨A2, ca2, K, rfl, hn2, hb2, hK, hKat, hKo⟩
  have hbox2 := hbox1.below hb2
  have hres2 := hres1.below hb2
  have hb02 := below_then hb1 hb2
  obtain ⟨b0, b1, b2, b3, b4, b5, b6, b7, b8⟩ := hbox2.first
  have bf := hbox2.free
  simp only [Nat.zero_add] at b0 b1 b2 b3 b4 b5 b6 b7 b8
  go_wp2_with fail
  refine wp_here fun w3 hw3 => ?_
  have hbox3 : OwnP w3 W.heap.size [⟨.mk o c v w l, A2, ca2⟩] := hw3 ▸ hbox2.setSlice A2 ca2
  have hlt2 : W.heap.size + 1 < w2.heap.size := hres2.lt
  have hres3 : OwnP w3 (W.heap.size + 1) [⟨.mk 0 0 ⟨false, 0, ⟨#[]⟩⟩ ⟨false, 0, ⟨#[]⟩⟩ [], none, 0⟩] := by
    refine hres2.other ?_ ?_
    · rw [hw3]; simp [World.setCell]
    · rw [hw3]; exact Below.heap_setCell w2 _ _ _ (by show W.heap.size + 1 ≠ W.heap.size; omega)
  have hb3 : Below W.heap.size W w3 := hw3 ▸ hb02.setCell (Nat.le_refl _) _
  have hs3 : w2.heap.size = w3.heap.size := by rw [hw3]; simp [World.setCell]
  have hK3 : l ≠ [] → ∃ g, A2 = some ⟨g, 0, none⟩ ∧ W1.heap.size ≤ g ∧ OwnP w3 g K := fun hn => by
    obtain ⟨g, h1, h2, h3⟩ := hKo hn
    refine ⟨g, h1, h2, h3.other (by rw [hs3]; exact Nat.le_refl _) ?_⟩
    rw [hw3]; exact Below.heap_setCell w2 _ _ _ (by show g ≠ W.heap.size; omega)
  clear hw3 b0 b1 b2 b3 b4 b5 b6 b7 b8 bf hbox2 hres2 hKo
  have HK := Lib.hid hK
  have HKA := Lib.hid hKat
  have HAT := Lib.hid hat
  clear hK hKat hat
  by_cases hne : l = []
  · have HNE := Lib.hid hne
    have hl0 : l.length = 0 := by rw [hne]; rfl
    have hd0 : ((l.length : Int)) ≤ 0 := by omega
    clear hne hK3 hl0
    go_loopw [11] (fun i wr => i = .int .i64 0 ∧ Below W1.heap.size w3 wr) (fun i _ => 0)
    case atStart => exact ⟨rfl, Below.refl _ _⟩
    case round =>
      rename_i wr
      obtain ⟨rfl, hbr⟩ := hrel
      have hbW : Below W.heap.size W wr := hb3.trans (hbr.mono (by omega))
      have hboxr := hbox3.other hbr.size (hbr.block _ (by omega))
      have hresr := hres3.other hbr.size (hbr.block _ (by omega))
      obtain ⟨b0, b1, b2, b3, b4, b5, b6, b7, b8⟩ := hboxr.first
      obtain ⟨r0, r1, r2, r3, r4, r5, r6, r7, r8⟩ := hresr.first
      have rf := hresr.free
      simp only [Nat.zero_add] at b0 b1 b2 b3 b4 b5 b6 b7 b8 r0 r1 r2 r3 r4 r5 r6 r7 r8
      go_wp2_with fail
      have hfin : OwnP (puts wr (W.heap.size + 1) 0 (PK.cells ⟨.mk o c v w l, A2, ca2⟩)) (W.heap.size + 1) [⟨.mk o c v w l, A2, ca2⟩] := hresr.set (i := 0) (by simp) ⟨.mk o c v w l, A2, ca2⟩
      obtain ⟨f0, f1, f2, f3, f4, f5, f6, f7, f8⟩ := hfin.first
      simp only [Nat.zero_add] at f0 f1 f2 f3 f4 f5 f6 f7 f8
      refine bodyPost_ret (v := .agg #[.int .i64 o, .int .i64 c, .bool v.t, .int .i64 v.n, .string v.s, .bool w.t, .int .i64 w.n, .string w.s, .slice A2 l.length ca2]) ?_ rfl ?_
      · show (results _ _).run Tryd.prog (puts wr (W.heap.size + 1) 0 (PK.cells ⟨.mk o c v w l, A2, ca2⟩)) = .ok _ (puts wr (W.heap.size + 1) 0 (PK.cells ⟨.mk o c v w l, A2, ca2⟩))
        simp [results, Tryd.results52, go_sem, f0, f1, f2, f3, f4, f5, f6, f7, f8]
        exact ⟨rfl, rfl, rfl, rfl, rfl, rfl, rfl, rfl, rfl⟩
      · have hbp : Below W.heap.size W (puts wr (W.heap.size + 1) 0 (PK.cells ⟨.mk o c v w l, A2, ca2⟩)) := puts_below hbW (by omega) 0 _
        have ha : (Pr.mk o c v w l).At (puts wr (W.heap.size + 1) 0 (PK.cells ⟨.mk o c v w l, A2, ca2⟩)) A2 ca2 := Pr.at_mk.2 ⟨hn2, fun h => absurd HNE.out h⟩
        have hw : (Pr.mk o c v w l).Own (fun b => W.heap.size ≤ b) (puts wr (W.heap.size + 1) 0 (PK.cells ⟨.mk o c v w l, A2, ca2⟩)) A2 := Pr.own_mk.2 fun h => absurd HNE.out h
        exact ⟨A2, ca2, rfl, ha, hw, hbp⟩
  obtain ⟨g, hA2, hg, hog⟩ := hK3 hne
  have HA2 := Lib.hid hA2
  have hgl := hog.lt
  obtain ⟨n, hn⟩ : ∃ n, n = l.length := ⟨_, rfl⟩
  have hKl : K.length = l.length := by rw [← HK.out, List.length_map]
  have HKL := Lib.hid hKl
  clear hA2 hn hKl hK3
  go_loopw [11] (fun i wr => ∃ (k : Nat) (K' : List PK), i = .int .i64 k ∧ k ≤ l.length ∧ Below W1.heap.size w3 wr ∧ OwnP wr g K' ∧ K'.map PK.p = l ∧ (∀ (i : Nat) (x : PK), i < k → K'[i]? = some x → x.p.At wr x.A x.ca ∧ x.p.Own (fun b => g < b) wr x.A) ∧ (∀ i : Nat, k ≤ i → K'[i]? = K[i]?)) (fun i _ => l.length - (intOf i).toNat)
  case atStart => exact ⟨0, K, rfl, by omega, Below.refl _ _, hog, HK.out, fun i x hi => absurd hi (by omega), fun i _ => rfl⟩
  case round =>
    rename_i wr
    obtain ⟨k, K', rfl, hk, hbr, hor, hK', hdone, hrest⟩ := hrel
    have HK' := Lib.hid hK'
    have HD := Lib.hid hdone
    have HR := Lib.hid hrest
    clear hK' hdone hrest
    have hbW : Below W.heap.size W wr := hb3.trans (hbr.mono (by omega))
    have hboxr := hbox3.other hbr.size (hbr.block _ (by omega))
    by_cases hlt : k < l.length
    · have hkK : k < K'.length := by have h := HK'.out; have : K'.length = l.length := by rw [← h, List.length_map]
                                     omega
      obtain ⟨x, hx⟩ : ∃ x, K'[k]? = some x := ⟨_, List.getElem?_eq_getElem hkK⟩
      have hxK : x ∈ K := List.mem_of_getElem? (by rw [← HR.out k (Nat.le_refl _)]; exact hx)
      have hxl : x.p ∈ l := by rw [← HK.out]; exact List.mem_map_of_mem hxK
      have hxat := (HKA.out x hxK).below hbW
      have hcells := hor.cell k x hx
      rw [Nat.zero_add] at hcells
      obtain ⟨c0, c1, c2, c3, c4, c5, c6, c7, c8⟩ := hcells
      have hb8 : wr.cell? ⟨W.heap.size, 8, none⟩ = some (.slice (some ⟨g, 0, none⟩) l.length ca2) := by
        have := hboxr.first.2.2.2.2.2.2.2.2
        rw [HA2.out] at this
        exact this
      have i1 : (0 : Int) ≤ (k : Int) := by omega
      have i2 : (k : Int) < (l.length : Int) := by omega
      have HX := Lib.hid hx
      clear hx
      go_wp2_with fail
      go_region_law (first | (go_simp; go_at_call 52; refine (IH.out _ hxl _ _ _ (hxat.below ((Below.refl _ _).drew))).mono ?_; rintro e w4 ⟨A4, ca4, rfl, hat4, hown4, hb4⟩; have hbx4 := undrew hb4; have gf := (hor.below hbx4).free; have hb84 := (hbx4.cell (cell_lt hb8)).trans hb8; have e0 := (hbx4.cell (cell_lt c0)).trans c0; have e1 := (hbx4.cell (cell_lt c1)).trans c1; have e2 := (hbx4.cell (cell_lt c2)).trans c2; have e3 := (hbx4.cell (cell_lt c3)).trans c3; have e4 := (hbx4.cell (cell_lt c4)).trans c4; have e5 := (hbx4.cell (cell_lt c5)).trans c5; have e6 := (hbx4.cell (cell_lt c6)).trans c6; have e7 := (hbx4.cell (cell_lt c7)).trans c7; have e8 := (hbx4.cell (cell_lt c8)).trans c8))
      all_goals
        go_wp2_with fail
        go_roundw
        case rel => exact ⟨k + 1, _, by go_num, by omega, clone_step (A4 := A4) (ca4 := ca4) hbr hg hor HX.out HK'.out HD.out HR.out hbx4 hat4 hown4⟩
        case measure => simp [intOf]; omega
    · obtain rfl : k = l.length := by omega
      have hresr := hres3.other hbr.size (hbr.block _ (by omega))
      obtain ⟨b0, b1, b2, b3, b4, b5, b6, b7, b8⟩ := hboxr.first
      obtain ⟨r0, r1, r2, r3, r4, r5, r6, r7, r8⟩ := hresr.first
      have rf := hresr.free
      simp only [Nat.zero_add] at b0 b1 b2 b3 b4 b5 b6 b7 b8 r0 r1 r2 r3 r4 r5 r6 r7 r8
      go_wp2_with fail
      have hfin : OwnP (puts wr (W.heap.size + 1) 0 (PK.cells ⟨.mk o c v w l, A2, ca2⟩)) (W.heap.size + 1) [⟨.mk o c v w l, A2, ca2⟩] := hresr.set (i := 0) (by simp) ⟨.mk o c v w l, A2, ca2⟩
      obtain ⟨f0, f1, f2, f3, f4, f5, f6, f7, f8⟩ := hfin.first
      simp only [Nat.zero_add] at f0 f1 f2 f3 f4 f5 f6 f7 f8
      refine bodyPost_ret (v := .agg #[.int .i64 o, .int .i64 c, .bool v.t, .int .i64 v.n, .string v.s, .bool w.t, .int .i64 w.n, .string w.s, .slice A2 l.length ca2]) ?_ rfl ?_
      · show (results _ _).run Tryd.prog (puts wr (W.heap.size + 1) 0 (PK.cells ⟨.mk o c v w l, A2, ca2⟩)) = .ok _ (puts wr (W.heap.size + 1) 0 (PK.cells ⟨.mk o c v w l, A2, ca2⟩))
        simp [results, Tryd.results52, go_sem, f0, f1, f2, f3, f4, f5, f6, f7, f8]
        exact ⟨rfl, rfl, rfl, rfl, rfl, rfl, rfl, rfl, rfl⟩
      · have hend := clone_end (w6 := puts wr (W.heap.size + 1) 0 (PK.cells ⟨.mk o c v w l, A2, ca2⟩)) (o := o) (c := c) (v := v) (w := w) (ca2 := ca2) hg (by omega) hn2.2 hor HK'.out HD.out (by rw [puts_size]; exact Nat.le_refl _) (fun b hb => puts_block _ _ _ _ _ hb)
        rw [← HA2.out] at hend
        have hbp : Below W.heap.size W (puts wr (W.heap.size + 1) 0 (PK.cells ⟨.mk o c v w l, A2, ca2⟩)) := puts_below hbW (by omega) 0 _
        exact ⟨A2, ca2, rfl, hend.1, hend.2, hbp⟩
end Go.Proofs.YtghpildnajdlpaaDoor
