/-
  What two claims join to, walked: the program's Join. Conditions: as for Clone; the table of modes lies there.
-/
import Derived.Test.YtghpildnajdlpaaDoorClmMem
import Derived.Test.YtghpildnajdlpaaDoorClmConf
namespace Go.Proofs.YtghpildnajdlpaaDoor
open Go.RowKit
variable {W : World}

theorem Cl.join_no {a b : Cl} (h : a.same b = false) : a.join b = a := by unfold Cl.join; rw [h]; rfl
theorem Cl.join_yes {a b : Cl} (h : a.same b = true) : a.join b = { a with mode := M.join a.mode b.mode, im := Cl.more a.im b.im } := by unfold Cl.join; rw [h]; rfl
/-- What Join's loop keeps. -/
structure JoinInv (W W1 : World) (Bb g5 : Nat) (G : Nat → Prop) (a b : Cl) (P2 : Option Addr) (pa2 : Nat) (l : List (List Val)) (n : Nat) (K : List RK) (A2 : Option Addr) (ca2 : Nat) (wr : World) : Prop where
  im : ImInv W1 Bb (fun d => G d ∨ d = g5) l K A2 ca2 wr
  len : l.length = n
  box : Blk wr g5 (({ a with mode := M.join a.mode b.mode, im := l } : Cl).box A2 n ca2 P2 pa2)
  res : Blk wr (W.heap.size + 2) zeroC
  p : a.p.At wr P2 pa2 ∧ a.p.Own (fun d => W1.heap.size ≤ d ∧ G d ∧ d < g5) wr P2
theorem JoinInv.below {W W1 : World} {Bb g5 : Nat} {G : Nat → Prop} {a b : Cl} {P2 : Option Addr} {pa2 : Nat} {l : List (List Val)} {n : Nat} {K : List RK} {A2 : Option Addr} {ca2 : Nat} {wr w : World} (h : JoinInv W W1 Bb g5 G a b P2 pa2 l n K A2 ca2 wr) (hb : Below wr.heap.size wr w) : JoinInv W W1 Bb g5 G a b P2 pa2 l n K A2 ca2 w :=
  ⟨h.im.below_ hb, h.len, h.box.below hb, h.res.below hb, h.p.1.below hb, h.p.2.below hb⟩
theorem JoinInv.step {W W1 : World} {Bb g5 : Nat} {G : Nat → Prop} {a b : Cl} {P2 : Option Addr} {pa2 : Nat} {l : List (List Val)} {n : Nat} {K : List RK} {A2 : Option Addr} {ca2 : Nat} {wr : World} (h : JoinInv W W1 Bb g5 G a b P2 pa2 l n K A2 ca2 wr) (hW : W.heap.size + 2 < W1.heap.size) (hg5 : W1.heap.size ≤ g5)
    {x : List Val} {w4 w5 : World} (hb4 : Below wr.heap.size wr w4) {A4 : Option Addr} {ca4 : Nat} (hat : RowAt w4 A4 x) (hn : A4 = none → ca4 = 0) (hown : SlOwn (fun b => wr.heap.size ≤ b) w4 A4 (x.length * 3)) {ob : Obj}
    {g cap : Nat} (hrow5 : w5.ownsRow Bb 43 1 (.slice (some ⟨g, 0, none⟩) (n + 1) cap) (n + 1) (rcells K ++ [.slice A4 x.length ca4])) (hgrow : (w4.alloc ob).grownBy w5 (Value.slice A2 n ca2).ownBlock) (hat5 : (Value.slice A2 n ca2).ownBlock = some g ∨ g = (w4.alloc ob).heap.size) :
    JoinInv W W1 Bb g5 G a b P2 pa2 (l ++ [x]) (n + 1) (K ++ [⟨x, A4, ca4⟩]) (some ⟨g, 0, none⟩) cap (w5.setCell ⟨g5, 6, none⟩ (.slice (some ⟨g, 0, none⟩) (n + 1) cap)) := by
  have hst := h.im.step' h.len hb4 hat hn hown hrow5 hgrow hat5 (a := ⟨g5, 6, none⟩) ⟨hg5, .inr (.inr rfl)⟩ (.slice (some ⟨g, 0, none⟩) (n + 1) cap)
  have e5 := h.im.old' h.len hb4 hgrow
  have hz : wr.heap.size ≤ w5.heap.size := by have h1 := hgrow.size; have h2 := hb4.size; simp at h1; omega
  have hz6 : wr.heap.size ≤ (w5.setCell ⟨g5, 6, none⟩ (.slice (some ⟨g, 0, none⟩) (n + 1) cap)).heap.size := by simp [World.setCell]; exact hz
  have hB := h.im.base.1
  have e6 : ∀ d, (W1.heap.size ≤ d ∧ G d ∧ d < g5) → d < wr.heap.size → (w5.setCell ⟨g5, 6, none⟩ (.slice (some ⟨g, 0, none⟩) (n + 1) cap)).heap[d]? = wr.heap[d]? := fun d hd _ => (Below.heap_setCell w5 _ _ d (by show d ≠ g5; omega)).trans (e5 d (.inr (.inl hd.2.1)))
  refine ⟨hst, by rw [List.length_append, h.len]; rfl, ?_, ?_, h.p.1.keep e6 h.p.2, h.p.2.keep (fun _ h => h) hz6 e6⟩
  · exact (h.box.other hz (e5 _ (.inr (.inr rfl)))).set1 (j := 6) (by show 6 < 16; omega) _
  · exact (h.res.other hz (e5 _ (.inl (by omega)))).setOther (by show W.heap.size + 2 ≠ g5; omega) _
set_option maxHeartbeats 8000000 in
theorem cjoin_no {a b : Cl} (hsm : a.same b = false) {A P A' P' : Option Addr} {ca pa ca' pa' : Nat} (W : World) (hT : Tabs W) (ha : a.At W A ca P pa) (hb : b.At W A' ca' P' pa') (fa : a.Fits) (fb : b.Fits) : Calls Tryd.prog 22 #[a.arg A ca P pa, b.arg A' ca' P' pa'] W (COwn W (a.join b)) := by
  obtain ⟨i0, hi, hz0, hz1, hz2⟩ := info_parts info_row
  have HT := Lib.hid hT
  have HA := Lib.hid ha
  have HB := Lib.hid hb
  have FA := Lib.hid fa
  have FB := Lib.hid fb
  clear hT ha hb fa fb
  unfold Cl.arg
  go_enter Tryd.func22, Tryd.ntmps22
  go_upto_region 1 with fail
  refine wp_here fun W1 hW1 => ?_
  have B1 : Below W.heap.size W W1 := by rw [hW1]; exact below_then (below_then (below_alloc _) (below_alloc _)) (below_alloc _)
  have ka : Blk W1 W.heap.size (a.cells A ca P pa) := by rw [hW1]; refine Blk.alloc ?_ _; refine Blk.alloc ?_ _; exact Blk.new' (l := #[.int .i64 a.kind, .int .i64 a.table, .int .i64 a.mode, .bool a.key.t, .int .i64 a.key.n, .string a.key.s, .slice A a.im.length ca, .int .i64 a.p.op, .int .i64 a.p.col, .bool a.p.v.t, .int .i64 a.p.v.n, .string a.p.v.s, .bool a.p.w.t, .int .i64 a.p.w.n, .string a.p.w.s, .slice P a.p.l.length pa]) rfl
  have kb : Blk W1 (W.heap.size + 1) (b.cells A' ca' P' pa') := by rw [hW1]; refine Blk.alloc ?_ _; exact Blk.new' (l := #[.int .i64 b.kind, .int .i64 b.table, .int .i64 b.mode, .bool b.key.t, .int .i64 b.key.n, .string b.key.s, .slice A' b.im.length ca', .int .i64 b.p.op, .int .i64 b.p.col, .bool b.p.v.t, .int .i64 b.p.v.n, .string b.p.v.s, .bool b.p.w.t, .int .i64 b.p.w.n, .string b.p.w.s, .slice P' b.p.l.length pa']) (by simp)
  have kr : Blk W1 (W.heap.size + 2) zeroC := by rw [hW1]; exact Blk.new' (l := #[.int .i64 0, .int .i64 0, .int .i64 0, .bool false, .int .i64 0, .string ⟨#[]⟩, .slice none 0 0, .int .i64 0, .int .i64 0, .bool false, .int .i64 0, .string ⟨#[]⟩, .bool false, .int .i64 0, .string ⟨#[]⟩, .slice none 0 0]) (by simp)
  have hs1 : W1.heap.size = W.heap.size + 3 := by rw [hW1]; simp
  clear hW1
  go_wp2_with (refine claim_load (by rfl) _ (by rfl) (by rfl) ka ?_)
  refine (cclone_any W1 (HA.out.below B1) FA.out).mono ?_; rintro e w2 ⟨A2, ca2, P2, pa2, rfl, hat2, ⟨Bb, G, K, him2, hown2⟩, hb2⟩
  obtain ⟨g5, hg5⟩ : ∃ g, w2.heap.size = g := ⟨_, rfl⟩
  go_upto_region 2 with (refine claim_store (c := a) (A := A2) (ca := ca2) (P := P2) (pa := pa2) (by rfl) _ _ (by rfl) (by rfl) (Blk.new' hg5.symm) rfl (by rfl) ?_; intro V1 hV1)

  have bV1' : Below w2.heap.size w2 V1 := by rw [hV1]; exact puts_below (below_alloc _) (by omega) _ _
  have bV1 : Below W1.heap.size W1 V1 := below_then hb2 bV1'
  replace ka := ka.below bV1
  replace kb := kb.below bV1
  replace kr := kr.below bV1
  have kt : Blk V1 g5 (a.cells A2 ca2 P2 pa2) := by
    rw [hV1]; exact (Blk.new' hg5.symm).puts0 rfl
  have hszV : V1.heap.size = g5 + 1 := by rw [hV1, puts_size]; simp [hg5]
  have BV1 : Below W.heap.size W V1 := below_then B1 bV1
  have hg5W : W1.heap.size ≤ g5 := by rw [← hg5]; exact hb2.size
  have him3 : ImInv W1 Bb (fun d => G d ∨ d = g5) a.im K A2 ca2 V1 := him2.protect bV1' (fun d hd => by
    rcases hd with hd | hd
    · exact .inl hd
    · exact .inr ⟨by omega, by omega⟩)
  have hGlt : ∀ d, G d → d < g5 := fun d hd => by have := (him2.prot d hd).2; omega
  have HP3 := Lib.hid (show a.p.At V1 P2 pa2 ∧ a.p.Own (fun d => W1.heap.size ≤ d ∧ G d ∧ d < g5) V1 P2 from ⟨hat2.p.below bV1', (hown2.below bV1').mono (fun d hd => ⟨hd.1, hd.2, hGlt d hd.2⟩)⟩)
  have HIM3 := Lib.hid him3
  clear hV1 hg5 bV1' hat2 him2 hown2 hb2 him3
  have aw2 := ka.cell 2 _ rfl
  have bw2 := kb.cell 2 _ rfl
  have az2 := fun z : Lt V1 => z.cell aw2
  have bz2 := fun z : Lt V1 => z.cell bw2
  have key := csame_any (a := a) (b := b) (A := A) (A' := A') (ca := ca) (ca' := ca') (HA.out.p.below BV1) (HB.out.p.below BV1) (by have := FA.out.p; omega) (Lt.base V1)
  rw [hsm] at key
  go_wp2_with (first | (refine claim_load (by rfl) _ (by rfl) (by rfl) ka ?_) | (refine claim_load (by rfl) _ (by rfl) (by rfl) kb ?_))
  refine key.mono ?_; rintro e w' ⟨rfl, y, rfl⟩
  clear key aw2 bw2
  have kr2 := kr.below y.2
  have kt2 := kt.below y.2
  clear az2 bz2 ka kb kt kr
  have hJ := Cl.join_no hsm
  have HJ := Lib.hid hJ
  clear hsm hJ
  go_wp2_with (first | (refine claim_load (by rfl) _ (by rfl) (by rfl) kt2 ?_) | (refine claim_store (c := a) (A := A2) (ca := ca2) (P := P2) (pa := pa2) (by rfl) _ _ (by rfl) (by rfl) kr2 rfl (by rfl) ?_; intro V3 hV3))
  have hfin : Blk V3 (W.heap.size + 2) (a.cells A2 ca2 P2 pa2) := by rw [hV3]; exact kr2.puts0 rfl
  have hpost : COwn W (a.join b) (.returned (a.arg A2 ca2 P2 pa2)) V3 := by
    rw [HJ.out]
    have hi9 : ImInv W1 Bb (fun d => G d ∨ d = g5) a.im K A2 ca2 y.1 := HIM3.out.below_ y.2
    have hb9 : Below W.heap.size W V3 := by rw [hV3]; exact puts_below (below_then BV1 y.2) (by omega) 0 _
    have hi10 : ImInv W Bb (fun d => G d ∨ d = g5) a.im K A2 ca2 V3 := by
      rw [hV3]; exact (hi9.root B1).puts ⟨by omega, .inl (by have := hi9.base.1; omega)⟩ _ _
    have hk9 : ∀ d, W1.heap.size ≤ d → V3.heap[d]? = y.1.heap[d]? := fun d hd => by rw [hV3]; exact puts_block _ _ _ _ _ (by omega)
    have hs9 : V3.heap.size = y.1.heap.size := by rw [hV3, puts_size]
    have hp := HP3.out.1.below y.2
    have ho := HP3.out.2.below y.2
    exact ⟨A2, ca2, P2, pa2, rfl, ⟨hi10.at_.1, hp.keep (fun d hd _ => hk9 d hd.1) ho⟩, ⟨_, _, K, hi10, ho.keep (fun d hd => ⟨by omega, .inl hd.2.1⟩) (by omega) (fun d hd _ => hk9 d hd.1)⟩, hb9⟩
  exact bodyPost_ret (claim_out rfl rfl hfin) rfl hpost
end Go.Proofs.YtghpildnajdlpaaDoor
