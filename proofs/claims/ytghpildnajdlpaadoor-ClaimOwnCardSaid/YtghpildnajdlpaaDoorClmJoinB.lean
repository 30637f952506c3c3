/-
  What two claims about one thing join to, walked. Conditions: as for Clone; the table of modes lies there.
-/
import Derived.Test.YtghpildnajdlpaaDoorClmJoinA
namespace Go.Proofs.YtghpildnajdlpaaDoor
open Go.RowKit
variable {W : World}

set_option maxHeartbeats 8000000 in
theorem cjoin_yes {a b : Cl} (hsm : a.same b = true) {A P A' P' : Option Addr} {ca pa ca' pa' : Nat} (W : World) (hT : Tabs W) (ha : a.At W A ca P pa) (hb : b.At W A' ca' P' pa') (fa : a.Fits) (fb : b.Fits) : Calls Tryd.prog 22 #[a.arg A ca P pa, b.arg A' ca' P' pa'] W (COwn W (a.join b)) := by
  obtain ⟨i0, hi, hz0, hz1, hz2⟩ := info_parts info_row
  have HT := Lib.hid hT
  have HA := Lib.hid ha
  have HB := Lib.hid hb
  have FA := Lib.hid fa
  have FB := Lib.hid fb
  clear hT ha hb fa fb
  unfold Cl.arg
  go_enter Tryd.func22, Tryd.ntmps22
  go_upto_region 1 with fail
  refine wp_here fun W1 hW1 => ?_
  have B1 : Below W.heap.size W W1 := by rw [hW1]; exact below_then (below_then (below_alloc _) (below_alloc _)) (below_alloc _)
  have ka : Blk W1 W.heap.size (a.cells A ca P pa) := by rw [hW1]; refine Blk.alloc ?_ _; refine Blk.alloc ?_ _; exact Blk.new' (l := #[.int .i64 a.kind, .int .i64 a.table, .int .i64 a.mode, .bool a.key.t, .int .i64 a.key.n, .string a.key.s, .slice A a.im.length ca, .int .i64 a.p.op, .int .i64 a.p.col, .bool a.p.v.t, .int .i64 a.p.v.n, .string a.p.v.s, .bool a.p.w.t, .int .i64 a.p.w.n, .string a.p.w.s, .slice P a.p.l.length pa]) rfl
  have kb : Blk W1 (W.heap.size + 1) (b.cells A' ca' P' pa') := by rw [hW1]; refine Blk.alloc ?_ _; exact Blk.new' (l := #[.int .i64 b.kind, .int .i64 b.table, .int .i64 b.mode, .bool b.key.t, .int .i64 b.key.n, .string b.key.s, .slice A' b.im.length ca', .int .i64 b.p.op, .int .i64 b.p.col, .bool b.p.v.t, .int .i64 b.p.v.n, .string b.p.v.s, .bool b.p.w.t, .int .i64 b.p.w.n, .string b.p.w.s, .slice P' b.p.l.length pa']) (by simp)
  have kr : Blk W1 (W.heap.size + 2) zeroC := by rw [hW1]; exact Blk.new' (l := #[.int .i64 0, .int .i64 0, .int .i64 0, .bool false, .int .i64 0, .string ⟨#[]⟩, .slice none 0 0, .int .i64 0, .int .i64 0, .bool false, .int .i64 0, .string ⟨#[]⟩, .bool false, .int .i64 0, .string ⟨#[]⟩, .slice none 0 0]) (by simp)
  have hs1 : W1.heap.size = W.heap.size + 3 := by rw [hW1]; simp
  clear hW1
  go_wp2_with (refine claim_load (by rfl) _ (by rfl) (by rfl) ka ?_)
  refine (cclone_any W1 (HA.out.below B1) FA.out).mono ?_; rintro e w2 ⟨A2, ca2, P2, pa2, rfl, hat2, ⟨Bb, G, K, him2, hown2⟩, hb2⟩
  obtain ⟨g5, hg5⟩ : ∃ g, w2.heap.size = g := ⟨_, rfl⟩
  go_upto_region 2 with (refine claim_store (c := a) (A := A2) (ca := ca2) (P := P2) (pa := pa2) (by rfl) _ _ (by rfl) (by rfl) (Blk.new' hg5.symm) rfl (by rfl) ?_; intro V1 hV1)

  have bV1' : Below w2.heap.size w2 V1 := by rw [hV1]; exact puts_below (below_alloc _) (by omega) _ _
  have bV1 : Below W1.heap.size W1 V1 := below_then hb2 bV1'
  replace ka := ka.below bV1
  replace kb := kb.below bV1
  replace kr := kr.below bV1
  have kt : Blk V1 g5 (a.cells A2 ca2 P2 pa2) := by
    rw [hV1]; exact (Blk.new' hg5.symm).puts0 rfl
  have hszV : V1.heap.size = g5 + 1 := by rw [hV1, puts_size]; simp [hg5]
  have BV1 : Below W.heap.size W V1 := below_then B1 bV1
  have hg5W : W1.heap.size ≤ g5 := by rw [← hg5]; exact hb2.size
  have him3 : ImInv W1 Bb (fun d => G d ∨ d = g5) a.im K A2 ca2 V1 := him2.protect bV1' (fun d hd => by
    rcases hd with hd | hd
    · exact .inl hd
    · exact .inr ⟨by omega, by omega⟩)
  have hGlt : ∀ d, G d → d < g5 := fun d hd => by have := (him2.prot d hd).2; omega
  have HP3 := Lib.hid (show a.p.At V1 P2 pa2 ∧ a.p.Own (fun d => W1.heap.size ≤ d ∧ G d ∧ d < g5) V1 P2 from ⟨hat2.p.below bV1', (hown2.below bV1').mono (fun d hd => ⟨hd.1, hd.2, hGlt d hd.2⟩)⟩)
  have HIM3 := Lib.hid him3
  clear hV1 hg5 bV1' hat2 him2 hown2 hb2 him3
  have aw2 := ka.cell 2 _ rfl
  have bw2 := kb.cell 2 _ rfl
  have az2 := fun z : Lt V1 => z.cell aw2
  have bz2 := fun z : Lt V1 => z.cell bw2
  have key := csame_any (a := a) (b := b) (A := A) (A' := A') (ca := ca) (ca' := ca') (HA.out.p.below BV1) (HB.out.p.below BV1) (by have := FA.out.p; omega) (Lt.base V1)
  rw [hsm] at key
  go_wp2_with (first | (refine claim_load (by rfl) _ (by rfl) (by rfl) ka ?_) | (refine claim_load (by rfl) _ (by rfl) (by rfl) kb ?_))
  refine key.mono ?_; rintro e w' ⟨rfl, y, rfl⟩
  clear key aw2 bw2
  have HJ := Lib.hid (Cl.join_yes hsm)
  clear hsm
  go_wp2_with fail
  refine (mjoin_any (fun i hi => (BV1.cell (cell_lt (HT.out i hi))).trans (HT.out i hi)) a.mode b.mode y).mono ?_; rintro e w' ⟨rfl, y2, rfl⟩
  have kr2 := kr.below y2.2
  have kt2 := kt.below y2.2
  have tw2 := kt2.cell 2 _ rfl
  have tf := kt2.free
  go_upto_region 5 with fail
  refine wp_here fun V2 hV2 => ?_
  have hinv : JoinInv W W1 Bb g5 G a b P2 pa2 a.im a.im.length K A2 ca2 V2 := by
    rw [hV2]
    refine ⟨(HIM3.out.below_ y2.2).set (a := ⟨g5, 2, none⟩) ⟨hg5W, .inr (.inr rfl)⟩ _, rfl, ?_, kr2.setOther (by show W.heap.size + 2 ≠ g5; omega) _, ?_⟩
    · exact kt2.set1 (j := 2) (by show 2 < 16; omega) _
    · have hp := HP3.out.1.below y2.2
      have ho := HP3.out.2.below y2.2
      have hk : ∀ d, (W1.heap.size ≤ d ∧ G d ∧ d < g5) → d < y2.1.heap.size → (y2.1.setCell ⟨g5, 2, none⟩ (.int .i64 (M.join a.mode b.mode))).heap[d]? = y2.1.heap[d]? := fun d hd _ => Below.heap_setCell y2.1 _ _ d (by show d ≠ g5; omega)
      exact ⟨hp.keep hk ho, ho.keep (fun _ h => h) (by simp [World.setCell]) hk⟩
  have f6 : V2.cell? ⟨W.heap.size + 1, 6, none⟩ = some (.slice A' b.im.length ca') := by
    rw [hV2]; exact ((kb.below y2.2).setOther (by show W.heap.size + 1 ≠ g5; omega) _).cell 6 _ rfl
  clear hV2 tf tw2 kr2 kt2 HIM3 HP3 ka kb kt kr az2 bz2
  go_wp2_with fail
  clear f6
  go_loopw [24, 7] (fun i _ wr => ∃ (k n : Nat) (K : List RK) (A2 : Option Addr) (ca2 : Nat), i = .int .i64 k ∧ k ≤ b.im.length ∧ JoinInv W W1 Bb g5 G a b P2 pa2 (Cl.more a.im (b.im.take k)) n K A2 ca2 wr) (fun i _ _ => b.im.length - (intOf i).toNat)
  case atStart => exact ⟨0, _, K, A2, ca2, rfl, by omega, hinv⟩
  case round =>
    clear hinv
    rename_i wr
    obtain ⟨k, n, K, A2, ca2, rfl, hk, hin⟩ := hrel
    have hk9 : k ≤ 1000000 := by have := FB.out.im; omega
    have hn9 : n ≤ 3000000 := by
      have h1 := hin.len
      have h2 := Cl.more_length (b.im.take k) a.im
      have h3 := FA.out.im
      rw [List.length_take] at h2
      omega
    by_cases hlt : k < b.im.length
    · have HWR := Lib.hid (below_then B1 hin.im.below)
      obtain ⟨bb, off, x, AX, caX, hx, hmem, hAe, hc0, hxat, hxn⟩ := (HB.out.im.below HWR.out).at_ hlt
      have HX := Lib.hid hx
      have HXN := Lib.hid hxn
      have HXA := Lib.hid hxat
      have HXL := Lib.hid (show x.length ≤ 1000000000 by have := FB.out.row x hmem; omega)
      have h6 : wr.cell? ⟨g5, 6, none⟩ = some (.slice A2 n ca2) := hin.box.cell 6 _ rfl
      obtain ⟨t, ht⟩ : ∃ t, Cl.has (Cl.more a.im (b.im.take k)) x = t := ⟨_, rfl⟩
      have HIN := Lib.hid hin
      have CI := Lib.hid (show Calls Tryd.prog 45 #[.slice A2 n ca2, .slice AX x.length caX] wr fun e w' => e = .returned (.bool t) ∧ ∃ y : Lt wr, w' = y.1 from by
        have h1 := in_any (l := Cl.more a.im (b.im.take k)) (s := x) (ca := ca2) (cb := caX) (by rw [hin.len]; omega) (fun r hr => by
          rcases (Cl.more_mem (b.im.take k) a.im).1 hr with hr | hr
          · have := FA.out.row r hr; omega
          · have := FB.out.row r (List.mem_of_mem_take hr); omega) hin.im.at_.1 hxat (Lt.base wr)
        rw [hin.len] at h1
        rw [← ht]
        exact h1)
      have HT2 := Lib.hid ht
      obtain rfl := hAe
      clear hx hin hxn hmem ht hxat
      go_wp2_with fail
      refine CI.out.mono ?_; rintro e w' ⟨rfl, y, rfl⟩
      clear CI
      have HIN2 := Lib.hid (HIN.out.below y.2)
      cases t
      · have h62 : y.1.cell? ⟨g5, 6, none⟩ = some (.slice A2 n ca2) := y.cell h6
        have hbf := HIN2.out.box.free
        have hrow := HIN2.out.im.row' HIN2.out.len
        have hyl : g5 < y.1.heap.size := HIN2.out.box.lt
        have hBb : Bb ≤ y.1.heap.size := HIN2.out.im.base.2
        have hcell5 : ∀ (w4 w5 : World) (ob : Obj), Below y.1.heap.size y.1 w4 → (w4.alloc ob).grownBy w5 (Value.slice A2 n ca2).ownBlock → w5.cell? ⟨g5, 6, none⟩ = some (.slice A2 n ca2) ∧ w5.frozen? ⟨g5, 6, none⟩ = false := fun w4 w5 ob h4 h5 => by
          have e5 := HIN2.out.im.old' HIN2.out.len h4 h5 g5 (.inr (.inr rfl))
          exact ⟨(World.cell?_of_block (a := ⟨g5, 6, none⟩) e5).trans h62, (World.frozen?_of_block (a := ⟨g5, 6, none⟩) e5).trans (hbf 6)⟩
        go_wp2_with fail
        go_region_law (first
          | (refine step_append_lies _ (by rfl) (.tmp 34) (.tmp 37) 26 (by rfl) Bb 43 i0 _ 1 24 Tryd.underlying26 hi hz0 hz1 hz2 rfl (by omega) (.slice A2 n ca2) n (rcells K) (by simp [Act.eval]) (hrow4 _) ⟨w4.heap.size, 0, none⟩ 1 1 [.slice A4 x.length ca4] (by simp [Act.eval]) rfl (new_lit _) (fun u hu => by rw [List.mem_singleton] at hu; rw [hu]; rfl) (by omega) (by unfold maxLen; omega) (by omega) (by simp; omega) _ rfl ?_; intro g cap w5 hrow5 hgrow5 hat5 hlt5; obtain ⟨b85, bf5⟩ := hcell5 _ _ _ hbx4 hgrow5)
          | (go_simp; go_at_call 50; refine (rowclone_any _ ((HXA.out.below y.2).below ((Below.refl _ _).drew)) HXN.out HXL.out).mono ?_; rintro e w4 ⟨A4, ca4, rfl, hat4, hn4, hown4, hb4⟩; have hbx4 := undrew' hb4; have hb64 := (hbx4.cell (cell_lt h62)).trans h62; have hb6a : ∀ ob, (w4.alloc ob).cell? ⟨g5, 6, none⟩ = some (.slice A2 n ca2) := fun ob => cell_old hb64; have hrow4 := fun ob => (row_below hrow hbx4).alloc ob; have hs4 := hbx4.size))
        all_goals
          go_wp2_with fail
          go_roundw
          case rel => exact ⟨k + 1, n + 1, K ++ [⟨x, A4, ca4⟩], some ⟨g, 0, none⟩, cap, by go_num, by omega, by
            rw [Cl.more_take HX.out, HT2.out]
            exact HIN2.out.step (by omega) hg5W hbx4 hat4 hn4 hown4 hrow5 hgrow5 hat5⟩
          case measure => simp [intOf]; omega
      · go_wp2_with fail
        go_roundw
        case rel => exact ⟨k + 1, n, K, A2, ca2, by go_num, by omega, by
          rw [Cl.more_take HX.out, HT2.out]
          exact HIN2.out⟩
        case measure => simp [intOf]; omega
    · obtain rfl : k = b.im.length := by omega
      rw [List.take_length] at hin
      obtain rfl := hin.len
      have HIN := Lib.hid hin
      have kb : Blk wr g5 (({ a with mode := M.join a.mode b.mode, im := Cl.more a.im b.im } : Cl).cells A2 ca2 P2 pa2) := hin.box
      have kr := hin.res
      clear hin
      go_wp2_with (first | (refine claim_load (by rfl) _ (by rfl) (by rfl) kb ?_) | (refine claim_store (c := { a with mode := M.join a.mode b.mode, im := Cl.more a.im b.im }) (A := A2) (ca := ca2) (P := P2) (pa := pa2) (by rfl) _ _ (by rfl) (by rfl) kr rfl (by rfl) ?_; intro V3 hV3))
      have hfin : Blk V3 (W.heap.size + 2) (({ a with mode := M.join a.mode b.mode, im := Cl.more a.im b.im } : Cl).cells A2 ca2 P2 pa2) := by rw [hV3]; exact kr.puts0 rfl
      have hpost : COwn W (a.join b) (.returned (({ a with mode := M.join a.mode b.mode, im := Cl.more a.im b.im } : Cl).arg A2 ca2 P2 pa2)) V3 := by
        rw [HJ.out]
        have hi9 := HIN.out.im
        have hb9 : Below W.heap.size W V3 := by rw [hV3]; exact puts_below (below_then B1 hi9.below) (by omega) 0 _
        have hi10 : ImInv W Bb (fun d => G d ∨ d = g5) (Cl.more a.im b.im) K A2 ca2 V3 := by
          rw [hV3]; exact (hi9.root B1).puts ⟨by omega, .inl (by have := hi9.base.1; omega)⟩ _ _
        have hk9 : ∀ d, W1.heap.size ≤ d → V3.heap[d]? = wr.heap[d]? := fun d hd => by rw [hV3]; exact puts_block _ _ _ _ _ (by omega)
        have hs9 : V3.heap.size = wr.heap.size := by rw [hV3, puts_size]
        have hp := HIN.out.p.1
        have ho := HIN.out.p.2
        exact ⟨A2, ca2, P2, pa2, rfl, ⟨hi10.at_.1, hp.keep (fun d hd _ => hk9 d hd.1) ho⟩, ⟨_, _, K, hi10, ho.keep (fun d hd => ⟨by omega, .inl hd.2.1⟩) (by omega) (fun d hd _ => hk9 d hd.1)⟩, hb9⟩
      exact bodyPost_ret (claim_out rfl rfl hfin) rfl hpost
end Go.Proofs.YtghpildnajdlpaaDoor
