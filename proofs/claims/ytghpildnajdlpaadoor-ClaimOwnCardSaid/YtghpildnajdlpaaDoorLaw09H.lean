/-
  The statement ClaimOwn, walked: it returns true. Conditions: the claims lie in memory as they read; the table of modes lies there.
-/
import Derived.Test.YtghpildnajdlpaaDoorAwk09
import Derived.Test.YtghpildnajdlpaaDoorClmJoin
import Derived.Test.YtghpildnajdlpaaDoorClmSpoil
import Derived.Test.YtghpildnajdlpaaDoorClmRefB
import Derived.Deep.RegionLaw
namespace Go.Proofs.YtghpildnajdlpaaDoor
open Go.RowKit
variable {W : World}

theorem Pr.len_size (p : Pr) : p.l.length ≤ p.size := by
  obtain ⟨o, c, v, w, l⟩ := p
  have h1 := Pr.len_le l
  have h2 := Pr.size_mk o c v w l
  show l.length ≤ _
  omega
set_option maxRecDepth 8000 in
set_option maxHeartbeats 4000000 in
theorem claimOwn_any (hT : Tabs W) {a b : Cl} {A P A' P' : Option Addr} {ca pa ca' pa' : Nat} (ha : a.At W A ca P pa) (sa : ∀ r ∈ a.im, ∀ u ∈ r, u.s.size ≤ maxLen) (hb : b.At W A' ca' P' pa') (sb : ∀ r ∈ b.im, ∀ u ∈ r, u.s.size ≤ maxLen) (v : Val) (x : Lt W) : Calls Tryd.prog 7 #[a.arg A ca P pa, b.arg A' ca' P' pa', .agg #[.bool v.t, .int .i64 v.n, .string v.s]] x.1 fun e w' => e = .returned (.bool true) ∧ ∃ y : Lt W, w' = y.1 := by
  have HT := Lib.hid hT
  have HA := Lib.hid ha
  have HB := Lib.hid hb
  have Za := Lib.hid sa
  have Zb := Lib.hid sb
  clear hT ha hb sa sb
  unfold Cl.arg
  go_enter Tryd.func7, Tryd.ntmps7
  go_wp2_with fail
  refine calls_here fun W1 hW1 => ?_
  have B1 : Below W.heap.size W W1 := by rw [hW1]; exact below_then (below_then (x.more _) (below_alloc _)) (below_alloc _)
  have ka : Blk W1 (x.1.heap.size) (a.cells A ca P pa) := by rw [hW1]; refine Blk.alloc ?_ _; refine Blk.alloc ?_ _; exact Blk.new' (l := #[.int .i64 a.kind, .int .i64 a.table, .int .i64 a.mode, .bool a.key.t, .int .i64 a.key.n, .string a.key.s, .slice A a.im.length ca, .int .i64 a.p.op, .int .i64 a.p.col, .bool a.p.v.t, .int .i64 a.p.v.n, .string a.p.v.s, .bool a.p.w.t, .int .i64 a.p.w.n, .string a.p.w.s, .slice P a.p.l.length pa]) (by simp)
  have kb : Blk W1 (x.1.heap.size + 1) (b.cells A' ca' P' pa') := by rw [hW1]; refine Blk.alloc ?_ _; exact Blk.new' (l := #[.int .i64 b.kind, .int .i64 b.table, .int .i64 b.mode, .bool b.key.t, .int .i64 b.key.n, .string b.key.s, .slice A' b.im.length ca', .int .i64 b.p.op, .int .i64 b.p.col, .bool b.p.v.t, .int .i64 b.p.v.n, .string b.p.v.s, .bool b.p.w.t, .int .i64 b.p.w.n, .string b.p.w.s, .slice P' b.p.l.length pa']) (by simp)
  have kv : Blk W1 (x.1.heap.size + 1 + 1) [.bool v.t, .int .i64 v.n, .string v.s] := by rw [hW1]; exact Blk.new' (l := #[.bool v.t, .int .i64 v.n, .string v.s]) (by simp)
  clear hW1
  have HT1 := Lib.hid (show Tabs W1 from fun i hi => (B1.cell (cell_lt (HT.out i hi))).trans (HT.out i hi))
  have Aa := Lib.hid (HA.out.below B1)
  have Ab := Lib.hid (HB.out.below B1)
  refine (awake_any HT1.out (Lt.base W1)).mono ?_; rintro e w' ⟨rfl, y1, rfl⟩
  obtain ⟨fa, hfa⟩ : ∃ f, a.few = f := ⟨_, rfl⟩
  have Ca := cfew_any Aa.out y1
  rw [hfa] at Ca
  have HFa := Lib.hid hfa
  have HCa := Lib.hid Ca
  clear hfa Ca
  go_wp2_with (first | (refine claim_load (by rfl) _ (by rfl) (by rfl) (ka.below y1.2) ?_))
  refine HCa.out.mono ?_; rintro e w' ⟨rfl, y2, rfl⟩
  obtain ⟨fb, hfb⟩ : ∃ f, b.few = f := ⟨_, rfl⟩
  have Cb := cfew_any Ab.out y2
  rw [hfb] at Cb
  have HFb := Lib.hid hfb
  have HCb := Lib.hid Cb
  clear hfb Cb
  go_wp2_with (first | (refine claim_load (by rfl) _ (by rfl) (by rfl) (kb.below y2.2) ?_))
  refine HCb.out.mono ?_; rintro e w' ⟨rfl, y3, rfl⟩
  cases fa
  · go_wp2_with fail
    go_ret
    exact ⟨rfl, y3.via B1, rfl⟩
  cases fb
  · go_wp2_with fail
    go_ret
    exact ⟨rfl, y3.via B1, rfl⟩
  have Fa := Lib.hid (Cl.few_fits HFa.out Za.out)
  have Fb := Lib.hid (Cl.few_fits HFb.out Zb.out)
  obtain ⟨J, hJ⟩ : ∃ J, a.join b = J := ⟨_, rfl⟩
  have FJ : J.Fits := by
    rw [← hJ]
    refine Cl.join_fits Fa.out Fb.out ?_
    cases h : a.same b
    · rw [Cl.join_no h]; exact Fa.out.im
    · rw [Cl.join_yes h]
      have h1 := Cl.more_length b.im a.im
      have h2 := Cl.few_len HFa.out
      have h3 := Cl.few_len HFb.out
      show (Cl.more a.im b.im).length ≤ 1000000
      omega
  have HJ := Lib.hid hJ
  have FJ := Lib.hid FJ
  clear hJ
  go_upto_region 8 with fail
  refine wp_here fun V0 hV0 => ?_
  have bV0 : Below W1.heap.size W1 V0 := by rw [hV0]; exact y3.2
  clear hV0
  replace ka := ka.below bV0
  replace kb := kb.below bV0
  replace kv := kv.below bV0
  have A0 := Lib.hid (Aa.out.below bV0)
  have Q1 := Lib.hid (cclone_any V0 A0.out Fa.out)
  go_wp2_with (refine claim_load (by rfl) _ (by rfl) (by rfl) ka ?_)
  refine Q1.out.mono ?_; rintro e w1 ⟨A1, ca1, P1, pa1, rfl, hat1, ⟨Bq1, G1, K1, him1, hop1⟩, hb1⟩
  clear Q1
  obtain ⟨g1, hg1⟩ : ∃ g, w1.heap.size = g := ⟨_, rfl⟩
  go_upto_region 9 with (refine claim_store (c := a) (A := A1) (ca := ca1) (P := P1) (pa := pa1) (by rfl) _ _ (by rfl) (by rfl) (Blk.new' hg1.symm) rfl (by rfl) ?_; intro V1 hV1)
  have bv1 : Below w1.heap.size w1 V1 := by rw [hV1]; exact puts_below (below_alloc _) (by omega) _ _
  have kk1 : Blk V1 g1 (a.cells A1 ca1 P1 pa1) := by rw [hV1]; exact (Blk.new' hg1.symm).puts0 rfl
  clear hV1
  have b01 := below_then hb1 bv1
  have Q2 := Lib.hid (requal_self (A0.out.below b01) (hat1.below bv1) Fa.out (Lt.base V1))
  go_wp2_with (first | (refine claim_load (by rfl) _ (by rfl) (by rfl) (ka.below b01) ?_) | (refine claim_load (by rfl) _ (by rfl) (by rfl) kk1 ?_))
  refine Q2.out.mono ?_; rintro e w' ⟨rfl, z1, rfl⟩
  clear Q2
  have b0z := below_then b01 z1.2
  have Q3 := Lib.hid (ctwin_any z1.1 (A0.out.below b0z) Fa.out)
  go_wp2_with (refine claim_load (by rfl) _ (by rfl) (by rfl) (ka.below b0z) ?_)
  refine Q3.out.mono ?_; rintro e w2 ⟨A2, ca2, P2, pa2, rfl, hat2, ⟨Bq2, G2, K2, him2, hop2⟩, hb2⟩
  clear Q3
  obtain ⟨g2, hg2⟩ : ∃ g, w2.heap.size = g := ⟨_, rfl⟩
  go_upto_region 12 with (refine claim_store (c := a) (A := A2) (ca := ca2) (P := P2) (pa := pa2) (by rfl) _ _ (by rfl) (by rfl) (Blk.new' hg2.symm) rfl (by rfl) ?_; intro V2 hV2)
  have bv2 : Below w2.heap.size w2 V2 := by rw [hV2]; exact puts_below (below_alloc _) (by omega) _ _
  have kk2 : Blk V2 g2 (a.cells A2 ca2 P2 pa2) := by rw [hV2]; exact (Blk.new' hg2.symm).puts0 rfl
  clear hV2
  have bz2 := below_then hb2 bv2
  have b02 := below_then b0z bz2
  have HTV2 : Tabs V2 := fun i hi => ((below_then (below_then B1 bV0) b02).cell (cell_lt (HT.out i hi))).trans (HT.out i hi)
  have Q4 := Lib.hid (HJ.out ▸ cjoin_any V2 HTV2 (A0.out.below b02) (Ab.out.below (below_then bV0 b02)) Fa.out Fb.out)
  clear HTV2
  go_wp2_with (first | (refine claim_load (by rfl) _ (by rfl) (by rfl) (ka.below b02) ?_) | (refine claim_load (by rfl) _ (by rfl) (by rfl) (kb.below b02) ?_))
  refine Q4.out.mono ?_; rintro e w3 ⟨A3, ca3, P3, pa3, rfl, hat3, ⟨Bq3, G3, K3, him3, hop3⟩, hb3⟩
  clear Q4
  obtain ⟨g3, hg3⟩ : ∃ g, w3.heap.size = g := ⟨_, rfl⟩
  go_upto_region 13 with (refine claim_store (c := J) (A := A3) (ca := ca3) (P := P3) (pa := pa3) (by rfl) _ _ (by rfl) (by rfl) (Blk.new' hg3.symm) rfl (by rfl) ?_; intro V3 hV3)
  have bv3 : Below w3.heap.size w3 V3 := by rw [hV3]; exact puts_below (below_alloc _) (by omega) _ _
  have kk3 : Blk V3 g3 (J.cells A3 ca3 P3 pa3) := by rw [hV3]; exact (Blk.new' hg3.symm).puts0 rfl
  clear hV3
  have b23 := below_then hb3 bv3
  have b03 := below_then b02 b23
  have l0 := hb1.size
  have l1 := kk1.lt
  have l2 := z1.2.size
  have l3 := hb2.size
  have l4 := kk2.lt
  have l5 := hb3.size
  have l6 := kk3.lt
  have la := ka.lt
  have lb := kb.lt
  have lv := kv.lt
  have l7 := B1.size
  have l8 := bV0.size
  obtain ⟨R, hR⟩ : ∃ R : Nat → Prop, ∀ b, R b ↔ (V2.heap.size ≤ b ∧ b < g3 ∧ ∀ o, A3 ≠ some ⟨b, o, none⟩) ∨ (V0.heap.size ≤ b ∧ b < g1 ∧ ∀ o, A1 ≠ some ⟨b, o, none⟩) := ⟨_, fun _ => Iff.rfl⟩
  have hin : ∀ b, R b → V2.heap.size ≤ b ∧ b < g3 ∨ V0.heap.size ≤ b ∧ b < g1 := fun b hb => by
    rcases (hR b).1 hb with h | h
    · exact .inl ⟨h.1, h.2.1⟩
    · exact .inr ⟨h.1, h.2.1⟩
  have oj := own_writes (R := R) him3 hop3 (fun b h1 h2 h3 => (hR b).2 (.inl ⟨h1, by omega, h3⟩)) (fun b o e hr => by
    have hd := him3.hd e
    rcases (hR b).1 hr with h | h
    · exact h.2.2 o e
    · omega)
  have oc := own_writes (R := R) him1 hop1 (fun b h1 h2 h3 => (hR b).2 (.inr ⟨h1, by omega, h3⟩)) (fun b o e hr => by
    have hd := him1.hd e
    rcases (hR b).1 hr with h | h
    · omega
    · exact h.2.2 o e)
  have b13 := below_then bv1 (below_then z1.2 (below_then bz2 b23))
  have IJ := Lib.hid (oj.1.below bv3)
  have PJ := Lib.hid (oj.2.below bv3)
  have IC := Lib.hid (oc.1.below b13)
  have PC := Lib.hid (oc.2.below b13)
  have hNa : ¬ R x.1.heap.size := fun h => by have := hin _ h; omega
  have hNv : ¬ R (x.1.heap.size + 1 + 1) := fun h => by have := hin _ h; omega
  have hN1 : ¬ R g1 := fun h => by have := hin _ h; omega
  have hN2 : ¬ R g2 := fun h => by have := hin _ h; omega
  have hN3 : ¬ R g3 := fun h => by have := hin _ h; omega
  have hR1 : ∀ b, R b → W1.heap.size ≤ b := fun b h => by have := hin _ h; omega
  have hR0 : ∀ b, R b → W.heap.size ≤ b := fun b h => by have := hin _ h; omega
  have HOWN := Lib.hid (show ∀ wr, Wrote R V3 wr → a.At wr A2 ca2 P2 pa2 from fun wr hw => own_keeps hat2 him2 hop2 (fun b h1 h2 => by
    rw [hw.block b (fun h => by have := hin _ h; omega), b23.block b (by omega), bv2.block b h2]))
  have KA := Lib.hid (ka.below b03)
  have KV := Lib.hid (kv.below b03)
  have KK1 := Lib.hid (kk1.below (below_then z1.2 (below_then bz2 b23)))
  have KK2 := Lib.hid (kk2.below b23)
  have KK3 := Lib.hid kk3
  clear oj oc hR hin him1 him2 him3 hop1 hop2 hop3 hat1 hat2 hat3
  go_wp2_with fail
  go_loopw [13, 14] (fun i _ wr => ∃ k : Nat, i = .int .i64 k ∧ k ≤ J.im.length ∧ Wrote R V3 wr) (fun i _ _ => J.im.length - (intOf i).toNat)
  case atStart => exact ⟨0, rfl, by omega, Wrote.refl _ _⟩
  case round =>
    rename_i wr
    obtain ⟨k, rfl, hk, hw⟩ := hrel
    have i0 : (0 : Int) ≤ (k : Int) := by omega
    have hk9 : k ≤ 1000000 := by have := FJ.out.im; omega
    have q6 : wr.cell? ⟨g3, 6, none⟩ = some (.slice A3 J.im.length ca3) := (hw.blk KK3.out hN3).cell 6 _ rfl
    by_cases hlt : k < J.im.length
    · have i1 : (k : Int) < (J.im.length : Int) := by omega
      obtain ⟨r, hr⟩ : ∃ r, J.im[k]? = some r := ⟨_, List.getElem?_eq_getElem hlt⟩
      obtain ⟨bj, A6, ca6, hA6, hrow⟩ := IJ.out.row hr
      have hrl : r.length ≤ 1000000000 := by have := FJ.out.row r (List.mem_of_getElem? hr); omega
      have HROW := Lib.hid hrow
      clear hrow hr
      rw [hA6] at q6
      have HA6 := Lib.hid hA6
      clear hA6
      go_wp2_with fail
      go_loopw [14] (fun m wr => ∃ (j : Nat) (wq : World), m = .int .i64 j ∧ j ≤ r.length ∧ wq = wr ∧ Wrote R V3 wq) (fun m _ => r.length - (intOf m).toNat)
      case atStart => exact ⟨0, wr, rfl, by omega, rfl, hw⟩
      case round =>
        clear q6
        obtain ⟨j, wq, rfl, hj, rfl, hq⟩ := hrel
        have j0 : (0 : Int) ≤ (j : Int) := by omega
        have p6 : wq.cell? ⟨g3, 6, none⟩ = some (.slice A3 J.im.length ca3) := (hq.blk KK3.out hN3).cell 6 _ rfl
        rw [HA6.out] at p6
        obtain ⟨ph, pm⟩ := HROW.out wq hq
        by_cases hjl : j < r.length
        · have j1 : (j : Int) < (r.length : Int) := by omega
          obtain ⟨b6, u0, u1, u2, hA7, hRb, c0, c1, c2, cf⟩ := pm j hjl
          subst hA7
          have v0 := (hq.blk KV.out hNv).cell 0 _ rfl
          have v1 := (hq.blk KV.out hNv).cell 1 _ rfl
          have v2 := (hq.blk KV.out hNv).cell 2 _ rfl
          clear pm
          go_upto_region 19 with fail
          go_region
          all_goals
            go_wp2_with fail
            go_roundw
            case rel => exact ⟨j + 1, _, by go_num, by omega, rfl, ((hq.drew.set (a := ⟨b6, j * 3, none⟩) hRb _).set (a := ⟨b6, j * 3 + 1, none⟩) hRb _).set (a := ⟨b6, j * 3 + 2, none⟩) hRb _⟩
            case measure => simp [intOf]; omega
        · obtain rfl : j = r.length := by omega
          clear pm
          go_wp2_with fail
          go_roundw
          case rel => exact ⟨k + 1, by go_num, by omega, hq⟩
          case measure => simp [intOf]; omega
    · obtain rfl : k = J.im.length := by omega
      go_wp2_with fail
      go_loopw [15] (fun i wr => ∃ k : Nat, i = .int .i64 k ∧ k ≤ J.p.l.length ∧ Wrote R V3 wr) (fun i _ => J.p.l.length - (intOf i).toNat)
      case atStart => exact ⟨0, rfl, by omega, hw⟩
      case round =>
        rename_i wr
        obtain ⟨k, rfl, hk, hw⟩ := hrel
        have i0 : (0 : Int) ≤ (k : Int) := by omega
        have hk9 : k ≤ 1000000000 := by have := FJ.out.p; have h1 := Pr.len_le J.p.l; have h2 : J.p.l.length ≤ J.p.size := Pr.len_size J.p; omega
        have q6 : wr.cell? ⟨g3, 15, none⟩ = some (.slice P3 J.p.l.length pa3) := (hw.blk KK3.out hN3).cell 15 _ rfl
        by_cases hlt : k < J.p.l.length
        · have i1 : (k : Int) < (J.p.l.length : Int) := by omega
          obtain ⟨b6, hP6, hRb, hc⟩ := PJ.out.part hlt
          obtain ⟨u, c0, cf⟩ := hc wr hw
          clear hc
          rw [hP6] at q6
          clear hP6
          go_wp2_with fail
          go_roundw
          case rel => exact ⟨k + 1, by go_num, by omega, hw.set (a := ⟨b6, k * 9, none⟩) hRb _⟩
          case measure => simp [intOf]; omega
        · obtain rfl : k = J.p.l.length := by omega
          go_wp2_with fail
          go_loopw [16, 17] (fun i _ wr => ∃ k : Nat, i = .int .i64 k ∧ k ≤ a.im.length ∧ Wrote R V3 wr) (fun i _ _ => a.im.length - (intOf i).toNat)
          case atStart => exact ⟨0, rfl, by omega, hw⟩
          case round =>
            rename_i wr
            obtain ⟨k, rfl, hk, hw⟩ := hrel
            have i0 : (0 : Int) ≤ (k : Int) := by omega
            have hk9 : k ≤ 1000000 := by have := Fa.out.im; omega
            have q6 : wr.cell? ⟨g1, 6, none⟩ = some (.slice A1 a.im.length ca1) := (hw.blk KK1.out hN1).cell 6 _ rfl
            by_cases hlt : k < a.im.length
            · have i1 : (k : Int) < (a.im.length : Int) := by omega
              obtain ⟨r, hr⟩ : ∃ r, a.im[k]? = some r := ⟨_, List.getElem?_eq_getElem hlt⟩
              obtain ⟨bj, A6, ca6, hA6, hrow⟩ := IC.out.row hr
              have hrl : r.length ≤ 1000000000 := by have := Fa.out.row r (List.mem_of_getElem? hr); omega
              have HROW := Lib.hid hrow
              clear hrow hr
              rw [hA6] at q6
              have HA6 := Lib.hid hA6
              clear hA6
              go_wp2_with fail
              go_loopw [17] (fun m wr => ∃ (j : Nat) (wq : World), m = .int .i64 j ∧ j ≤ r.length ∧ wq = wr ∧ Wrote R V3 wq) (fun m _ => r.length - (intOf m).toNat)
              case atStart => exact ⟨0, wr, rfl, by omega, rfl, hw⟩
              case round =>
                clear q6
                obtain ⟨j, wq, rfl, hj, rfl, hq⟩ := hrel
                have j0 : (0 : Int) ≤ (j : Int) := by omega
                have p6 : wq.cell? ⟨g1, 6, none⟩ = some (.slice A1 a.im.length ca1) := (hq.blk KK1.out hN1).cell 6 _ rfl
                rw [HA6.out] at p6
                obtain ⟨ph, pm⟩ := HROW.out wq hq
                by_cases hjl : j < r.length
                · have j1 : (j : Int) < (r.length : Int) := by omega
                  obtain ⟨b6, u0, u1, u2, hA7, hRb, c0, c1, c2, cf⟩ := pm j hjl
                  subst hA7
                  have v0 := (hq.blk KV.out hNv).cell 0 _ rfl
                  have v1 := (hq.blk KV.out hNv).cell 1 _ rfl
                  have v2 := (hq.blk KV.out hNv).cell 2 _ rfl
                  clear pm
                  go_upto_region 30 with fail
                  go_region
                  all_goals
                    go_wp2_with fail
                    go_roundw
                    case rel => exact ⟨j + 1, _, by go_num, by omega, rfl, ((hq.drew.set (a := ⟨b6, j * 3, none⟩) hRb _).set (a := ⟨b6, j * 3 + 1, none⟩) hRb _).set (a := ⟨b6, j * 3 + 2, none⟩) hRb _⟩
                    case measure => simp [intOf]; omega
                · obtain rfl : j = r.length := by omega
                  clear pm
                  go_wp2_with fail
                  go_roundw
                  case rel => exact ⟨k + 1, by go_num, by omega, hq⟩
                  case measure => simp [intOf]; omega
            · obtain rfl : k = a.im.length := by omega
              go_wp2_with fail
              go_loopw [18] (fun i wr => ∃ k : Nat, i = .int .i64 k ∧ k ≤ a.p.l.length ∧ Wrote R V3 wr) (fun i _ => a.p.l.length - (intOf i).toNat)
              case atStart => exact ⟨0, rfl, by omega, hw⟩
              case round =>
                rename_i wr
                obtain ⟨k, rfl, hk, hw⟩ := hrel
                have i0 : (0 : Int) ≤ (k : Int) := by omega
                have hk9 : k ≤ 1000000000 := by have := Fa.out.p; have h1 := Pr.len_le a.p.l; have h2 : a.p.l.length ≤ a.p.size := Pr.len_size a.p; omega
                have q6 : wr.cell? ⟨g1, 15, none⟩ = some (.slice P1 a.p.l.length pa1) := (hw.blk KK1.out hN1).cell 15 _ rfl
                by_cases hlt : k < a.p.l.length
                · have i1 : (k : Int) < (a.p.l.length : Int) := by omega
                  obtain ⟨b6, hP6, hRb, hc⟩ := PC.out.part hlt
                  obtain ⟨u, c0, cf⟩ := hc wr hw
                  clear hc
                  rw [hP6] at q6
                  clear hP6
                  go_wp2_with fail
                  go_roundw
                  case rel => exact ⟨k + 1, by go_num, by omega, hw.set (a := ⟨b6, k * 9, none⟩) hRb _⟩
                  case measure => simp [intOf]; omega
                · obtain rfl : k = a.p.l.length := by omega
                  have hA := Lib.hid (Aa.out.below (hw.below (below_then bV0 b03) hR1))
                  have hO := Lib.hid (HOWN.out wr hw)
                  have Q5 := Lib.hid (requal_self hA.out hO.out Fa.out (Lt.base wr))
                  go_wp2_with (first | (refine claim_load (by rfl) _ (by rfl) (by rfl) (hw.blk KA.out hNa) ?_) | (refine claim_load (by rfl) _ (by rfl) (by rfl) (hw.blk KK2.out hN2) ?_))
                  refine Q5.out.mono ?_; rintro e w' ⟨rfl, z5, rfl⟩
                  go_wp2_with fail
                  go_ret
                  exact ⟨rfl, z5.via (hw.below (below_then (below_then B1 bV0) b03) hR0), rfl⟩
end Go.Proofs.YtghpildnajdlpaaDoor
