/-
  The statement ClaimJoins, walked: it returns true. Conditions: the tables and the claims lie in memory as they read; the table of modes lies there.
-/
import Derived.Test.YtghpildnajdlpaaDoorAwk09
import Derived.Test.YtghpildnajdlpaaDoorClmJoins
import Derived.Test.YtghpildnajdlpaaDoorClmRMay
import Derived.Test.YtghpildnajdlpaaDoorOpenC
namespace Go.Proofs.YtghpildnajdlpaaDoor
open Go.RowKit
variable {W : World}

/-- Cells that read so, from an offset on. -/
structure Ranged (w : World) (b o : Nat) (l : List Value) : Prop where
  out : w.rangeAt b o l
theorem range_below {w w' : World} (hb : Below w.heap.size w w') {b o : Nat} {l : List Value} (h : w.rangeAt b o l) : Ranged w' b o l := ⟨fun j v hv => (hb.cell (cell_lt (h j v hv))).trans (h j v hv)⟩
/-- A claim among claims is read. -/
theorem claim_load_at {ops : Array Oper} {rest : List Oper} {op : Oper} {a : Act} {w : World} {Q : Exit → Act → World → Prop} (x : Operand) (ho : op.op = .load 31 x) (hw : Region.wanted op (yielded ops a.tmps) = true) {g o : Nat} (hx : a.eval x = .pointer (some ⟨g, o, none⟩)) {c : Cl} {A : Option Addr} {ca : Nat} {P : Option Addr} {pa : Nat} (h : Ranged w g o (c.cells A ca P pa)) (hK : wpList Tryd.prog ops Q rest (a.put op.dst (c.arg A ca P pa)) w) : wpList Tryd.prog ops Q (op :: rest) a w :=
  BigFrame.wpList_want hw fun _ hK' => wp_load_mid _ x ho g o hx _ _ h.out Tryd.underlying31 rfl info_claim (hK' _ _ hK)
theorem claim_store_at {ops : Array Oper} {rest : List Oper} {op : Oper} {a : Act} {w : World} {Q : Exit → Act → World → Prop} (x y : Operand) (ho : op.op = .store 31 x y) (hw : Region.wanted op (yielded ops a.tmps) = true) {g : Nat} (hx : a.eval x = .pointer (some ⟨g, 0, none⟩)) {l : List Value} (h : Blk w g l) (hl : l.length = 16) {c : Cl} {A : Option Addr} {ca : Nat} {P : Option Addr} {pa : Nat} (hy : a.eval y = c.arg A ca P pa) (hK : ∀ w', w' = puts w g 0 (c.cells A ca P pa) → wpList Tryd.prog ops Q rest (a.put op.dst undef) w') : wpList Tryd.prog ops Q (op :: rest) a w :=
  claim_store hw x y ho hx h hl hy hK
set_option maxRecDepth 8000 in
set_option maxHeartbeats 4000000 in
theorem claimJoins_any (hT : Tabs W) {ts : List (List Bool)} {A0 : Option Addr} {ca0 : Nat} (hts : TabsAt W A0 ts) {a : Cl} {A P : Option Addr} {ca pa : Nat} (ha : a.At W A ca P pa) (sa : ∀ r ∈ a.im, ∀ u ∈ r, u.s.size ≤ maxLen) {l : List Cl} {AL : Option Addr} {caL : Nat} (hk : ClsAt W AL l) (sk : ∀ c ∈ l, ∀ r ∈ c.im, ∀ u ∈ r, u.s.size ≤ maxLen) (x : Lt W) : Calls Tryd.prog 6 #[.slice A0 ts.length ca0, a.arg A ca P pa, .slice AL l.length caL] x.1 fun e w' => e = .returned (.bool true) ∧ ∃ y : Lt W, w' = y.1 := by
  have HTS := Lib.hid hts
  have HK := Lib.hid hk
  have ZL := Lib.hid sk
  clear hts hk sk
  have HT := Lib.hid hT
  have HA := Lib.hid ha
  have Za := Lib.hid sa
  clear hT ha sa
  unfold Cl.arg
  go_enter Tryd.func6, Tryd.ntmps6
  go_wp2_with fail
  refine calls_here fun W1 hW1 => ?_
  have B1 : Below W.heap.size W W1 := by rw [hW1]; exact x.more _
  have ka : Blk W1 (x.1.heap.size) (a.cells A ca P pa) := by rw [hW1]; exact Blk.new' (l := #[.int .i64 a.kind, .int .i64 a.table, .int .i64 a.mode, .bool a.key.t, .int .i64 a.key.n, .string a.key.s, .slice A a.im.length ca, .int .i64 a.p.op, .int .i64 a.p.col, .bool a.p.v.t, .int .i64 a.p.v.n, .string a.p.v.s, .bool a.p.w.t, .int .i64 a.p.w.n, .string a.p.w.s, .slice P a.p.l.length pa]) (by simp)
  clear hW1
  have HT1 := Lib.hid (show Tabs W1 from fun i hi => (B1.cell (cell_lt (HT.out i hi))).trans (HT.out i hi))
  have Aa := Lib.hid (HA.out.below B1)
  have AT := Lib.hid (HTS.out.below B1)
  refine (awake_any HT1.out (Lt.base W1)).mono ?_; rintro e w' ⟨rfl, y1, rfl⟩
  by_cases h2 : l.length < 2
  · have d1 : decide ((l.length : Int) < 2) = true := decide_eq_true (by omega)
    have d2 : (l.length : Int) < 2 := by omega
    go_wp2_with fail
    go_ret
    exact ⟨rfl, y1.via B1, rfl⟩
  have d1 : decide ((l.length : Int) < 2) = false := decide_eq_false (by omega)
  by_cases h10 : 10 < l.length
  · have d3 : decide ((10 : Int) < (l.length : Int)) = true := decide_eq_true (by omega)
    have d2 : (10 : Int) < (l.length : Int) := by omega
    go_wp2_with fail
    go_ret
    exact ⟨rfl, y1.via B1, rfl⟩
  have d3 : decide ((10 : Int) < (l.length : Int)) = false := decide_eq_false (by omega)
  by_cases h20 : 20 < ts.length
  · have d4 : decide ((20 : Int) < (ts.length : Int)) = true := decide_eq_true (by omega)
    have d2 : (20 : Int) < (ts.length : Int) := by omega
    go_wp2_with fail
    go_ret
    exact ⟨rfl, y1.via B1, rfl⟩
  have d4 : decide ((20 : Int) < (ts.length : Int)) = false := decide_eq_false (by omega)
  obtain ⟨b, hb0⟩ : ∃ b, l[0]? = some b := ⟨_, List.getElem?_eq_getElem (show 0 < l.length by omega)⟩
  obtain ⟨bl, ol, hAL, hcl⟩ := HK.out (fun e => by rw [e] at h2; exact h2 (by decide))
  have HCL := Lib.hid hcl
  clear hcl HK
  subst hAL
  obtain ⟨A', ca', P', pa', hr0, hat0⟩ := HCL.out 0 b hb0
  have Zb := Lib.hid (ZL.out b (List.mem_of_getElem? hb0))
  have HB := Lib.hid hat0
  have i0 : (0 : Int) < (l.length : Int) := by omega
  obtain ⟨g0, hg0⟩ : ∃ g, y1.1.heap.size = g := ⟨_, rfl⟩
  have hr1 := range_below (below_then B1 y1.2) hr0
  rw [show ol + 0 * 16 = ol from rfl] at hr1
  clear hr0 hat0 hb0
  go_upto_region 6 with fail
  go_upto_region 7 with (first | (refine claim_load_at (g := bl) (o := ol) _ (by rfl) (by rfl) (by rfl) (by exact hr1) ?_) | (refine claim_store_at (c := b) (A := A') (ca := ca') (P := P') (pa := pa') _ _ (by rfl) (by rfl) (by rfl) (Blk.new' hg0.symm) rfl (by rfl) ?_; intro V1 hV1))
  have bV1 : Below W1.heap.size W1 V1 := by rw [hV1]; exact puts_below (below_then y1.2 (below_alloc _)) (by have := y1.2.size; omega) _ _
  have kb : Blk V1 g0 (b.cells A' ca' P' pa') := by rw [hV1]; exact (Blk.new' hg0.symm).puts0 rfl
  clear hV1 hg0 hr1 i0
  replace ka := ka.below bV1
  have BV1 := below_then B1 bV1
  have AV := Lib.hid (HA.out.below BV1)
  have BV := Lib.hid (HB.out.below BV1)
  have TV := Lib.hid (HTS.out.below BV1)
  have HTV := Lib.hid (show Tabs V1 from fun i hi => (BV1.cell (cell_lt (HT.out i hi))).trans (HT.out i hi))
  clear Aa AT HT1 bV1
  obtain ⟨fa, hfa⟩ : ∃ f, a.few = f := ⟨_, rfl⟩
  obtain ⟨fb, hfb⟩ : ∃ f, b.few = f := ⟨_, rfl⟩
  have Ca := cfew_any AV.out (Lt.base V1)
  rw [hfa] at Ca
  have HCa := Lib.hid Ca
  have Cb := fun z : Lt V1 => cfew_any BV.out z
  rw [hfb] at Cb
  have HCb := Lib.hid Cb
  have HFa := Lib.hid hfa
  have HFb := Lib.hid hfb
  clear hfa hfb Ca Cb
  go_wp2_with (refine claim_load (by rfl) _ (by rfl) (by rfl) ka ?_)
  refine HCa.out.mono ?_; rintro e w' ⟨rfl, z1, rfl⟩
  go_wp2_with (refine claim_load (by rfl) _ (by rfl) (by rfl) (kb.below z1.2) ?_)
  refine (HCb.out z1).mono ?_; rintro e w' ⟨rfl, z2, rfl⟩
  cases fa
  · go_wp2_with fail
    go_ret
    exact ⟨rfl, z2.via BV1, rfl⟩
  cases fb
  · go_wp2_with fail
    go_ret
    exact ⟨rfl, z2.via BV1, rfl⟩
  have Fa := Lib.hid (Cl.few_fits HFa.out Za.out)
  have Fb := Lib.hid (Cl.few_fits HFb.out Zb.out)
  obtain ⟨m1, hm1⟩ : ∃ m, Cl.may ts a = m := ⟨_, rfl⟩
  obtain ⟨m2, hm2⟩ : ∃ m, Cl.may ts b = m := ⟨_, rfl⟩
  obtain ⟨sm, hsm⟩ : ∃ m, a.same b = m := ⟨_, rfl⟩
  have K1 := rcmay_any (ca0 := ca0) TV.out AV.out Fa.out z2
  rw [hm1] at K1
  have K1 := Lib.hid K1
  have K2 := fun z : Lt V1 => rcmay_any (ca0 := ca0) TV.out BV.out Fb.out z
  rw [hm2] at K2
  have K2 := Lib.hid K2
  have K3 := fun z : Lt V1 => csame_any (a := a) (b := b) (A := A) (A' := A') (ca := ca) (ca' := ca') AV.out.p BV.out.p (by have := Fa.out.p; omega) z
  rw [hsm] at K3
  have K3 := Lib.hid K3
  have M1 := Lib.hid hm1
  have M2 := Lib.hid hm2
  have SM := Lib.hid hsm
  clear hm1 hm2 hsm
  go_wp2_with (refine claim_load (by rfl) _ (by rfl) (by rfl) (ka.below z2.2) ?_)
  refine K1.out.mono ?_; rintro e w' ⟨rfl, z3, rfl⟩
  cases m1
  · go_wp2_with fail
    go_ret
    exact ⟨rfl, z3.via BV1, rfl⟩
  go_wp2_with (refine claim_load (by rfl) _ (by rfl) (by rfl) (kb.below z3.2) ?_)
  refine (K2.out z3).mono ?_; rintro e w' ⟨rfl, z4, rfl⟩
  cases m2
  · go_wp2_with fail
    go_ret
    exact ⟨rfl, z4.via BV1, rfl⟩
  go_wp2_with (first | (refine claim_load (by rfl) _ (by rfl) (by rfl) (ka.below z4.2) ?_) | (refine claim_load (by rfl) _ (by rfl) (by rfl) (kb.below z4.2) ?_))
  refine (K3.out z4).mono ?_; rintro e w' ⟨rfl, z5, rfl⟩
  cases sm
  · go_wp2_with fail
    go_ret
    exact ⟨rfl, z5.via BV1, rfl⟩
  obtain ⟨J, hJ⟩ : ∃ J, a.join b = J := ⟨_, rfl⟩
  have FJ : J.Fits := by
    rw [← hJ]
    refine Cl.join_fits Fa.out Fb.out ?_
    rw [Cl.join_yes SM.out]
    have h1 := Cl.more_length b.im a.im
    have h2 := Cl.few_len HFa.out
    have h3 := Cl.few_len HFb.out
    show (Cl.more a.im b.im).length ≤ 1000000
    omega
  have KJ := cjoin_any z5.1 (fun i hi => (z5.2.cell (cell_lt (HTV.out i hi))).trans (HTV.out i hi)) (AV.out.below z5.2) (BV.out.below z5.2) Fa.out Fb.out
  rw [hJ] at KJ
  have KJ := Lib.hid KJ
  have HJ := Lib.hid hJ
  have FJ := Lib.hid FJ
  clear hJ
  go_wp2_with (first | (refine claim_load (by rfl) _ (by rfl) (by rfl) (ka.below z5.2) ?_) | (refine claim_load (by rfl) _ (by rfl) (by rfl) (kb.below z5.2) ?_))
  refine KJ.out.mono ?_; rintro e w4 ⟨A4, ca4, P4, pa4, rfl, hat4, _, hb4⟩
  have HJA := Lib.hid hat4
  clear hat4 K1 K2 K3 HCa HCb KJ
  obtain ⟨g1, hg1⟩ : ∃ g, w4.heap.size = g := ⟨_, rfl⟩
  go_upto_region 12 with (refine claim_store_at (c := J) (A := A4) (ca := ca4) (P := P4) (pa := pa4) _ _ (by rfl) (by rfl) (by rfl) (Blk.new' hg1.symm) rfl (by rfl) ?_; intro V2 hV2)
  have b4 : Below w4.heap.size w4 V2 := by rw [hV2]; exact puts_below (below_alloc _) (by omega) _ _
  have kj : Blk V2 g1 (J.cells A4 ca4 P4 pa4) := by rw [hV2]; exact (Blk.new' hg1.symm).puts0 rfl
  clear hV2 hg1
  have bV2 : Below V1.heap.size V1 V2 := below_then (below_then z5.2 hb4) b4
  replace ka := ka.below bV2
  replace kb := kb.below bV2
  have BV2 := below_then BV1 bV2
  have AV2 := Lib.hid (HA.out.below BV2)
  have BV2' := Lib.hid (HB.out.below BV2)
  have TV2 := Lib.hid (HTS.out.below BV2)
  have JV2 := Lib.hid (HJA.out.below b4)
  have HTV2 := Lib.hid (show Tabs V2 from fun i hi => (BV2.cell (cell_lt (HT.out i hi))).trans (HT.out i hi))
  clear AV BV TV HTV HJA b4 bV2 hb4
  have K1 := ccheck_any (ca0 := ca0) TV2.out JV2.out FJ.out (Lt.base V2)
  rw [Cl.err_ok (HJ.out ▸ Cl.joins_may M1.out M2.out SM.out)] at K1
  have K1 := Lib.hid K1
  have K2 := fun z : Lt V2 => ccov_any HTV2.out JV2.out AV2.out FJ.out Fa.out z
  rw [show J.covers a = true from HJ.out ▸ (Cl.joins_covers M1.out M2.out SM.out).1] at K2
  have K2 := Lib.hid K2
  have K3 := fun z : Lt V2 => ccov_any HTV2.out JV2.out BV2'.out FJ.out Fb.out z
  rw [show J.covers b = true from HJ.out ▸ (Cl.joins_covers M1.out M2.out SM.out).2] at K3
  have K3 := Lib.hid K3
  have K4 := fun z : Lt V2 => csame_any (a := J) (b := a) (A := A4) (A' := A) (ca := ca4) (ca' := ca) JV2.out.p AV2.out.p (by have := FJ.out.p; omega) z
  rw [show J.same a = true from HJ.out ▸ Cl.joins_same SM.out] at K4
  have K4 := Lib.hid K4
  go_wp2_with (refine claim_load (by rfl) _ (by rfl) (by rfl) kj ?_)
  refine K1.out.mono ?_; rintro e w' ⟨rfl, q1, rfl⟩
  go_wp2_with (first | (refine claim_load (by rfl) _ (by rfl) (by rfl) (ka.below q1.2) ?_) | (refine claim_load (by rfl) _ (by rfl) (by rfl) (kj.below q1.2) ?_))
  refine (K2.out q1).mono ?_; rintro e w' ⟨rfl, q2, rfl⟩
  go_wp2_with (first | (refine claim_load (by rfl) _ (by rfl) (by rfl) (kb.below q2.2) ?_) | (refine claim_load (by rfl) _ (by rfl) (by rfl) (kj.below q2.2) ?_))
  refine (K3.out q2).mono ?_; rintro e w' ⟨rfl, q3, rfl⟩
  go_wp2_with (first | (refine claim_load (by rfl) _ (by rfl) (by rfl) (ka.below q3.2) ?_) | (refine claim_load (by rfl) _ (by rfl) (by rfl) (kj.below q3.2) ?_))
  refine (K4.out q3).mono ?_; rintro e w' ⟨rfl, q4, rfl⟩
  go_wp2_with fail
  clear K1 K2 K3 K4
  have hq4 := q4.2
  go_loopw [12, 13, 14] (fun iv _ _ wr => ∃ k : Nat, iv = .int .i64 k ∧ k ≤ l.length ∧ Below V2.heap.size V2 wr) (fun iv _ _ _ => l.length - (intOf iv).toNat)
  case atStart => exact ⟨1, rfl, by omega, hq4⟩
  case round =>
    rename_i wr
    obtain ⟨k, rfl, hk, hwr⟩ := hrel
    have i1 : (0 : Int) ≤ (k : Int) := by omega
    by_cases hlt : k < l.length
    · have i2 : (k : Int) < (l.length : Int) := by omega
      obtain ⟨c, hc⟩ : ∃ c, l[k]? = some c := ⟨_, List.getElem?_eq_getElem hlt⟩
      obtain ⟨A6, ca6, P6, pa6, hr0, hat0⟩ := HCL.out k c hc
      have Zc := Lib.hid (ZL.out c (List.mem_of_getElem? hc))
      have HC := Lib.hid hat0
      have hr1 := range_below (below_then BV2 hwr) hr0
      clear hr0 hat0 hc
      obtain ⟨g2, hg2⟩ : ∃ g, wr.heap.size = g := ⟨_, rfl⟩
      go_upto_region 17 with fail
      go_upto_region 18 with (first | (refine claim_load_at (g := bl) (o := ol + k * 16) _ (by rfl) (by rfl) (by rfl) (by exact hr1) ?_) | (refine claim_store_at (c := c) (A := A6) (ca := ca6) (P := P6) (pa := pa6) _ _ (by rfl) (by rfl) (by rfl) (Blk.new' hg2.symm) rfl (by rfl) ?_; intro V3 hV3))
      have b3 : Below wr.heap.size wr V3 := by rw [hV3]; exact puts_below (below_alloc _) (by omega) _ _
      have kc : Blk V3 g2 (c.cells A6 ca6 P6 pa6) := by rw [hV3]; exact (Blk.new' hg2.symm).puts0 rfl
      clear hV3 hg2 hr1
      have bV3 : Below V2.heap.size V2 V3 := below_then hwr b3
      have ka3 := ka.below bV3
      have kb3 := kb.below bV3
      have kj3 := kj.below bV3
      have BV3 := below_then BV2 bV3
      have CV := Lib.hid (HC.out.below BV3)
      obtain ⟨fc, hfc⟩ : ∃ f, c.few = f := ⟨_, rfl⟩
      have Cc := cfew_any CV.out (Lt.base V3)
      rw [hfc] at Cc
      have HCc := Lib.hid Cc
      have HFc := Lib.hid hfc
      clear hfc Cc
      go_wp2_with (refine claim_load (by rfl) _ (by rfl) (by rfl) kc ?_)
      refine HCc.out.mono ?_; rintro e w' ⟨rfl, v1, rfl⟩
      clear HCc
      cases fc
      · go_wp2_with fail
        go_roundw
        case rel => exact ⟨k + 1, by go_num, by omega, below_then bV3 v1.2⟩
        case measure => simp [intOf]; omega
      have Fc := Lib.hid (Cl.few_fits HFc.out Zc.out)
      obtain ⟨m, hm⟩ : ∃ m, Cl.may ts c = m := ⟨_, rfl⟩
      have K1 := rcmay_any (ca0 := ca0) (HTS.out.below BV3) CV.out Fc.out v1
      rw [hm] at K1
      have K1 := Lib.hid K1
      clear hm
      go_wp2_with (refine claim_load (by rfl) _ (by rfl) (by rfl) (kc.below v1.2) ?_)
      refine K1.out.mono ?_; rintro e w' ⟨rfl, v2, rfl⟩
      clear K1
      cases m
      · go_wp2_with fail
        go_roundw
        case rel => exact ⟨k + 1, by go_num, by omega, below_then bV3 v2.2⟩
        case measure => simp [intOf]; omega
      have HTV3 : Tabs V3 := fun i hi => (BV3.cell (cell_lt (HT.out i hi))).trans (HT.out i hi)
      have K1 := fun z : Lt V3 => conf_any HTV3 (JV2.out.below bV3) CV.out FJ.out Fc.out z
      have K2 := fun z : Lt V3 => conf_any HTV3 (AV2.out.below bV3) CV.out Fa.out Fc.out z
      have K3 := fun z : Lt V3 => conf_any HTV3 (BV2'.out.below bV3) CV.out Fb.out Fc.out z
      rw [show J.conf c = (a.conf c || b.conf c) from HJ.out ▸ Cl.joins_conf M1.out M2.out SM.out c] at K1
      obtain ⟨p, hp⟩ : ∃ p, a.conf c = p := ⟨_, rfl⟩
      obtain ⟨q, hq⟩ : ∃ q, b.conf c = q := ⟨_, rfl⟩
      rw [hp, hq] at K1
      rw [hp] at K2
      rw [hq] at K3
      have K1 := Lib.hid K1
      have K2 := Lib.hid K2
      have K3 := Lib.hid K3
      clear hp hq HTV3
      go_upto_region 20 with fail
      refine wp_region_pure _ (by kernel_rfl) (by kernel_rfl) ?_
      cases p <;> cases q
      all_goals
        repeat (first | (first | (refine claim_loadq (by rfl) _ (by rfl) (by rfl) (kj3) ?_; simp only [Act.put, List.setIfInBounds_toArray, List.set_cons_succ, List.set_cons_zero]) | (refine claim_loadq (by rfl) _ (by rfl) (by rfl) (kc) ?_; simp only [Act.put, List.setIfInBounds_toArray, List.set_cons_succ, List.set_cons_zero]) | (refine claim_loadq (by rfl) _ (by rfl) (by rfl) (ka3) ?_; simp only [Act.put, List.setIfInBounds_toArray, List.set_cons_succ, List.set_cons_zero]) | (refine claim_loadq (by rfl) _ (by rfl) (by rfl) (kb3) ?_; simp only [Act.put, List.setIfInBounds_toArray, List.set_cons_succ, List.set_cons_zero])) | go_big_quiet_step ((go_at_call 17; first | (with_reducible exact K1.out _) | (with_reducible exact K2.out _) | (with_reducible exact K3.out _))))
        refine wpQuiet_nil ?_; intro _ hw'; obtain ⟨v3, rfl⟩ := hw'
        go_wp2_with fail
        go_roundw
        case rel => exact ⟨k + 1, by go_num, by omega, below_then bV3 v3.2⟩
        case measure => simp [intOf]; omega
    · obtain rfl : k = l.length := by omega
      go_wp2_with fail
      go_ret
      exact ⟨rfl, (Lt.base _).via (below_then BV2 hwr), rfl⟩
end Go.Proofs.YtghpildnajdlpaaDoor
