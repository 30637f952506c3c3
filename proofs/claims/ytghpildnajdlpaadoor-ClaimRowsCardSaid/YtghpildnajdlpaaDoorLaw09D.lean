/-
  The statement ClaimRows, walked: it returns true. Condition: the table of modes lies there.
-/
import Derived.Test.YtghpildnajdlpaaDoorAwk09
namespace Go.Proofs.YtghpildnajdlpaaDoor
open Go.RowKit
variable {W : World}

def rcs (t : Int) (u v : Val) : Cl := (fun _ _ => ⟨2, t, 3, u, [], .mk 0 0 ⟨false, 0, ⟨#[]⟩⟩ ⟨false, 0, ⟨#[]⟩⟩ []⟩) u v
def rcu (t : Int) (u v : Val) : Cl := (fun _ _ => ⟨2, t, 5, u, [], .mk 0 0 ⟨false, 0, ⟨#[]⟩⟩ ⟨false, 0, ⟨#[]⟩⟩ []⟩) u v
def rcx (t : Int) (u v : Val) : Cl := (fun _ _ => ⟨2, t, 6, v, [], .mk 0 0 ⟨false, 0, ⟨#[]⟩⟩ ⟨false, 0, ⟨#[]⟩⟩ []⟩) u v
def rcp (t : Int) (u v : Val) : Cl := (fun _ _ => ⟨3, t, 3, ⟨false, 0, ⟨#[]⟩⟩, [], .mk 1 0 ⟨false, 0, ⟨#[]⟩⟩ ⟨false, 0, ⟨#[]⟩⟩ []⟩) u v
def rcl (t : Int) (u v : Val) : Cl := (fun _ _ => ⟨1, t, 6, ⟨false, 0, ⟨#[]⟩⟩, [], .mk 0 0 ⟨false, 0, ⟨#[]⟩⟩ ⟨false, 0, ⟨#[]⟩⟩ []⟩) u v
theorem conf_0 (a b : Cl) (ht : a.table = b.table) (ha : a.kind = 2) (hb : b.kind = 2) : a.conf b = (decide (a.key = b.key) && !M.fits a.mode b.mode) := by unfold Cl.conf; rw [decide_eq_true ht, if_neg (by omega), if_neg (by omega), if_pos ⟨ha, hb⟩]; rfl
theorem conf_1 (a b : Cl) (ha : a.kind = 1) (hb : b.kind ≠ 1) : a.conf b = false := by unfold Cl.conf; rw [if_neg (by omega), if_neg (by omega), if_neg (by omega), if_neg (by omega), Bool.and_false]
theorem wp_region_turn {P : Program} {id : Nat} {Q : Exit → Act → World → Prop} {a : Act} {w : World} {b : Bool} {l l' : List Oper} (he : l = l') (h : (Code.region id l'.toArray b).wp P Q a w) : (Code.region id l.toArray b).wp P Q a w := he ▸ h
theorem rc_0 (t : Int) (u v : Val) : (rcs t u v).conf (rcs t u v) = false := by rw [conf_0 (rcs t u v) (rcs t u v) rfl rfl rfl]; show (_ && !M.fits 3 3) = false; rw [show M.fits 3 3 = true from by decide +kernel]; simp
theorem rc_1 (t : Int) (u v : Val) : (rcs t u v).conf (rcu t u v) = false := by rw [conf_0 (rcs t u v) (rcu t u v) rfl rfl rfl]; show (_ && !M.fits 3 5) = false; rw [show M.fits 3 5 = true from by decide +kernel]; simp
theorem rc_2 (t : Int) (u v : Val) : (rcu t u v).conf (rcu t u v) = true := by rw [conf_0 (rcu t u v) (rcu t u v) rfl rfl rfl]; show (decide (u = u) && !M.fits 5 5) = true; rw [show M.fits 5 5 = false from by decide +kernel]; simp
theorem rc_3 (t : Int) (u v : Val) : (rcs t u v).conf (rcx t u v) = decide (u = v) := by rw [conf_0 (rcs t u v) (rcx t u v) rfl rfl rfl]; show (decide (u = v) && !M.fits 3 6) = _; rw [show M.fits 3 6 = false from by decide +kernel]; simp
theorem rc_4 (t : Int) (u v : Val) : (rcu t u v).conf (rcx t u v) = decide (u = v) := by rw [conf_0 (rcu t u v) (rcx t u v) rfl rfl rfl]; show (decide (u = v) && !M.fits 5 6) = _; rw [show M.fits 5 6 = false from by decide +kernel]; simp
theorem rc_5 (t : Int) (u v : Val) : (rcp t u v).conf (rcs t u v) = false := by unfold Cl.conf Cl.meets; simp [rcp, rcs]
theorem rc_6 (t : Int) (u v : Val) : (rcp t u v).conf (rcu t u v) = false := by unfold Cl.conf Cl.meets; simp [rcp, rcu]
theorem rc_7 (t : Int) (u v : Val) : (rcp t u v).conf (rcx t u v) = false := by unfold Cl.conf Cl.meets Cl.hits; simp [rcp, rcx]
theorem rc_8 (t : Int) (u v : Val) : (rcp t u v).conf (rcp t u v) = false := by unfold Cl.conf; simp [rcp]
theorem rc_9 (t : Int) (u v : Val) : (rcl t u v).conf (rcx t u v) = false := conf_1 _ _ rfl (by show (2 : Int) ≠ 1; omega)
theorem rc_10 (t : Int) (u v : Val) : (rcl t u v).conf (rcl t u v) = true := by unfold Cl.conf; simp [rcl]; decide +kernel
theorem rcs_fits (t : Int) (u v : Val) : (rcs t u v).Fits := ⟨Nat.zero_le _, fun r hr => by simp [rcs] at hr, fun r hr => by simp [rcs] at hr, by show Pr.size (.mk _ _ _ _ []) ≤ _; rw [Pr.size_mk]; simp⟩
theorem rcu_fits (t : Int) (u v : Val) : (rcu t u v).Fits := ⟨Nat.zero_le _, fun r hr => by simp [rcu] at hr, fun r hr => by simp [rcu] at hr, by show Pr.size (.mk _ _ _ _ []) ≤ _; rw [Pr.size_mk]; simp⟩
theorem rcx_fits (t : Int) (u v : Val) : (rcx t u v).Fits := ⟨Nat.zero_le _, fun r hr => by simp [rcx] at hr, fun r hr => by simp [rcx] at hr, by show Pr.size (.mk _ _ _ _ []) ≤ _; rw [Pr.size_mk]; simp⟩
theorem rcp_fits (t : Int) (u v : Val) : (rcp t u v).Fits := ⟨Nat.zero_le _, fun r hr => by simp [rcp] at hr, fun r hr => by simp [rcp] at hr, by show Pr.size (.mk _ _ _ _ []) ≤ _; rw [Pr.size_mk]; simp⟩
theorem rcl_fits (t : Int) (u v : Val) : (rcl t u v).Fits := ⟨Nat.zero_le _, fun r hr => by simp [rcl] at hr, fun r hr => by simp [rcl] at hr, by show Pr.size (.mk _ _ _ _ []) ≤ _; rw [Pr.size_mk]; simp⟩
theorem rcs_at (w : World) (t : Int) (u v : Val) : (rcs t u v).At w none 0 none 0 := ⟨ImgsAt.nil _, Pr.at_mk.2 ⟨⟨fun _ => rfl, Nat.le_refl _⟩, fun h => absurd rfl h⟩⟩
theorem rcu_at (w : World) (t : Int) (u v : Val) : (rcu t u v).At w none 0 none 0 := ⟨ImgsAt.nil _, Pr.at_mk.2 ⟨⟨fun _ => rfl, Nat.le_refl _⟩, fun h => absurd rfl h⟩⟩
theorem rcx_at (w : World) (t : Int) (u v : Val) : (rcx t u v).At w none 0 none 0 := ⟨ImgsAt.nil _, Pr.at_mk.2 ⟨⟨fun _ => rfl, Nat.le_refl _⟩, fun h => absurd rfl h⟩⟩
theorem rcp_at (w : World) (t : Int) (u v : Val) : (rcp t u v).At w none 0 none 0 := ⟨ImgsAt.nil _, Pr.at_mk.2 ⟨⟨fun _ => rfl, Nat.le_refl _⟩, fun h => absurd rfl h⟩⟩
theorem rcl_at (w : World) (t : Int) (u v : Val) : (rcl t u v).At w none 0 none 0 := ⟨ImgsAt.nil _, Pr.at_mk.2 ⟨⟨fun _ => rfl, Nat.le_refl _⟩, fun h => absurd rfl h⟩⟩
set_option maxHeartbeats 4000000 in
theorem claimRows_any (hT : Tabs W) {t : Int} {u v : Val} (x : Lt W) : Calls Tryd.prog 8 #[.int .i64 t, .agg #[.bool u.t, .int .i64 u.n, .string u.s], .agg #[.bool v.t, .int .i64 v.n, .string v.s]] x.1 fun e w' => e = .returned (.bool true) ∧ ∃ y : Lt W, w' = y.1 := by
  have HT := Lib.hid hT
  clear hT
  go_enter Tryd.func8, Tryd.ntmps8
  go_wp2_with fail
  refine calls_here fun W1 hW1 => ?_
  have B1 : Below W.heap.size W W1 := by rw [hW1]; exact below_then (x.more _) (below_alloc _)
  have k4 : Blk W1 x.1.heap.size [.bool u.t, .int .i64 u.n, .string u.s] := by rw [hW1]; refine Blk.alloc ?_ _; exact Blk.new' (l := #[.bool u.t, .int .i64 u.n, .string u.s]) rfl
  have k5 : Blk W1 (x.1.heap.size + 1) [.bool v.t, .int .i64 v.n, .string v.s] := by rw [hW1]; exact Blk.new' (l := #[.bool v.t, .int .i64 v.n, .string v.s]) (by simp)
  clear hW1
  have HT1 := Lib.hid (show Tabs W1 from fun i hi => (B1.cell (cell_lt (HT.out i hi))).trans (HT.out i hi))
  refine (awake_any HT1.out (Lt.base W1)).mono ?_; rintro e w' ⟨rfl, y1, rfl⟩
  go_upto_region 4 with fail
  refine wp_here fun V0 hV0 => ?_
  have b0 : Below W1.heap.size W1 V0 := by rw [hV0]; exact y1.2
  clear hV0
  have B0 := below_then B1 b0
  replace k4 := k4.below b0
  replace k5 := k5.below b0
  have E := fun w => run_eql_val u v w
  have f40 := k4.cell 0 _ rfl
  have f41 := k4.cell 1 _ rfl
  have f42 := k4.cell 2 _ rfl
  have f50 := k5.cell 0 _ rfl
  have f51 := k5.cell 1 _ rfl
  have f52 := k5.cell 2 _ rfl
  obtain ⟨g0, hg0⟩ : ∃ g, V0.heap.size = g := ⟨_, rfl⟩
  go_upto_region 5 with (refine claim_store (c := rcs t u v) (A := none) (ca := 0) (P := none) (pa := 0) (by rfl) _ _ (by rfl) (by rfl) (Blk.new' hg0.symm) rfl (by rfl) ?_; intro V1 hV1)
  have bV1 : Below V0.heap.size V0 V1 := by rw [hV1]; exact puts_below (below_alloc _) (by omega) _ _
  clear f40 f41 f42 f50 f51 f52
  have qcs : Blk V1 g0 ((rcs t u v).cells none 0 none 0) := by rw [hV1]; exact (Blk.new' hg0.symm).puts0 rfl
  clear hV1 hg0
  replace k4 := k4.below bV1
  replace k5 := k5.below bV1
  have BV1 := below_then B0 bV1
  clear bV1
  have f40 := k4.cell 0 _ rfl
  have f41 := k4.cell 1 _ rfl
  have f42 := k4.cell 2 _ rfl
  have f50 := k5.cell 0 _ rfl
  have f51 := k5.cell 1 _ rfl
  have f52 := k5.cell 2 _ rfl
  obtain ⟨g1, hg1⟩ : ∃ g, V1.heap.size = g := ⟨_, rfl⟩
  go_upto_region 6 with (refine claim_store (c := rcu t u v) (A := none) (ca := 0) (P := none) (pa := 0) (by rfl) _ _ (by rfl) (by rfl) (Blk.new' hg1.symm) rfl (by rfl) ?_; intro V2 hV2)
  have bV2 : Below V1.heap.size V1 V2 := by rw [hV2]; exact puts_below (below_alloc _) (by omega) _ _
  clear f40 f41 f42 f50 f51 f52
  have qcu : Blk V2 g1 ((rcu t u v).cells none 0 none 0) := by rw [hV2]; exact (Blk.new' hg1.symm).puts0 rfl
  clear hV2 hg1
  replace k4 := k4.below bV2
  replace k5 := k5.below bV2
  replace qcs := qcs.below bV2
  have BV2 := below_then BV1 bV2
  clear bV2
  have f40 := k4.cell 0 _ rfl
  have f41 := k4.cell 1 _ rfl
  have f42 := k4.cell 2 _ rfl
  have f50 := k5.cell 0 _ rfl
  have f51 := k5.cell 1 _ rfl
  have f52 := k5.cell 2 _ rfl
  obtain ⟨g2, hg2⟩ : ∃ g, V2.heap.size = g := ⟨_, rfl⟩
  go_upto_region 7 with (refine claim_store (c := rcx t u v) (A := none) (ca := 0) (P := none) (pa := 0) (by rfl) _ _ (by rfl) (by rfl) (Blk.new' hg2.symm) rfl (by rfl) ?_; intro V3 hV3)
  have bV3 : Below V2.heap.size V2 V3 := by rw [hV3]; exact puts_below (below_alloc _) (by omega) _ _
  clear f40 f41 f42 f50 f51 f52
  have qcx : Blk V3 g2 ((rcx t u v).cells none 0 none 0) := by rw [hV3]; exact (Blk.new' hg2.symm).puts0 rfl
  clear hV3 hg2
  replace k4 := k4.below bV3
  replace k5 := k5.below bV3
  replace qcs := qcs.below bV3
  replace qcu := qcu.below bV3
  have BV3 := below_then BV2 bV3
  clear bV3
  have f40 := k4.cell 0 _ rfl
  have f41 := k4.cell 1 _ rfl
  have f42 := k4.cell 2 _ rfl
  have f50 := k5.cell 0 _ rfl
  have f51 := k5.cell 1 _ rfl
  have f52 := k5.cell 2 _ rfl
  obtain ⟨g3, hg3⟩ : ∃ g, V3.heap.size = g := ⟨_, rfl⟩
  go_upto_region 8 with (refine claim_store (c := rcp t u v) (A := none) (ca := 0) (P := none) (pa := 0) (by rfl) _ _ (by rfl) (by rfl) (Blk.new' hg3.symm) rfl (by rfl) ?_; intro V4 hV4)
  have bV4 : Below V3.heap.size V3 V4 := by rw [hV4]; exact puts_below (below_alloc _) (by omega) _ _
  clear f40 f41 f42 f50 f51 f52
  have qcp : Blk V4 g3 ((rcp t u v).cells none 0 none 0) := by rw [hV4]; exact (Blk.new' hg3.symm).puts0 rfl
  clear hV4 hg3
  replace k4 := k4.below bV4
  replace k5 := k5.below bV4
  replace qcs := qcs.below bV4
  replace qcu := qcu.below bV4
  replace qcx := qcx.below bV4
  have BV4 := below_then BV3 bV4
  clear bV4
  have f40 := k4.cell 0 _ rfl
  have f41 := k4.cell 1 _ rfl
  have f42 := k4.cell 2 _ rfl
  have f50 := k5.cell 0 _ rfl
  have f51 := k5.cell 1 _ rfl
  have f52 := k5.cell 2 _ rfl
  obtain ⟨g4, hg4⟩ : ∃ g, V4.heap.size = g := ⟨_, rfl⟩
  go_upto_region 9 with (refine claim_store (c := rcl t u v) (A := none) (ca := 0) (P := none) (pa := 0) (by rfl) _ _ (by rfl) (by rfl) (Blk.new' hg4.symm) rfl (by rfl) ?_; intro V5 hV5)
  have bV5 : Below V4.heap.size V4 V5 := by rw [hV5]; exact puts_below (below_alloc _) (by omega) _ _
  clear f40 f41 f42 f50 f51 f52
  have qcl : Blk V5 g4 ((rcl t u v).cells none 0 none 0) := by rw [hV5]; exact (Blk.new' hg4.symm).puts0 rfl
  clear hV5 hg4
  replace k4 := k4.below bV5
  replace k5 := k5.below bV5
  replace qcs := qcs.below bV5
  replace qcu := qcu.below bV5
  replace qcx := qcx.below bV5
  replace qcp := qcp.below bV5
  have BV5 := below_then BV4 bV5
  clear bV5
  have HTV : Tabs V5 := fun i hi => (BV5.cell (cell_lt (HT.out i hi))).trans (HT.out i hi)
  have C0 := fun z : Lt V5 => conf_any HTV (rcs_at V5 t u v) (rcs_at V5 t u v) (rcs_fits t u v) (rcs_fits t u v) z
  rw [rc_0] at C0
  have C1 := fun z : Lt V5 => conf_any HTV (rcs_at V5 t u v) (rcu_at V5 t u v) (rcs_fits t u v) (rcu_fits t u v) z
  rw [rc_1] at C1
  have C2 := fun z : Lt V5 => conf_any HTV (rcu_at V5 t u v) (rcu_at V5 t u v) (rcu_fits t u v) (rcu_fits t u v) z
  rw [rc_2] at C2
  have C3 := fun z : Lt V5 => conf_any HTV (rcs_at V5 t u v) (rcx_at V5 t u v) (rcs_fits t u v) (rcx_fits t u v) z
  rw [rc_3] at C3
  have C4 := fun z : Lt V5 => conf_any HTV (rcu_at V5 t u v) (rcx_at V5 t u v) (rcu_fits t u v) (rcx_fits t u v) z
  rw [rc_4] at C4
  have C5 := fun z : Lt V5 => conf_any HTV (rcp_at V5 t u v) (rcs_at V5 t u v) (rcp_fits t u v) (rcs_fits t u v) z
  rw [rc_5] at C5
  have C6 := fun z : Lt V5 => conf_any HTV (rcp_at V5 t u v) (rcu_at V5 t u v) (rcp_fits t u v) (rcu_fits t u v) z
  rw [rc_6] at C6
  have C7 := fun z : Lt V5 => conf_any HTV (rcp_at V5 t u v) (rcx_at V5 t u v) (rcp_fits t u v) (rcx_fits t u v) z
  rw [rc_7] at C7
  have C8 := fun z : Lt V5 => conf_any HTV (rcp_at V5 t u v) (rcp_at V5 t u v) (rcp_fits t u v) (rcp_fits t u v) z
  rw [rc_8] at C8
  have C9 := fun z : Lt V5 => conf_any HTV (rcl_at V5 t u v) (rcx_at V5 t u v) (rcl_fits t u v) (rcx_fits t u v) z
  rw [rc_9] at C9
  have C10 := fun z : Lt V5 => conf_any HTV (rcl_at V5 t u v) (rcl_at V5 t u v) (rcl_fits t u v) (rcl_fits t u v) z
  rw [rc_10] at C10
  obtain ⟨d, hd⟩ : ∃ d, decide (u = v) = d := ⟨_, rfl⟩
  rw [hd] at C3 C4
  simp only [hd] at E
  clear hd
  replace C0 := Lib.hid C0
  replace C1 := Lib.hid C1
  replace C2 := Lib.hid C2
  replace C3 := Lib.hid C3
  replace C4 := Lib.hid C4
  replace C5 := Lib.hid C5
  replace C6 := Lib.hid C6
  replace C7 := Lib.hid C7
  replace C8 := Lib.hid C8
  replace C9 := Lib.hid C9
  replace C10 := Lib.hid C10
  have f40 := k4.cell 0 _ rfl
  have f41 := k4.cell 1 _ rfl
  have f42 := k4.cell 2 _ rfl
  have f50 := k5.cell 0 _ rfl
  have f51 := k5.cell 1 _ rfl
  have f52 := k5.cell 2 _ rfl
  cases d
  all_goals
    go_upto_region 10 with fail
    refine wp_region_turn (by simp only [List.append_eq, List.cons_append, List.nil_append]; rfl) ?_
    go_wp2_with (first | (refine claim_load (by rfl) _ (by rfl) (by rfl) (qcs) ?_))
    refine (C0.out (Lt.base V5)).mono ?_; rintro e w' ⟨rfl, z0, rfl⟩
    clear f40 f41 f42 f50 f51 f52 E
    go_wp2_with (first | (refine claim_load (by rfl) _ (by rfl) (by rfl) (qcs.below z0.2) ?_) | (refine claim_load (by rfl) _ (by rfl) (by rfl) (qcu.below z0.2) ?_))
    refine (C1.out z0).mono ?_; rintro e w' ⟨rfl, z1, rfl⟩
    go_wp2_with (first | (refine claim_load (by rfl) _ (by rfl) (by rfl) (qcu.below z1.2) ?_))
    refine (C2.out z1).mono ?_; rintro e w' ⟨rfl, z2, rfl⟩
    go_wp2_with (first | (refine claim_load (by rfl) _ (by rfl) (by rfl) (qcs.below z2.2) ?_) | (refine claim_load (by rfl) _ (by rfl) (by rfl) (qcx.below z2.2) ?_))
    refine (C3.out z2).mono ?_; rintro e w' ⟨rfl, z3, rfl⟩
    go_wp2_with (first | (refine claim_load (by rfl) _ (by rfl) (by rfl) (qcu.below z3.2) ?_) | (refine claim_load (by rfl) _ (by rfl) (by rfl) (qcx.below z3.2) ?_))
    refine (C4.out z3).mono ?_; rintro e w' ⟨rfl, z4, rfl⟩
    go_wp2_with (first | (refine claim_load (by rfl) _ (by rfl) (by rfl) (qcp.below z4.2) ?_) | (refine claim_load (by rfl) _ (by rfl) (by rfl) (qcs.below z4.2) ?_))
    refine (C5.out z4).mono ?_; rintro e w' ⟨rfl, z5, rfl⟩
    go_wp2_with (first | (refine claim_load (by rfl) _ (by rfl) (by rfl) (qcp.below z5.2) ?_) | (refine claim_load (by rfl) _ (by rfl) (by rfl) (qcu.below z5.2) ?_))
    refine (C6.out z5).mono ?_; rintro e w' ⟨rfl, z6, rfl⟩
    go_wp2_with (first | (refine claim_load (by rfl) _ (by rfl) (by rfl) (qcp.below z6.2) ?_) | (refine claim_load (by rfl) _ (by rfl) (by rfl) (qcx.below z6.2) ?_))
    refine (C7.out z6).mono ?_; rintro e w' ⟨rfl, z7, rfl⟩
    go_wp2_with (first | (refine claim_load (by rfl) _ (by rfl) (by rfl) (qcp.below z7.2) ?_))
    refine (C8.out z7).mono ?_; rintro e w' ⟨rfl, z8, rfl⟩
    go_wp2_with (first | (refine claim_load (by rfl) _ (by rfl) (by rfl) (qcl.below z8.2) ?_) | (refine claim_load (by rfl) _ (by rfl) (by rfl) (qcx.below z8.2) ?_))
    refine (C9.out z8).mono ?_; rintro e w' ⟨rfl, z9, rfl⟩
    go_wp2_with (first | (refine claim_load (by rfl) _ (by rfl) (by rfl) (qcl.below z9.2) ?_))
    refine (C10.out z9).mono ?_; rintro e w' ⟨rfl, z10, rfl⟩
    go_wp2_with fail
    go_ret
    exact ⟨rfl, z10.via BV5, rfl⟩
end Go.Proofs.YtghpildnajdlpaaDoor
