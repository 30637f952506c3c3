/-
  The statement ClaimPairs, walked: it returns true. Conditions: the claims lie in memory as they read; the table of modes lies there.
-/
import Derived.Test.YtghpildnajdlpaaDoorAwk09
import Derived.Test.YtghpildnajdlpaaDoorRJoin
import Derived.Deep.RegionHeld3
namespace Go.Proofs.YtghpildnajdlpaaDoor
open Go.RowKit
variable {W : World}

set_option maxHeartbeats 4000000 in
theorem claimPairs_any (hT : Tabs W) {a b : Cl} {A P A' P' : Option Addr} {ca pa ca' pa' : Nat} (ha : a.At W A ca P pa) (sa : ∀ r ∈ a.im, ∀ u ∈ r, u.s.size ≤ maxLen) (hb : b.At W A' ca' P' pa') (sb : ∀ r ∈ b.im, ∀ u ∈ r, u.s.size ≤ maxLen) (x : Lt W) : Calls Tryd.prog 4 #[a.arg A ca P pa, b.arg A' ca' P' pa'] x.1 fun e w' => e = .returned (.bool true) ∧ ∃ y : Lt W, w' = y.1 := by
  have HT := Lib.hid hT
  have HA := Lib.hid ha
  have Za := Lib.hid sa
  have HB := Lib.hid hb
  have Zb := Lib.hid sb
  clear hT ha sa hb sb
  unfold Cl.arg
  go_enter Tryd.func4, Tryd.ntmps4
  go_wp2_with fail
  refine calls_here fun W1 hW1 => ?_
  have B1 : Below W.heap.size W W1 := by rw [hW1]; exact below_then (x.more _) (below_alloc _)
  have ka : Blk W1 (x.1.heap.size) (a.cells A ca P pa) := by rw [hW1]; refine Blk.alloc ?_ _; exact Blk.new' (l := #[.int .i64 a.kind, .int .i64 a.table, .int .i64 a.mode, .bool a.key.t, .int .i64 a.key.n, .string a.key.s, .slice A a.im.length ca, .int .i64 a.p.op, .int .i64 a.p.col, .bool a.p.v.t, .int .i64 a.p.v.n, .string a.p.v.s, .bool a.p.w.t, .int .i64 a.p.w.n, .string a.p.w.s, .slice P a.p.l.length pa]) (by simp)
  have kb : Blk W1 (x.1.heap.size + 1) (b.cells A' ca' P' pa') := by rw [hW1]; exact Blk.new' (l := #[.int .i64 b.kind, .int .i64 b.table, .int .i64 b.mode, .bool b.key.t, .int .i64 b.key.n, .string b.key.s, .slice A' b.im.length ca', .int .i64 b.p.op, .int .i64 b.p.col, .bool b.p.v.t, .int .i64 b.p.v.n, .string b.p.v.s, .bool b.p.w.t, .int .i64 b.p.w.n, .string b.p.w.s, .slice P' b.p.l.length pa']) (by simp)
  clear hW1
  have HT1 := Lib.hid (show Tabs W1 from fun i hi => (B1.cell (cell_lt (HT.out i hi))).trans (HT.out i hi))
  have Aa := Lib.hid (HA.out.below B1)
  have Ab := Lib.hid (HB.out.below B1)
  refine (awake_any HT1.out (Lt.base W1)).mono ?_; rintro e w' ⟨rfl, y1, rfl⟩
  obtain ⟨fa, hfa⟩ : ∃ f, a.few = f := ⟨_, rfl⟩
  have Ca := cfew_any Aa.out y1
  rw [hfa] at Ca
  have HFa := Lib.hid hfa
  have HCa := Lib.hid Ca
  clear hfa Ca
  go_wp2_with (first | (refine claim_load (by rfl) _ (by rfl) (by rfl) (ka.below y1.2) ?_))
  refine HCa.out.mono ?_; rintro e w' ⟨rfl, y2, rfl⟩
  obtain ⟨fb, hfb⟩ : ∃ f, b.few = f := ⟨_, rfl⟩
  have Cb := cfew_any Ab.out y2
  rw [hfb] at Cb
  have HFb := Lib.hid hfb
  have HCb := Lib.hid Cb
  clear hfb Cb
  go_wp2_with (first | (refine claim_load (by rfl) _ (by rfl) (by rfl) (kb.below y2.2) ?_))
  refine HCb.out.mono ?_; rintro e w' ⟨rfl, y3, rfl⟩
  cases fa
  · go_wp2_with fail
    go_ret
    exact ⟨rfl, y3.via B1, rfl⟩
  cases fb
  · go_wp2_with fail
    go_ret
    exact ⟨rfl, y3.via B1, rfl⟩
  have Fa := Lib.hid (Cl.few_fits HFa.out Za.out)
  have Fb := Lib.hid (Cl.few_fits HFb.out Zb.out)
  go_upto_region 8 with fail
  refine wp_here fun V hV => ?_
  have bV : Below W1.heap.size W1 V := by rw [hV]; exact y3.2
  clear hV
  replace ka := ka.below bV
  replace kb := kb.below bV
  have BV := below_then B1 bV
  have HTV : Tabs V := fun i hi => (BV.cell (cell_lt (HT.out i hi))).trans (HT.out i hi)
  have AV := HA.out.below BV
  have BBV := HB.out.below BV
  obtain ⟨sm, hsm⟩ : ∃ v, a.same b = v := ⟨_, rfl⟩
  obtain ⟨cf, hcf⟩ : ∃ v, a.conf b = v := ⟨_, rfl⟩
  obtain ⟨cv, hcv⟩ : ∃ v, a.covers b = v := ⟨_, rfl⟩
  obtain ⟨J, hJ⟩ : ∃ J, a.join b = J := ⟨_, rfl⟩
  have FJ : J.Fits := by
    rw [← hJ]
    refine Cl.join_fits Fa.out Fb.out ?_
    cases h : a.same b
    · rw [Cl.join_no h]; exact Fa.out.im
    · rw [Cl.join_yes h]
      have h1 := Cl.more_length b.im a.im
      have h2 := Cl.few_len HFa.out
      have h3 := Cl.few_len HFb.out
      show (Cl.more a.im b.im).length ≤ 1000000
      omega
  have HTW : ∀ w, Below V.heap.size V w → Tabs w := fun w h i hi => (h.cell (cell_lt (HTV i hi))).trans (HTV i hi)
  have C1 := Lib.hid (show ∀ w, Below V.heap.size V w → Calls Tryd.prog 15 #[a.arg A ca P pa, b.arg A' ca' P' pa'] w fun e w' => e = .returned (.bool sm) ∧ Below w.heap.size w w' from fun w h => by
    have h1 := csame_any (a := a) (b := b) (A := A) (A' := A') (ca := ca) (ca' := ca') (AV.p.below h) (BBV.p.below h) (by have := Fa.out.p; omega) (Lt.base w)
    rw [hsm] at h1
    exact h1.mono fun e w' ⟨h1, y, h2⟩ => ⟨h1, h2 ▸ y.2⟩)
  have C2 := Lib.hid (show ∀ w, Below V.heap.size V w → Calls Tryd.prog 16 #[a.arg A ca P pa, b.arg A' ca' P' pa'] w fun e w' => e = .returned (.bool sm) ∧ Below w.heap.size w w' from fun w h => by
    have h1 := rcsame_any (a := a) (b := b) (A := A) (A' := A') (ca := ca) (ca' := ca') (AV.p.below h) (BBV.p.below h) (by have := Fa.out.p; omega) (Lt.base w)
    rw [hsm] at h1
    exact h1.mono fun e w' ⟨h1, y, h2⟩ => ⟨h1, h2 ▸ y.2⟩)
  have C3 := Lib.hid (show ∀ w, Below V.heap.size V w → Calls Tryd.prog 17 #[a.arg A ca P pa, b.arg A' ca' P' pa'] w fun e w' => e = .returned (.bool cf) ∧ Below w.heap.size w w' from fun w h => by
    have h1 := conf_any (HTW w h) (AV.below h) (BBV.below h) Fa.out Fb.out (Lt.base w)
    rw [hcf] at h1
    exact h1.mono fun e w' ⟨h1, y, h2⟩ => ⟨h1, h2 ▸ y.2⟩)
  have C4 := Lib.hid (show ∀ w, Below V.heap.size V w → Calls Tryd.prog 18 #[a.arg A ca P pa, b.arg A' ca' P' pa'] w fun e w' => e = .returned (.bool cf) ∧ Below w.heap.size w w' from fun w h => by
    have h1 := rconf_any (HTW w h) (AV.below h) (BBV.below h) Fa.out Fb.out (Lt.base w)
    rw [hcf] at h1
    exact h1.mono fun e w' ⟨h1, y, h2⟩ => ⟨h1, h2 ▸ y.2⟩)
  have C5 := Lib.hid (show ∀ w, Below V.heap.size V w → Calls Tryd.prog 19 #[a.arg A ca P pa, b.arg A' ca' P' pa'] w fun e w' => e = .returned (.bool cv) ∧ Below w.heap.size w w' from fun w h => by
    have h1 := ccov_any (HTW w h) (AV.below h) (BBV.below h) Fa.out Fb.out (Lt.base w)
    rw [hcv] at h1
    exact h1.mono fun e w' ⟨h1, y, h2⟩ => ⟨h1, h2 ▸ y.2⟩)
  have C6 := Lib.hid (show ∀ w, Below V.heap.size V w → Calls Tryd.prog 20 #[a.arg A ca P pa, b.arg A' ca' P' pa'] w fun e w' => e = .returned (.bool cv) ∧ Below w.heap.size w w' from fun w h => by
    have h1 := rccov_any (AV.below h) (BBV.below h) Fa.out Fb.out (Lt.base w)
    rw [hcv] at h1
    exact h1.mono fun e w' ⟨h1, y, h2⟩ => ⟨h1, h2 ▸ y.2⟩)
  have C7 := Lib.hid (show ∀ w, Below V.heap.size V w → Calls Tryd.prog 22 #[a.arg A ca P pa, b.arg A' ca' P' pa'] w (COwn w J) from fun w h => hJ ▸ cjoin_any w (HTW w h) (AV.below h) (BBV.below h) Fa.out Fb.out)
  have C8 := Lib.hid (show ∀ w, Below V.heap.size V w → Calls Tryd.prog 23 #[a.arg A ca P pa, b.arg A' ca' P' pa'] w (fun e w' => ∃ (A5 : Option Addr) (ca5 : Nat), e = .returned (.agg #[.int .i64 J.kind, .int .i64 J.table, .int .i64 J.mode, .bool J.key.t, .int .i64 J.key.n, .string J.key.s, .slice A5 J.im.length ca5, .int .i64 J.p.op, .int .i64 J.p.col, .bool J.p.v.t, .int .i64 J.p.v.n, .string J.p.v.s, .bool J.p.w.t, .int .i64 J.p.w.n, .string J.p.w.s, .slice P J.p.l.length pa]) ∧ J.At w' A5 ca5 P pa ∧ Below w.heap.size w w') from fun w h => hJ ▸ rjoinc_any w (AV.below h) (BBV.below h) Fa.out Fb.out)
  have C9 := Lib.hid (show ∀ w A4 ca4 P4 pa4 A5 ca5, J.At w A4 ca4 P4 pa4 → J.At w A5 ca5 P pa → Calls Tryd.prog 21 #[.agg #[.int .i64 J.kind, .int .i64 J.table, .int .i64 J.mode, .bool J.key.t, .int .i64 J.key.n, .string J.key.s, .slice A4 J.im.length ca4, .int .i64 J.p.op, .int .i64 J.p.col, .bool J.p.v.t, .int .i64 J.p.v.n, .string J.p.v.s, .bool J.p.w.t, .int .i64 J.p.w.n, .string J.p.w.s, .slice P4 J.p.l.length pa4], .agg #[.int .i64 J.kind, .int .i64 J.table, .int .i64 J.mode, .bool J.key.t, .int .i64 J.key.n, .string J.key.s, .slice A5 J.im.length ca5, .int .i64 J.p.op, .int .i64 J.p.col, .bool J.p.v.t, .int .i64 J.p.v.n, .string J.p.v.s, .bool J.p.w.t, .int .i64 J.p.w.n, .string J.p.w.s, .slice P J.p.l.length pa]] w fun e w' => e = .returned (.bool true) ∧ Below w.heap.size w w' from fun w A4 ca4 P4 pa4 A5 ca5 h1 h2 => (requal_self h1 h2 FJ (Lt.base w)).mono fun e w' ⟨h1, y, h2⟩ => ⟨h1, h2 ▸ y.2⟩)
  clear hsm hcf hcv hJ HTW HTV AV BBV FJ
  refine wp_region_held_drew (S := fun w' => Below V.heap.size V w') (by kernel_rfl) ((Below.refl _ _).drew) (fun hHeld => ?_)
  refine take_at 21 (i := 0) rfl rfl (by kernel_rfl) (by kernel_rfl) (by kernel_rfl) (fun _ _ _ h => h) (claim_yields (by rfl) _ (by rfl) (by rfl) (fun w h => ka.below h)) hHeld ?_
  simp only [Act.put, List.setIfInBounds_toArray, List.set_cons_succ, List.set_cons_zero]
  refine take_at 22 (i := 1) rfl rfl (by kernel_rfl) (by kernel_rfl) (by kernel_rfl) (fun _ _ _ h => h) (claim_yields (by rfl) _ (by rfl) (by rfl) (fun w h => kb.below h)) hHeld ?_
  simp only [Act.put, List.setIfInBounds_toArray, List.set_cons_succ, List.set_cons_zero]
  refine take_at 24 (i := 3) rfl rfl (by kernel_rfl) (by kernel_rfl) (by kernel_rfl) (fun _ _ _ h => h) (claim_yields (by rfl) _ (by rfl) (by rfl) (fun w h => ka.below h)) hHeld ?_
  simp only [Act.put, List.setIfInBounds_toArray, List.set_cons_succ, List.set_cons_zero]
  refine take_at 25 (i := 4) rfl rfl (by kernel_rfl) (by kernel_rfl) (by kernel_rfl) (fun _ _ _ h => h) (claim_yields (by rfl) _ (by rfl) (by rfl) (fun w h => kb.below h)) hHeld ?_
  simp only [Act.put, List.setIfInBounds_toArray, List.set_cons_succ, List.set_cons_zero]
  refine wpAnyH_ready (rs := [2]) (by kernel_rfl) (by simp) ?_
  refine AllReadyH.cons (o := _) rfl (fun K hK => ?_) AllReadyH.nil
  go_simp
  refine (C1.out _ hHeld).mono ?_; rintro e w6 ⟨rfl, hb6⟩
  go_wp2_with fail
  refine hK.out _ _ (below_then hHeld hb6) (fun hH2 => ?_)
  clear hK K
  replace hHeld := hH2
  clear hH2
  try simp only [Act.put, List.setIfInBounds_toArray, List.set_cons_succ, List.set_cons_zero]
  refine wpAnyH_ready (rs := [5]) (by kernel_rfl) (by simp) ?_
  refine AllReadyH.cons (o := _) rfl (fun K hK => ?_) AllReadyH.nil
  go_simp
  refine (C2.out _ hHeld).mono ?_; rintro e w6 ⟨rfl, hb6⟩
  go_wp2_with fail
  refine hK.out _ _ (below_then hHeld hb6) (fun hH2 => ?_)
  clear hK K
  replace hHeld := hH2
  clear hH2
  try simp only [Act.put, List.setIfInBounds_toArray, List.set_cons_succ, List.set_cons_zero]
  refine take_at 27 (i := 6) (v := .bool true) rfl rfl (by kernel_rfl) (by kernel_rfl) (by kernel_rfl) (fun _ _ _ h => h) (Or.inl ⟨by rfl, fun w _ => by go_simp⟩) hHeld ?_
  simp only [Act.put, List.setIfInBounds_toArray, List.set_cons_succ, List.set_cons_zero]
  refine take_at 28 (i := 7) (v := .bool true) rfl rfl (by kernel_rfl) (by kernel_rfl) (by kernel_rfl) (fun _ _ _ h => h) (Or.inl ⟨by rfl, fun w _ => by go_simp⟩) hHeld ?_
  simp only [Act.put, List.setIfInBounds_toArray, List.set_cons_succ, List.set_cons_zero]
  refine take_at 29 (i := 8) rfl rfl (by kernel_rfl) (by kernel_rfl) (by kernel_rfl) (fun _ _ _ h => h) (claim_yields (by rfl) _ (by rfl) (by rfl) (fun w h => ka.below h)) hHeld ?_
  simp only [Act.put, List.setIfInBounds_toArray, List.set_cons_succ, List.set_cons_zero]
  refine take_at 30 (i := 9) rfl rfl (by kernel_rfl) (by kernel_rfl) (by kernel_rfl) (fun _ _ _ h => h) (claim_yields (by rfl) _ (by rfl) (by rfl) (fun w h => kb.below h)) hHeld ?_
  simp only [Act.put, List.setIfInBounds_toArray, List.set_cons_succ, List.set_cons_zero]
  refine take_at 32 (i := 11) rfl rfl (by kernel_rfl) (by kernel_rfl) (by kernel_rfl) (fun _ _ _ h => h) (claim_yields (by rfl) _ (by rfl) (by rfl) (fun w h => ka.below h)) hHeld ?_
  simp only [Act.put, List.setIfInBounds_toArray, List.set_cons_succ, List.set_cons_zero]
  refine take_at 33 (i := 12) rfl rfl (by kernel_rfl) (by kernel_rfl) (by kernel_rfl) (fun _ _ _ h => h) (claim_yields (by rfl) _ (by rfl) (by rfl) (fun w h => kb.below h)) hHeld ?_
  simp only [Act.put, List.setIfInBounds_toArray, List.set_cons_succ, List.set_cons_zero]
  refine wpAnyH_ready (rs := [10]) (by kernel_rfl) (by simp) ?_
  refine AllReadyH.cons (o := _) rfl (fun K hK => ?_) AllReadyH.nil
  go_simp
  refine (C3.out _ hHeld).mono ?_; rintro e w6 ⟨rfl, hb6⟩
  go_wp2_with fail
  refine hK.out _ _ (below_then hHeld hb6) (fun hH2 => ?_)
  clear hK K
  replace hHeld := hH2
  clear hH2
  try simp only [Act.put, List.setIfInBounds_toArray, List.set_cons_succ, List.set_cons_zero]
  refine wpAnyH_ready (rs := [13]) (by kernel_rfl) (by simp) ?_
  refine AllReadyH.cons (o := _) rfl (fun K hK => ?_) AllReadyH.nil
  go_simp
  refine (C4.out _ hHeld).mono ?_; rintro e w6 ⟨rfl, hb6⟩
  go_wp2_with fail
  refine hK.out _ _ (below_then hHeld hb6) (fun hH2 => ?_)
  clear hK K
  replace hHeld := hH2
  clear hH2
  try simp only [Act.put, List.setIfInBounds_toArray, List.set_cons_succ, List.set_cons_zero]
  refine take_at 35 (i := 14) (v := .bool true) rfl rfl (by kernel_rfl) (by kernel_rfl) (by kernel_rfl) (fun _ _ _ h => h) (Or.inl ⟨by rfl, fun w _ => by go_simp⟩) hHeld ?_
  simp only [Act.put, List.setIfInBounds_toArray, List.set_cons_succ, List.set_cons_zero]
  refine take_at 36 (i := 15) (v := .bool true) rfl rfl (by kernel_rfl) (by kernel_rfl) (by kernel_rfl) (fun _ _ _ h => h) (Or.inl ⟨by rfl, fun w _ => by go_simp⟩) hHeld ?_
  simp only [Act.put, List.setIfInBounds_toArray, List.set_cons_succ, List.set_cons_zero]
  refine take_at 37 (i := 16) (v := .bool true) rfl rfl (by kernel_rfl) (by kernel_rfl) (by kernel_rfl) (fun _ _ _ h => h) (Or.inl ⟨by rfl, fun w _ => by go_simp⟩) hHeld ?_
  simp only [Act.put, List.setIfInBounds_toArray, List.set_cons_succ, List.set_cons_zero]
  refine take_at 38 (i := 17) rfl rfl (by kernel_rfl) (by kernel_rfl) (by kernel_rfl) (fun _ _ _ h => h) (claim_yields (by rfl) _ (by rfl) (by rfl) (fun w h => ka.below h)) hHeld ?_
  simp only [Act.put, List.setIfInBounds_toArray, List.set_cons_succ, List.set_cons_zero]
  refine take_at 39 (i := 18) rfl rfl (by kernel_rfl) (by kernel_rfl) (by kernel_rfl) (fun _ _ _ h => h) (claim_yields (by rfl) _ (by rfl) (by rfl) (fun w h => kb.below h)) hHeld ?_
  simp only [Act.put, List.setIfInBounds_toArray, List.set_cons_succ, List.set_cons_zero]
  refine take_at 41 (i := 20) rfl rfl (by kernel_rfl) (by kernel_rfl) (by kernel_rfl) (fun _ _ _ h => h) (claim_yields (by rfl) _ (by rfl) (by rfl) (fun w h => ka.below h)) hHeld ?_
  simp only [Act.put, List.setIfInBounds_toArray, List.set_cons_succ, List.set_cons_zero]
  refine take_at 42 (i := 21) rfl rfl (by kernel_rfl) (by kernel_rfl) (by kernel_rfl) (fun _ _ _ h => h) (claim_yields (by rfl) _ (by rfl) (by rfl) (fun w h => kb.below h)) hHeld ?_
  simp only [Act.put, List.setIfInBounds_toArray, List.set_cons_succ, List.set_cons_zero]
  refine wpAnyH_ready (rs := [19]) (by kernel_rfl) (by simp) ?_
  refine AllReadyH.cons (o := _) rfl (fun K hK => ?_) AllReadyH.nil
  go_simp
  refine (C5.out _ hHeld).mono ?_; rintro e w6 ⟨rfl, hb6⟩
  go_wp2_with fail
  refine hK.out _ _ (below_then hHeld hb6) (fun hH2 => ?_)
  clear hK K
  replace hHeld := hH2
  clear hH2
  try simp only [Act.put, List.setIfInBounds_toArray, List.set_cons_succ, List.set_cons_zero]
  refine wpAnyH_ready (rs := [22]) (by kernel_rfl) (by simp) ?_
  refine AllReadyH.cons (o := _) rfl (fun K hK => ?_) AllReadyH.nil
  go_simp
  refine (C6.out _ hHeld).mono ?_; rintro e w6 ⟨rfl, hb6⟩
  go_wp2_with fail
  refine hK.out _ _ (below_then hHeld hb6) (fun hH2 => ?_)
  clear hK K
  replace hHeld := hH2
  clear hH2
  try simp only [Act.put, List.setIfInBounds_toArray, List.set_cons_succ, List.set_cons_zero]
  refine take_at 44 (i := 23) (v := .bool true) rfl rfl (by kernel_rfl) (by kernel_rfl) (by kernel_rfl) (fun _ _ _ h => h) (Or.inl ⟨by rfl, fun w _ => by go_simp⟩) hHeld ?_
  simp only [Act.put, List.setIfInBounds_toArray, List.set_cons_succ, List.set_cons_zero]
  refine take_at 45 (i := 24) (v := .bool true) rfl rfl (by kernel_rfl) (by kernel_rfl) (by kernel_rfl) (fun _ _ _ h => h) (Or.inl ⟨by rfl, fun w _ => by go_simp⟩) hHeld ?_
  simp only [Act.put, List.setIfInBounds_toArray, List.set_cons_succ, List.set_cons_zero]
  refine take_at 46 (i := 25) (v := .bool true) rfl rfl (by kernel_rfl) (by kernel_rfl) (by kernel_rfl) (fun _ _ _ h => h) (Or.inl ⟨by rfl, fun w _ => by go_simp⟩) hHeld ?_
  simp only [Act.put, List.setIfInBounds_toArray, List.set_cons_succ, List.set_cons_zero]
  refine take_at 47 (i := 26) rfl rfl (by kernel_rfl) (by kernel_rfl) (by kernel_rfl) (fun _ _ _ h => h) (claim_yields (by rfl) _ (by rfl) (by rfl) (fun w h => ka.below h)) hHeld ?_
  simp only [Act.put, List.setIfInBounds_toArray, List.set_cons_succ, List.set_cons_zero]
  refine take_at 48 (i := 27) rfl rfl (by kernel_rfl) (by kernel_rfl) (by kernel_rfl) (fun _ _ _ h => h) (claim_yields (by rfl) _ (by rfl) (by rfl) (fun w h => kb.below h)) hHeld ?_
  simp only [Act.put, List.setIfInBounds_toArray, List.set_cons_succ, List.set_cons_zero]
  refine take_at 50 (i := 29) rfl rfl (by kernel_rfl) (by kernel_rfl) (by kernel_rfl) (fun _ _ _ h => h) (claim_yields (by rfl) _ (by rfl) (by rfl) (fun w h => ka.below h)) hHeld ?_
  simp only [Act.put, List.setIfInBounds_toArray, List.set_cons_succ, List.set_cons_zero]
  refine take_at 51 (i := 30) rfl rfl (by kernel_rfl) (by kernel_rfl) (by kernel_rfl) (fun _ _ _ h => h) (claim_yields (by rfl) _ (by rfl) (by rfl) (fun w h => kb.below h)) hHeld ?_
  simp only [Act.put, List.setIfInBounds_toArray, List.set_cons_succ, List.set_cons_zero]
  refine wpAnyH_ready (rs := [28]) (by kernel_rfl) (by simp) ?_
  refine AllReadyH.cons (o := _) rfl (fun K hK => ?_) AllReadyH.nil
  go_simp
  refine (C7.out _ hHeld).mono ?_; rintro e w4 ⟨A4, ca4, P4, pa4, rfl, hat4, _, hb4⟩
  go_wp2_with fail
  refine hK.out _ _ (below_then hHeld hb4) (fun hH2 => ?_)
  clear hK K
  replace hHeld := hH2
  clear hH2
  try simp only [Act.put, List.setIfInBounds_toArray, List.set_cons_succ, List.set_cons_zero]
  refine wpAnyH_ready (rs := [31]) (by kernel_rfl) (by simp) ?_
  refine AllReadyH.cons (o := _) rfl (fun K hK => ?_) AllReadyH.nil
  go_simp
  refine (C8.out _ hHeld).mono ?_; rintro e w5 ⟨A5, ca5, rfl, hat5, hb5⟩; have hat45 := hat4.below hb5
  go_wp2_with fail
  refine hK.out _ _ (below_then hHeld hb5) (fun hH2 => ?_)
  clear hK K
  replace hHeld := hH2
  clear hH2
  try simp only [Act.put, List.setIfInBounds_toArray, List.set_cons_succ, List.set_cons_zero]
  refine wpAnyH_ready (rs := [32]) (by kernel_rfl) (by simp) ?_
  refine AllReadyH.cons (o := _) rfl (fun K hK => ?_) AllReadyH.nil
  go_simp
  refine (C9.out _ _ _ _ _ _ _ hat45 hat5).mono ?_; rintro e w6 ⟨rfl, hb6⟩
  go_wp2_with fail
  refine hK.out _ _ (below_then hHeld hb6) (fun hH2 => ?_)
  clear hK K
  replace hHeld := hH2
  clear hH2
  try simp only [Act.put, List.setIfInBounds_toArray, List.set_cons_succ, List.set_cons_zero]
  refine take_at 54 (i := 33) (v := .bool true) rfl rfl (by kernel_rfl) (by kernel_rfl) (by kernel_rfl) (fun _ _ _ h => h) (Or.inl ⟨by rfl, fun w _ => by go_simp⟩) hHeld ?_
  simp only [Act.put, List.setIfInBounds_toArray, List.set_cons_succ, List.set_cons_zero]
  refine take_at 4 (i := 34) (v := .bool true) rfl rfl (by kernel_rfl) (by kernel_rfl) (by kernel_rfl) (fun _ _ _ h => h) (Or.inl ⟨by rfl, fun w _ => by go_simp⟩) hHeld ?_
  simp only [Act.put, List.setIfInBounds_toArray, List.set_cons_succ, List.set_cons_zero]
  refine wpAnyH_done (by kernel_rfl) ?_ _
  go_wp2_with fail
  go_ret
  exact ⟨rfl, (Lt.base _).via (below_then BV hHeld), rfl⟩
end Go.Proofs.YtghpildnajdlpaaDoor
