/-
  The document's example of claims: the program answers it as the document says. Condition: the table of modes lies there.
-/
import Derived.Test.YtghpildnajdlpaaDoorClmJoin
import Derived.Test.YtghpildnajdlpaaDoorClmCov
import Derived.Test.YtghpildnajdlpaaDoorClmMay
namespace Go.Proofs.YtghpildnajdlpaaDoor
open Go.RowKit
variable {W : World}

theorem RowAt.new {w : World} {r : List Val} {g : Nat} (hg : g = w.heap.size) {t : TypeId} {cs : Array Value} (hcs : cs.toList = cellsOf r) : RowAt (w.alloc (.cells cs t)) (some ⟨g, 0, none⟩) r := fun _ => ⟨g, 0, rfl, fun i u hu => by
  have key : ∀ j v, (cellsOf r)[j]? = some v → (w.alloc (.cells cs t)).cell? ⟨g, j, none⟩ = some v := fun j v hj => by
    rw [cell_new hg, ← hj, ← hcs]; simp
  obtain ⟨h0, h1, h2⟩ := cellsOf_get r i u hu
  rw [Nat.zero_add]
  exact ⟨key _ _ h0, key _ _ h1, key _ _ h2⟩⟩
theorem ImgsAt.new {w : World} {l : List (List Val)} {ca : Nat} (hl : l.length ≤ ca) {g : Nat} (hg : g = w.heap.size) {t : TypeId} {cs : Array Value} (hk : ∀ (i : Nat) (r : List Val), l[i]? = some r → ∃ A' ca', cs[i]? = some (.slice A' r.length ca') ∧ RowAt w A' r ∧ (A' = none → ca' = 0)) : ImgsAt (w.alloc (.cells cs t)) (some ⟨g, 0, none⟩) ca l :=
  ⟨⟨fun e => (by cases e), hl⟩, fun _ => ⟨g, 0, rfl, fun i r hr => by
    obtain ⟨A', ca', h1, h2, h3⟩ := hk i r hr
    exact ⟨A', ca', by rw [Nat.zero_add, cell_new hg]; exact h1, h2.below (below_alloc _), h3⟩⟩⟩
/-- A value that a function hands back out of its block. -/
theorem val_out {fn : Func} {k : Nat} (hr : fn.results = #[.cell k 25]) {tmps : Array Value} {g : Nat} (ht : tmps[k]? = some (.pointer (some ⟨g, 0, none⟩))) {w : World} {t : Bool} {n : Int} {s : ByteArray} (h : Blk w g [.bool t, .int .i64 n, .string s]) : (results fn tmps).run Tryd.prog w = .ok (.agg #[.bool t, .int .i64 n, .string s]) w := by
  have f0 := h.cell 0 _ rfl
  have f1 := h.cell 1 _ rfl
  have f2 := h.cell 2 _ rfl
  simp [results, hr, ht, go_sem, f0, f1, f2]
/-- A number, as a value. -/
theorem numv_any (n : Int) (w : World) : Calls Tryd.prog 26 #[.int .i64 n] w fun e w' => e = .returned (.agg #[.bool false, .int .i64 n, .string ⟨#[]⟩]) ∧ Below w.heap.size w w' := by
  go_enter Tryd.func26, Tryd.ntmps26
  go_wp2_with fail
  refine bodyPost_ret (val_out (t := false) (n := n) (s := ⟨#[]⟩) rfl rfl (Blk.new' (l := #[.bool false, .int .i64 n, .string ⟨#[]⟩]) rfl)) rfl ⟨rfl, below_alloc _⟩
def awN (n : Int) : Val := ⟨false, n, ⟨#[]⟩⟩
def awQ : Pr := .mk 0 0 (awN 0) (awN 0) []
def awP : Cl := ⟨3, 0, 3, awN 0, [], .mk 7 1 (awN 5) (awN 0) []⟩
def awW : Cl := ⟨2, 0, 6, awN 1, [[awN 1, awN 3], [awN 1, awN 9]], awQ⟩
def awV : Cl := ⟨2, 0, 6, awN 1, [[awN 1, awN 3], []], awQ⟩
def awT : List (List Bool) := [[false, false]]
theorem aw_0 : awV.same awW = true := by decide +kernel
theorem aw_1 : awP.conf awW = true := by decide +kernel
theorem aw_2 : awW.conf awP = true := by decide +kernel
theorem aw_3 : awP.conf awV = false := by decide +kernel
theorem aw_4 : (awV.join awW).im.length = 3 := by decide +kernel
theorem aw_5 : (awV.join awW).covers awW = true := by decide +kernel
theorem aw_6 : Cl.err awT awW = 0 := by decide +kernel
theorem awQ_at (w : World) : awQ.At w none 0 := Pr.at_mk.2 ⟨⟨fun _ => rfl, Nat.le_refl _⟩, fun h => absurd rfl h⟩
theorem awP_fits : awP.Fits := ⟨by decide, fun r hr => by simp [awP] at hr, fun r hr => by simp [awP] at hr, by decide +kernel⟩
theorem awW_fits : awW.Fits := ⟨by decide, fun r hr => by simp [awW] at hr; rcases hr with rfl | rfl <;> simp, fun r hr u hu => by simp [awW] at hr; rcases hr with rfl | rfl <;> (simp at hu; rcases hu with rfl | rfl <;> exact Nat.zero_le _), by decide +kernel⟩
theorem awV_fits : awV.Fits := ⟨by decide, fun r hr => by simp [awV] at hr; rcases hr with rfl | rfl <;> simp, fun r hr u hu => by simp [awV] at hr; rcases hr with rfl | rfl <;> (simp at hu; try (rcases hu with rfl | rfl <;> exact Nat.zero_le _)), by decide +kernel⟩
theorem Cl.join_fits {a b : Cl} (fa : a.Fits) (fb : b.Fits) (h : (a.join b).im.length ≤ 1000000) : (a.join b).Fits := by
  cases hs : a.same b
  · rw [Cl.join_no hs]; exact fa
  · rw [Cl.join_yes hs] at h ⊢
    refine ⟨h, fun r hr => ?_, fun r hr => ?_, fa.p⟩
    · rcases (Cl.more_mem b.im a.im).1 hr with hr | hr
      · exact fa.row r hr
      · exact fb.row r hr
    · rcases (Cl.more_mem b.im a.im).1 hr with hr | hr
      · exact fa.fit r hr
      · exact fb.fit r hr
set_option maxHeartbeats 4000000 in
theorem awake_any (hT : Tabs W) (x : Lt W) : Calls Tryd.prog 11 #[] x.1 fun e w' => e = .returned (.bool true) ∧ ∃ y : Lt W, w' = y.1 := by
  have HT := Lib.hid hT
  clear hT
  obtain ⟨X, hX⟩ := x
  show Calls Tryd.prog 11 #[] X _
  go_enter Tryd.func11, Tryd.ntmps11
  go_wp2_with fail
  refine (numv_any _ _).mono ?_; rintro e w1 ⟨rfl, h1⟩
  go_upto_region 2 with (refine claim_store (c := awP) (by rfl) _ _ (by rfl) (by rfl) (Blk.new' (by simp)) rfl (by rfl) ?_; intro V1 hV1)
  have b1 : Below w1.heap.size w1 V1 := by rw [hV1]; exact puts_below (below_alloc _) (by simp) _ _
  obtain ⟨gp, hgp⟩ : ∃ g, w1.heap.size = g := ⟨_, rfl⟩
  have kP : Blk V1 gp (awP.cells none 0 none 0) := by rw [hV1, hgp]; exact (Blk.new' hgp.symm).puts0 rfl
  have B1 := below_then (below_then hX h1) b1
  simp only [hgp]
  clear hV1 b1 hgp
  go_wp2_with fail
  refine (numv_any _ _).mono ?_; rintro e w2 ⟨rfl, h2⟩
  go_wp2_with fail
  refine (numv_any _ _).mono ?_; rintro e w3 ⟨rfl, h3⟩
  go_wp2_with fail
  refine (numv_any _ _).mono ?_; rintro e w4 ⟨rfl, h4⟩
  obtain ⟨s4, hs4⟩ : ∃ g, w4.heap.size = g := ⟨_, rfl⟩
  go_wp2_with fail
  refine calls_here fun U1 hU1 => ?_
  have c1 : Below w4.heap.size w4 U1 := by rw [hU1]; exact below_alloc _
  have r1 : RowAt U1 (some ⟨s4, 0, none⟩) [awN 1, awN 3] := by rw [hU1]; exact RowAt.new hs4.symm rfl
  clear hU1
  refine (numv_any _ _).mono ?_; rintro e w5 ⟨rfl, h5⟩
  go_wp2_with fail
  refine (numv_any _ _).mono ?_; rintro e w6 ⟨rfl, h6⟩
  obtain ⟨s6, hs6⟩ : ∃ g, w6.heap.size = g := ⟨_, rfl⟩
  go_upto_region 3 with (refine claim_store (c := awW) (by rfl) _ _ (by rfl) (by rfl) (Blk.new' (by simp [*])) rfl (by rfl) ?_; intro V2 hV2)
  have ims : ∃ U : World, Below w6.heap.size w6 U ∧ Below U.heap.size U V2 ∧ s6 + 1 < U.heap.size ∧ ImgsAt U (some ⟨s6 + 1, 0, none⟩) 2 awW.im ∧ Blk V2 (s6 + 1 + 1) (awW.cells (some ⟨s6 + 1, 0, none⟩) 2 none 0) := by
    rw [hV2]
    have c3 := below_then c1 (below_then h5 h6)
    refine ⟨_, below_then (below_alloc _) (below_alloc _), puts_below (below_alloc _) (by simp [hs6]) _ _, by simp [hs6], ImgsAt.new (by decide) (by simp [hs6]) ?_, (Blk.new' (by simp [hs6])).puts0 rfl⟩
    intro i r hr
    match i, hr with
    | 0, hr => simp [awW] at hr; subst hr; exact ⟨_, 2, rfl, (r1.below (below_then h5 h6)).below (below_alloc _), fun e => (by cases e)⟩
    | 1, hr => simp [awW] at hr; subst hr; exact ⟨_, 2, rfl, RowAt.new hs6.symm rfl, fun e => (by cases e)⟩
    | i + 2, hr => simp [awW] at hr
  obtain ⟨U2, d1, d2, _, iW, kW⟩ := ims
  have b2 : Below V1.heap.size V1 V2 := below_then (below_then (below_then (below_then h2 (below_then h3 h4)) c1) (below_then h5 h6)) (below_then d1 d2)
  replace kP := kP.below b2
  have B2 := below_then B1 b2
  have atW : awW.At V2 (some ⟨s6 + 1, 0, none⟩) 2 none 0 := ⟨iW.below d2, awQ_at _⟩
  obtain ⟨aw, haw⟩ : ∃ a : Addr, a = ⟨s6 + 1, 0, none⟩ := ⟨_, rfl⟩
  obtain ⟨gw, hgw⟩ : ∃ g, g = s6 + 1 + 1 := ⟨_, rfl⟩
  rw [← haw] at atW kW
  rw [← hgw] at kW
  simp only [← haw, ← hgw]
  clear hV2 hs6 hs4 r1 iW d1 d2 c1 haw hgw b2
  go_wp2_with fail
  refine (numv_any _ _).mono ?_; rintro e w12 ⟨rfl, h12⟩
  go_wp2_with fail
  refine (numv_any _ _).mono ?_; rintro e w13 ⟨rfl, h13⟩
  go_wp2_with fail
  refine (numv_any _ _).mono ?_; rintro e w14 ⟨rfl, h14⟩
  obtain ⟨s14, hs14⟩ : ∃ g, w14.heap.size = g := ⟨_, rfl⟩
  go_upto_region 4 with (refine claim_store (c := awV) (by rfl) _ _ (by rfl) (by rfl) (Blk.new' (by simp [*])) rfl (by rfl) ?_; intro V3 hV3)
  have ims : ∃ U : World, Below w14.heap.size w14 U ∧ Below U.heap.size U V3 ∧ ImgsAt U (some ⟨s14 + 1, 0, none⟩) 2 awV.im ∧ Blk V3 (s14 + 1 + 1) (awV.cells (some ⟨s14 + 1, 0, none⟩) 2 none 0) := by
    rw [hV3]
    refine ⟨_, below_then (below_alloc _) (below_alloc _), puts_below (below_alloc _) (by simp [hs14]) _ _, ImgsAt.new (by decide) (by simp [hs14]) ?_, (Blk.new' (by simp [hs14])).puts0 rfl⟩
    intro i r hr
    match i, hr with
    | 0, hr => simp [awV] at hr; subst hr; exact ⟨_, 2, rfl, RowAt.new hs14.symm rfl, fun e => (by cases e)⟩
    | 1, hr => simp [awV] at hr; subst hr; exact ⟨none, 0, rfl, fun e => absurd rfl e, fun _ => rfl⟩
    | i + 2, hr => simp [awV] at hr
  obtain ⟨U3, d1, d2, iV, kV⟩ := ims
  have b3 : Below V2.heap.size V2 V3 := below_then (below_then h12 (below_then h13 h14)) (below_then d1 d2)
  replace kP := kP.below b3
  replace kW := kW.below b3
  replace atW := atW.below b3
  have B3 := below_then B2 b3
  have atV : awV.At V3 (some ⟨s14 + 1, 0, none⟩) 2 none 0 := ⟨iV.below d2, awQ_at _⟩
  obtain ⟨av, hav⟩ : ∃ a : Addr, a = ⟨s14 + 1, 0, none⟩ := ⟨_, rfl⟩
  obtain ⟨gv, hgv⟩ : ∃ g, g = s14 + 1 + 1 := ⟨_, rfl⟩
  rw [← hav] at atV kV
  rw [← hgv] at kV
  simp only [← hav, ← hgv]
  clear hV3 hs14 iV d1 d2 hav hgv b3
  go_wp2_with (first | (refine claim_load (by rfl) _ (by rfl) (by rfl) kV ?_) | (refine claim_load (by rfl) _ (by rfl) (by rfl) kW ?_))
  refine (cjoin_any V3 (fun i hi => (B3.cell (cell_lt (HT.out i hi))).trans (HT.out i hi)) atV atW awV_fits awW_fits).mono ?_; rintro e w20 ⟨Aj, caj, Pj, paj, rfl, atJ, _, h20⟩
  obtain ⟨gj, hgj⟩ : ∃ g, w20.heap.size = g := ⟨_, rfl⟩
  go_upto_region 5 with (refine claim_store (c := awV.join awW) (A := Aj) (ca := caj) (P := Pj) (pa := paj) (by rfl) _ _ (by rfl) (by rfl) (Blk.new' hgj.symm) rfl (by rfl) ?_; intro V4 hV4)
  have b4' : Below w20.heap.size w20 V4 := by rw [hV4]; exact puts_below (below_alloc _) (by simp [hgj]) _ _
  have b4 : Below V3.heap.size V3 V4 := below_then h20 b4'
  have kJ : Blk V4 gj ((awV.join awW).cells Aj caj Pj paj) := by rw [hV4]; exact (Blk.new' hgj.symm).puts0 rfl
  replace kP := kP.below b4
  replace kW := kW.below b4
  replace kV := kV.below b4
  replace atW := atW.below b4
  replace atV := atV.below b4
  replace atJ := atJ.below b4'
  have atP : awP.At V4 none 0 none 0 := ⟨ImgsAt.nil _, Pr.at_mk.2 ⟨⟨fun _ => rfl, Nat.le_refl _⟩, fun h => absurd rfl h⟩⟩
  have B4 := below_then B3 b4
  have HTV : Tabs V4 := fun i hi => (B4.cell (cell_lt (HT.out i hi))).trans (HT.out i hi)
  clear hV4 b4 b4' hgj h20
  have j6 := kJ.cell 6 _ rfl
  rw [aw_4] at j6
  have jz6 := fun z : Lt V4 => z.cell j6
  clear j6
  have C1 := fun z : Lt V4 => conf_any HTV atP atW awP_fits awW_fits z
  have C2 := fun z : Lt V4 => conf_any HTV atW atP awW_fits awP_fits z
  have C3 := fun z : Lt V4 => conf_any HTV atP atV awP_fits awV_fits z
  have C4 := fun z : Lt V4 => ccov_any HTV atJ atW (Cl.join_fits awV_fits awW_fits (by rw [aw_4]; omega)) awW_fits z
  have C5 := fun z : Lt V4 => csame_any (a := awV) (b := awW) (A := some av) (ca := 2) (A' := some aw) (ca' := 2) atV.p atW.p (by decide +kernel) z
  rw [aw_1] at C1
  rw [aw_2] at C2
  rw [aw_3] at C3
  rw [aw_5] at C4
  rw [aw_0] at C5
  have C1 := Lib.hid C1
  have C2 := Lib.hid C2
  have C3 := Lib.hid C3
  have C4 := Lib.hid C4
  have C5 := Lib.hid C5
  go_wp2_with (first | (refine claim_load (by rfl) _ (by rfl) (by rfl) (kP) ?_) | (refine claim_load (by rfl) _ (by rfl) (by rfl) (kW) ?_) | (refine claim_load (by rfl) _ (by rfl) (by rfl) (kV) ?_) | (refine claim_load (by rfl) _ (by rfl) (by rfl) (kJ) ?_))
  refine (C1.out (Lt.base V4)).mono ?_; rintro e w' ⟨rfl, y1, rfl⟩
  go_wp2_with (first | (refine claim_load (by rfl) _ (by rfl) (by rfl) (kP.below y1.2) ?_) | (refine claim_load (by rfl) _ (by rfl) (by rfl) (kW.below y1.2) ?_) | (refine claim_load (by rfl) _ (by rfl) (by rfl) (kV.below y1.2) ?_) | (refine claim_load (by rfl) _ (by rfl) (by rfl) (kJ.below y1.2) ?_))
  refine (C2.out y1).mono ?_; rintro e w' ⟨rfl, y2, rfl⟩
  go_wp2_with (first | (refine claim_load (by rfl) _ (by rfl) (by rfl) (kP.below y2.2) ?_) | (refine claim_load (by rfl) _ (by rfl) (by rfl) (kW.below y2.2) ?_) | (refine claim_load (by rfl) _ (by rfl) (by rfl) (kV.below y2.2) ?_) | (refine claim_load (by rfl) _ (by rfl) (by rfl) (kJ.below y2.2) ?_))
  refine (C3.out y2).mono ?_; rintro e w' ⟨rfl, y3, rfl⟩
  go_wp2_with (first | (refine claim_load (by rfl) _ (by rfl) (by rfl) (kP.below y3.2) ?_) | (refine claim_load (by rfl) _ (by rfl) (by rfl) (kW.below y3.2) ?_) | (refine claim_load (by rfl) _ (by rfl) (by rfl) (kV.below y3.2) ?_) | (refine claim_load (by rfl) _ (by rfl) (by rfl) (kJ.below y3.2) ?_))
  refine (C4.out y3).mono ?_; rintro e w' ⟨rfl, y4, rfl⟩
  go_wp2_with (first | (refine claim_load (by rfl) _ (by rfl) (by rfl) (kP.below y4.2) ?_) | (refine claim_load (by rfl) _ (by rfl) (by rfl) (kW.below y4.2) ?_) | (refine claim_load (by rfl) _ (by rfl) (by rfl) (kV.below y4.2) ?_) | (refine claim_load (by rfl) _ (by rfl) (by rfl) (kJ.below y4.2) ?_))
  refine (C5.out y4).mono ?_; rintro e w' ⟨rfl, y5, rfl⟩
  obtain ⟨s5, hs5⟩ : ∃ g, y5.1.heap.size = g := ⟨_, rfl⟩
  go_wp2_with (refine claim_load (by rfl) _ (by rfl) (by rfl) (((kW.below y5.2).alloc _).alloc _) ?_)
  refine calls_here fun V5 hV5 => ?_
  have b5 : Below V4.heap.size V4 V5 := by rw [hV5]; exact below_then y5.2 (below_then (below_alloc _) (below_alloc _))
  have hts : TabsAt V5 (some ⟨s5 + 1, 0, none⟩) awT := fun _ => ⟨_, 0, rfl, fun i t ht => by
    match i, ht with
    | 0, ht =>
      simp [awT] at ht; subst ht
      refine ⟨some ⟨s5, 0, none⟩, 2, by rw [hV5, cell_new (by simp [hs5])]; rfl, fun _ => ⟨_, 0, rfl, fun i u hu => ?_⟩⟩
      match i, hu with
      | 0, hu | 1, hu => simp at hu; subst hu; rw [hV5]; exact cell_old (by rw [cell_new hs5.symm]; rfl)
      | i + 2, hu => simp at hu
    | i + 1, ht => simp [awT] at ht⟩
  clear hV5
  have C6 := ccheck_any (ca0 := 1) hts (atW.below b5) awW_fits (Lt.base V5)
  rw [aw_6] at C6
  refine C6.mono ?_; rintro e w' ⟨rfl, y6, rfl⟩
  go_wp2_with fail
  go_ret
  exact ⟨rfl, y6.via (below_then B4 b5), rfl⟩
end Go.Proofs.YtghpildnajdlpaaDoor
