/-
  The statement ClaimTables, walked: it returns true. Conditions: the claims lie in memory as they read; the table of modes lies there.
-/
import Derived.Test.YtghpildnajdlpaaDoorAwk09
namespace Go.Proofs.YtghpildnajdlpaaDoor
open Go.RowKit
variable {W : World}

def nvC (a : Cl) : Cl := ⟨3, a.table, 3, ⟨false, 0, ⟨#[]⟩⟩, [], .mk 2 0 ⟨false, 0, ⟨#[]⟩⟩ ⟨false, 0, ⟨#[]⟩⟩ []⟩
def alC (a : Cl) : Cl := ⟨3, a.table, 3, ⟨false, 0, ⟨#[]⟩⟩, [], .mk 1 0 ⟨false, 0, ⟨#[]⟩⟩ ⟨false, 0, ⟨#[]⟩⟩ []⟩
theorem nvC_fits (a : Cl) : (nvC a).Fits := ⟨Nat.zero_le _, fun r hr => by simp [nvC] at hr, fun r hr => by simp [nvC] at hr, by show Pr.size (.mk _ _ _ _ []) ≤ _; rw [Pr.size_mk]; simp⟩
theorem alC_fits (a : Cl) : (alC a).Fits := ⟨Nat.zero_le _, fun r hr => by simp [alC] at hr, fun r hr => by simp [alC] at hr, by show Pr.size (.mk _ _ _ _ []) ≤ _; rw [Pr.size_mk]; simp⟩
theorem nvC_at (w : World) (a : Cl) : (nvC a).At w none 0 none 0 := ⟨ImgsAt.nil _, Pr.at_mk.2 ⟨⟨fun _ => rfl, Nat.le_refl _⟩, fun h => absurd rfl h⟩⟩
theorem alC_at (w : World) (a : Cl) : (alC a).At w none 0 none 0 := ⟨ImgsAt.nil _, Pr.at_mk.2 ⟨⟨fun _ => rfl, Nat.le_refl _⟩, fun h => absurd rfl h⟩⟩
/-- How many of some rows are there. -/
def there (l : List (List Val)) : Nat := l.countP fun r => decide (r.length ≠ 0)
theorem there_take {l : List (List Val)} {k : Nat} {r : List Val} (h : l[k]? = some r) : there (l.take (k + 1)) = there (l.take k) + if r.length ≠ 0 then 1 else 0 := by
  unfold there
  rw [List.take_add_one, h, List.countP_append]
  by_cases hr : r.length = 0
  · simp [List.eq_nil_of_length_eq_zero hr]
  · have hne : r ≠ [] := fun e => hr (by rw [e]; rfl)
    simp [hne]
theorem there_le (l : List (List Val)) (k : Nat) : there (l.take k) ≤ l.length := Nat.le_trans List.countP_le_length (by rw [List.length_take]; omega)
theorem nvC_conf (a : Cl) : (nvC a).conf a = false := by
  have hh : ∀ l, Cl.hits (nvC a).p l = false := fun l => by
    unfold Cl.hits
    rw [List.any_eq_false]
    intro r _
    show ¬ (!decide (r.length = 0) && (Pr.mk 2 0 ⟨false, 0, ⟨#[]⟩⟩ ⟨false, 0, ⟨#[]⟩⟩ []).holds r) = true
    rw [Pr.holds_mk, Pr.says_no (by omega) (by omega), Bool.and_false]
    exact Bool.false_ne_true
  unfold Cl.conf Cl.meets
  rw [hh, Bool.and_false, if_neg (show ¬ ((nvC a).kind = 2 ∧ a.kind = 3) by show ¬ ((3 : Int) = 2 ∧ _); omega), if_neg (show ¬ ((nvC a).kind = 2 ∧ a.kind = 2) by show ¬ ((3 : Int) = 2 ∧ _); omega), if_neg (show ¬ ((nvC a).kind = 1 ∧ a.kind = 1) by show ¬ ((3 : Int) = 1 ∧ _); omega)]
  split <;> simp
theorem alC_conf (a : Cl) : (alC a).conf a = ((a.kind == 2) && (a.mode == 6) && decide ((0 : Int) < (there a.im : Int))) := by
  have hh : Cl.hits (alC a).p a.im = decide ((0 : Int) < (there a.im : Int)) := by
    rw [Bool.eq_iff_iff, decide_eq_true_iff, Cl.hits_iff]
    have h1 : (0 : Int) < (there a.im : Int) ↔ 0 < there a.im := by omega
    rw [h1]
    unfold there
    rw [List.countP_pos_iff]
    constructor
    · rintro ⟨r, hr, h, _⟩; exact ⟨r, hr, decide_eq_true h⟩
    · rintro ⟨r, hr, h⟩
      refine ⟨r, hr, of_decide_eq_true h, ?_⟩
      show (Pr.mk 1 0 ⟨false, 0, ⟨#[]⟩⟩ ⟨false, 0, ⟨#[]⟩⟩ []).holds r = true
      rw [Pr.holds_mk, Pr.says_1]
  unfold Cl.conf Cl.meets
  rw [hh, if_neg (show ¬ ((alC a).kind = 2 ∧ a.kind = 3) by show ¬ ((3 : Int) = 2 ∧ _); omega), if_neg (show ¬ ((alC a).kind = 2 ∧ a.kind = 2) by show ¬ ((3 : Int) = 2 ∧ _); omega), if_neg (show ¬ ((alC a).kind = 1 ∧ a.kind = 1) by show ¬ ((3 : Int) = 1 ∧ _); omega)]
  rw [show decide ((alC a).table = a.table) = true from decide_eq_true rfl, Bool.true_and]
  by_cases hk : a.kind = 2
  · rw [if_pos ⟨show (3 : Int) = 3 from rfl, hk⟩]
    by_cases hm : a.mode = 6 <;> simp [hk, hm]
  · rw [if_neg (fun h => hk h.2)]
    simp [hk]
theorem conf_far {a b : Cl} (h : a.table ≠ b.table) : a.conf b = false := by unfold Cl.conf; rw [decide_eq_false h, Bool.false_and]
theorem same_far {a b : Cl} (h : a.table ≠ b.table) : a.same b = false := Cl.same_t h
theorem covers_far {a b : Cl} (h : a.table ≠ b.table) : a.covers b = false := by unfold Cl.covers; rw [same_far h]; rfl
theorem Cl.At.moved {b : Cl} {w : World} {A P : Option Addr} {ca pa : Nat} (h : b.At w A ca P pa) (o : Int) : ({ b with table := o } : Cl).At w A ca P pa := ⟨h.im, h.p⟩
theorem Cl.Fits.moved {b : Cl} (h : b.Fits) (o : Int) : ({ b with table := o } : Cl).Fits := ⟨h.im, h.row, h.fit, h.p⟩
set_option maxHeartbeats 8000000 in
theorem claimTables_any (hT : Tabs W) {a b : Cl} {A P A' P' : Option Addr} {ca pa ca' pa' : Nat} (ha : a.At W A ca P pa) (sa : ∀ r ∈ a.im, ∀ u ∈ r, u.s.size ≤ maxLen) (hb : b.At W A' ca' P' pa') (sb : ∀ r ∈ b.im, ∀ u ∈ r, u.s.size ≤ maxLen) {o : Int} (x : Lt W) : Calls Tryd.prog 9 #[a.arg A ca P pa, b.arg A' ca' P' pa', .int .i64 o] x.1 fun e w' => e = .returned (.bool true) ∧ ∃ y : Lt W, w' = y.1 := by
  have HT := Lib.hid hT
  have HA := Lib.hid ha
  have Za := Lib.hid sa
  have HB := Lib.hid hb
  have Zb := Lib.hid sb
  clear hT ha sa hb sb
  unfold Cl.arg
  go_enter Tryd.func9, Tryd.ntmps9
  go_wp2_with fail
  refine calls_here fun W1 hW1 => ?_
  have B1 : Below W.heap.size W W1 := by rw [hW1]; exact below_then (x.more _) (below_alloc _)
  have ka : Blk W1 (x.1.heap.size) (a.cells A ca P pa) := by rw [hW1]; refine Blk.alloc ?_ _; exact Blk.new' (l := #[.int .i64 a.kind, .int .i64 a.table, .int .i64 a.mode, .bool a.key.t, .int .i64 a.key.n, .string a.key.s, .slice A a.im.length ca, .int .i64 a.p.op, .int .i64 a.p.col, .bool a.p.v.t, .int .i64 a.p.v.n, .string a.p.v.s, .bool a.p.w.t, .int .i64 a.p.w.n, .string a.p.w.s, .slice P a.p.l.length pa]) (by simp)
  have kb : Blk W1 (x.1.heap.size + 1) (b.cells A' ca' P' pa') := by rw [hW1]; exact Blk.new' (l := #[.int .i64 b.kind, .int .i64 b.table, .int .i64 b.mode, .bool b.key.t, .int .i64 b.key.n, .string b.key.s, .slice A' b.im.length ca', .int .i64 b.p.op, .int .i64 b.p.col, .bool b.p.v.t, .int .i64 b.p.v.n, .string b.p.v.s, .bool b.p.w.t, .int .i64 b.p.w.n, .string b.p.w.s, .slice P' b.p.l.length pa']) (by simp)
  clear hW1
  have HT1 := Lib.hid (show Tabs W1 from fun i hi => (B1.cell (cell_lt (HT.out i hi))).trans (HT.out i hi))
  have Aa := Lib.hid (HA.out.below B1)
  have Ab := Lib.hid (HB.out.below B1)
  refine (awake_any HT1.out (Lt.base W1)).mono ?_; rintro e w' ⟨rfl, y1, rfl⟩
  obtain ⟨fa, hfa⟩ : ∃ f, a.few = f := ⟨_, rfl⟩
  have Ca := cfew_any Aa.out y1
  rw [hfa] at Ca
  have HFa := Lib.hid hfa
  have HCa := Lib.hid Ca
  clear hfa Ca
  go_wp2_with (first | (refine claim_load (by rfl) _ (by rfl) (by rfl) (ka.below y1.2) ?_))
  refine HCa.out.mono ?_; rintro e w' ⟨rfl, y2, rfl⟩
  obtain ⟨fb, hfb⟩ : ∃ f, b.few = f := ⟨_, rfl⟩
  have Cb := cfew_any Ab.out y2
  rw [hfb] at Cb
  have HFb := Lib.hid hfb
  have HCb := Lib.hid Cb
  clear hfb Cb
  go_wp2_with (first | (refine claim_load (by rfl) _ (by rfl) (by rfl) (kb.below y2.2) ?_))
  refine HCb.out.mono ?_; rintro e w' ⟨rfl, y3, rfl⟩
  cases fa
  · go_wp2_with fail
    go_ret
    exact ⟨rfl, y3.via B1, rfl⟩
  cases fb
  · go_wp2_with fail
    go_ret
    exact ⟨rfl, y3.via B1, rfl⟩
  have Fa := Lib.hid (Cl.few_fits HFa.out Za.out)
  have Fb := Lib.hid (Cl.few_fits HFb.out Zb.out)
  have ka1 := ka.cell 1 _ rfl
  have kz1 := fun z : Lt W1 => z.cell ka1
  obtain ⟨g0, hg0⟩ : ∃ g, y3.1.heap.size = g := ⟨_, rfl⟩
  go_upto_region 9 with (refine claim_store (c := nvC a) (A := none) (ca := 0) (P := none) (pa := 0) (by rfl) _ _ (by rfl) (by rfl) (Blk.new' hg0.symm) rfl (by rfl) ?_; intro V1 hV1)
  have bV1 : Below W1.heap.size W1 V1 := by rw [hV1]; exact puts_below (below_then y3.2 (below_alloc _)) (by have := y3.2.size; omega) _ _
  have qn : Blk V1 g0 ((nvC a).cells none 0 none 0) := by rw [hV1]; exact (Blk.new' hg0.symm).puts0 rfl
  clear hV1 hg0 ka1 kz1
  replace ka := ka.below bV1
  replace kb := kb.below bV1
  have BV1 := below_then B1 bV1
  have ka1 := ka.cell 1 _ rfl
  obtain ⟨g1, hg1⟩ : ∃ g, V1.heap.size = g := ⟨_, rfl⟩
  go_upto_region 10 with (refine claim_store (c := alC a) (A := none) (ca := 0) (P := none) (pa := 0) (by rfl) _ _ (by rfl) (by rfl) (Blk.new' hg1.symm) rfl (by rfl) ?_; intro V2 hV2)
  have bV2 : Below V1.heap.size V1 V2 := by rw [hV2]; exact puts_below (below_alloc _) (by omega) _ _
  have qa : Blk V2 g1 ((alC a).cells none 0 none 0) := by rw [hV2]; exact (Blk.new' hg1.symm).puts0 rfl
  clear hV2 hg1 ka1
  replace ka := ka.below bV2
  replace kb := kb.below bV2
  replace qn := qn.below bV2
  have BV2 := below_then BV1 bV2
  clear bV1 bV2 BV1
  have ka6 := ka.cell 6 _ rfl
  have AI := Lib.hid ((HA.out.below BV2).im)
  have hal : a.im.length ≤ 1000000 := Fa.out.im
  go_wp2_with fail
  go_loopw [12, 13] (fun n i wr => ∃ k : Nat, V2 = wr ∧ i = .int .i64 k ∧ n = .int .i64 (there (a.im.take k)) ∧ k ≤ a.im.length) (fun _ i _ => a.im.length - (intOf i).toNat)
  case atStart => exact ⟨0, by trivial, rfl, rfl, by omega⟩
  case round =>
    obtain ⟨k, rfl, rfl, rfl, hk⟩ := hrel
    have hth := there_le a.im k
    by_cases hlt : k < a.im.length
    · obtain ⟨bb, off, r, AX, caX, hx, hmem, hAe, hc0, hxat, hxn⟩ := AI.out.at_ hlt
      have HX := Lib.hid hx
      have HR := Lib.hid (Fa.out.row r hmem)
      clear hx hmem hxat hxn
      obtain rfl := hAe
      by_cases hr0 : r.length = 0
      · have hd : decide ((0 : Int) < (r.length : Int)) = false := decide_eq_false (by omega)
        have HT0 := Lib.hid (show there (a.im.take (k + 1)) = there (a.im.take k) by rw [there_take HX.out, if_neg (by omega)]; rfl)
        go_wp2_with fail
        go_roundw
        case rel => exact ⟨k + 1, by trivial, by go_num, by rw [HT0.out], by omega⟩
        case measure => simp [intOf]; omega
      · have hd : decide ((0 : Int) < (r.length : Int)) = true := decide_eq_true (by omega)
        have hd2 : (0 : Int) < (r.length : Int) := by omega
        have HT0 := Lib.hid (show there (a.im.take (k + 1)) = there (a.im.take k) + 1 by rw [there_take HX.out, if_pos (by omega)])
        go_wp2_with fail
        go_roundw
        case rel => exact ⟨k + 1, by trivial, by go_num, by rw [HT0.out]; go_num, by omega⟩
        case measure => simp [intOf]; omega
    · obtain rfl : k = a.im.length := by omega
      rw [List.take_length] at hth ⊢
      clear hlt hk hth AI hal
      have HT2 : Tabs V2 := fun i hi => (BV2.cell (cell_lt (HT.out i hi))).trans (HT.out i hi)
      have K1 := fun z : Lt V2 => conf_any HT2 (nvC_at V2 a) (HA.out.below BV2) (nvC_fits a) Fa.out z
      have K2 := fun z : Lt V2 => conf_any HT2 (alC_at V2 a) (HA.out.below BV2) (alC_fits a) Fa.out z
      rw [nvC_conf] at K1
      rw [alC_conf] at K2
      have kc0 := fun z : Lt V2 => z.cell (ka.cell 0 _ rfl)
      have kc1 := fun z : Lt V2 => z.cell (ka.cell 1 _ rfl)
      have kc2 := fun z : Lt V2 => z.cell (ka.cell 2 _ rfl)
      obtain ⟨n, hn⟩ : ∃ n : Int, (there a.im : Int) = n := ⟨_, rfl⟩
      rw [hn] at K2 ⊢
      clear hn
      obtain ⟨c1, hc1⟩ : ∃ c, (a.kind == 2) = c := ⟨_, rfl⟩
      obtain ⟨c2, hc2⟩ : ∃ c, (a.mode == 6) = c := ⟨_, rfl⟩
      obtain ⟨c3, hc3⟩ : ∃ c, decide ((0 : Int) < n) = c := ⟨_, rfl⟩
      rw [hc1, hc2, hc3] at K2
      obtain ⟨c4, hc4⟩ : ∃ c, (o == a.table) = c := ⟨_, rfl⟩
      go_upto_region 16 with fail
      refine wp_region_pure (Lt.base V2) (by kernel_rfl) (by kernel_rfl) ?_
      cases c1 <;> cases c2 <;> cases c3
      all_goals
        try simp only [Bool.and_true, Bool.and_false] at K2
        replace K1 := Lib.hid K1
        replace K2 := Lib.hid K2
        repeat (first | (first | (refine claim_loadq (by rfl) _ (by rfl) (by rfl) (ka) ?_; simp only [Act.put, List.setIfInBounds_toArray, List.set_cons_succ, List.set_cons_zero]) | (refine claim_loadq (by rfl) _ (by rfl) (by rfl) (qn) ?_; simp only [Act.put, List.setIfInBounds_toArray, List.set_cons_succ, List.set_cons_zero]) | (refine claim_loadq (by rfl) _ (by rfl) (by rfl) (qa) ?_; simp only [Act.put, List.setIfInBounds_toArray, List.set_cons_succ, List.set_cons_zero])) | go_big_quiet_step ((go_at_call 17; first | (with_reducible exact K1.out _) | (with_reducible exact K2.out _))))
        refine wpQuiet_nil ?_; intro _ hw'; obtain ⟨z, rfl⟩ := hw'
        clear hc1 hc2 hc3 K1 K2
        cases c4
        · have kb1 := z.cell (kb.cell 1 _ rfl)
          have kbf := (kb.below z.2).free
          go_upto_region 21 with fail
          refine wp_here fun V3 hV3 => ?_
          clear kb1 kbf kc0 kc1 kc2
          have kb3 : Blk V3 (x.1.heap.size + 1) (({ b with table := o } : Cl).cells A' ca' P' pa') := by rw [hV3]; exact (kb.below z.2).set1 (j := 1) (by show 1 < 16; omega) _
          have ka3 : Blk V3 x.1.heap.size (a.cells A ca P pa) := by rw [hV3]; exact (ka.below z.2).setOther (by show x.1.heap.size ≠ x.1.heap.size + 1; omega) _
          have B3 : Below W.heap.size W V3 := by rw [hV3]; exact (below_then BV2 z.2).setCell (by show W.heap.size ≤ x.1.heap.size + 1; have := x.2.size; omega) _
          clear hV3
          have HT3 : Tabs V3 := fun i hi => (B3.cell (cell_lt (HT.out i hi))).trans (HT.out i hi)
          have hne : a.table ≠ ({ b with table := o } : Cl).table := fun e => by
            have e' : a.table = o := e
            rw [e'] at hc4
            simp at hc4
          have L1 := fun z : Lt V3 => conf_any HT3 (HA.out.below B3) ((HB.out.below B3).moved o) Fa.out (Fb.out.moved o) z
          have L2 := fun z : Lt V3 => csame_any (a := a) (b := { b with table := o }) (A := A) (A' := A') (ca := ca) (ca' := ca') (HA.out.below B3).p (HB.out.below B3).p (by have := Fa.out.p; omega) z
          have L3 := fun z : Lt V3 => ccov_any HT3 (HA.out.below B3) ((HB.out.below B3).moved o) Fa.out (Fb.out.moved o) z
          rw [conf_far hne] at L1
          rw [same_far hne] at L2
          rw [covers_far hne] at L3
          replace L1 := Lib.hid L1
          replace L2 := Lib.hid L2
          replace L3 := Lib.hid L3
          clear hne hc4
          go_wp2_with (first | (refine claim_load (by rfl) _ (by rfl) (by rfl) (ka3) ?_) | (refine claim_load (by rfl) _ (by rfl) (by rfl) (kb3) ?_))
          refine (L1.out (Lt.base V3)).mono ?_; rintro e w' ⟨rfl, z1, rfl⟩
          go_wp2_with (first | (refine claim_load (by rfl) _ (by rfl) (by rfl) (ka3.below z1.2) ?_) | (refine claim_load (by rfl) _ (by rfl) (by rfl) (kb3.below z1.2) ?_))
          refine (L2.out z1).mono ?_; rintro e w' ⟨rfl, z2, rfl⟩
          go_wp2_with (first | (refine claim_load (by rfl) _ (by rfl) (by rfl) (ka3.below z2.2) ?_) | (refine claim_load (by rfl) _ (by rfl) (by rfl) (kb3.below z2.2) ?_))
          refine (L3.out z2).mono ?_; rintro e w' ⟨rfl, z3, rfl⟩
          go_wp2_with fail
          go_ret
          exact ⟨rfl, z3.via B3, rfl⟩
        · have kd1 := kc1 z
          go_wp2_with fail
          go_ret
          exact ⟨rfl, z.via BV2, rfl⟩
end Go.Proofs.YtghpildnajdlpaaDoor
