/-
  The statement ClaimTurned, walked: it returns true. Conditions: the claims lie in memory as they read; the table of modes lies there.
-/
import Derived.Test.YtghpildnajdlpaaDoorAwk09
namespace Go.Proofs.YtghpildnajdlpaaDoor
open Go.RowKit
variable {W : World}

set_option maxHeartbeats 4000000 in
theorem claimTurned_any (hT : Tabs W) {a b : Cl} {A P A' P' : Option Addr} {ca pa ca' pa' : Nat} (ha : a.At W A ca P pa) (sa : ∀ r ∈ a.im, ∀ u ∈ r, u.s.size ≤ maxLen) (hb : b.At W A' ca' P' pa') (sb : ∀ r ∈ b.im, ∀ u ∈ r, u.s.size ≤ maxLen) (x : Lt W) : Calls Tryd.prog 5 #[a.arg A ca P pa, b.arg A' ca' P' pa'] x.1 fun e w' => e = .returned (.bool true) ∧ ∃ y : Lt W, w' = y.1 := by
  have HT := Lib.hid hT
  have HA := Lib.hid ha
  have Za := Lib.hid sa
  have HB := Lib.hid hb
  have Zb := Lib.hid sb
  clear hT ha sa hb sb
  unfold Cl.arg
  go_enter Tryd.func5, Tryd.ntmps5
  go_wp2_with fail
  refine calls_here fun W1 hW1 => ?_
  have B1 : Below W.heap.size W W1 := by rw [hW1]; exact below_then (x.more _) (below_alloc _)
  have ka : Blk W1 (x.1.heap.size) (a.cells A ca P pa) := by rw [hW1]; refine Blk.alloc ?_ _; exact Blk.new' (l := #[.int .i64 a.kind, .int .i64 a.table, .int .i64 a.mode, .bool a.key.t, .int .i64 a.key.n, .string a.key.s, .slice A a.im.length ca, .int .i64 a.p.op, .int .i64 a.p.col, .bool a.p.v.t, .int .i64 a.p.v.n, .string a.p.v.s, .bool a.p.w.t, .int .i64 a.p.w.n, .string a.p.w.s, .slice P a.p.l.length pa]) (by simp)
  have kb : Blk W1 (x.1.heap.size + 1) (b.cells A' ca' P' pa') := by rw [hW1]; exact Blk.new' (l := #[.int .i64 b.kind, .int .i64 b.table, .int .i64 b.mode, .bool b.key.t, .int .i64 b.key.n, .string b.key.s, .slice A' b.im.length ca', .int .i64 b.p.op, .int .i64 b.p.col, .bool b.p.v.t, .int .i64 b.p.v.n, .string b.p.v.s, .bool b.p.w.t, .int .i64 b.p.w.n, .string b.p.w.s, .slice P' b.p.l.length pa']) (by simp)
  clear hW1
  have HT1 := Lib.hid (show Tabs W1 from fun i hi => (B1.cell (cell_lt (HT.out i hi))).trans (HT.out i hi))
  have Aa := Lib.hid (HA.out.below B1)
  have Ab := Lib.hid (HB.out.below B1)
  refine (awake_any HT1.out (Lt.base W1)).mono ?_; rintro e w' ⟨rfl, y1, rfl⟩
  obtain ⟨fa, hfa⟩ : ∃ f, a.few = f := ⟨_, rfl⟩
  have Ca := cfew_any Aa.out y1
  rw [hfa] at Ca
  have HFa := Lib.hid hfa
  have HCa := Lib.hid Ca
  clear hfa Ca
  go_wp2_with (first | (refine claim_load (by rfl) _ (by rfl) (by rfl) (ka.below y1.2) ?_))
  refine HCa.out.mono ?_; rintro e w' ⟨rfl, y2, rfl⟩
  obtain ⟨fb, hfb⟩ : ∃ f, b.few = f := ⟨_, rfl⟩
  have Cb := cfew_any Ab.out y2
  rw [hfb] at Cb
  have HFb := Lib.hid hfb
  have HCb := Lib.hid Cb
  clear hfb Cb
  go_wp2_with (first | (refine claim_load (by rfl) _ (by rfl) (by rfl) (kb.below y2.2) ?_))
  refine HCb.out.mono ?_; rintro e w' ⟨rfl, y3, rfl⟩
  cases fa
  · go_wp2_with fail
    go_ret
    exact ⟨rfl, y3.via B1, rfl⟩
  cases fb
  · go_wp2_with fail
    go_ret
    exact ⟨rfl, y3.via B1, rfl⟩
  have Fa := Lib.hid (Cl.few_fits HFa.out Za.out)
  have Fb := Lib.hid (Cl.few_fits HFb.out Zb.out)
  have K1 := fun z : Lt W1 => conf_any HT1.out Aa.out Ab.out Fa.out Fb.out z
  have K2 := fun z : Lt W1 => conf_any HT1.out Ab.out Aa.out Fb.out Fa.out z
  have K3 := fun z : Lt W1 => csame_any (A := A) (A' := A') (ca := ca) (ca' := ca') Aa.out.p Ab.out.p (by have := Fa.out.p; omega) z
  have K4 := fun z : Lt W1 => csame_any (A := A') (A' := A) (ca := ca') (ca' := ca) Ab.out.p Aa.out.p (by have := Fb.out.p; omega) z
  rw [Cl.conf_turn b a] at K2
  rw [Cl.same_turn b a] at K4
  have K1 := Lib.hid K1
  have K2 := Lib.hid K2
  have K3 := Lib.hid K3
  have K4 := Lib.hid K4
  obtain ⟨c, hc⟩ : ∃ c, a.conf b = c := ⟨_, rfl⟩
  obtain ⟨d, hd⟩ : ∃ d, a.same b = d := ⟨_, rfl⟩
  rw [hc] at K1 K2
  rw [hd] at K3 K4
  clear hc hd
  go_upto_region 8 with fail
  refine wp_region_pure _ (by kernel_rfl) (by kernel_rfl) ?_
  cases c <;> cases d
  all_goals
    repeat (first | (first | (refine claim_loadq (by rfl) _ (by rfl) (by rfl) (ka) ?_; simp only [Act.put, List.setIfInBounds_toArray, List.set_cons_succ, List.set_cons_zero]) | (refine claim_loadq (by rfl) _ (by rfl) (by rfl) (kb) ?_; simp only [Act.put, List.setIfInBounds_toArray, List.set_cons_succ, List.set_cons_zero])) | go_big_quiet_step ((first | (go_at_call 17; first | (with_reducible exact K1.out _) | (with_reducible exact K2.out _)) | (go_at_call 15; first | (with_reducible exact K3.out _) | (with_reducible exact K4.out _)))))
    refine wpQuiet_nil ?_; intro _ hw'; obtain ⟨z, rfl⟩ := hw'
    go_wp2_with fail
    go_ret
    exact ⟨rfl, z.via B1, rfl⟩
end Go.Proofs.YtghpildnajdlpaaDoor
