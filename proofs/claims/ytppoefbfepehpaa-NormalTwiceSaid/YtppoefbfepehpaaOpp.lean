/-
  A leaf's opposite by the document, walked. Conditions: its own list is empty.
-/
import Derived.Test.YtppoefbfepehpaaTurned
import Derived.Deep.DeepCutAuto
namespace Go.Proofs.Ytppoefbfepehpaa
open Go.RowKit


set_option maxHeartbeats 2000000 in
theorem opposite_any (o c : Int) (v u : Val) (W : World) (A : Option Addr) (ca : Nat) (ho : 1 ≤ o ∧ o ≤ 9) : Calls Try.prog 48 #[.agg #[.int .i64 o, .int .i64 c, .bool v.t, .int .i64 v.n, .string v.s, .bool u.t, .int .i64 u.n, .string u.s, .slice A 0 ca]] W (PFresh W (Pr.turned o c v u)) := by
  obtain rfl | rfl | rfl | rfl | rfl | rfl | rfl | rfl | rfl : o = 1 ∨ o = 2 ∨ o = 3 ∨ o = 4 ∨ o = 5 ∨ o = 6 ∨ o = 7 ∨ o = 8 ∨ o = 9 := by omega
  · go_enter Try.func48, Try.ntmps48
    go_wp2_with fail
    refine bodyPost_ret (v := .agg #[.int .i64 2, .int .i64 0, .bool false, .int .i64 0, .string ⟨#[]⟩, .bool false, .int .i64 0, .string ⟨#[]⟩, .slice none 0 0]) ?_ rfl (PFresh.leaf 2 0 Pr.zv Pr.zv (fun _ => rfl) ?_)
    · simp [results, Try.results48, go_sem]
    · repeat (first | with_reducible exact Below.refl _ _ | refine below_then ?_ (below_alloc _) | refine Below.drew ?_)
  · go_enter Try.func48, Try.ntmps48
    go_wp2_with fail
    refine bodyPost_ret (v := .agg #[.int .i64 1, .int .i64 0, .bool false, .int .i64 0, .string ⟨#[]⟩, .bool false, .int .i64 0, .string ⟨#[]⟩, .slice none 0 0]) ?_ rfl (PFresh.leaf 1 0 Pr.zv Pr.zv (fun _ => rfl) ?_)
    · simp [results, Try.results48, go_sem]
    · repeat (first | with_reducible exact Below.refl _ _ | refine below_then ?_ (below_alloc _) | refine Below.drew ?_)
  · go_enter Try.func48, Try.ntmps48
    go_wp2_with fail
    go_region
    go_wp2_with fail
    refine bodyPost_ret (v := .agg #[.int .i64 4, .int .i64 c, .bool v.t, .int .i64 v.n, .string v.s, .bool false, .int .i64 0, .string ⟨#[]⟩, .slice none 0 0]) ?_ rfl (PFresh.leaf 4 c v Pr.zv (fun _ => rfl) ?_)
    · simp [results, Try.results48, go_sem]
    · repeat (first | with_reducible exact Below.refl _ _ | refine below_then ?_ (below_alloc _) | refine Below.drew ?_)
  · go_enter Try.func48, Try.ntmps48
    go_wp2_with fail
    go_region
    go_wp2_with fail
    refine bodyPost_ret (v := .agg #[.int .i64 3, .int .i64 c, .bool v.t, .int .i64 v.n, .string v.s, .bool false, .int .i64 0, .string ⟨#[]⟩, .slice none 0 0]) ?_ rfl (PFresh.leaf 3 c v Pr.zv (fun _ => rfl) ?_)
    · simp [results, Try.results48, go_sem]
    · repeat (first | with_reducible exact Below.refl _ _ | refine below_then ?_ (below_alloc _) | refine Below.drew ?_)
  · go_enter Try.func48, Try.ntmps48
    go_wp2_with fail
    go_region
    go_wp2_with fail
    refine bodyPost_ret (v := .agg #[.int .i64 8, .int .i64 c, .bool v.t, .int .i64 v.n, .string v.s, .bool false, .int .i64 0, .string ⟨#[]⟩, .slice none 0 0]) ?_ rfl (PFresh.leaf 8 c v Pr.zv (fun _ => rfl) ?_)
    · simp [results, Try.results48, go_sem]
    · repeat (first | with_reducible exact Below.refl _ _ | refine below_then ?_ (below_alloc _) | refine Below.drew ?_)
  · go_enter Try.func48, Try.ntmps48
    go_wp2_with fail
    go_region
    go_wp2_with fail
    refine bodyPost_ret (v := .agg #[.int .i64 7, .int .i64 c, .bool v.t, .int .i64 v.n, .string v.s, .bool false, .int .i64 0, .string ⟨#[]⟩, .slice none 0 0]) ?_ rfl (PFresh.leaf 7 c v Pr.zv (fun _ => rfl) ?_)
    · simp [results, Try.results48, go_sem]
    · repeat (first | with_reducible exact Below.refl _ _ | refine below_then ?_ (below_alloc _) | refine Below.drew ?_)
  · go_enter Try.func48, Try.ntmps48
    go_wp2_with fail
    go_region
    go_wp2_with fail
    refine bodyPost_ret (v := .agg #[.int .i64 6, .int .i64 c, .bool v.t, .int .i64 v.n, .string v.s, .bool false, .int .i64 0, .string ⟨#[]⟩, .slice none 0 0]) ?_ rfl (PFresh.leaf 6 c v Pr.zv (fun _ => rfl) ?_)
    · simp [results, Try.results48, go_sem]
    · repeat (first | with_reducible exact Below.refl _ _ | refine below_then ?_ (below_alloc _) | refine Below.drew ?_)
  · go_enter Try.func48, Try.ntmps48
    go_wp2_with fail
    go_region
    go_wp2_with fail
    refine bodyPost_ret (v := .agg #[.int .i64 5, .int .i64 c, .bool v.t, .int .i64 v.n, .string v.s, .bool false, .int .i64 0, .string ⟨#[]⟩, .slice none 0 0]) ?_ rfl (PFresh.leaf 5 c v Pr.zv (fun _ => rfl) ?_)
    · simp [results, Try.results48, go_sem]
    · repeat (first | with_reducible exact Below.refl _ _ | refine below_then ?_ (below_alloc _) | refine Below.drew ?_)
  · obtain ⟨i0, hi, hz0, hz1, hz2⟩ := info_parts info_pr
    clear ho
    have hones : ∀ x : PK, ∀ u ∈ PK.cells x, u.oneCell' = true := fun x u hu => pcells_one [x] u (by rw [pcells_cons]; simpa [pcells] using hu)
    have hn5 : ∀ (w : World) (t : TypeId) (j : Nat) (y : Value), (PK.cells ⟨.mk 5 c v Pr.zv [], none, 0⟩)[j]? = some y → (w.alloc (.cells #[.int .i64 5, .int .i64 c, .bool v.t, .int .i64 v.n, .string v.s, .bool false, .int .i64 0, .string ⟨#[]⟩, .slice none 0 0] t)).cell? ((⟨w.heap.size, 0, none⟩ : Addr).add j) = some y := fun w t j y hu => PKs.news (OwnP.one (w := w) (t := t) ⟨.mk 5 c v Pr.zv [], none, 0⟩ rfl).cell j y (by rw [pcells_cons]; simpa [pcells] using hu)
    have hn7 : ∀ (w : World) (t : TypeId) (j : Nat) (y : Value), (PK.cells ⟨.mk 7 c u Pr.zv [], none, 0⟩)[j]? = some y → (w.alloc (.cells #[.int .i64 7, .int .i64 c, .bool u.t, .int .i64 u.n, .string u.s, .bool false, .int .i64 0, .string ⟨#[]⟩, .slice none 0 0] t)).cell? ((⟨w.heap.size, 0, none⟩ : Addr).add j) = some y := fun w t j y hu => PKs.news (OwnP.one (w := w) (t := t) ⟨.mk 7 c u Pr.zv [], none, 0⟩ rfl).cell j y (by rw [pcells_cons]; simpa [pcells] using hu)
    go_enter Try.func48, Try.ntmps48
    go_upto_region 8 with fail
    refine wp_here fun W1 hW1 => ?_
    have hs1 : W1.heap.size = W.heap.size + 1 + 1 := by rw [hW1]; simp
    have hb1 : Below W.heap.size W W1 := by rw [hW1]; exact below_then (below_alloc _) (below_alloc _)
    have hbox1 : OwnP W1 W.heap.size [⟨.mk 9 c v u [], A, ca⟩] := by rw [hW1]; exact (OwnP.one (w := W) (t := 29) ⟨.mk 9 c v u [], A, ca⟩ rfl).below (below_alloc _)
    have hres1 : OwnP W1 (W.heap.size + 1) [⟨.mk 0 0 Pr.zv Pr.zv [], none, 0⟩] := by rw [hW1]; exact OwnP.one (t := 29) ⟨.mk 0 0 Pr.zv Pr.zv [], none, 0⟩ (by simp)
    clear hW1
    obtain ⟨b0, b1, b2, b3, b4, b5, b6, b7, b8⟩ := hbox1.first
    simp only [Nat.zero_add, Pr.op, Pr.col, Pr.v, Pr.w] at b0 b1 b2 b3 b4 b5 b6 b7 b8
    go_wp2_with (at_builtin; go_must (first | (refine wpList_append_lies _ (by rfl) (.tmp 15) (.tmp 21) 27 (by rfl) (W.heap.size + 1 + 1) 29 i0 _ 9 104 Try.underlying27 hi hz0 hz1 hz2 rfl (by omega) (.slice none 0 0) 0 [] (by simp [Act.eval]) (World.ownsRow_nil _ _ _ _) ⟨W1.heap.size, 0, none⟩ 1 1 (PK.cells ⟨.mk 5 c v Pr.zv [], none, 0⟩) (by simp [Act.eval]) rfl (hn5 W1 _) (hones _) (by omega) (by unfold maxLen; omega) (by omega) (by simp; omega) _ rfl ?_; intro g cap w5 hrow5 hgrow5 hat5 hlt5; clear b0 b1 b2 b3 b4 b5 b6 b7 b8; have hs5 := hgrow5.size; have hge := (hrow5.lt g rfl).1; have k5 : ∀ b, b < W1.heap.size → w5.heap[b]? = W1.heap[b]? := fun b hb => (hgrow5.block b (by simp; omega) (by simp [Value.ownBlock])).trans ((below_alloc _).block b hb); have hbox5 := hbox1.other (w' := w5) (by simp at hs5; omega) (k5 _ (by omega)); have hres5 := hres1.other (w' := w5) (by simp at hs5; omega) (k5 _ (by omega)); obtain ⟨b0, b1, b2, b3, b4, b5, b6, b7, b8⟩ := hbox5.first; simp only [Nat.zero_add, Pr.op, Pr.col, Pr.v, Pr.w] at b0 b1 b2 b3 b4 b5 b6 b7 b8) | (refine wpList_append_lies _ (by rfl) (.tmp 23) (.tmp 29) 27 (by rfl) (W.heap.size + 1 + 1) 29 i0 _ 9 104 Try.underlying27 hi hz0 hz1 hz2 rfl (by omega) (.slice (some ⟨g, 0, none⟩) 1 cap) 1 (PK.cells ⟨.mk 5 c v Pr.zv [], none, 0⟩) (by simp [Act.eval]) (hrow5.alloc _) ⟨w5.heap.size, 0, none⟩ 1 1 (PK.cells ⟨.mk 7 c u Pr.zv [], none, 0⟩) (by simp [Act.eval]) rfl (hn7 w5 _) (hones _) (by omega) (by unfold maxLen; omega) (by omega) (by simp at hs5 ⊢; omega) _ rfl ?_; intro g2 cap2 w6 hrow6 hgrow6 hat6 hlt6; clear b0 b1 b2 b3 b4 b5 b6 b7 b8; have hs6 := hgrow6.size; have k6 : ∀ b, b < W.heap.size + 1 + 1 → w6.heap[b]? = w5.heap[b]? := fun b hb => (hgrow6.block b (by simp at hs5 ⊢; omega) (by simp [Value.ownBlock]; omega)).trans ((below_alloc _).block b (by simp at hs5; omega)); have hres6 := hres5.other (w' := w6) (by simp at hs5 hs6; omega) (k6 _ (by omega)); obtain ⟨r0, r1, r2, r3, r4, r5, r6, r7, r8⟩ := hres6.first; simp only [Nat.zero_add, Pr.op, Pr.col, Pr.v, Pr.w] at r0 r1 r2 r3 r4 r5 r6 r7 r8; have rf := hres6.free)))
    have hK : w6.ownsRow (W.heap.size + 1 + 1) 29 9 (.slice (some ⟨g2, 0, none⟩) 2 cap2) 2 (pcells [⟨.mk 5 c v Pr.zv [], none, 0⟩, ⟨.mk 7 c u Pr.zv [], none, 0⟩]) := by simpa [pcells_cons, pcells] using hrow6
    have hcap2 : 2 ≤ cap2 := by
      rcases hK.2 with ⟨e, _⟩ | ⟨_, _, _, e, _, _, h, _⟩
      · cases e
      · injection e with e1 e2 e3; omega
    have hg2 : W.heap.size + 1 + 1 ≤ g2 := (hK.lt g2 rfl).1
    have hO := (row_own hK rfl).other (w' := pput w6 (W.heap.size + 1) ⟨.mk 12 0 Pr.zv Pr.zv [.mk 5 c v Pr.zv [], .mk 7 c u Pr.zv []], some ⟨g2, 0, none⟩, cap2⟩) (by rw [pput_size]; exact Nat.le_refl _) (pput_other _ _ (by omega))
    have hk : ∀ k ∈ ([⟨.mk 5 c v Pr.zv [], none, 0⟩, ⟨.mk 7 c u Pr.zv [], none, 0⟩] : List PK), ∀ w : World, k.p.At w k.A k.ca ∧ k.p.Own (fun b => W.heap.size ≤ b) w k.A := fun k hk w => by
      simp only [List.mem_cons, List.not_mem_nil, or_false] at hk
      rcases hk with rfl | rfl
      · exact ⟨Pr.at_none _ _ _ _ _, Pr.own_nil⟩
      · exact ⟨Pr.at_none _ _ _ _ _, Pr.own_nil⟩
    have hb6 : Below W.heap.size W w6 := by
      refine below_then hb1 ⟨hgrow6.os.trans hgrow5.os, hgrow6.tape.trans hgrow5.tape, hgrow6.output.trans hgrow5.output, by simp at hs5 hs6; omega, fun b hb => ?_⟩
      rw [hgrow6.block b (by simp at hs5 ⊢; omega) (by
        rcases hat5 with e | e
        · cases e
        · simp [Value.ownBlock]; simp at e; omega), (below_alloc _).block b (by simp at hs5; omega)]
      exact k5 b hb
    have hfin : PFresh W (Pr.turned 9 c v u) (.returned (.agg #[.int .i64 12, .int .i64 0, .bool false, .int .i64 0, .string ⟨#[]⟩, .bool false, .int .i64 0, .string ⟨#[]⟩, .slice (some ⟨g2, 0, none⟩) 2 cap2])) (pput w6 (W.heap.size + 1) ⟨.mk 12 0 Pr.zv Pr.zv [.mk 5 c v Pr.zv [], .mk 7 c u Pr.zv []], some ⟨g2, 0, none⟩, cap2⟩) := by
      rw [show Pr.turned 9 c v u = .mk 12 0 Pr.zv Pr.zv [.mk 5 c v Pr.zv [], .mk 7 c u Pr.zv []] from rfl]
      exact ⟨_, _, rfl, hO.at_ rfl (fun k h => (hk k h _).1) 12 0 Pr.zv Pr.zv cap2 hcap2, hO.own rfl (by show W.heap.size ≤ g2; omega) (fun k h => (hk k h _).2) 12 0 Pr.zv Pr.zv, pput_below hb6 (by omega) _⟩
    exact bodyPost_ret (pr_out rfl rfl (pput_own hres6 ⟨.mk 12 0 Pr.zv Pr.zv [.mk 5 c v Pr.zv [], .mk 7 c u Pr.zv []], some ⟨g2, 0, none⟩, cap2⟩)) rfl hfin
end Go.Proofs.Ytppoefbfepehpaa
