/-
  The example of chapter 04, walked. Conditions: none.
-/
import Derived.Test.YtppoefbfepehpaaNormal
import Derived.Test.YtppoefbfepehpaaSpanFn
namespace Go.Proofs.Ytppoefbfepehpaa
open Go.RowKit
variable {W : World}

/-- A long region, its list of operations in pieces. -/
theorem wp_region_chunks {P : Program} {id : Nat} {Q : Exit → Act → World → Prop} {a : Act} (x : Lt W) {l l' : List Oper} (hm : P.follows .mixedOrders = true) (hB : Region.lexB .any l.toArray = true) (he : l = l')
    (h : wpQuiet P l'.toArray (fun w' => ∃ y : Lt W, w' = y.1) (fun a' => ∀ w', (∃ y : Lt W, w' = y.1) → Q .normal a' w') l' a) : (Code.region id l.toArray true).wp P Q a x.1 := by
  subst he; exact wp_region_pure x hm hB h
abbrev awT : List Bool := [false]
abbrev v3 : Val := ⟨false, 3, ⟨#[]⟩⟩
abbrev v7 : Val := ⟨false, 7, ⟨#[]⟩⟩
abbrev awG : Pr := .mk 7 0 v3 Pr.zv []
abbrev awL : Pr := .mk 6 0 v7 Pr.zv []
abbrev awP : Pr := .mk 11 0 Pr.zv Pr.zv [awG, awL]
abbrev awN : Pr := .mk 10 0 Pr.zv Pr.zv [awP]
abbrev awS : Sp := ⟨false, true, true, v3, true, false, v7⟩
theorem awSpan : awP.span awT = awS := by decide +kernel
theorem awHull : Sp.hull Sp.nothing awS = awS := by decide +kernel
theorem awW3 : awS.within v3 = false := by decide +kernel
theorem awW7 : awS.within v7 = true := by decide +kernel
theorem awNorm : awN.normal awT = .mk 12 0 Pr.zv Pr.zv [.mk 6 0 v3 Pr.zv [], .mk 7 0 v7 Pr.zv []] := by
  have h : awN.may awT = true := by decide +kernel
  unfold Pr.normal
  rw [h, if_pos rfl, Pr.push_not, Pr.push_list (.inl rfl)]
  simp only [List.map_cons, List.map_nil]
  rw [Pr.push_leaf (by omega), Pr.push_leaf (by omega)]
  rfl


set_option maxHeartbeats 2000000 in
theorem awake_any (x : Lt W) : Calls Try.prog 10 #[] x.1 fun e w' => e = .returned (.bool true) ∧ ∃ y : Lt W, w' = y.1 := by
  go_enter Try.func10, Try.ntmps10
  go_wp2_with fail
  refine calls_here fun W1 hW1 => ?_
  have hb1 : Below W.heap.size W W1 := by rw [hW1]; exact below_then (below_then (below_then (x.more _) (below_alloc _)) (below_alloc _)) (below_alloc _)
  have hc : ColsAt W1 (some ⟨x.1.heap.size, 0, none⟩) awT := fun _ => ⟨_, 0, rfl, fun i u hu => by
    match i, hu with
    | 0, hu => simp [awT] at hu; subst hu; rw [hW1]; exact cell_old (cell_old (cell_old (by rw [cell_new rfl]; rfl)))
    | i + 1, hu => simp [awT] at hu⟩
  have hp : awP.At W1 (some ⟨x.1.heap.size + 1 + 1, 0, none⟩) 2 := by
    rw [hW1]
    exact (Pr.at_two (by simp) (Pr.at_none _ 7 0 v3 Pr.zv) (Pr.at_none _ 6 0 v7 Pr.zv) (by omega) 11 0 Pr.zv Pr.zv).below (below_alloc _)
  have t0 : W1.cell? ⟨x.1.heap.size + 1, 0, none⟩ = some (.slice (some ⟨x.1.heap.size, 0, none⟩) 1 1) := by rw [hW1]; exact cell_old (cell_old (by rw [cell_new (by simp)]; rfl))
  have p0 : W1.cell? ⟨x.1.heap.size + 1 + 1 + 1, 0, none⟩ = some (.int .i64 11) := by rw [hW1, cell_new (by simp)]; rfl
  have p1 : W1.cell? ⟨x.1.heap.size + 1 + 1 + 1, 1, none⟩ = some (.int .i64 0) := by rw [hW1, cell_new (by simp)]; rfl
  have p2 : W1.cell? ⟨x.1.heap.size + 1 + 1 + 1, 2, none⟩ = some (.bool false) := by rw [hW1, cell_new (by simp)]; rfl
  have p3 : W1.cell? ⟨x.1.heap.size + 1 + 1 + 1, 3, none⟩ = some (.int .i64 0) := by rw [hW1, cell_new (by simp)]; rfl
  have p4 : W1.cell? ⟨x.1.heap.size + 1 + 1 + 1, 4, none⟩ = some (.string ⟨#[]⟩) := by rw [hW1, cell_new (by simp)]; rfl
  have p5 : W1.cell? ⟨x.1.heap.size + 1 + 1 + 1, 5, none⟩ = some (.bool false) := by rw [hW1, cell_new (by simp)]; rfl
  have p6 : W1.cell? ⟨x.1.heap.size + 1 + 1 + 1, 6, none⟩ = some (.int .i64 0) := by rw [hW1, cell_new (by simp)]; rfl
  have p7 : W1.cell? ⟨x.1.heap.size + 1 + 1 + 1, 7, none⟩ = some (.string ⟨#[]⟩) := by rw [hW1, cell_new (by simp)]; rfl
  have p8 : W1.cell? ⟨x.1.heap.size + 1 + 1 + 1, 8, none⟩ = some (.slice (some ⟨x.1.heap.size + 1 + 1, 0, none⟩) 2 2) := by rw [hW1, cell_new (by simp)]; rfl
  clear hW1
  have C1 := span_any (p := awP) (t := awT) (A0 := some ⟨x.1.heap.size, 0, none⟩) (ca0 := 1) (by decide +kernel) W1 hc hp
  rw [awSpan] at C1
  refine C1.mono ?_; rintro e w2 ⟨rfl, hb2⟩
  clear C1
  have T0 := fun o o' => cell_old (o := o') (cell_old (o := o) ((hb2.cell (cell_lt t0)).trans t0))
  have T1 := fun o => cell_old (o := o) ((hb2.cell (cell_lt t0)).trans t0)
  have P0 := fun o => cell_old (o := o) ((hb2.cell (cell_lt p0)).trans p0)
  have P1 := fun o => cell_old (o := o) ((hb2.cell (cell_lt p1)).trans p1)
  have P2 := fun o => cell_old (o := o) ((hb2.cell (cell_lt p2)).trans p2)
  have P3 := fun o => cell_old (o := o) ((hb2.cell (cell_lt p3)).trans p3)
  have P4 := fun o => cell_old (o := o) ((hb2.cell (cell_lt p4)).trans p4)
  have P5 := fun o => cell_old (o := o) ((hb2.cell (cell_lt p5)).trans p5)
  have P6 := fun o => cell_old (o := o) ((hb2.cell (cell_lt p6)).trans p6)
  have P7 := fun o => cell_old (o := o) ((hb2.cell (cell_lt p7)).trans p7)
  have P8 := fun o => cell_old (o := o) ((hb2.cell (cell_lt p8)).trans p8)
  clear t0 p0 p1 p2 p3 p4 p5 p6 p7 p8
  go_wp2_with fail
  refine calls_here fun W5 hW5 => ?_
  have hb5 : Below w2.heap.size w2 W5 := by rw [hW5]; exact below_then (below_alloc _) (below_alloc _)
  have hn : awN.At W5 (some ⟨w2.heap.size + 1, 0, none⟩) 1 := by
    rw [hW5]
    exact Pr.at_one (p := awP) (by simp) ((hp.below hb2).below (below_alloc _)) (by omega) 10 0 Pr.zv Pr.zv
  have hS : Blk W5 w2.heap.size awS.cells := by rw [hW5]; exact (Blk.new' rfl).alloc _
  clear hW5 T0 T1 P0 P1 P2 P3 P4 P5 P6 P7 P8
  have C2 := normal_any (p := awN) (t := awT) (A0 := some ⟨x.1.heap.size, 0, none⟩) (ca0 := 1) (by decide +kernel) W5 ((hc.below hb2).below hb5) hn
  rw [awNorm] at C2
  refine C2.mono ?_; rintro e w6 ⟨A6, ca6, rfl, hat6, _, hb6⟩
  clear C2
  obtain ⟨b, off, q, A', ca', hq, _, hA, hk, _⟩ := hat6.kid (k := 0) (by simp)
  obtain rfl : q = .mk 6 0 v3 Pr.zv [] := by simpa using hq.symm
  subst hA
  have hS6 := hS.below hb6
  obtain ⟨s0, s1, s2, s3, s4, s5, s6, s7, s8, s9, s10⟩ := hS6.c11
  have k0 := hk.1
  simp only [Nat.zero_mul, Nat.add_zero, Pr.op] at k0
  have hb06 : Below W.heap.size W w6 := below_then (below_then (below_then hb1 hb2) hb5) hb6
  have S0 := fun o => cell_old (o := o) s0
  have S1 := fun o => cell_old (o := o) s1
  have S2 := fun o => cell_old (o := o) s2
  have S3 := fun o => cell_old (o := o) s3
  have S4 := fun o => cell_old (o := o) s4
  have S5 := fun o => cell_old (o := o) s5
  have S6 := fun o => cell_old (o := o) s6
  have S7 := fun o => cell_old (o := o) s7
  have S8 := fun o => cell_old (o := o) s8
  have S9 := fun o => cell_old (o := o) s9
  have S10 := fun o => cell_old (o := o) s10
  have K0 := fun o => cell_old (o := o) k0
  clear hk hq hat6 hS hS6 hc hp hn
  go_wp2_with fail
  refine wp_here fun W7 hW7 => ?_
  have hb7 : Below w6.heap.size w6 W7 := by rw [hW7]; exact below_alloc _
  have z0 := fun z : Lt W7 => z.cell (show W7.cell? ⟨w2.heap.size, 0, none⟩ = some (.bool false) by rw [hW7]; exact cell_old s0)
  have z1 := fun z : Lt W7 => z.cell (show W7.cell? ⟨w2.heap.size, 1, none⟩ = some (.bool true) by rw [hW7]; exact cell_old s1)
  have z2 := fun z : Lt W7 => z.cell (show W7.cell? ⟨w2.heap.size, 2, none⟩ = some (.bool true) by rw [hW7]; exact cell_old s2)
  have z3 := fun z : Lt W7 => z.cell (show W7.cell? ⟨w2.heap.size, 3, none⟩ = some (.bool false) by rw [hW7]; exact cell_old s3)
  have z4 := fun z : Lt W7 => z.cell (show W7.cell? ⟨w2.heap.size, 4, none⟩ = some (.int .i64 3) by rw [hW7]; exact cell_old s4)
  have z5 := fun z : Lt W7 => z.cell (show W7.cell? ⟨w2.heap.size, 5, none⟩ = some (.string ⟨#[]⟩) by rw [hW7]; exact cell_old s5)
  have z6 := fun z : Lt W7 => z.cell (show W7.cell? ⟨w2.heap.size, 6, none⟩ = some (.bool true) by rw [hW7]; exact cell_old s6)
  have z7 := fun z : Lt W7 => z.cell (show W7.cell? ⟨w2.heap.size, 7, none⟩ = some (.bool false) by rw [hW7]; exact cell_old s7)
  have z8 := fun z : Lt W7 => z.cell (show W7.cell? ⟨w2.heap.size, 8, none⟩ = some (.bool false) by rw [hW7]; exact cell_old s8)
  have z9 := fun z : Lt W7 => z.cell (show W7.cell? ⟨w2.heap.size, 9, none⟩ = some (.int .i64 7) by rw [hW7]; exact cell_old s9)
  have z10 := fun z : Lt W7 => z.cell (show W7.cell? ⟨w2.heap.size, 10, none⟩ = some (.string ⟨#[]⟩) by rw [hW7]; exact cell_old s10)
  have zk := fun z : Lt W7 => z.cell (show W7.cell? ⟨b, off, none⟩ = some (.int .i64 6) by rw [hW7]; exact cell_old k0)
  have n0 := fun z : Lt W7 => z.cell (show W7.cell? ⟨w6.heap.size, 0, none⟩ = some (.int .i64 12) by rw [hW7, cell_new rfl]; rfl)
  have n8 := fun z : Lt W7 => z.cell (show W7.cell? ⟨w6.heap.size, 8, none⟩ = some (.slice (some ⟨b, off, none⟩) 2 ca6) by rw [hW7, cell_new rfl]; rfl)
  clear hW7 k0 K0 s0 S0 s1 S1 s2 S2 s3 S3 s4 S4 s5 S5 s6 S6 s7 S7 s8 S8 s9 S9 s10 S10
  have CW3 := Lib.hid (show ∀ z : Lt W7, Calls Try.prog 17 #[.agg #[.bool false, .bool true, .bool true, .bool false, .int .i64 3, .string ⟨#[]⟩, .bool true, .bool false, .bool false, .int .i64 7, .string ⟨#[]⟩], .agg #[.bool false, .int .i64 3, .string ⟨#[]⟩]] z.1 fun e w' => e = .returned (.bool false) ∧ ∃ y : Lt W7, w' = y.1 from fun z => awW3 ▸ within_any awS v3 z)
  have CW7 := Lib.hid (show ∀ z : Lt W7, Calls Try.prog 17 #[.agg #[.bool false, .bool true, .bool true, .bool false, .int .i64 3, .string ⟨#[]⟩, .bool true, .bool false, .bool false, .int .i64 7, .string ⟨#[]⟩], .agg #[.bool false, .int .i64 7, .string ⟨#[]⟩]] z.1 fun e w' => e = .returned (.bool true) ∧ ∃ y : Lt W7, w' = y.1 from fun z => awW7 ▸ within_any awS v7 z)
  have CH := Lib.hid (show ∀ z : Lt W7, Calls Try.prog 21 #[.agg #[.bool true, .bool false, .bool false, .bool false, .int .i64 0, .string ⟨#[]⟩, .bool false, .bool false, .bool false, .int .i64 0, .string ⟨#[]⟩], .agg #[.bool false, .bool true, .bool true, .bool false, .int .i64 3, .string ⟨#[]⟩, .bool true, .bool false, .bool false, .int .i64 7, .string ⟨#[]⟩]] z.1 fun e w' => e = .returned (.agg #[.bool false, .bool true, .bool true, .bool false, .int .i64 3, .string ⟨#[]⟩, .bool true, .bool false, .bool false, .int .i64 7, .string ⟨#[]⟩]) ∧ ∃ y : Lt W7, w' = y.1 from fun z => by have := hull_any Sp.nothing awS z; rwa [awHull] at this)
  have eq1 := fun w => (show (binOp .eql 35 (.agg #[.bool false, .bool true, .bool true, .bool false, .int .i64 3, .string ⟨#[]⟩, .bool true, .bool false, .bool false, .int .i64 7, .string ⟨#[]⟩]) (.agg #[.bool false, .bool true, .bool true, .bool false, .int .i64 3, .string ⟨#[]⟩, .bool true, .bool false, .bool false, .int .i64 7, .string ⟨#[]⟩])).run Try.prog w = .ok (.bool true) w from run_eql_span_t (a := awS) (b := awS) rfl w)
  refine wp_region_chunks (Lt.base W7) (by kernel_rfl) (by kernel_rfl) (by simp only [List.append_eq, List.cons_append, List.nil_append]; rfl) ?_
  repeat (go_big_quiet_step ((first | (go_at_call 17; with_reducible exact CW3.out _) | (go_at_call 17; with_reducible exact CW7.out _) | (go_at_call 21; with_reducible exact CH.out _))))
  refine wpQuiet_nil ?_; intro _ hw'; obtain ⟨z, rfl⟩ := hw'
  go_wp2_with fail
  go_ret
  exact ⟨rfl, z.via (below_then hb06 hb7), rfl⟩
end Go.Proofs.Ytppoefbfepehpaa
