/-
  The statement PredSame, walked: it returns true. Conditions: the arguments lie in memory as they read.
-/
import Derived.Test.YtmhgebbmccklmaaAwake03
import Derived.Test.YtmhgebbmccklmaaSame
import Derived.Test.YtmhgebbmccklmaaPrTwin
import Derived.Test.YtmhgebbmccklmaaPrSpoil
import Derived.Test.YtmhgebbmccklmaaFew
import Derived.Test.YtmhgebbmccklmaaOpenP
namespace Go.Proofs.Ytmhgebbmccklmaa
open Go.RowKit
variable {W : World}

set_option maxHeartbeats 4000000 in
theorem predSame_any {p q : Pr} {A A' : Option Addr} {ca ca' : Nat} (hp : p.At W A ca) (hq : q.At W A' ca') (x : Lt W) :
    Calls Try.prog 5 #[p.arg A ca, q.arg A' ca'] x.1 fun e w' => e = .returned (.bool true) ∧ ∃ y : Lt W, w' = y.1 := by
  have HP := Lib.hid hp
  have HQ := Lib.hid hq
  clear hp hq
  unfold Pr.arg
  go_enter Try.func5, Try.ntmps5
  go_wp2_with fail
  refine calls_here fun W1 hW1 => ?_
  have hb0 : Below W.heap.size W W1 := hW1 ▸ x.more2 _ _
  have b0 := fun z : Lt W1 => z.cell (show W1.cell? ⟨x.1.heap.size, 0, none⟩ = some (.int .i64 p.op) by rw [hW1]; exact cell_old (by rw [cell_new rfl]; rfl))
  have b1 := fun z : Lt W1 => z.cell (show W1.cell? ⟨x.1.heap.size, 1, none⟩ = some (.int .i64 p.col) by rw [hW1]; exact cell_old (by rw [cell_new rfl]; rfl))
  have b2 := fun z : Lt W1 => z.cell (show W1.cell? ⟨x.1.heap.size, 2, none⟩ = some (.bool p.v.t) by rw [hW1]; exact cell_old (by rw [cell_new rfl]; rfl))
  have b3 := fun z : Lt W1 => z.cell (show W1.cell? ⟨x.1.heap.size, 3, none⟩ = some (.int .i64 p.v.n) by rw [hW1]; exact cell_old (by rw [cell_new rfl]; rfl))
  have b4 := fun z : Lt W1 => z.cell (show W1.cell? ⟨x.1.heap.size, 4, none⟩ = some (.string p.v.s) by rw [hW1]; exact cell_old (by rw [cell_new rfl]; rfl))
  have b5 := fun z : Lt W1 => z.cell (show W1.cell? ⟨x.1.heap.size, 5, none⟩ = some (.bool p.w.t) by rw [hW1]; exact cell_old (by rw [cell_new rfl]; rfl))
  have b6 := fun z : Lt W1 => z.cell (show W1.cell? ⟨x.1.heap.size, 6, none⟩ = some (.int .i64 p.w.n) by rw [hW1]; exact cell_old (by rw [cell_new rfl]; rfl))
  have b7 := fun z : Lt W1 => z.cell (show W1.cell? ⟨x.1.heap.size, 7, none⟩ = some (.string p.w.s) by rw [hW1]; exact cell_old (by rw [cell_new rfl]; rfl))
  have b8 := fun z : Lt W1 => z.cell (show W1.cell? ⟨x.1.heap.size, 8, none⟩ = some (.slice A p.l.length ca) by rw [hW1]; exact cell_old (by rw [cell_new rfl]; rfl))
  have c0 := fun z : Lt W1 => z.cell (show W1.cell? ⟨x.1.heap.size + 1, 0, none⟩ = some (.int .i64 q.op) by rw [hW1, cell_new (by simp)]; rfl)
  have c1 := fun z : Lt W1 => z.cell (show W1.cell? ⟨x.1.heap.size + 1, 1, none⟩ = some (.int .i64 q.col) by rw [hW1, cell_new (by simp)]; rfl)
  have c2 := fun z : Lt W1 => z.cell (show W1.cell? ⟨x.1.heap.size + 1, 2, none⟩ = some (.bool q.v.t) by rw [hW1, cell_new (by simp)]; rfl)
  have c3 := fun z : Lt W1 => z.cell (show W1.cell? ⟨x.1.heap.size + 1, 3, none⟩ = some (.int .i64 q.v.n) by rw [hW1, cell_new (by simp)]; rfl)
  have c4 := fun z : Lt W1 => z.cell (show W1.cell? ⟨x.1.heap.size + 1, 4, none⟩ = some (.string q.v.s) by rw [hW1, cell_new (by simp)]; rfl)
  have c5 := fun z : Lt W1 => z.cell (show W1.cell? ⟨x.1.heap.size + 1, 5, none⟩ = some (.bool q.w.t) by rw [hW1, cell_new (by simp)]; rfl)
  have c6 := fun z : Lt W1 => z.cell (show W1.cell? ⟨x.1.heap.size + 1, 6, none⟩ = some (.int .i64 q.w.n) by rw [hW1, cell_new (by simp)]; rfl)
  have c7 := fun z : Lt W1 => z.cell (show W1.cell? ⟨x.1.heap.size + 1, 7, none⟩ = some (.string q.w.s) by rw [hW1, cell_new (by simp)]; rfl)
  have c8 := fun z : Lt W1 => z.cell (show W1.cell? ⟨x.1.heap.size + 1, 8, none⟩ = some (.slice A' q.l.length ca') by rw [hW1, cell_new (by simp)]; rfl)
  have hs1 : x.1.heap.size + 1 < W1.heap.size := by rw [hW1]; simp
  have hsx : W.heap.size ≤ x.1.heap.size := x.2.size
  clear hW1
  refine (awake_any (Lt.base W1)).mono ?_; rintro e w' ⟨rfl, y, rfl⟩
  go_wp2_with fail
  obtain ⟨s, hs⟩ : ∃ s, p.few 40 40 200 0 = s := ⟨_, rfl⟩
  refine (few_is hs y (HP.out.below hb0)).mono ?_; rintro e w' ⟨rfl, y, rfl⟩
  go_wp2_with fail
  obtain ⟨s2, hs2⟩ : ∃ s, q.few 40 40 200 0 = s := ⟨_, rfl⟩
  refine (few_is hs2 y (HQ.out.below hb0)).mono ?_; rintro e w' ⟨rfl, y, rfl⟩
  cases s
  · clear hs hs2
    go_wp2_with fail
    go_ret
    exact ⟨rfl, y.via hb0, rfl⟩
  cases s2
  · clear hs hs2
    go_wp2_with fail
    go_ret
    exact ⟨rfl, y.via hb0, rfl⟩
  have hsz := Pr.few_size hs
  clear hs hs2
  go_wp2_with fail
  refine (pclone_all p (by omega) y.1 A ca (HP.out.below (y.via hb0).2)).mono ?_
  rintro e w2 ⟨Ac, cac, rfl, hatc, hownc, hb2⟩
  have e0 : ∀ o : Obj, (w2.alloc o).cell? ⟨x.1.heap.size, 0, none⟩ = some (.int .i64 p.op) := fun o => cell_old (b0 (⟨w2, below_then y.2 hb2⟩ : Lt W1))
  have e1 : ∀ o : Obj, (w2.alloc o).cell? ⟨x.1.heap.size, 1, none⟩ = some (.int .i64 p.col) := fun o => cell_old (b1 (⟨w2, below_then y.2 hb2⟩ : Lt W1))
  have e2 : ∀ o : Obj, (w2.alloc o).cell? ⟨x.1.heap.size, 2, none⟩ = some (.bool p.v.t) := fun o => cell_old (b2 (⟨w2, below_then y.2 hb2⟩ : Lt W1))
  have e3 : ∀ o : Obj, (w2.alloc o).cell? ⟨x.1.heap.size, 3, none⟩ = some (.int .i64 p.v.n) := fun o => cell_old (b3 (⟨w2, below_then y.2 hb2⟩ : Lt W1))
  have e4 : ∀ o : Obj, (w2.alloc o).cell? ⟨x.1.heap.size, 4, none⟩ = some (.string p.v.s) := fun o => cell_old (b4 (⟨w2, below_then y.2 hb2⟩ : Lt W1))
  have e5 : ∀ o : Obj, (w2.alloc o).cell? ⟨x.1.heap.size, 5, none⟩ = some (.bool p.w.t) := fun o => cell_old (b5 (⟨w2, below_then y.2 hb2⟩ : Lt W1))
  have e6 : ∀ o : Obj, (w2.alloc o).cell? ⟨x.1.heap.size, 6, none⟩ = some (.int .i64 p.w.n) := fun o => cell_old (b6 (⟨w2, below_then y.2 hb2⟩ : Lt W1))
  have e7 : ∀ o : Obj, (w2.alloc o).cell? ⟨x.1.heap.size, 7, none⟩ = some (.string p.w.s) := fun o => cell_old (b7 (⟨w2, below_then y.2 hb2⟩ : Lt W1))
  have e8 : ∀ o : Obj, (w2.alloc o).cell? ⟨x.1.heap.size, 8, none⟩ = some (.slice A p.l.length ca) := fun o => cell_old (b8 (⟨w2, below_then y.2 hb2⟩ : Lt W1))
  go_wp2_with fail
  refine calls_here fun W3 hW3 => ?_
  have hb3 : Below w2.heap.size w2 W3 := hW3 ▸ below_alloc _
  have g0 : W3.cell? ⟨w2.heap.size, 0, none⟩ = some (.int .i64 p.op) := by rw [hW3, cell_new rfl]; rfl
  have g1 : W3.cell? ⟨w2.heap.size, 1, none⟩ = some (.int .i64 p.col) := by rw [hW3, cell_new rfl]; rfl
  have g2 : W3.cell? ⟨w2.heap.size, 2, none⟩ = some (.bool p.v.t) := by rw [hW3, cell_new rfl]; rfl
  have g3 : W3.cell? ⟨w2.heap.size, 3, none⟩ = some (.int .i64 p.v.n) := by rw [hW3, cell_new rfl]; rfl
  have g4 : W3.cell? ⟨w2.heap.size, 4, none⟩ = some (.string p.v.s) := by rw [hW3, cell_new rfl]; rfl
  have g5 : W3.cell? ⟨w2.heap.size, 5, none⟩ = some (.bool p.w.t) := by rw [hW3, cell_new rfl]; rfl
  have g6 : W3.cell? ⟨w2.heap.size, 6, none⟩ = some (.int .i64 p.w.n) := by rw [hW3, cell_new rfl]; rfl
  have g7 : W3.cell? ⟨w2.heap.size, 7, none⟩ = some (.string p.w.s) := by rw [hW3, cell_new rfl]; rfl
  have g8 : W3.cell? ⟨w2.heap.size, 8, none⟩ = some (.slice Ac p.l.length cac) := by rw [hW3, cell_new rfl]; rfl
  have hs3 : w2.heap.size < W3.heap.size := by rw [hW3]; simp
  have hb13 : Below W1.heap.size W1 W3 := below_then y.2 (below_then hb2 hb3)
  clear hW3 e0 e1 e2 e3 e4 e5 e6 e7 e8
  refine (twin_all p (by omega) W3 A ca (HP.out.below (below_then hb0 hb13))).mono ?_
  rintro e w4 ⟨Ad, cad, rfl, hatd, hownd, hb4⟩
  go_wp2_with fail
  refine wp_here fun W5 hW5 => ?_
  have hb5 : Below w4.heap.size w4 W5 := hW5 ▸ below_alloc _
  have hb35 : Below W3.heap.size W3 W5 := below_then hb4 hb5
  have hb15 : Below W1.heap.size W1 W5 := below_then hb13 hb35
  have hbr : Below W.heap.size W W5 := below_then hb0 hb15
  have d0 := fun z : Lt W5 => z.cell (show W5.cell? ⟨w4.heap.size, 0, none⟩ = some (.int .i64 p.op) by rw [hW5, cell_new rfl]; rfl)
  have d1 := fun z : Lt W5 => z.cell (show W5.cell? ⟨w4.heap.size, 1, none⟩ = some (.int .i64 p.col) by rw [hW5, cell_new rfl]; rfl)
  have d2 := fun z : Lt W5 => z.cell (show W5.cell? ⟨w4.heap.size, 2, none⟩ = some (.bool p.v.t) by rw [hW5, cell_new rfl]; rfl)
  have d3 := fun z : Lt W5 => z.cell (show W5.cell? ⟨w4.heap.size, 3, none⟩ = some (.int .i64 p.v.n) by rw [hW5, cell_new rfl]; rfl)
  have d4 := fun z : Lt W5 => z.cell (show W5.cell? ⟨w4.heap.size, 4, none⟩ = some (.string p.v.s) by rw [hW5, cell_new rfl]; rfl)
  have d5 := fun z : Lt W5 => z.cell (show W5.cell? ⟨w4.heap.size, 5, none⟩ = some (.bool p.w.t) by rw [hW5, cell_new rfl]; rfl)
  have d6 := fun z : Lt W5 => z.cell (show W5.cell? ⟨w4.heap.size, 6, none⟩ = some (.int .i64 p.w.n) by rw [hW5, cell_new rfl]; rfl)
  have d7 := fun z : Lt W5 => z.cell (show W5.cell? ⟨w4.heap.size, 7, none⟩ = some (.string p.w.s) by rw [hW5, cell_new rfl]; rfl)
  have d8 := fun z : Lt W5 => z.cell (show W5.cell? ⟨w4.heap.size, 8, none⟩ = some (.slice Ad p.l.length cad) by rw [hW5, cell_new rfl]; rfl)
  have hs5 : w4.heap.size < W5.heap.size := by rw [hW5]; simp
  clear hW5
  have f0 := fun z : Lt W5 => z.old hb35 g0
  have f1 := fun z : Lt W5 => z.old hb35 g1
  have f2 := fun z : Lt W5 => z.old hb35 g2
  have f3 := fun z : Lt W5 => z.old hb35 g3
  have f4 := fun z : Lt W5 => z.old hb35 g4
  have f5 := fun z : Lt W5 => z.old hb35 g5
  have f6 := fun z : Lt W5 => z.old hb35 g6
  have f7 := fun z : Lt W5 => z.old hb35 g7
  have f8 := fun z : Lt W5 => z.old hb35 g8
  have p0 : ∀ z : Lt W5, z.1.cell? ⟨x.1.heap.size, 0, none⟩ = _ := fun z => b0 (z.via hb15)
  have p1 : ∀ z : Lt W5, z.1.cell? ⟨x.1.heap.size, 1, none⟩ = _ := fun z => b1 (z.via hb15)
  have p2 : ∀ z : Lt W5, z.1.cell? ⟨x.1.heap.size, 2, none⟩ = _ := fun z => b2 (z.via hb15)
  have p3 : ∀ z : Lt W5, z.1.cell? ⟨x.1.heap.size, 3, none⟩ = _ := fun z => b3 (z.via hb15)
  have p4 : ∀ z : Lt W5, z.1.cell? ⟨x.1.heap.size, 4, none⟩ = _ := fun z => b4 (z.via hb15)
  have p5 : ∀ z : Lt W5, z.1.cell? ⟨x.1.heap.size, 5, none⟩ = _ := fun z => b5 (z.via hb15)
  have p6 : ∀ z : Lt W5, z.1.cell? ⟨x.1.heap.size, 6, none⟩ = _ := fun z => b6 (z.via hb15)
  have p7 : ∀ z : Lt W5, z.1.cell? ⟨x.1.heap.size, 7, none⟩ = _ := fun z => b7 (z.via hb15)
  have p8 : ∀ z : Lt W5, z.1.cell? ⟨x.1.heap.size, 8, none⟩ = _ := fun z => b8 (z.via hb15)
  have q0 : ∀ z : Lt W5, z.1.cell? ⟨x.1.heap.size + 1, 0, none⟩ = _ := fun z => c0 (z.via hb15)
  have q1 : ∀ z : Lt W5, z.1.cell? ⟨x.1.heap.size + 1, 1, none⟩ = _ := fun z => c1 (z.via hb15)
  have q2 : ∀ z : Lt W5, z.1.cell? ⟨x.1.heap.size + 1, 2, none⟩ = _ := fun z => c2 (z.via hb15)
  have q3 : ∀ z : Lt W5, z.1.cell? ⟨x.1.heap.size + 1, 3, none⟩ = _ := fun z => c3 (z.via hb15)
  have q4 : ∀ z : Lt W5, z.1.cell? ⟨x.1.heap.size + 1, 4, none⟩ = _ := fun z => c4 (z.via hb15)
  have q5 : ∀ z : Lt W5, z.1.cell? ⟨x.1.heap.size + 1, 5, none⟩ = _ := fun z => c5 (z.via hb15)
  have q6 : ∀ z : Lt W5, z.1.cell? ⟨x.1.heap.size + 1, 6, none⟩ = _ := fun z => c6 (z.via hb15)
  have q7 : ∀ z : Lt W5, z.1.cell? ⟨x.1.heap.size + 1, 7, none⟩ = _ := fun z => c7 (z.via hb15)
  have q8 : ∀ z : Lt W5, z.1.cell? ⟨x.1.heap.size + 1, 8, none⟩ = _ := fun z => c8 (z.via hb15)
  have hatc5 := hatc.below (below_then hb3 hb35)
  have hownc5 := hownc.there.below (below_then hb3 hb35)
  have hatd5 := hatd.below hb5
  have hownd5 := hownd.below hb5
  have hself : p.same p = true := Pr.same_self p
  obtain ⟨h, hh⟩ : ∃ h, p.same q = h := ⟨_, rfl⟩
  have C1 := Lib.hid (show ∀ z : Lt W5, Calls Try.prog 22 #[.agg #[.int .i64 p.op, .int .i64 p.col, .bool p.v.t, .int .i64 p.v.n, .string p.v.s, .bool p.w.t, .int .i64 p.w.n, .string p.w.s, .slice A p.l.length ca], .agg #[.int .i64 q.op, .int .i64 q.col, .bool q.v.t, .int .i64 q.v.n, .string q.v.s, .bool q.w.t, .int .i64 q.w.n, .string q.w.s, .slice A' q.l.length ca']] z.1 fun e w' => e = .returned (.bool h) ∧ ∃ y : Lt W5, w' = y.1 from fun z => by
    have key := psame_any z (HP.out.below hbr) (HQ.out.below hbr) (by omega)
    rw [hh] at key
    exact key)
  have C2 := Lib.hid (show ∀ z : Lt W5, Calls Try.prog 23 #[.agg #[.int .i64 p.op, .int .i64 p.col, .bool p.v.t, .int .i64 p.v.n, .string p.v.s, .bool p.w.t, .int .i64 p.w.n, .string p.w.s, .slice A p.l.length ca], .agg #[.int .i64 q.op, .int .i64 q.col, .bool q.v.t, .int .i64 q.v.n, .string q.v.s, .bool q.w.t, .int .i64 q.w.n, .string q.w.s, .slice A' q.l.length ca']] z.1 fun e w' => e = .returned (.bool h) ∧ ∃ y : Lt W5, w' = y.1 from fun z => by
    have key := rpsame_any p z q (HP.out.below hbr) (HQ.out.below hbr) (by omega)
    rw [hh] at key
    exact key)
  have C3 := Lib.hid (show ∀ z : Lt W5, Calls Try.prog 23 #[.agg #[.int .i64 p.op, .int .i64 p.col, .bool p.v.t, .int .i64 p.v.n, .string p.v.s, .bool p.w.t, .int .i64 p.w.n, .string p.w.s, .slice A p.l.length ca], .agg #[.int .i64 p.op, .int .i64 p.col, .bool p.v.t, .int .i64 p.v.n, .string p.v.s, .bool p.w.t, .int .i64 p.w.n, .string p.w.s, .slice Ac p.l.length cac]] z.1 fun e w' => e = .returned (.bool true) ∧ ∃ y : Lt W5, w' = y.1 from fun z => by
    have key := rpsame_any p z p (HP.out.below hbr) hatc5 (by omega)
    rw [hself] at key
    exact key)
  have C4 := Lib.hid (show ∀ z : Lt W5, Calls Try.prog 23 #[.agg #[.int .i64 p.op, .int .i64 p.col, .bool p.v.t, .int .i64 p.v.n, .string p.v.s, .bool p.w.t, .int .i64 p.w.n, .string p.w.s, .slice A p.l.length ca], .agg #[.int .i64 p.op, .int .i64 p.col, .bool p.v.t, .int .i64 p.v.n, .string p.v.s, .bool p.w.t, .int .i64 p.w.n, .string p.w.s, .slice Ad p.l.length cad]] z.1 fun e w' => e = .returned (.bool true) ∧ ∃ y : Lt W5, w' = y.1 from fun z => by
    have key := rpsame_any p z p (HP.out.below hbr) hatd5 (by omega)
    rw [hself] at key
    exact key)
  have HD := Lib.hid hatd5
  have HOD := Lib.hid hownd5
  have HOC := Lib.hid hownc5
  have hlo : x.1.heap.size + 1 < y.1.heap.size := Nat.lt_of_lt_of_le hs1 y.2.size
  have h23 := hb2.size
  have h34 := hb4.size
  have h25 : w2.heap.size ≤ W5.heap.size := by omega
  clear hh hatd hatd5 hownd hownd5 hatc hatc5 hownc hownc5 hself b0 b1 b2 b3 b4 b5 b6 b7 b8 c0 c1 c2 c3 c4 c5 c6 c7 c8 g0 g1 g2 g3 g4 g5 g6 g7 g8
  cases h
  all_goals
    refine wp_region_here (by kernel_rfl) (by kernel_rfl) ?_
    repeat (go_big_quiet_step ((first | (go_at_call 22; with_reducible exact C1.out _) | (go_at_call 23; with_reducible exact C2.out _) | (go_at_call 23; with_reducible exact C3.out _) | (go_at_call 23; with_reducible exact C4.out _))))
    refine wpQuiet_nil ?_; intro _ hw'; obtain ⟨z, rfl⟩ := hw'
    go_wp2_with fail
    have hzs : W5.heap.size ≤ z.1.heap.size := z.2.size
    refine (spoil_all p (fun b => y.1.heap.size ≤ b ∧ b < w2.heap.size) z.1 p.op p.col p.v p.w Ac cac (fun b hb => by omega) (HOC.out.below z.2) (by omega)).mono ?_
    rintro e w6 ⟨rfl, hsp⟩
    have hbW6 : Below W.heap.size W w6 := by
      have hz := (z.via hbr).2
      exact ⟨hsp.os.trans hz.os, hsp.tape.trans hz.tape, hsp.output.trans hz.output, Nat.le_trans hz.size hsp.size, fun b hb => (hsp.block b (Nat.lt_of_lt_of_le hb hz.size) (fun h => by omega)).trans (hz.block b hb)⟩
    have hkd : ∀ b, W3.heap.size ≤ b → b < z.1.heap.size → w6.heap[b]? = z.1.heap[b]? := fun b h1 h2 => hsp.block b h2 (fun h => by omega)
    have hatd6 : p.At w6 Ad cad := (HD.out.below z.2).keep hkd (HOD.out.below z.2)
    have ed : ∀ j, w6.cell? ⟨w4.heap.size, j, none⟩ = z.1.cell? ⟨w4.heap.size, j, none⟩ := fun j => World.cell?_of_block (a := ⟨w4.heap.size, j, none⟩) (hkd _ h34 (by show w4.heap.size < z.1.heap.size; omega))
    have ep : ∀ j, w6.cell? ⟨x.1.heap.size, j, none⟩ = z.1.cell? ⟨x.1.heap.size, j, none⟩ := fun j => World.cell?_of_block (a := ⟨x.1.heap.size, j, none⟩) (hsp.block _ (by show x.1.heap.size < z.1.heap.size; omega) (fun h => by have h1 : y.1.heap.size ≤ x.1.heap.size := h.1; omega))
    have m0 := (ed 0).trans (d0 z)
    have m1 := (ed 1).trans (d1 z)
    have m2 := (ed 2).trans (d2 z)
    have m3 := (ed 3).trans (d3 z)
    have m4 := (ed 4).trans (d4 z)
    have m5 := (ed 5).trans (d5 z)
    have m6 := (ed 6).trans (d6 z)
    have m7 := (ed 7).trans (d7 z)
    have m8 := (ed 8).trans (d8 z)
    have n0 := (ep 0).trans (p0 z)
    have n1 := (ep 1).trans (p1 z)
    have n2 := (ep 2).trans (p2 z)
    have n3 := (ep 3).trans (p3 z)
    have n4 := (ep 4).trans (p4 z)
    have n5 := (ep 5).trans (p5 z)
    have n6 := (ep 6).trans (p6 z)
    have n7 := (ep 7).trans (p7 z)
    have n8 := (ep 8).trans (p8 z)
    go_wp2_with fail
    have key := rpsame_any p (Lt.base w6) p (HP.out.below hbW6) hatd6 (by omega)
    rw [Pr.same_self p] at key
    refine Calls.mono key ?_
    rintro e w7 ⟨rfl, y7, rfl⟩
    go_wp2_with fail
    go_ret
    exact ⟨rfl, y7.via hbW6, rfl⟩
end Go.Proofs.Ytmhgebbmccklmaa
