/-
  The statement PredAbove, walked: it returns true. Conditions: the row lies in memory as it reads.
-/
import Derived.Test.YtmhgebbmccklmaaAwake03
import Derived.Test.YtmhgebbmccklmaaRHolds
import Derived.Test.YtmhgebbmccklmaaRPart
import Derived.Test.YtmhgebbmccklmaaFew
import Derived.Test.YtmhgebbmccklmaaOpenP
import Derived.Test.YtmhgebbmccklmaaPrMake
namespace Go.Proofs.Ytmhgebbmccklmaa
open Go.RowKit
variable {W : World}

set_option maxHeartbeats 4000000 in
theorem predAbove_any {B : Option Addr} {cb : Nat} {r : List Val} {v : Val} (hr : RowAt W B r) (hf : Fit r) (x : Lt W) :
    Calls Try.prog 10 #[.slice B r.length cb, .agg #[.bool v.t, .int .i64 v.n, .string v.s]] x.1 fun e w' => e = .returned (.bool true) ∧ ∃ y : Lt W, w' = y.1 := by
  have HR := Lib.hid hr
  clear hr
  have HF := Lib.hid hf
  clear hf
  go_enter Try.func10, Try.ntmps10
  go_wp2_with fail
  refine calls_here fun W1 hW1 => ?_
  have hb0 : Below W.heap.size W W1 := hW1 ▸ x.more _
  have b0 := fun z : Lt W1 => z.cell (show W1.cell? ⟨x.1.heap.size, 0, none⟩ = some (.bool v.t) by rw [hW1, cell_new rfl]; rfl)
  have b1 := fun z : Lt W1 => z.cell (show W1.cell? ⟨x.1.heap.size, 1, none⟩ = some (.int .i64 v.n) by rw [hW1, cell_new rfl]; rfl)
  have b2 := fun z : Lt W1 => z.cell (show W1.cell? ⟨x.1.heap.size, 2, none⟩ = some (.string v.s) by rw [hW1, cell_new rfl]; rfl)
  clear hW1
  refine (awake_any (Lt.base W1)).mono ?_; rintro e w' ⟨rfl, y, rfl⟩
  by_cases hl : r.length ≤ 1000
  case neg =>
    have hd : decide ((1000 : Int) < r.length) = true := decide_eq_true (by omega)
    have hd2 : (1000 : Int) < r.length := by omega
    clear hl
    go_wp2_with fail
    go_ret
    exact ⟨rfl, y.via hb0, rfl⟩
  have hd : decide ((1000 : Int) < r.length) = false := decide_eq_false (by omega)
  go_wp2_with fail
  refine (pabove_any v y).mono ?_; rintro e w' ⟨rfl, y, rfl⟩
  have hq := run_neq_val v v
  rw [decide_eq_true rfl] at hq
  have c0 := fun o : Obj => cell_old (o := o) (b0 y)
  have c1 := fun o : Obj => cell_old (o := o) (b1 y)
  have c2 := fun o : Obj => cell_old (o := o) (b2 y)
  go_wp2_with fail
  refine calls_here fun W2 hW2 => ?_
  have hb2 : Below W1.heap.size W1 W2 := hW2 ▸ below_then y.2 (below_alloc _)
  have p0 : W2.cell? ⟨y.1.heap.size, 0, none⟩ = some (.int .i64 7) := by rw [hW2, cell_new rfl]; rfl
  have p1 : W2.cell? ⟨y.1.heap.size, 1, none⟩ = some (.int .i64 0) := by rw [hW2, cell_new rfl]; rfl
  have p2 : W2.cell? ⟨y.1.heap.size, 2, none⟩ = some (.bool v.t) := by rw [hW2, cell_new rfl]; rfl
  have p3 : W2.cell? ⟨y.1.heap.size, 3, none⟩ = some (.int .i64 v.n) := by rw [hW2, cell_new rfl]; rfl
  have p4 : W2.cell? ⟨y.1.heap.size, 4, none⟩ = some (.string v.s) := by rw [hW2, cell_new rfl]; rfl
  have p5 : W2.cell? ⟨y.1.heap.size, 5, none⟩ = some (.bool false) := by rw [hW2, cell_new rfl]; rfl
  have p6 : W2.cell? ⟨y.1.heap.size, 6, none⟩ = some (.int .i64 0) := by rw [hW2, cell_new rfl]; rfl
  have p7 : W2.cell? ⟨y.1.heap.size, 7, none⟩ = some (.string ⟨#[]⟩) := by rw [hW2, cell_new rfl]; rfl
  have p8 : W2.cell? ⟨y.1.heap.size, 8, none⟩ = some (.slice none 0 0) := by rw [hW2, cell_new rfl]; rfl
  clear hW2 c0 c1 c2
  have hand := pand_any (W := W2) (o := 0) (c := 0) (v := zeroV) (w := zeroV) (l := []) (A := none) (ca := 0) (Pr.at_mk.2 ⟨fun _ => rfl, fun h => absurd rfl h⟩) (by simp)
  refine hand.mono ?_
  rintro e w3 ⟨A3, ca3, rfl, hat3, hb3⟩
  clear hand
  simp only [List.length_nil]
  go_wp2_with fail
  refine wp_here fun W4 hW4 => ?_
  have hb4 : Below w3.heap.size w3 W4 := hW4 ▸ below_alloc _
  have q0 := fun z : Lt W4 => z.cell (show W4.cell? ⟨w3.heap.size, 0, none⟩ = some (.int .i64 11) by rw [hW4, cell_new rfl]; rfl)
  have q1 := fun z : Lt W4 => z.cell (show W4.cell? ⟨w3.heap.size, 1, none⟩ = some (.int .i64 0) by rw [hW4, cell_new rfl]; rfl)
  have q2 := fun z : Lt W4 => z.cell (show W4.cell? ⟨w3.heap.size, 2, none⟩ = some (.bool false) by rw [hW4, cell_new rfl]; rfl)
  have q3 := fun z : Lt W4 => z.cell (show W4.cell? ⟨w3.heap.size, 3, none⟩ = some (.int .i64 0) by rw [hW4, cell_new rfl]; rfl)
  have q4 := fun z : Lt W4 => z.cell (show W4.cell? ⟨w3.heap.size, 4, none⟩ = some (.string ⟨#[]⟩) by rw [hW4, cell_new rfl]; rfl)
  have q5 := fun z : Lt W4 => z.cell (show W4.cell? ⟨w3.heap.size, 5, none⟩ = some (.bool false) by rw [hW4, cell_new rfl]; rfl)
  have q6 := fun z : Lt W4 => z.cell (show W4.cell? ⟨w3.heap.size, 6, none⟩ = some (.int .i64 0) by rw [hW4, cell_new rfl]; rfl)
  have q7 := fun z : Lt W4 => z.cell (show W4.cell? ⟨w3.heap.size, 7, none⟩ = some (.string ⟨#[]⟩) by rw [hW4, cell_new rfl]; rfl)
  have q8 := fun z : Lt W4 => z.cell (show W4.cell? ⟨w3.heap.size, 8, none⟩ = some (.slice A3 0 ca3) by rw [hW4, cell_new rfl]; rfl)
  have r0 := fun z : Lt W4 => z.old (below_then hb3 hb4) p0
  have r1 := fun z : Lt W4 => z.old (below_then hb3 hb4) p1
  have r2 := fun z : Lt W4 => z.old (below_then hb3 hb4) p2
  have r3 := fun z : Lt W4 => z.old (below_then hb3 hb4) p3
  have r4 := fun z : Lt W4 => z.old (below_then hb3 hb4) p4
  have r5 := fun z : Lt W4 => z.old (below_then hb3 hb4) p5
  have r6 := fun z : Lt W4 => z.old (below_then hb3 hb4) p6
  have r7 := fun z : Lt W4 => z.old (below_then hb3 hb4) p7
  have r8 := fun z : Lt W4 => z.old (below_then hb3 hb4) p8
  have hbr : Below W.heap.size W W4 := below_then hb0 (below_then hb2 (below_then hb3 hb4))
  have hb14 : Below W1.heap.size W1 W4 := below_then hb2 (below_then hb3 hb4)
  have s0 : ∀ z : Lt W4, z.1.cell? ⟨x.1.heap.size, 0, none⟩ = _ := fun z => b0 (z.via hb14)
  have s1 : ∀ z : Lt W4, z.1.cell? ⟨x.1.heap.size, 1, none⟩ = _ := fun z => b1 (z.via hb14)
  have s2 : ∀ z : Lt W4, z.1.cell? ⟨x.1.heap.size, 2, none⟩ = _ := fun z => b2 (z.via hb14)
  obtain ⟨h, hh⟩ : ∃ h, (Pr.mk 7 0 v zeroV []).holds r = h := ⟨_, rfl⟩
  have hs7 : (Pr.mk 7 0 v zeroV []).size ≤ 1000000000 := by rw [Pr.size_mk]; simp
  have hs11 : (Pr.mk 11 0 zeroV zeroV []).size ≤ 1000000000 := by rw [Pr.size_mk]; simp
  have hn7 : ∀ w : World, (Pr.mk 7 0 v zeroV []).At w none 0 := fun w => Pr.at_mk.2 ⟨fun _ => rfl, fun h => absurd rfl h⟩
  have C1 := Lib.hid (show ∀ z : Lt W4, Calls Try.prog 13 #[.agg #[.int .i64 11, .int .i64 0, .bool false, .int .i64 0, .string ⟨#[]⟩, .bool false, .int .i64 0, .string ⟨#[]⟩, .slice A3 0 ca3], .slice B r.length cb] z.1 fun e w' => e = .returned (.bool true) ∧ ∃ y : Lt W4, w' = y.1 from fun z => by
    have key := holds_any (p := .mk 11 0 zeroV zeroV []) (cb := cb) hs11 z (hat3.below hb4) (HR.out.below hbr)
    rw [Pr.holds_mk] at key
    exact key)
  have C2 := Lib.hid (show ∀ z : Lt W4, Calls Try.prog 13 #[.agg #[.int .i64 7, .int .i64 0, .bool v.t, .int .i64 v.n, .string v.s, .bool false, .int .i64 0, .string ⟨#[]⟩, .slice none 0 0], .slice B r.length cb] z.1 fun e w' => e = .returned (.bool h) ∧ ∃ y : Lt W4, w' = y.1 from fun z => by
    have key := holds_any (p := .mk 7 0 v zeroV []) (cb := cb) hs7 z (hn7 _) (HR.out.below hbr)
    rw [hh] at key
    exact key)
  have C3 := Lib.hid (show ∀ z : Lt W4, Calls Try.prog 14 #[.agg #[.int .i64 7, .int .i64 0, .bool v.t, .int .i64 v.n, .string v.s, .bool false, .int .i64 0, .string ⟨#[]⟩, .slice none 0 0], .slice B r.length cb] z.1 fun e w' => e = .returned (.bool h) ∧ ∃ y : Lt W4, w' = y.1 from fun z => by
    have key := rholds_any r B cb HF.out (.mk 7 0 v zeroV []) z (hn7 _) (HR.out.below hbr) hs7
    rw [hh] at key
    exact key)
  clear hW4 p0 p1 p2 p3 p4 p5 p6 p7 p8 b0 b1 b2 hq hh hn7 hat3
  refine wp_region_here (by kernel_rfl) (by kernel_rfl) ?_
  repeat (go_big_quiet_step ((first | (go_at_call 13; with_reducible exact C1.out _) | (go_at_call 13; with_reducible exact C2.out _) | (go_at_call 14; with_reducible exact C3.out _))))
  refine wpQuiet_nil ?_; intro _ hw'; obtain ⟨z, rfl⟩ := hw'
  go_wp2_with fail
  go_ret
  exact ⟨ret_bool (by simp), z.via hbr, rfl⟩
end Go.Proofs.Ytmhgebbmccklmaa

