/-
  The statement PredRange, walked: it returns true. Conditions: the row lies in memory as it reads.
-/
import Derived.Test.YtmhgebbmccklmaaAwake03
import Derived.Test.YtmhgebbmccklmaaRHolds
import Derived.Test.YtmhgebbmccklmaaRPart
import Derived.Test.YtmhgebbmccklmaaFew
import Derived.Test.YtmhgebbmccklmaaOpenP
import Derived.Test.YtmhgebbmccklmaaPrMake
import Derived.Test.YtmhgebbmccklmaaPrLit
namespace Go.Proofs.Ytmhgebbmccklmaa
open Go.RowKit
variable {W : World}

theorem Pr.range_says {r : List Val} {v w : Val} (hr : 0 < r.length) : (Pr.mk 11 0 zeroV zeroV [.mk 8 0 v zeroV [], .mk 6 0 w zeroV []]).holds r = (Pr.mk 9 0 v w []).holds r ∧ (Pr.mk 12 0 zeroV zeroV [.mk 5 0 v zeroV [], .mk 7 0 w zeroV []]).holds r = !(Pr.mk 9 0 v w []).holds r := by
  have hl : ∀ o (v w : Val), 3 ≤ o → o ≤ 9 → (Pr.mk o 0 v w []).holds r = Pr.leaf o 0 v w r := fun o v w h1 h2 => by rw [Pr.holds_mk]; exact Pr.says_leaf h1 h2
  have hu : r[(0 : Int).toNat]? = some r[0] := List.getElem?_eq_getElem hr
  have h0 : (0 : Int) < r.length := by omega
  have e : ∀ o (v w : Val), Pr.leaf o 0 v w r = _ := fun o v w => Pr.leaf_val (by omega) h0 hu rfl
  rw [hl 9 v w (by omega) (by omega), Pr.holds_mk r 11, Pr.holds_mk r 12]
  simp only [List.map_cons, List.map_nil, hl 8 v zeroV (by omega) (by omega), hl 6 w zeroV (by omega) (by omega), hl 5 v zeroV (by omega) (by omega), hl 7 w zeroV (by omega) (by omega), e]
  have a11 : ∀ (a b : Bool), Pr.says r 11 0 zeroV zeroV [a, b] = (a && b) := fun a b => by cases a <;> cases b <;> rfl
  have a12 : ∀ (a b : Bool), Pr.says r 12 0 zeroV zeroV [a, b] = (a || b) := fun a b => by cases a <;> cases b <;> rfl
  rw [a11, a12]
  generalize cmpV r[0] v = a
  generalize cmpV r[0] w = b
  refine ⟨by simp, ?_⟩
  rw [Bool.eq_iff_iff]
  simp

set_option maxHeartbeats 4000000 in
theorem predRange_any {B : Option Addr} {cb : Nat} {r : List Val} {v w : Val} (hr : RowAt W B r) (x : Lt W) :
    Calls Try.prog 9 #[.slice B r.length cb, .agg #[.bool v.t, .int .i64 v.n, .string v.s], .agg #[.bool w.t, .int .i64 w.n, .string w.s]] x.1 fun e w' => e = .returned (.bool true) ∧ ∃ y : Lt W, w' = y.1 := by
  have HR := Lib.hid hr
  clear hr
  go_enter Try.func9, Try.ntmps9
  go_wp2_with fail
  refine calls_here fun W1 hW1 => ?_
  have hb0 : Below W.heap.size W W1 := hW1 ▸ x.more2 _ _
  have b0 := fun z : Lt W1 => z.cell (show W1.cell? ⟨x.1.heap.size, 0, none⟩ = some (.bool v.t) by rw [hW1]; exact cell_old (by rw [cell_new rfl]; rfl))
  have b1 := fun z : Lt W1 => z.cell (show W1.cell? ⟨x.1.heap.size, 1, none⟩ = some (.int .i64 v.n) by rw [hW1]; exact cell_old (by rw [cell_new rfl]; rfl))
  have b2 := fun z : Lt W1 => z.cell (show W1.cell? ⟨x.1.heap.size, 2, none⟩ = some (.string v.s) by rw [hW1]; exact cell_old (by rw [cell_new rfl]; rfl))
  have c0 := fun z : Lt W1 => z.cell (show W1.cell? ⟨x.1.heap.size + 1, 0, none⟩ = some (.bool w.t) by rw [hW1, cell_new (by simp)]; rfl)
  have c1 := fun z : Lt W1 => z.cell (show W1.cell? ⟨x.1.heap.size + 1, 1, none⟩ = some (.int .i64 w.n) by rw [hW1, cell_new (by simp)]; rfl)
  have c2 := fun z : Lt W1 => z.cell (show W1.cell? ⟨x.1.heap.size + 1, 2, none⟩ = some (.string w.s) by rw [hW1, cell_new (by simp)]; rfl)
  clear hW1
  refine (awake_any (Lt.base W1)).mono ?_; rintro e w' ⟨rfl, y, rfl⟩
  by_cases hl0 : r.length = 0
  case pos =>
    have hd : ((r.length : Int) == 0) = true := beq_iff_eq.2 (by omega)
    clear hl0
    go_wp2_with fail
    go_ret
    exact ⟨rfl, y.via hb0, rfl⟩
  have hd0 : ((r.length : Int) == 0) = false := beq_eq_false_iff_ne.2 (by omega)
  by_cases hl : r.length ≤ 1000
  case neg =>
    have hd : decide ((1000 : Int) < r.length) = true := decide_eq_true (by omega)
    have hd2 : (1000 : Int) < r.length := by omega
    clear hl
    go_wp2_with fail
    go_ret
    exact ⟨rfl, y.via hb0, rfl⟩
  have hd : decide ((1000 : Int) < r.length) = false := decide_eq_false (by omega)
  have hpos : 0 < r.length := by omega
  obtain ⟨hs1, hs2⟩ := Pr.range_says (v := v) (w := w) hpos
  obtain ⟨h, hh⟩ : ∃ h, (Pr.mk 9 0 v w []).holds r = h := ⟨_, rfl⟩
  rw [hh] at hs1 hs2
  have HS1 := Lib.hid hs1
  have HS2 := Lib.hid hs2
  have HH := Lib.hid hh
  clear hs1 hs2 hh hl0
  have y0 := b0 y
  have u0 := c0 y
  have yy0 := fun o : Obj => cell_old (o := o) (b0 y)
  have uu0 := fun o : Obj => cell_old (o := o) (c0 y)
  have y1 := b1 y
  have u1 := c1 y
  have yy1 := fun o : Obj => cell_old (o := o) (b1 y)
  have uu1 := fun o : Obj => cell_old (o := o) (c1 y)
  have y2 := b2 y
  have u2 := c2 y
  have yy2 := fun o : Obj => cell_old (o := o) (b2 y)
  have uu2 := fun o : Obj => cell_old (o := o) (c2 y)
  go_wp2_with fail
  refine calls_here fun W2 hW2 => ?_
  have hb2 : Below W1.heap.size W1 W2 := hW2 ▸ below_then (y.more _) (below_alloc _)
  have p0 : W2.cell? ⟨y.1.heap.size, 0, none⟩ = some (.int .i64 9) := by rw [hW2]; exact cell_old (by rw [cell_new rfl]; rfl)
  have p1 : W2.cell? ⟨y.1.heap.size, 1, none⟩ = some (.int .i64 0) := by rw [hW2]; exact cell_old (by rw [cell_new rfl]; rfl)
  have p2 : W2.cell? ⟨y.1.heap.size, 2, none⟩ = some (.bool v.t) := by rw [hW2]; exact cell_old (by rw [cell_new rfl]; rfl)
  have p3 : W2.cell? ⟨y.1.heap.size, 3, none⟩ = some (.int .i64 v.n) := by rw [hW2]; exact cell_old (by rw [cell_new rfl]; rfl)
  have p4 : W2.cell? ⟨y.1.heap.size, 4, none⟩ = some (.string v.s) := by rw [hW2]; exact cell_old (by rw [cell_new rfl]; rfl)
  have p5 : W2.cell? ⟨y.1.heap.size, 5, none⟩ = some (.bool w.t) := by rw [hW2]; exact cell_old (by rw [cell_new rfl]; rfl)
  have p6 : W2.cell? ⟨y.1.heap.size, 6, none⟩ = some (.int .i64 w.n) := by rw [hW2]; exact cell_old (by rw [cell_new rfl]; rfl)
  have p7 : W2.cell? ⟨y.1.heap.size, 7, none⟩ = some (.string w.s) := by rw [hW2]; exact cell_old (by rw [cell_new rfl]; rfl)
  have p8 : W2.cell? ⟨y.1.heap.size, 8, none⟩ = some (.slice none 0 0) := by rw [hW2]; exact cell_old (by rw [cell_new rfl]; rfl)
  have hat2 : (Pr.mk 11 0 zeroV zeroV [.mk 8 0 v zeroV [], .mk 6 0 w zeroV []]).At W2 (some ⟨y.1.heap.size + 1, 0, none⟩) 2 := by
    rw [hW2]; exact Pr.at_two (p := .mk 8 0 v zeroV []) (q := .mk 6 0 w zeroV []) (by simp) (Pr.at_none _ _ _ _ _) (Pr.at_none _ _ _ _ _) 11 0 zeroV zeroV
  clear hW2 y0 y1 y2 u0 u1 u2 yy0 yy1 yy2 uu0 uu1 uu2
  have hand := pand_any hat2 (by simp)
  refine hand.mono ?_
  rintro e w3 ⟨A3, ca3, rfl, hat3, hb3⟩
  clear hand
  have hbw3 : Below W1.heap.size W1 w3 := below_then hb2 hb3
  simp only [List.length_cons, List.length_nil, Nat.reduceAdd]
  have m0 : w3.cell? ⟨y.1.heap.size, 0, none⟩ = some (.int .i64 9) := (hb3.cell (cell_lt p0)).trans p0
  have mm0 := fun o1 o2 o3 : Obj => cell_old (o := o3) (cell_old (o := o2) (cell_old (o := o1) m0))
  have m1 : w3.cell? ⟨y.1.heap.size, 1, none⟩ = some (.int .i64 0) := (hb3.cell (cell_lt p1)).trans p1
  have mm1 := fun o1 o2 o3 : Obj => cell_old (o := o3) (cell_old (o := o2) (cell_old (o := o1) m1))
  have m2 : w3.cell? ⟨y.1.heap.size, 2, none⟩ = some (.bool v.t) := (hb3.cell (cell_lt p2)).trans p2
  have mm2 := fun o1 o2 o3 : Obj => cell_old (o := o3) (cell_old (o := o2) (cell_old (o := o1) m2))
  have m3 : w3.cell? ⟨y.1.heap.size, 3, none⟩ = some (.int .i64 v.n) := (hb3.cell (cell_lt p3)).trans p3
  have mm3 := fun o1 o2 o3 : Obj => cell_old (o := o3) (cell_old (o := o2) (cell_old (o := o1) m3))
  have m4 : w3.cell? ⟨y.1.heap.size, 4, none⟩ = some (.string v.s) := (hb3.cell (cell_lt p4)).trans p4
  have mm4 := fun o1 o2 o3 : Obj => cell_old (o := o3) (cell_old (o := o2) (cell_old (o := o1) m4))
  have m5 : w3.cell? ⟨y.1.heap.size, 5, none⟩ = some (.bool w.t) := (hb3.cell (cell_lt p5)).trans p5
  have mm5 := fun o1 o2 o3 : Obj => cell_old (o := o3) (cell_old (o := o2) (cell_old (o := o1) m5))
  have m6 : w3.cell? ⟨y.1.heap.size, 6, none⟩ = some (.int .i64 w.n) := (hb3.cell (cell_lt p6)).trans p6
  have mm6 := fun o1 o2 o3 : Obj => cell_old (o := o3) (cell_old (o := o2) (cell_old (o := o1) m6))
  have m7 : w3.cell? ⟨y.1.heap.size, 7, none⟩ = some (.string w.s) := (hb3.cell (cell_lt p7)).trans p7
  have mm7 := fun o1 o2 o3 : Obj => cell_old (o := o3) (cell_old (o := o2) (cell_old (o := o1) m7))
  have m8 : w3.cell? ⟨y.1.heap.size, 8, none⟩ = some (.slice none 0 0) := (hb3.cell (cell_lt p8)).trans p8
  have mm8 := fun o1 o2 o3 : Obj => cell_old (o := o3) (cell_old (o := o2) (cell_old (o := o1) m8))
  have eyy0 : w3.cell? ⟨x.1.heap.size, 0, none⟩ = some (.bool v.t) := (hbw3.cell (cell_lt (b0 (Lt.base W1)))).trans (b0 (Lt.base W1))
  have yy0 := fun o : Obj => cell_old (o := o) eyy0
  have euu0 : w3.cell? ⟨x.1.heap.size + 1, 0, none⟩ = some (.bool w.t) := (hbw3.cell (cell_lt (c0 (Lt.base W1)))).trans (c0 (Lt.base W1))
  have uu0 := fun o : Obj => cell_old (o := o) euu0
  have eyy1 : w3.cell? ⟨x.1.heap.size, 1, none⟩ = some (.int .i64 v.n) := (hbw3.cell (cell_lt (b1 (Lt.base W1)))).trans (b1 (Lt.base W1))
  have yy1 := fun o : Obj => cell_old (o := o) eyy1
  have euu1 : w3.cell? ⟨x.1.heap.size + 1, 1, none⟩ = some (.int .i64 w.n) := (hbw3.cell (cell_lt (c1 (Lt.base W1)))).trans (c1 (Lt.base W1))
  have uu1 := fun o : Obj => cell_old (o := o) euu1
  have eyy2 : w3.cell? ⟨x.1.heap.size, 2, none⟩ = some (.string v.s) := (hbw3.cell (cell_lt (b2 (Lt.base W1)))).trans (b2 (Lt.base W1))
  have yy2 := fun o : Obj => cell_old (o := o) eyy2
  have euu2 : w3.cell? ⟨x.1.heap.size + 1, 2, none⟩ = some (.string w.s) := (hbw3.cell (cell_lt (c2 (Lt.base W1)))).trans (c2 (Lt.base W1))
  have uu2 := fun o : Obj => cell_old (o := o) euu2
  go_wp2_with fail
  refine calls_here fun W4 hW4 => ?_
  have hb4 : Below w3.heap.size w3 W4 := hW4 ▸ below_then (below_then (below_alloc _) (below_alloc _)) (below_alloc _)
  have q0 := fun z : Lt W4 => z.cell (show W4.cell? ⟨w3.heap.size, 0, none⟩ = some (.int .i64 11) by rw [hW4]; exact cell_old (cell_old (by rw [cell_new rfl]; rfl)))
  have q1 := fun z : Lt W4 => z.cell (show W4.cell? ⟨w3.heap.size, 1, none⟩ = some (.int .i64 0) by rw [hW4]; exact cell_old (cell_old (by rw [cell_new rfl]; rfl)))
  have q2 := fun z : Lt W4 => z.cell (show W4.cell? ⟨w3.heap.size, 2, none⟩ = some (.bool false) by rw [hW4]; exact cell_old (cell_old (by rw [cell_new rfl]; rfl)))
  have q3 := fun z : Lt W4 => z.cell (show W4.cell? ⟨w3.heap.size, 3, none⟩ = some (.int .i64 0) by rw [hW4]; exact cell_old (cell_old (by rw [cell_new rfl]; rfl)))
  have q4 := fun z : Lt W4 => z.cell (show W4.cell? ⟨w3.heap.size, 4, none⟩ = some (.string ⟨#[]⟩) by rw [hW4]; exact cell_old (cell_old (by rw [cell_new rfl]; rfl)))
  have q5 := fun z : Lt W4 => z.cell (show W4.cell? ⟨w3.heap.size, 5, none⟩ = some (.bool false) by rw [hW4]; exact cell_old (cell_old (by rw [cell_new rfl]; rfl)))
  have q6 := fun z : Lt W4 => z.cell (show W4.cell? ⟨w3.heap.size, 6, none⟩ = some (.int .i64 0) by rw [hW4]; exact cell_old (cell_old (by rw [cell_new rfl]; rfl)))
  have q7 := fun z : Lt W4 => z.cell (show W4.cell? ⟨w3.heap.size, 7, none⟩ = some (.string ⟨#[]⟩) by rw [hW4]; exact cell_old (cell_old (by rw [cell_new rfl]; rfl)))
  have q8 := fun z : Lt W4 => z.cell (show W4.cell? ⟨w3.heap.size, 8, none⟩ = some (.slice A3 2 ca3) by rw [hW4]; exact cell_old (cell_old (by rw [cell_new rfl]; rfl)))
  have s0 := fun z : Lt W4 => z.cell (show W4.cell? ⟨w3.heap.size + 1 + 1, 0, none⟩ = some (.int .i64 12) by rw [hW4, cell_new (by simp)]; rfl)
  have s1 := fun z : Lt W4 => z.cell (show W4.cell? ⟨w3.heap.size + 1 + 1, 1, none⟩ = some (.int .i64 0) by rw [hW4, cell_new (by simp)]; rfl)
  have s2 := fun z : Lt W4 => z.cell (show W4.cell? ⟨w3.heap.size + 1 + 1, 2, none⟩ = some (.bool false) by rw [hW4, cell_new (by simp)]; rfl)
  have s3 := fun z : Lt W4 => z.cell (show W4.cell? ⟨w3.heap.size + 1 + 1, 3, none⟩ = some (.int .i64 0) by rw [hW4, cell_new (by simp)]; rfl)
  have s4 := fun z : Lt W4 => z.cell (show W4.cell? ⟨w3.heap.size + 1 + 1, 4, none⟩ = some (.string ⟨#[]⟩) by rw [hW4, cell_new (by simp)]; rfl)
  have s5 := fun z : Lt W4 => z.cell (show W4.cell? ⟨w3.heap.size + 1 + 1, 5, none⟩ = some (.bool false) by rw [hW4, cell_new (by simp)]; rfl)
  have s6 := fun z : Lt W4 => z.cell (show W4.cell? ⟨w3.heap.size + 1 + 1, 6, none⟩ = some (.int .i64 0) by rw [hW4, cell_new (by simp)]; rfl)
  have s7 := fun z : Lt W4 => z.cell (show W4.cell? ⟨w3.heap.size + 1 + 1, 7, none⟩ = some (.string ⟨#[]⟩) by rw [hW4, cell_new (by simp)]; rfl)
  have s8 := fun z : Lt W4 => z.cell (show W4.cell? ⟨w3.heap.size + 1 + 1, 8, none⟩ = some (.slice (some ⟨w3.heap.size + 1, 0, none⟩) 2 2) by rw [hW4, cell_new (by simp)]; rfl)
  have r0 := fun z : Lt W4 => z.old (below_then hb3 hb4) p0
  have r1 := fun z : Lt W4 => z.old (below_then hb3 hb4) p1
  have r2 := fun z : Lt W4 => z.old (below_then hb3 hb4) p2
  have r3 := fun z : Lt W4 => z.old (below_then hb3 hb4) p3
  have r4 := fun z : Lt W4 => z.old (below_then hb3 hb4) p4
  have r5 := fun z : Lt W4 => z.old (below_then hb3 hb4) p5
  have r6 := fun z : Lt W4 => z.old (below_then hb3 hb4) p6
  have r7 := fun z : Lt W4 => z.old (below_then hb3 hb4) p7
  have r8 := fun z : Lt W4 => z.old (below_then hb3 hb4) p8
  have hat4 : (Pr.mk 12 0 zeroV zeroV [.mk 5 0 v zeroV [], .mk 7 0 w zeroV []]).At W4 (some ⟨w3.heap.size + 1, 0, none⟩) 2 := by
    rw [hW4]; exact (Pr.at_two (p := .mk 5 0 v zeroV []) (q := .mk 7 0 w zeroV []) (by simp) (Pr.at_none _ _ _ _ _) (Pr.at_none _ _ _ _ _) 12 0 zeroV zeroV).below (below_alloc _)
  have hbr : Below W.heap.size W W4 := below_then hb0 (below_then hb2 (below_then hb3 hb4))
  have z9 : (Pr.mk 9 0 v w []).size ≤ 1000000000 := by rw [Pr.size_mk]; simp
  have z11 : (Pr.mk 11 0 zeroV zeroV [.mk 8 0 v zeroV [], .mk 6 0 w zeroV []]).size ≤ 1000000000 := by rw [Pr.size_mk]; simp [Pr.size_mk]
  have z12 : (Pr.mk 12 0 zeroV zeroV [.mk 5 0 v zeroV [], .mk 7 0 w zeroV []]).size ≤ 1000000000 := by rw [Pr.size_mk]; simp [Pr.size_mk]
  have C1 := Lib.hid (show ∀ z : Lt W4, Calls Try.prog 13 #[.agg #[.int .i64 9, .int .i64 0, .bool v.t, .int .i64 v.n, .string v.s, .bool w.t, .int .i64 w.n, .string w.s, .slice none 0 0], .slice B r.length cb] z.1 fun e w' => e = .returned (.bool h) ∧ ∃ y : Lt W4, w' = y.1 from fun z => by
    have key := holds_any (p := .mk 9 0 v w []) (cb := cb) z9 z (Pr.at_none _ _ _ _ _) (HR.out.below hbr)
    rw [HH.out] at key
    exact key)
  have C2 := Lib.hid (show ∀ z : Lt W4, Calls Try.prog 13 #[.agg #[.int .i64 11, .int .i64 0, .bool false, .int .i64 0, .string ⟨#[]⟩, .bool false, .int .i64 0, .string ⟨#[]⟩, .slice A3 2 ca3], .slice B r.length cb] z.1 fun e w' => e = .returned (.bool h) ∧ ∃ y : Lt W4, w' = y.1 from fun z => by
    have key := holds_any (p := .mk 11 0 zeroV zeroV [.mk 8 0 v zeroV [], .mk 6 0 w zeroV []]) (cb := cb) z11 z (hat3.below hb4) (HR.out.below hbr)
    rw [HS1.out] at key
    exact key)
  have C3 := Lib.hid (show ∀ z : Lt W4, Calls Try.prog 13 #[.agg #[.int .i64 12, .int .i64 0, .bool false, .int .i64 0, .string ⟨#[]⟩, .bool false, .int .i64 0, .string ⟨#[]⟩, .slice (some ⟨w3.heap.size + 1, 0, none⟩) 2 2], .slice B r.length cb] z.1 fun e w' => e = .returned (.bool (!h)) ∧ ∃ y : Lt W4, w' = y.1 from fun z => by
    have key := holds_any (p := .mk 12 0 zeroV zeroV [.mk 5 0 v zeroV [], .mk 7 0 w zeroV []]) (cb := cb) z12 z hat4 (HR.out.below hbr)
    rw [HS2.out] at key
    exact key)
  clear hW4 p0 p1 p2 p3 p4 p5 p6 p7 p8 mm0 mm1 mm2 mm3 mm4 mm5 mm6 mm7 mm8 m0 m1 m2 m3 m4 m5 m6 m7 m8 yy0 yy1 yy2 uu0 uu1 uu2 b0 b1 b2 c0 c1 c2 hat2 hat3 hat4 z9 z11 z12
  refine (C1.out (Lt.base W4)).mono ?_; rintro e w' ⟨rfl, z, rfl⟩
  cases h
  all_goals
    go_wp2_with fail
    first
    | (refine (C2.out z).mono ?_; rintro e w' ⟨rfl, z2, rfl⟩
       go_wp2_with fail
       refine (C3.out z2).mono ?_; rintro e w' ⟨rfl, z3, rfl⟩
       go_wp2_with fail
       go_ret
       exact ⟨rfl, z3.via hbr, rfl⟩)
    | (refine wp_region_pure _ (by kernel_rfl) (by kernel_rfl) ?_
       repeat (go_big_quiet_step ((first | (go_at_call 13; with_reducible exact C2.out _) | (go_at_call 13; with_reducible exact C3.out _))))
       refine wpQuiet_nil ?_; intro _ hw'; obtain ⟨z, rfl⟩ := hw'
       go_wp2_with fail
       go_ret
       exact ⟨rfl, z.via hbr, rfl⟩)
end Go.Proofs.Ytmhgebbmccklmaa

