/-
  The statement PredSizes, walked: it returns true. Conditions: the arguments lie in memory as they read.
-/
import Derived.Test.YtmhgebbmccklmaaAwake03
import Derived.Test.YtmhgebbmccklmaaRHolds
import Derived.Test.YtmhgebbmccklmaaRPart
import Derived.Test.YtmhgebbmccklmaaFew
import Derived.Test.YtmhgebbmccklmaaOpenP
import Derived.Test.YtmhgebbmccklmaaPrMake
import Derived.Test.YtmhgebbmccklmaaPrLit
namespace Go.Proofs.Ytmhgebbmccklmaa
open Go.RowKit
variable {W : World}

theorem Pr.size_two (o c : Int) (v w : Val) (p q : Pr) : (Pr.mk o c v w [p, q]).size = 1 + (p.size + q.size) := by rw [Pr.size_mk]; simp
theorem Pr.err_cases (t : List Bool) (p : Pr) : (R.may t.length = false ∧ p.err t = 1) ∨ (R.may t.length = true ∧ p.may t = false ∧ p.err t = 30) ∨ (R.may t.length = true ∧ p.may t = true ∧ p.err t = 0) := by
  cases hm : R.may t.length
  · exact .inl ⟨rfl, Pr.err_no hm⟩
  · cases hy : p.may t
    · exact .inr (.inl ⟨rfl, rfl, Pr.err_bad hm hy⟩)
    · exact .inr (.inr ⟨rfl, rfl, Pr.err_ok hm hy⟩)
theorem Pr.may_eq {t : List Bool} {p : Pr} (h : R.may t.length = true) : p.may t = (decide (p.size ≤ 15) && p.parts t) := by
  unfold R.may at h
  unfold Pr.may
  rw [h]; rfl
/-- What the statement says of the answers. -/
theorem Pr.sizes_say (t : List Bool) (p q : Pr) : ∃ a b e : Int, p.err t = a ∧ q.err t = b ∧ (Pr.mk 11 0 zeroV zeroV [p, q]).err t = e ∧ (((a ≠ 0 ∨ b ≠ 0) ∧ (e == 0) = false) ∨ (a = 0 ∧ b = 0 ∧ (e == 0) = decide (p.size + q.size + 1 ≤ 15))) := by
  refine ⟨_, _, _, rfl, rfl, rfl, ?_⟩
  have hboth : (Pr.mk 11 0 zeroV zeroV [p, q]).parts t = (p.parts t && q.parts t) := by
    rw [Pr.parts_mk]
    show (true && (p.parts t && (q.parts t && true))) = _
    simp
  have h2 := Pr.size_two 11 0 zeroV zeroV p q
  rcases Pr.err_cases t p with ⟨m, e1⟩ | ⟨m, y1, e1⟩ | ⟨m, y1, e1⟩
  · left
    rw [e1, Pr.err_no (p := .mk 11 0 zeroV zeroV [p, q]) m]
    exact ⟨by omega, rfl⟩
  · left
    refine ⟨by omega, ?_⟩
    have : (Pr.mk 11 0 zeroV zeroV [p, q]).may t = false := by
      rw [Pr.may_eq m] at y1 ⊢
      rw [hboth, h2]
      by_cases h : p.size ≤ 15
      · rw [decide_eq_true h, Bool.true_and] at y1
        rw [y1]; simp
      · rw [decide_eq_false (by omega : ¬ 1 + (p.size + q.size) ≤ 15)]; rfl
    rw [Pr.err_bad m this]; rfl
  · rcases Pr.err_cases t q with ⟨m2, e2⟩ | ⟨m2, y2, e2⟩ | ⟨m2, y2, e2⟩
    · rw [m] at m2; cases m2
    · left
      refine ⟨by omega, ?_⟩
      have : (Pr.mk 11 0 zeroV zeroV [p, q]).may t = false := by
        rw [Pr.may_eq m] at y2 ⊢
        rw [hboth, h2]
        by_cases h : q.size ≤ 15
        · rw [decide_eq_true h, Bool.true_and] at y2
          rw [y2]; simp
        · rw [decide_eq_false (by omega : ¬ 1 + (p.size + q.size) ≤ 15)]; rfl
      rw [Pr.err_bad m this]; rfl
    · right
      refine ⟨e1, e2, ?_⟩
      have hp : p.parts t = true := by rw [Pr.may_eq m] at y1; simp only [Bool.and_eq_true] at y1; exact y1.2
      have hq : q.parts t = true := by rw [Pr.may_eq m] at y2; simp only [Bool.and_eq_true] at y2; exact y2.2
      by_cases h : p.size + q.size + 1 ≤ 15
      · have : (Pr.mk 11 0 zeroV zeroV [p, q]).may t = true := by
          rw [Pr.may_eq m, hboth, hp, hq, h2, decide_eq_true (by omega : 1 + (p.size + q.size) ≤ 15)]; rfl
        rw [Pr.err_ok m this, decide_eq_true h]; rfl
      · have : (Pr.mk 11 0 zeroV zeroV [p, q]).may t = false := by
          rw [Pr.may_eq m, h2, decide_eq_false (by omega : ¬ 1 + (p.size + q.size) ≤ 15)]; rfl
        rw [Pr.err_bad m this, decide_eq_false h]; rfl

set_option maxHeartbeats 4000000 in
theorem predSizes_any {t : List Bool} {p q : Pr} {A0 A A1 : Option Addr} {ca0 ca ca1 : Nat} (ht : ColsAt W A0 t) (hp : p.At W A ca) (hq : q.At W A1 ca1) (x : Lt W) :
    Calls Try.prog 8 #[.agg #[.slice A0 t.length ca0], p.arg A ca, q.arg A1 ca1] x.1 fun e w' => e = .returned (.bool true) ∧ ∃ y : Lt W, w' = y.1 := by
  have HT := Lib.hid ht
  clear ht
  have HP := Lib.hid hp
  clear hp
  have HQ := Lib.hid hq
  clear hq
  unfold Pr.arg
  go_enter Try.func8, Try.ntmps8
  go_wp2_with fail
  refine calls_here fun W1 hW1 => ?_
  have hb0 : Below W.heap.size W W1 := hW1 ▸ below_then (x.more2 _ _) (below_alloc _)
  have t0 := fun z : Lt W1 => z.cell (show W1.cell? ⟨x.1.heap.size, 0, none⟩ = some (.slice A0 t.length ca0) by rw [hW1]; exact cell_old (cell_old (by rw [cell_new rfl]; rfl)))
  have b0 := fun z : Lt W1 => z.cell (show W1.cell? ⟨x.1.heap.size + 1, 0, none⟩ = some (.int .i64 p.op) by rw [hW1]; exact cell_old (by rw [cell_new (by simp)]; rfl))
  have b1 := fun z : Lt W1 => z.cell (show W1.cell? ⟨x.1.heap.size + 1, 1, none⟩ = some (.int .i64 p.col) by rw [hW1]; exact cell_old (by rw [cell_new (by simp)]; rfl))
  have b2 := fun z : Lt W1 => z.cell (show W1.cell? ⟨x.1.heap.size + 1, 2, none⟩ = some (.bool p.v.t) by rw [hW1]; exact cell_old (by rw [cell_new (by simp)]; rfl))
  have b3 := fun z : Lt W1 => z.cell (show W1.cell? ⟨x.1.heap.size + 1, 3, none⟩ = some (.int .i64 p.v.n) by rw [hW1]; exact cell_old (by rw [cell_new (by simp)]; rfl))
  have b4 := fun z : Lt W1 => z.cell (show W1.cell? ⟨x.1.heap.size + 1, 4, none⟩ = some (.string p.v.s) by rw [hW1]; exact cell_old (by rw [cell_new (by simp)]; rfl))
  have b5 := fun z : Lt W1 => z.cell (show W1.cell? ⟨x.1.heap.size + 1, 5, none⟩ = some (.bool p.w.t) by rw [hW1]; exact cell_old (by rw [cell_new (by simp)]; rfl))
  have b6 := fun z : Lt W1 => z.cell (show W1.cell? ⟨x.1.heap.size + 1, 6, none⟩ = some (.int .i64 p.w.n) by rw [hW1]; exact cell_old (by rw [cell_new (by simp)]; rfl))
  have b7 := fun z : Lt W1 => z.cell (show W1.cell? ⟨x.1.heap.size + 1, 7, none⟩ = some (.string p.w.s) by rw [hW1]; exact cell_old (by rw [cell_new (by simp)]; rfl))
  have b8 := fun z : Lt W1 => z.cell (show W1.cell? ⟨x.1.heap.size + 1, 8, none⟩ = some (.slice A p.l.length ca) by rw [hW1]; exact cell_old (by rw [cell_new (by simp)]; rfl))
  have c0 := fun z : Lt W1 => z.cell (show W1.cell? ⟨x.1.heap.size + 1 + 1, 0, none⟩ = some (.int .i64 q.op) by rw [hW1, cell_new (by simp)]; rfl)
  have c1 := fun z : Lt W1 => z.cell (show W1.cell? ⟨x.1.heap.size + 1 + 1, 1, none⟩ = some (.int .i64 q.col) by rw [hW1, cell_new (by simp)]; rfl)
  have c2 := fun z : Lt W1 => z.cell (show W1.cell? ⟨x.1.heap.size + 1 + 1, 2, none⟩ = some (.bool q.v.t) by rw [hW1, cell_new (by simp)]; rfl)
  have c3 := fun z : Lt W1 => z.cell (show W1.cell? ⟨x.1.heap.size + 1 + 1, 3, none⟩ = some (.int .i64 q.v.n) by rw [hW1, cell_new (by simp)]; rfl)
  have c4 := fun z : Lt W1 => z.cell (show W1.cell? ⟨x.1.heap.size + 1 + 1, 4, none⟩ = some (.string q.v.s) by rw [hW1, cell_new (by simp)]; rfl)
  have c5 := fun z : Lt W1 => z.cell (show W1.cell? ⟨x.1.heap.size + 1 + 1, 5, none⟩ = some (.bool q.w.t) by rw [hW1, cell_new (by simp)]; rfl)
  have c6 := fun z : Lt W1 => z.cell (show W1.cell? ⟨x.1.heap.size + 1 + 1, 6, none⟩ = some (.int .i64 q.w.n) by rw [hW1, cell_new (by simp)]; rfl)
  have c7 := fun z : Lt W1 => z.cell (show W1.cell? ⟨x.1.heap.size + 1 + 1, 7, none⟩ = some (.string q.w.s) by rw [hW1, cell_new (by simp)]; rfl)
  have c8 := fun z : Lt W1 => z.cell (show W1.cell? ⟨x.1.heap.size + 1 + 1, 8, none⟩ = some (.slice A1 q.l.length ca1) by rw [hW1, cell_new (by simp)]; rfl)
  clear hW1
  refine (awake_any (Lt.base W1)).mono ?_; rintro e w' ⟨rfl, y, rfl⟩
  go_wp2_with fail
  obtain ⟨s, hs⟩ : ∃ s, p.few 40 40 200 0 = s := ⟨_, rfl⟩
  refine (few_is hs y (HP.out.below hb0)).mono ?_; rintro e w' ⟨rfl, y, rfl⟩
  go_wp2_with fail
  obtain ⟨s2, hs2⟩ : ∃ s, q.few 40 40 200 0 = s := ⟨_, rfl⟩
  refine (few_is hs2 y (HQ.out.below hb0)).mono ?_; rintro e w' ⟨rfl, y, rfl⟩
  cases s
  · clear hs hs2
    go_wp2_with fail
    go_ret
    exact ⟨rfl, y.via hb0, rfl⟩
  cases s2
  · clear hs hs2
    go_wp2_with fail
    go_ret
    exact ⟨rfl, y.via hb0, rfl⟩
  have hsz := Pr.few_size hs
  have hsz2 := Pr.few_size hs2
  have hpos := Pr.size_pos p
  have hpos2 := Pr.size_pos q
  clear hs hs2
  by_cases hl : t.length ≤ 1000
  case neg =>
    have hd : decide ((1000 : Int) < t.length) = true := decide_eq_true (by omega)
    have hd2 : (1000 : Int) < t.length := by omega
    clear hl
    go_wp2_with fail
    go_ret
    exact ⟨rfl, y.via hb0, rfl⟩
  have hd : decide ((1000 : Int) < t.length) = false := decide_eq_false (by omega)
  go_wp2_with fail
  refine (psize_any y (HP.out.below hb0) (by omega)).mono ?_; rintro e w' ⟨rfl, y, rfl⟩
  go_wp2_with fail
  refine (psize_any y (HQ.out.below hb0) (by omega)).mono ?_; rintro e w' ⟨rfl, y, rfl⟩
  have d0 : y.1.cell? ⟨x.1.heap.size + 1, 0, none⟩ = some (.int .i64 p.op) := b0 y
  have d1 : y.1.cell? ⟨x.1.heap.size + 1, 1, none⟩ = some (.int .i64 p.col) := b1 y
  have d2 : y.1.cell? ⟨x.1.heap.size + 1, 2, none⟩ = some (.bool p.v.t) := b2 y
  have d3 : y.1.cell? ⟨x.1.heap.size + 1, 3, none⟩ = some (.int .i64 p.v.n) := b3 y
  have d4 : y.1.cell? ⟨x.1.heap.size + 1, 4, none⟩ = some (.string p.v.s) := b4 y
  have d5 : y.1.cell? ⟨x.1.heap.size + 1, 5, none⟩ = some (.bool p.w.t) := b5 y
  have d6 : y.1.cell? ⟨x.1.heap.size + 1, 6, none⟩ = some (.int .i64 p.w.n) := b6 y
  have d7 : y.1.cell? ⟨x.1.heap.size + 1, 7, none⟩ = some (.string p.w.s) := b7 y
  have d8 : y.1.cell? ⟨x.1.heap.size + 1, 8, none⟩ = some (.slice A p.l.length ca) := b8 y
  have f0 : y.1.cell? ⟨x.1.heap.size + 1 + 1, 0, none⟩ = some (.int .i64 q.op) := c0 y
  have f1 : y.1.cell? ⟨x.1.heap.size + 1 + 1, 1, none⟩ = some (.int .i64 q.col) := c1 y
  have f2 : y.1.cell? ⟨x.1.heap.size + 1 + 1, 2, none⟩ = some (.bool q.v.t) := c2 y
  have f3 : y.1.cell? ⟨x.1.heap.size + 1 + 1, 3, none⟩ = some (.int .i64 q.v.n) := c3 y
  have f4 : y.1.cell? ⟨x.1.heap.size + 1 + 1, 4, none⟩ = some (.string q.v.s) := c4 y
  have f5 : y.1.cell? ⟨x.1.heap.size + 1 + 1, 5, none⟩ = some (.bool q.w.t) := c5 y
  have f6 : y.1.cell? ⟨x.1.heap.size + 1 + 1, 6, none⟩ = some (.int .i64 q.w.n) := c6 y
  have f7 : y.1.cell? ⟨x.1.heap.size + 1 + 1, 7, none⟩ = some (.string q.w.s) := c7 y
  have f8 : y.1.cell? ⟨x.1.heap.size + 1 + 1, 8, none⟩ = some (.slice A1 q.l.length ca1) := c8 y
  go_wp2_with fail
  refine calls_here fun W2 hW2 => ?_
  have hb2 : Below W1.heap.size W1 W2 := hW2 ▸ y.more _
  have hp1 := (HP.out.below hb0).below y.2
  have hq1 := (HQ.out.below hb0).below y.2
  have hat2 : (Pr.mk 11 0 zeroV zeroV [p, q]).At W2 (some ⟨y.1.heap.size, 0, none⟩) 2 := by
    rw [hW2]; exact Pr.at_two (p := p) (q := q) rfl hp1 hq1 11 0 zeroV zeroV
  clear hW2 hp1 hq1
  clear d0 d1 d2 d3 d4 d5 d6 d7 d8 f0 f1 f2 f3 f4 f5 f6 f7 f8
  have hand := pand_any hat2 (by simp)
  refine hand.mono ?_
  rintro e w3 ⟨A3, ca3, rfl, hat3, hb3⟩
  clear hand
  simp only [List.length_cons, List.length_nil, Nat.reduceAdd]
  have hbw3 : Below W1.heap.size W1 w3 := below_then hb2 hb3
  have S1 : ((p.size : Int) + (q.size : Int)) ≤ 400 := by omega
  have S2 : 2 ≤ ((p.size : Int) + (q.size : Int)) := by omega
  have S3 : decide ((p.size : Int) < 1) = false := decide_eq_false (by omega)
  have S4 : decide ((q.size : Int) < 1) = false := decide_eq_false (by omega)
  go_wp2_with fail
  refine calls_here fun W4 hW4 => ?_
  have hb4 : Below w3.heap.size w3 W4 := hW4 ▸ below_alloc _
  have q0 := fun z : Lt W4 => z.cell (show W4.cell? ⟨w3.heap.size, 0, none⟩ = some (.int .i64 11) by rw [hW4, cell_new rfl]; rfl)
  have q1 := fun z : Lt W4 => z.cell (show W4.cell? ⟨w3.heap.size, 1, none⟩ = some (.int .i64 0) by rw [hW4, cell_new rfl]; rfl)
  have q2 := fun z : Lt W4 => z.cell (show W4.cell? ⟨w3.heap.size, 2, none⟩ = some (.bool false) by rw [hW4, cell_new rfl]; rfl)
  have q3 := fun z : Lt W4 => z.cell (show W4.cell? ⟨w3.heap.size, 3, none⟩ = some (.int .i64 0) by rw [hW4, cell_new rfl]; rfl)
  have q4 := fun z : Lt W4 => z.cell (show W4.cell? ⟨w3.heap.size, 4, none⟩ = some (.string ⟨#[]⟩) by rw [hW4, cell_new rfl]; rfl)
  have q5 := fun z : Lt W4 => z.cell (show W4.cell? ⟨w3.heap.size, 5, none⟩ = some (.bool false) by rw [hW4, cell_new rfl]; rfl)
  have q6 := fun z : Lt W4 => z.cell (show W4.cell? ⟨w3.heap.size, 6, none⟩ = some (.int .i64 0) by rw [hW4, cell_new rfl]; rfl)
  have q7 := fun z : Lt W4 => z.cell (show W4.cell? ⟨w3.heap.size, 7, none⟩ = some (.string ⟨#[]⟩) by rw [hW4, cell_new rfl]; rfl)
  have q8 := fun z : Lt W4 => z.cell (show W4.cell? ⟨w3.heap.size, 8, none⟩ = some (.slice A3 2 ca3) by rw [hW4, cell_new rfl]; rfl)
  clear hW4
  have hb14 : Below W1.heap.size W1 W4 := below_then hbw3 hb4
  have hbr : Below W.heap.size W W4 := below_then hb0 hb14
  have t1 : ∀ z : Lt W4, z.1.cell? ⟨x.1.heap.size, 0, none⟩ = some (.slice A0 t.length ca0) := fun z => t0 (z.via hb14)
  have d0 : ∀ z : Lt W4, z.1.cell? ⟨x.1.heap.size + 1, 0, none⟩ = some (.int .i64 p.op) := fun z => b0 (z.via hb14)
  have d1 : ∀ z : Lt W4, z.1.cell? ⟨x.1.heap.size + 1, 1, none⟩ = some (.int .i64 p.col) := fun z => b1 (z.via hb14)
  have d2 : ∀ z : Lt W4, z.1.cell? ⟨x.1.heap.size + 1, 2, none⟩ = some (.bool p.v.t) := fun z => b2 (z.via hb14)
  have d3 : ∀ z : Lt W4, z.1.cell? ⟨x.1.heap.size + 1, 3, none⟩ = some (.int .i64 p.v.n) := fun z => b3 (z.via hb14)
  have d4 : ∀ z : Lt W4, z.1.cell? ⟨x.1.heap.size + 1, 4, none⟩ = some (.string p.v.s) := fun z => b4 (z.via hb14)
  have d5 : ∀ z : Lt W4, z.1.cell? ⟨x.1.heap.size + 1, 5, none⟩ = some (.bool p.w.t) := fun z => b5 (z.via hb14)
  have d6 : ∀ z : Lt W4, z.1.cell? ⟨x.1.heap.size + 1, 6, none⟩ = some (.int .i64 p.w.n) := fun z => b6 (z.via hb14)
  have d7 : ∀ z : Lt W4, z.1.cell? ⟨x.1.heap.size + 1, 7, none⟩ = some (.string p.w.s) := fun z => b7 (z.via hb14)
  have d8 : ∀ z : Lt W4, z.1.cell? ⟨x.1.heap.size + 1, 8, none⟩ = some (.slice A p.l.length ca) := fun z => b8 (z.via hb14)
  have f0 : ∀ z : Lt W4, z.1.cell? ⟨x.1.heap.size + 1 + 1, 0, none⟩ = some (.int .i64 q.op) := fun z => c0 (z.via hb14)
  have f1 : ∀ z : Lt W4, z.1.cell? ⟨x.1.heap.size + 1 + 1, 1, none⟩ = some (.int .i64 q.col) := fun z => c1 (z.via hb14)
  have f2 : ∀ z : Lt W4, z.1.cell? ⟨x.1.heap.size + 1 + 1, 2, none⟩ = some (.bool q.v.t) := fun z => c2 (z.via hb14)
  have f3 : ∀ z : Lt W4, z.1.cell? ⟨x.1.heap.size + 1 + 1, 3, none⟩ = some (.int .i64 q.v.n) := fun z => c3 (z.via hb14)
  have f4 : ∀ z : Lt W4, z.1.cell? ⟨x.1.heap.size + 1 + 1, 4, none⟩ = some (.string q.v.s) := fun z => c4 (z.via hb14)
  have f5 : ∀ z : Lt W4, z.1.cell? ⟨x.1.heap.size + 1 + 1, 5, none⟩ = some (.bool q.w.t) := fun z => c5 (z.via hb14)
  have f6 : ∀ z : Lt W4, z.1.cell? ⟨x.1.heap.size + 1 + 1, 6, none⟩ = some (.int .i64 q.w.n) := fun z => c6 (z.via hb14)
  have f7 : ∀ z : Lt W4, z.1.cell? ⟨x.1.heap.size + 1 + 1, 7, none⟩ = some (.string q.w.s) := fun z => c7 (z.via hb14)
  have f8 : ∀ z : Lt W4, z.1.cell? ⟨x.1.heap.size + 1 + 1, 8, none⟩ = some (.slice A1 q.l.length ca1) := fun z => c8 (z.via hb14)
  obtain ⟨a, b, e, ha, hb, he, hsay⟩ := Pr.sizes_say t p q
  have htz : (Pr.mk 11 0 zeroV zeroV [p, q]).size = 1 + (p.size + q.size) := Pr.size_two _ _ _ _ _ _
  have C0 := Lib.hid (show ∀ z : Lt W4, Calls Try.prog 18 #[.agg #[.int .i64 11, .int .i64 0, .bool false, .int .i64 0, .string ⟨#[]⟩, .bool false, .int .i64 0, .string ⟨#[]⟩, .slice A3 2 ca3]] z.1 fun e w' => e = .returned (.int .i64 ((p.size : Int) + q.size + 1)) ∧ ∃ y : Lt W4, w' = y.1 from fun z => by
    have key := psize_any (p := .mk 11 0 zeroV zeroV [p, q]) z (hat3.below hb4) (by omega)
    rw [htz, show (((1 + (p.size + q.size) : Nat)) : Int) = (p.size : Int) + q.size + 1 by omega] at key
    exact key)
  have C1 := Lib.hid (show ∀ z : Lt W4, Calls Try.prog 17 #[.agg #[.slice A0 t.length ca0], .agg #[.int .i64 11, .int .i64 0, .bool false, .int .i64 0, .string ⟨#[]⟩, .bool false, .int .i64 0, .string ⟨#[]⟩, .slice A3 2 ca3]] z.1 fun e' w' => e' = .returned (.int .i64 e) ∧ ∃ y : Lt W4, w' = y.1 from fun z => by
    have key := pcheck_any (t := t) (ca0 := ca0) (p := .mk 11 0 zeroV zeroV [p, q]) z (HT.out.below hbr) (hat3.below hb4) (by omega)
    rw [he] at key
    exact key)
  have C2 := Lib.hid (show ∀ z : Lt W4, Calls Try.prog 17 #[.agg #[.slice A0 t.length ca0], .agg #[.int .i64 p.op, .int .i64 p.col, .bool p.v.t, .int .i64 p.v.n, .string p.v.s, .bool p.w.t, .int .i64 p.w.n, .string p.w.s, .slice A p.l.length ca]] z.1 fun e' w' => e' = .returned (.int .i64 a) ∧ ∃ y : Lt W4, w' = y.1 from fun z => by
    have key := pcheck_any (t := t) (ca0 := ca0) z (HT.out.below hbr) (HP.out.below hbr) (by omega)
    rw [ha] at key
    exact key)
  have C3 := Lib.hid (show ∀ z : Lt W4, Calls Try.prog 17 #[.agg #[.slice A0 t.length ca0], .agg #[.int .i64 q.op, .int .i64 q.col, .bool q.v.t, .int .i64 q.v.n, .string q.v.s, .bool q.w.t, .int .i64 q.w.n, .string q.w.s, .slice A1 q.l.length ca1]] z.1 fun e' w' => e' = .returned (.int .i64 b) ∧ ∃ y : Lt W4, w' = y.1 from fun z => by
    have key := pcheck_any (t := t) (ca0 := ca0) z (HT.out.below hbr) (HQ.out.below hbr) (by omega)
    rw [hb] at key
    exact key)
  clear ha hb he htz hat2 hat3 t0
  clear b0 b1 b2 b3 b4 b5 b6 b7 b8 c0 c1 c2 c3 c4 c5 c6 c7 c8
  refine (C0.out (Lt.base W4)).mono ?_; rintro e' w' ⟨rfl, z, rfl⟩
  have HSAY := Lib.hid hsay
  clear hsay
  go_wp2_with fail
  refine (C1.out z).mono ?_; rintro e' w' ⟨rfl, z, rfl⟩
  rcases HSAY.out with ⟨hab, he0⟩ | ⟨rfl, rfl, he0⟩
  · have HE := Lib.hid (show (e != 0) = true by rw [bne, he0]; rfl)
    clear he0
    by_cases ha0 : a = 0
    · have hb0' : (b != 0) = true := by rw [bne_iff_ne]; omega
      subst ha0
      clear hab
      go_wp2_with fail
      refine (C2.out z).mono ?_; rintro e' w' ⟨rfl, z, rfl⟩
      go_wp2_with fail
      refine (C3.out z).mono ?_; rintro e' w' ⟨rfl, z, rfl⟩
      go_wp2_with fail
      go_ret
      exact ⟨ret_bool HE.out, z.via hbr, rfl⟩
    · have ha1 : (a != 0) = true := by rw [bne_iff_ne]; exact ha0
      clear hab ha0
      go_wp2_with fail
      refine (C2.out z).mono ?_; rintro e' w' ⟨rfl, z, rfl⟩
      go_wp2_with fail
      go_ret
      exact ⟨ret_bool HE.out, z.via hbr, rfl⟩
  · have HE := Lib.hid he0
    clear he0
    go_wp2_with fail
    refine (C2.out z).mono ?_; rintro e' w' ⟨rfl, z, rfl⟩
    go_wp2_with fail
    refine (C3.out z).mono ?_; rintro e' w' ⟨rfl, z, rfl⟩
    go_wp2_with fail
    go_ret
    exact ⟨ret_bool (beq_iff_eq.2 (HE.out.trans (decide_eq_decide.2 (by omega)))), z.via hbr, rfl⟩
end Go.Proofs.Ytmhgebbmccklmaa

