/-
  The statement PredTurned, walked: it returns true. Conditions: the arguments lie in memory as they read.
-/
import Derived.Test.YtmhgebbmccklmaaAwake03
import Derived.Test.YtmhgebbmccklmaaRHolds
import Derived.Test.YtmhgebbmccklmaaRPart
import Derived.Test.YtmhgebbmccklmaaFew
import Derived.Test.YtmhgebbmccklmaaOpenP
import Derived.Test.YtmhgebbmccklmaaPrMake
import Derived.Test.YtmhgebbmccklmaaPrLit
namespace Go.Proofs.Ytmhgebbmccklmaa
open Go.RowKit
variable {W : World}

theorem Pr.holds_not (r : List Val) (p : Pr) : (Pr.mk 10 0 zeroV zeroV [p]).holds r = !p.holds r := by rw [Pr.holds_mk]; rfl
theorem Pr.holds_both (r : List Val) (p q : Pr) : (Pr.mk 11 0 zeroV zeroV [p, q]).holds r = (p.holds r && q.holds r) := by
  rw [Pr.holds_mk]
  show ((p.holds r) && ((q.holds r) && true)) = _
  rw [Bool.and_true]
theorem Pr.holds_or (r : List Val) (p q : Pr) : (Pr.mk 12 0 zeroV zeroV [p, q]).holds r = (p.holds r || q.holds r) := by
  rw [Pr.holds_mk]
  show ((p.holds r) || ((q.holds r) || false)) = _
  rw [Bool.or_false]
theorem Pr.size_one (o c : Int) (v w : Val) (p : Pr) : (Pr.mk o c v w [p]).size = 1 + p.size := by rw [Pr.size_mk]; simp
theorem Pr.size_two (o c : Int) (v w : Val) (p q : Pr) : (Pr.mk o c v w [p, q]).size = 1 + (p.size + q.size) := by rw [Pr.size_mk]; simp

set_option maxHeartbeats 4000000 in
theorem predTurned_any {p q : Pr} {A A1 B : Option Addr} {ca ca1 cb : Nat} {r : List Val} (hp : p.At W A ca) (hq : q.At W A1 ca1) (hr : RowAt W B r) (x : Lt W) :
    Calls Try.prog 7 #[p.arg A ca, q.arg A1 ca1, .slice B r.length cb] x.1 fun e w' => e = .returned (.bool true) ∧ ∃ y : Lt W, w' = y.1 := by
  have HP := Lib.hid hp
  clear hp
  have HQ := Lib.hid hq
  clear hq
  have HR := Lib.hid hr
  clear hr
  unfold Pr.arg
  go_enter Try.func7, Try.ntmps7
  go_wp2_with fail
  refine calls_here fun W1 hW1 => ?_
  have hb0 : Below W.heap.size W W1 := hW1 ▸ x.more2 _ _
  have b0 := fun z : Lt W1 => z.cell (show W1.cell? ⟨x.1.heap.size, 0, none⟩ = some (.int .i64 p.op) by rw [hW1]; exact cell_old (by rw [cell_new rfl]; rfl))
  have b1 := fun z : Lt W1 => z.cell (show W1.cell? ⟨x.1.heap.size, 1, none⟩ = some (.int .i64 p.col) by rw [hW1]; exact cell_old (by rw [cell_new rfl]; rfl))
  have b2 := fun z : Lt W1 => z.cell (show W1.cell? ⟨x.1.heap.size, 2, none⟩ = some (.bool p.v.t) by rw [hW1]; exact cell_old (by rw [cell_new rfl]; rfl))
  have b3 := fun z : Lt W1 => z.cell (show W1.cell? ⟨x.1.heap.size, 3, none⟩ = some (.int .i64 p.v.n) by rw [hW1]; exact cell_old (by rw [cell_new rfl]; rfl))
  have b4 := fun z : Lt W1 => z.cell (show W1.cell? ⟨x.1.heap.size, 4, none⟩ = some (.string p.v.s) by rw [hW1]; exact cell_old (by rw [cell_new rfl]; rfl))
  have b5 := fun z : Lt W1 => z.cell (show W1.cell? ⟨x.1.heap.size, 5, none⟩ = some (.bool p.w.t) by rw [hW1]; exact cell_old (by rw [cell_new rfl]; rfl))
  have b6 := fun z : Lt W1 => z.cell (show W1.cell? ⟨x.1.heap.size, 6, none⟩ = some (.int .i64 p.w.n) by rw [hW1]; exact cell_old (by rw [cell_new rfl]; rfl))
  have b7 := fun z : Lt W1 => z.cell (show W1.cell? ⟨x.1.heap.size, 7, none⟩ = some (.string p.w.s) by rw [hW1]; exact cell_old (by rw [cell_new rfl]; rfl))
  have b8 := fun z : Lt W1 => z.cell (show W1.cell? ⟨x.1.heap.size, 8, none⟩ = some (.slice A p.l.length ca) by rw [hW1]; exact cell_old (by rw [cell_new rfl]; rfl))
  have c0 := fun z : Lt W1 => z.cell (show W1.cell? ⟨x.1.heap.size + 1, 0, none⟩ = some (.int .i64 q.op) by rw [hW1, cell_new (by simp)]; rfl)
  have c1 := fun z : Lt W1 => z.cell (show W1.cell? ⟨x.1.heap.size + 1, 1, none⟩ = some (.int .i64 q.col) by rw [hW1, cell_new (by simp)]; rfl)
  have c2 := fun z : Lt W1 => z.cell (show W1.cell? ⟨x.1.heap.size + 1, 2, none⟩ = some (.bool q.v.t) by rw [hW1, cell_new (by simp)]; rfl)
  have c3 := fun z : Lt W1 => z.cell (show W1.cell? ⟨x.1.heap.size + 1, 3, none⟩ = some (.int .i64 q.v.n) by rw [hW1, cell_new (by simp)]; rfl)
  have c4 := fun z : Lt W1 => z.cell (show W1.cell? ⟨x.1.heap.size + 1, 4, none⟩ = some (.string q.v.s) by rw [hW1, cell_new (by simp)]; rfl)
  have c5 := fun z : Lt W1 => z.cell (show W1.cell? ⟨x.1.heap.size + 1, 5, none⟩ = some (.bool q.w.t) by rw [hW1, cell_new (by simp)]; rfl)
  have c6 := fun z : Lt W1 => z.cell (show W1.cell? ⟨x.1.heap.size + 1, 6, none⟩ = some (.int .i64 q.w.n) by rw [hW1, cell_new (by simp)]; rfl)
  have c7 := fun z : Lt W1 => z.cell (show W1.cell? ⟨x.1.heap.size + 1, 7, none⟩ = some (.string q.w.s) by rw [hW1, cell_new (by simp)]; rfl)
  have c8 := fun z : Lt W1 => z.cell (show W1.cell? ⟨x.1.heap.size + 1, 8, none⟩ = some (.slice A1 q.l.length ca1) by rw [hW1, cell_new (by simp)]; rfl)
  clear hW1
  refine (awake_any (Lt.base W1)).mono ?_; rintro e w' ⟨rfl, y, rfl⟩
  go_wp2_with fail
  obtain ⟨s, hs⟩ : ∃ s, p.few 40 40 200 0 = s := ⟨_, rfl⟩
  refine (few_is hs y (HP.out.below hb0)).mono ?_; rintro e w' ⟨rfl, y, rfl⟩
  go_wp2_with fail
  obtain ⟨s2, hs2⟩ : ∃ s, q.few 40 40 200 0 = s := ⟨_, rfl⟩
  refine (few_is hs2 y (HQ.out.below hb0)).mono ?_; rintro e w' ⟨rfl, y, rfl⟩
  cases s
  · clear hs hs2
    go_wp2_with fail
    go_ret
    exact ⟨rfl, y.via hb0, rfl⟩
  cases s2
  · clear hs hs2
    go_wp2_with fail
    go_ret
    exact ⟨rfl, y.via hb0, rfl⟩
  have hsz := Pr.few_size hs
  have hsz2 := Pr.few_size hs2
  clear hs hs2
  by_cases hl : r.length ≤ 1000
  case neg =>
    have hd : decide ((1000 : Int) < r.length) = true := decide_eq_true (by omega)
    have hd2 : (1000 : Int) < r.length := by omega
    clear hl
    go_wp2_with fail
    go_ret
    exact ⟨rfl, y.via hb0, rfl⟩
  have hd : decide ((1000 : Int) < r.length) = false := decide_eq_false (by omega)
  obtain ⟨hx, hhx⟩ : ∃ h, p.holds r = h := ⟨_, rfl⟩
  obtain ⟨hy, hhy⟩ : ∃ h, q.holds r = h := ⟨_, rfl⟩
  have HX := Lib.hid hhx
  have HY := Lib.hid hhy
  go_wp2_with fail
  refine ((hhx ▸ holds_any (p := p) (cb := cb) (by omega) y (HP.out.below hb0) (HR.out.below hb0) : Calls Try.prog 13 #[p.arg A ca, .slice B r.length cb] y.1 fun e w' => e = .returned (.bool hx) ∧ ∃ y : Lt W1, w' = y.1)).mono ?_; rintro e w' ⟨rfl, y, rfl⟩
  go_wp2_with fail
  refine ((hhy ▸ holds_any (p := q) (cb := cb) (by omega) y (HQ.out.below hb0) (HR.out.below hb0) : Calls Try.prog 13 #[q.arg A1 ca1, .slice B r.length cb] y.1 fun e w' => e = .returned (.bool hy) ∧ ∃ y : Lt W1, w' = y.1)).mono ?_; rintro e w' ⟨rfl, y, rfl⟩
  clear hhx hhy
  have d0 : y.1.cell? ⟨x.1.heap.size, 0, none⟩ = some (.int .i64 p.op) := b0 y
  have d1 : y.1.cell? ⟨x.1.heap.size, 1, none⟩ = some (.int .i64 p.col) := b1 y
  have d2 : y.1.cell? ⟨x.1.heap.size, 2, none⟩ = some (.bool p.v.t) := b2 y
  have d3 : y.1.cell? ⟨x.1.heap.size, 3, none⟩ = some (.int .i64 p.v.n) := b3 y
  have d4 : y.1.cell? ⟨x.1.heap.size, 4, none⟩ = some (.string p.v.s) := b4 y
  have d5 : y.1.cell? ⟨x.1.heap.size, 5, none⟩ = some (.bool p.w.t) := b5 y
  have d6 : y.1.cell? ⟨x.1.heap.size, 6, none⟩ = some (.int .i64 p.w.n) := b6 y
  have d7 : y.1.cell? ⟨x.1.heap.size, 7, none⟩ = some (.string p.w.s) := b7 y
  have d8 : y.1.cell? ⟨x.1.heap.size, 8, none⟩ = some (.slice A p.l.length ca) := b8 y
  have f0 : y.1.cell? ⟨x.1.heap.size + 1, 0, none⟩ = some (.int .i64 q.op) := c0 y
  have f1 : y.1.cell? ⟨x.1.heap.size + 1, 1, none⟩ = some (.int .i64 q.col) := c1 y
  have f2 : y.1.cell? ⟨x.1.heap.size + 1, 2, none⟩ = some (.bool q.v.t) := c2 y
  have f3 : y.1.cell? ⟨x.1.heap.size + 1, 3, none⟩ = some (.int .i64 q.v.n) := c3 y
  have f4 : y.1.cell? ⟨x.1.heap.size + 1, 4, none⟩ = some (.string q.v.s) := c4 y
  have f5 : y.1.cell? ⟨x.1.heap.size + 1, 5, none⟩ = some (.bool q.w.t) := c5 y
  have f6 : y.1.cell? ⟨x.1.heap.size + 1, 6, none⟩ = some (.int .i64 q.w.n) := c6 y
  have f7 : y.1.cell? ⟨x.1.heap.size + 1, 7, none⟩ = some (.string q.w.s) := c7 y
  have f8 : y.1.cell? ⟨x.1.heap.size + 1, 8, none⟩ = some (.slice A1 q.l.length ca1) := c8 y
  have dd0 := fun o0 o1 : Obj => (cell_old (o := o1) (cell_old (o := o0) (d0)))
  have dd1 := fun o0 o1 : Obj => (cell_old (o := o1) (cell_old (o := o0) (d1)))
  have dd2 := fun o0 o1 : Obj => (cell_old (o := o1) (cell_old (o := o0) (d2)))
  have dd3 := fun o0 o1 : Obj => (cell_old (o := o1) (cell_old (o := o0) (d3)))
  have dd4 := fun o0 o1 : Obj => (cell_old (o := o1) (cell_old (o := o0) (d4)))
  have dd5 := fun o0 o1 : Obj => (cell_old (o := o1) (cell_old (o := o0) (d5)))
  have dd6 := fun o0 o1 : Obj => (cell_old (o := o1) (cell_old (o := o0) (d6)))
  have dd7 := fun o0 o1 : Obj => (cell_old (o := o1) (cell_old (o := o0) (d7)))
  have dd8 := fun o0 o1 : Obj => (cell_old (o := o1) (cell_old (o := o0) (d8)))
  have ff0 := fun o0 o1 : Obj => (cell_old (o := o1) (cell_old (o := o0) (f0)))
  have ff1 := fun o0 o1 : Obj => (cell_old (o := o1) (cell_old (o := o0) (f1)))
  have ff2 := fun o0 o1 : Obj => (cell_old (o := o1) (cell_old (o := o0) (f2)))
  have ff3 := fun o0 o1 : Obj => (cell_old (o := o1) (cell_old (o := o0) (f3)))
  have ff4 := fun o0 o1 : Obj => (cell_old (o := o1) (cell_old (o := o0) (f4)))
  have ff5 := fun o0 o1 : Obj => (cell_old (o := o1) (cell_old (o := o0) (f5)))
  have ff6 := fun o0 o1 : Obj => (cell_old (o := o1) (cell_old (o := o0) (f6)))
  have ff7 := fun o0 o1 : Obj => (cell_old (o := o1) (cell_old (o := o0) (f7)))
  have ff8 := fun o0 o1 : Obj => (cell_old (o := o1) (cell_old (o := o0) (f8)))
  have ddd0 := fun o0 o1 o2 o3 : Obj => (cell_old (o := o3) (cell_old (o := o2) (cell_old (o := o1) (cell_old (o := o0) (d0)))))
  have ddd1 := fun o0 o1 o2 o3 : Obj => (cell_old (o := o3) (cell_old (o := o2) (cell_old (o := o1) (cell_old (o := o0) (d1)))))
  have ddd2 := fun o0 o1 o2 o3 : Obj => (cell_old (o := o3) (cell_old (o := o2) (cell_old (o := o1) (cell_old (o := o0) (d2)))))
  have ddd3 := fun o0 o1 o2 o3 : Obj => (cell_old (o := o3) (cell_old (o := o2) (cell_old (o := o1) (cell_old (o := o0) (d3)))))
  have ddd4 := fun o0 o1 o2 o3 : Obj => (cell_old (o := o3) (cell_old (o := o2) (cell_old (o := o1) (cell_old (o := o0) (d4)))))
  have ddd5 := fun o0 o1 o2 o3 : Obj => (cell_old (o := o3) (cell_old (o := o2) (cell_old (o := o1) (cell_old (o := o0) (d5)))))
  have ddd6 := fun o0 o1 o2 o3 : Obj => (cell_old (o := o3) (cell_old (o := o2) (cell_old (o := o1) (cell_old (o := o0) (d6)))))
  have ddd7 := fun o0 o1 o2 o3 : Obj => (cell_old (o := o3) (cell_old (o := o2) (cell_old (o := o1) (cell_old (o := o0) (d7)))))
  have ddd8 := fun o0 o1 o2 o3 : Obj => (cell_old (o := o3) (cell_old (o := o2) (cell_old (o := o1) (cell_old (o := o0) (d8)))))
  have fff0 := fun o0 o1 o2 o3 : Obj => (cell_old (o := o3) (cell_old (o := o2) (cell_old (o := o1) (cell_old (o := o0) (f0)))))
  have fff1 := fun o0 o1 o2 o3 : Obj => (cell_old (o := o3) (cell_old (o := o2) (cell_old (o := o1) (cell_old (o := o0) (f1)))))
  have fff2 := fun o0 o1 o2 o3 : Obj => (cell_old (o := o3) (cell_old (o := o2) (cell_old (o := o1) (cell_old (o := o0) (f2)))))
  have fff3 := fun o0 o1 o2 o3 : Obj => (cell_old (o := o3) (cell_old (o := o2) (cell_old (o := o1) (cell_old (o := o0) (f3)))))
  have fff4 := fun o0 o1 o2 o3 : Obj => (cell_old (o := o3) (cell_old (o := o2) (cell_old (o := o1) (cell_old (o := o0) (f4)))))
  have fff5 := fun o0 o1 o2 o3 : Obj => (cell_old (o := o3) (cell_old (o := o2) (cell_old (o := o1) (cell_old (o := o0) (f5)))))
  have fff6 := fun o0 o1 o2 o3 : Obj => (cell_old (o := o3) (cell_old (o := o2) (cell_old (o := o1) (cell_old (o := o0) (f6)))))
  have fff7 := fun o0 o1 o2 o3 : Obj => (cell_old (o := o3) (cell_old (o := o2) (cell_old (o := o1) (cell_old (o := o0) (f7)))))
  have fff8 := fun o0 o1 o2 o3 : Obj => (cell_old (o := o3) (cell_old (o := o2) (cell_old (o := o1) (cell_old (o := o0) (f8)))))
  go_wp2_with fail
  refine calls_here fun W2 hW2 => ?_
  have hb2 : Below W1.heap.size W1 W2 := hW2 ▸ below_then (below_then (below_then (below_then (y.more _) (below_alloc _)) (below_alloc _)) (below_alloc _)) (below_alloc _)
  have hp1 := (HP.out.below hb0).below y.2
  have hq1 := (HQ.out.below hb0).below y.2
  have g0 : W2.cell? ⟨y.1.heap.size + 1, 0, none⟩ = some (.int .i64 10) := by rw [hW2]; exact cell_old (cell_old (cell_old (by rw [cell_new (by simp)]; rfl)))
  have g1 : W2.cell? ⟨y.1.heap.size + 1, 1, none⟩ = some (.int .i64 0) := by rw [hW2]; exact cell_old (cell_old (cell_old (by rw [cell_new (by simp)]; rfl)))
  have g2 : W2.cell? ⟨y.1.heap.size + 1, 2, none⟩ = some (.bool false) := by rw [hW2]; exact cell_old (cell_old (cell_old (by rw [cell_new (by simp)]; rfl)))
  have g3 : W2.cell? ⟨y.1.heap.size + 1, 3, none⟩ = some (.int .i64 0) := by rw [hW2]; exact cell_old (cell_old (cell_old (by rw [cell_new (by simp)]; rfl)))
  have g4 : W2.cell? ⟨y.1.heap.size + 1, 4, none⟩ = some (.string ⟨#[]⟩) := by rw [hW2]; exact cell_old (cell_old (cell_old (by rw [cell_new (by simp)]; rfl)))
  have g5 : W2.cell? ⟨y.1.heap.size + 1, 5, none⟩ = some (.bool false) := by rw [hW2]; exact cell_old (cell_old (cell_old (by rw [cell_new (by simp)]; rfl)))
  have g6 : W2.cell? ⟨y.1.heap.size + 1, 6, none⟩ = some (.int .i64 0) := by rw [hW2]; exact cell_old (cell_old (cell_old (by rw [cell_new (by simp)]; rfl)))
  have g7 : W2.cell? ⟨y.1.heap.size + 1, 7, none⟩ = some (.string ⟨#[]⟩) := by rw [hW2]; exact cell_old (cell_old (cell_old (by rw [cell_new (by simp)]; rfl)))
  have g8 : W2.cell? ⟨y.1.heap.size + 1, 8, none⟩ = some (.slice (some ⟨y.1.heap.size, 0, none⟩) 1 1) := by rw [hW2]; exact cell_old (cell_old (cell_old (by rw [cell_new (by simp)]; rfl)))
  have h0 : W2.cell? ⟨y.1.heap.size + 1 + 1 + 1, 0, none⟩ = some (.int .i64 10) := by rw [hW2]; exact cell_old (by rw [cell_new (by simp)]; rfl)
  have h1 : W2.cell? ⟨y.1.heap.size + 1 + 1 + 1, 1, none⟩ = some (.int .i64 0) := by rw [hW2]; exact cell_old (by rw [cell_new (by simp)]; rfl)
  have h2 : W2.cell? ⟨y.1.heap.size + 1 + 1 + 1, 2, none⟩ = some (.bool false) := by rw [hW2]; exact cell_old (by rw [cell_new (by simp)]; rfl)
  have h3 : W2.cell? ⟨y.1.heap.size + 1 + 1 + 1, 3, none⟩ = some (.int .i64 0) := by rw [hW2]; exact cell_old (by rw [cell_new (by simp)]; rfl)
  have h4 : W2.cell? ⟨y.1.heap.size + 1 + 1 + 1, 4, none⟩ = some (.string ⟨#[]⟩) := by rw [hW2]; exact cell_old (by rw [cell_new (by simp)]; rfl)
  have h5 : W2.cell? ⟨y.1.heap.size + 1 + 1 + 1, 5, none⟩ = some (.bool false) := by rw [hW2]; exact cell_old (by rw [cell_new (by simp)]; rfl)
  have h6 : W2.cell? ⟨y.1.heap.size + 1 + 1 + 1, 6, none⟩ = some (.int .i64 0) := by rw [hW2]; exact cell_old (by rw [cell_new (by simp)]; rfl)
  have h7 : W2.cell? ⟨y.1.heap.size + 1 + 1 + 1, 7, none⟩ = some (.string ⟨#[]⟩) := by rw [hW2]; exact cell_old (by rw [cell_new (by simp)]; rfl)
  have h8 : W2.cell? ⟨y.1.heap.size + 1 + 1 + 1, 8, none⟩ = some (.slice (some ⟨y.1.heap.size + 1 + 1, 0, none⟩) 1 1) := by rw [hW2]; exact cell_old (by rw [cell_new (by simp)]; rfl)
  have hatA : (Pr.mk 10 0 zeroV zeroV [p]).At W2 (some ⟨y.1.heap.size, 0, none⟩) 1 := by
    rw [hW2]; exact (Pr.at_one (p := p) rfl hp1 10 0 zeroV zeroV).below (below_then (below_then (below_then (below_alloc _) (below_alloc _)) (below_alloc _)) (below_alloc _))
  have hatB : (Pr.mk 10 0 zeroV zeroV [q]).At W2 (some ⟨y.1.heap.size + 1 + 1, 0, none⟩) 1 := by
    rw [hW2]; exact (Pr.at_one (p := q) (by simp) (hq1.below (below_then (below_alloc _) (below_alloc _))) 10 0 zeroV zeroV).below (below_then (below_alloc _) (below_alloc _))
  have hat2 : (Pr.mk 11 0 zeroV zeroV [p, q]).At W2 (some ⟨y.1.heap.size + 1 + 1 + 1 + 1, 0, none⟩) 2 := by
    rw [hW2]; exact Pr.at_two (p := p) (q := q) (by simp) (hp1.below (below_then (below_then (below_then (below_alloc _) (below_alloc _)) (below_alloc _)) (below_alloc _))) (hq1.below (below_then (below_then (below_then (below_alloc _) (below_alloc _)) (below_alloc _)) (below_alloc _))) 11 0 zeroV zeroV
  clear hW2
  clear d0 d1 d2 d3 d4 d5 d6 d7 d8 f0 f1 f2 f3 f4 f5 f6 f7 f8 dd0 dd1 dd2 dd3 dd4 dd5 dd6 dd7 dd8 ff0 ff1 ff2 ff3 ff4 ff5 ff6 ff7 ff8 ddd0 ddd1 ddd2 ddd3 ddd4 ddd5 ddd6 ddd7 ddd8 fff0 fff1 fff2 fff3 fff4 fff5 fff6 fff7 fff8
  have hand := pand_any hat2 (by simp)
  refine hand.mono ?_
  rintro e w3 ⟨A3, ca3, rfl, hat3, hb3⟩
  clear hand
  simp only [List.length_cons, List.length_nil, Nat.reduceAdd]
  have hbw3 : Below W1.heap.size W1 w3 := below_then hb2 hb3
  have d0 : w3.cell? ⟨x.1.heap.size, 0, none⟩ = some (.int .i64 p.op) := old_at hbw3 (b0 (Lt.base W1))
  have d1 : w3.cell? ⟨x.1.heap.size, 1, none⟩ = some (.int .i64 p.col) := old_at hbw3 (b1 (Lt.base W1))
  have d2 : w3.cell? ⟨x.1.heap.size, 2, none⟩ = some (.bool p.v.t) := old_at hbw3 (b2 (Lt.base W1))
  have d3 : w3.cell? ⟨x.1.heap.size, 3, none⟩ = some (.int .i64 p.v.n) := old_at hbw3 (b3 (Lt.base W1))
  have d4 : w3.cell? ⟨x.1.heap.size, 4, none⟩ = some (.string p.v.s) := old_at hbw3 (b4 (Lt.base W1))
  have d5 : w3.cell? ⟨x.1.heap.size, 5, none⟩ = some (.bool p.w.t) := old_at hbw3 (b5 (Lt.base W1))
  have d6 : w3.cell? ⟨x.1.heap.size, 6, none⟩ = some (.int .i64 p.w.n) := old_at hbw3 (b6 (Lt.base W1))
  have d7 : w3.cell? ⟨x.1.heap.size, 7, none⟩ = some (.string p.w.s) := old_at hbw3 (b7 (Lt.base W1))
  have d8 : w3.cell? ⟨x.1.heap.size, 8, none⟩ = some (.slice A p.l.length ca) := old_at hbw3 (b8 (Lt.base W1))
  have f0 : w3.cell? ⟨x.1.heap.size + 1, 0, none⟩ = some (.int .i64 q.op) := old_at hbw3 (c0 (Lt.base W1))
  have f1 : w3.cell? ⟨x.1.heap.size + 1, 1, none⟩ = some (.int .i64 q.col) := old_at hbw3 (c1 (Lt.base W1))
  have f2 : w3.cell? ⟨x.1.heap.size + 1, 2, none⟩ = some (.bool q.v.t) := old_at hbw3 (c2 (Lt.base W1))
  have f3 : w3.cell? ⟨x.1.heap.size + 1, 3, none⟩ = some (.int .i64 q.v.n) := old_at hbw3 (c3 (Lt.base W1))
  have f4 : w3.cell? ⟨x.1.heap.size + 1, 4, none⟩ = some (.string q.v.s) := old_at hbw3 (c4 (Lt.base W1))
  have f5 : w3.cell? ⟨x.1.heap.size + 1, 5, none⟩ = some (.bool q.w.t) := old_at hbw3 (c5 (Lt.base W1))
  have f6 : w3.cell? ⟨x.1.heap.size + 1, 6, none⟩ = some (.int .i64 q.w.n) := old_at hbw3 (c6 (Lt.base W1))
  have f7 : w3.cell? ⟨x.1.heap.size + 1, 7, none⟩ = some (.string q.w.s) := old_at hbw3 (c7 (Lt.base W1))
  have f8 : w3.cell? ⟨x.1.heap.size + 1, 8, none⟩ = some (.slice A1 q.l.length ca1) := old_at hbw3 (c8 (Lt.base W1))
  have dd0 := fun o0 : Obj => (cell_old (o := o0) (d0))
  have dd1 := fun o0 : Obj => (cell_old (o := o0) (d1))
  have dd2 := fun o0 : Obj => (cell_old (o := o0) (d2))
  have dd3 := fun o0 : Obj => (cell_old (o := o0) (d3))
  have dd4 := fun o0 : Obj => (cell_old (o := o0) (d4))
  have dd5 := fun o0 : Obj => (cell_old (o := o0) (d5))
  have dd6 := fun o0 : Obj => (cell_old (o := o0) (d6))
  have dd7 := fun o0 : Obj => (cell_old (o := o0) (d7))
  have dd8 := fun o0 : Obj => (cell_old (o := o0) (d8))
  have ff0 := fun o0 : Obj => (cell_old (o := o0) (f0))
  have ff1 := fun o0 : Obj => (cell_old (o := o0) (f1))
  have ff2 := fun o0 : Obj => (cell_old (o := o0) (f2))
  have ff3 := fun o0 : Obj => (cell_old (o := o0) (f3))
  have ff4 := fun o0 : Obj => (cell_old (o := o0) (f4))
  have ff5 := fun o0 : Obj => (cell_old (o := o0) (f5))
  have ff6 := fun o0 : Obj => (cell_old (o := o0) (f6))
  have ff7 := fun o0 : Obj => (cell_old (o := o0) (f7))
  have ff8 := fun o0 : Obj => (cell_old (o := o0) (f8))
  go_wp2_with fail
  refine calls_here fun W4 hW4 => ?_
  have hb4 : Below w3.heap.size w3 W4 := hW4 ▸ below_then (below_alloc _) (below_alloc _)
  have m0 : W4.cell? ⟨w3.heap.size, 0, none⟩ = some (.int .i64 11) := by rw [hW4]; exact cell_old (by rw [cell_new rfl]; rfl)
  have m1 : W4.cell? ⟨w3.heap.size, 1, none⟩ = some (.int .i64 0) := by rw [hW4]; exact cell_old (by rw [cell_new rfl]; rfl)
  have m2 : W4.cell? ⟨w3.heap.size, 2, none⟩ = some (.bool false) := by rw [hW4]; exact cell_old (by rw [cell_new rfl]; rfl)
  have m3 : W4.cell? ⟨w3.heap.size, 3, none⟩ = some (.int .i64 0) := by rw [hW4]; exact cell_old (by rw [cell_new rfl]; rfl)
  have m4 : W4.cell? ⟨w3.heap.size, 4, none⟩ = some (.string ⟨#[]⟩) := by rw [hW4]; exact cell_old (by rw [cell_new rfl]; rfl)
  have m5 : W4.cell? ⟨w3.heap.size, 5, none⟩ = some (.bool false) := by rw [hW4]; exact cell_old (by rw [cell_new rfl]; rfl)
  have m6 : W4.cell? ⟨w3.heap.size, 6, none⟩ = some (.int .i64 0) := by rw [hW4]; exact cell_old (by rw [cell_new rfl]; rfl)
  have m7 : W4.cell? ⟨w3.heap.size, 7, none⟩ = some (.string ⟨#[]⟩) := by rw [hW4]; exact cell_old (by rw [cell_new rfl]; rfl)
  have m8 : W4.cell? ⟨w3.heap.size, 8, none⟩ = some (.slice A3 2 ca3) := by rw [hW4]; exact cell_old (by rw [cell_new rfl]; rfl)
  have hat4 : (Pr.mk 11 0 zeroV zeroV [q, p]).At W4 (some ⟨w3.heap.size + 1, 0, none⟩) 2 := by
    rw [hW4]; exact Pr.at_two (p := q) (q := p) (by simp) (((HQ.out.below hb0).below hbw3).below (below_alloc _)) (((HP.out.below hb0).below hbw3).below (below_alloc _)) 11 0 zeroV zeroV
  clear hW4
  clear d0 d1 d2 d3 d4 d5 d6 d7 d8 f0 f1 f2 f3 f4 f5 f6 f7 f8 dd0 dd1 dd2 dd3 dd4 dd5 dd6 dd7 dd8 ff0 ff1 ff2 ff3 ff4 ff5 ff6 ff7 ff8
  have hand := pand_any hat4 (by simp)
  refine hand.mono ?_
  rintro e w5 ⟨A5, ca5, rfl, hat5, hb5⟩
  clear hand
  simp only [List.length_cons, List.length_nil, Nat.reduceAdd]
  have hbw5 : Below W1.heap.size W1 w5 := below_then hbw3 (below_then hb4 hb5)
  have hb25 : Below W2.heap.size W2 w5 := below_then hb3 (below_then hb4 hb5)
  have d0 : w5.cell? ⟨x.1.heap.size, 0, none⟩ = some (.int .i64 p.op) := old_at hbw5 (b0 (Lt.base W1))
  have d1 : w5.cell? ⟨x.1.heap.size, 1, none⟩ = some (.int .i64 p.col) := old_at hbw5 (b1 (Lt.base W1))
  have d2 : w5.cell? ⟨x.1.heap.size, 2, none⟩ = some (.bool p.v.t) := old_at hbw5 (b2 (Lt.base W1))
  have d3 : w5.cell? ⟨x.1.heap.size, 3, none⟩ = some (.int .i64 p.v.n) := old_at hbw5 (b3 (Lt.base W1))
  have d4 : w5.cell? ⟨x.1.heap.size, 4, none⟩ = some (.string p.v.s) := old_at hbw5 (b4 (Lt.base W1))
  have d5 : w5.cell? ⟨x.1.heap.size, 5, none⟩ = some (.bool p.w.t) := old_at hbw5 (b5 (Lt.base W1))
  have d6 : w5.cell? ⟨x.1.heap.size, 6, none⟩ = some (.int .i64 p.w.n) := old_at hbw5 (b6 (Lt.base W1))
  have d7 : w5.cell? ⟨x.1.heap.size, 7, none⟩ = some (.string p.w.s) := old_at hbw5 (b7 (Lt.base W1))
  have d8 : w5.cell? ⟨x.1.heap.size, 8, none⟩ = some (.slice A p.l.length ca) := old_at hbw5 (b8 (Lt.base W1))
  have f0 : w5.cell? ⟨x.1.heap.size + 1, 0, none⟩ = some (.int .i64 q.op) := old_at hbw5 (c0 (Lt.base W1))
  have f1 : w5.cell? ⟨x.1.heap.size + 1, 1, none⟩ = some (.int .i64 q.col) := old_at hbw5 (c1 (Lt.base W1))
  have f2 : w5.cell? ⟨x.1.heap.size + 1, 2, none⟩ = some (.bool q.v.t) := old_at hbw5 (c2 (Lt.base W1))
  have f3 : w5.cell? ⟨x.1.heap.size + 1, 3, none⟩ = some (.int .i64 q.v.n) := old_at hbw5 (c3 (Lt.base W1))
  have f4 : w5.cell? ⟨x.1.heap.size + 1, 4, none⟩ = some (.string q.v.s) := old_at hbw5 (c4 (Lt.base W1))
  have f5 : w5.cell? ⟨x.1.heap.size + 1, 5, none⟩ = some (.bool q.w.t) := old_at hbw5 (c5 (Lt.base W1))
  have f6 : w5.cell? ⟨x.1.heap.size + 1, 6, none⟩ = some (.int .i64 q.w.n) := old_at hbw5 (c6 (Lt.base W1))
  have f7 : w5.cell? ⟨x.1.heap.size + 1, 7, none⟩ = some (.string q.w.s) := old_at hbw5 (c7 (Lt.base W1))
  have f8 : w5.cell? ⟨x.1.heap.size + 1, 8, none⟩ = some (.slice A1 q.l.length ca1) := old_at hbw5 (c8 (Lt.base W1))
  have k0 : w5.cell? ⟨y.1.heap.size + 1, 0, none⟩ = some (.int .i64 10) := old_at hb25 g0
  have k1 : w5.cell? ⟨y.1.heap.size + 1, 1, none⟩ = some (.int .i64 0) := old_at hb25 g1
  have k2 : w5.cell? ⟨y.1.heap.size + 1, 2, none⟩ = some (.bool false) := old_at hb25 g2
  have k3 : w5.cell? ⟨y.1.heap.size + 1, 3, none⟩ = some (.int .i64 0) := old_at hb25 g3
  have k4 : w5.cell? ⟨y.1.heap.size + 1, 4, none⟩ = some (.string ⟨#[]⟩) := old_at hb25 g4
  have k5 : w5.cell? ⟨y.1.heap.size + 1, 5, none⟩ = some (.bool false) := old_at hb25 g5
  have k6 : w5.cell? ⟨y.1.heap.size + 1, 6, none⟩ = some (.int .i64 0) := old_at hb25 g6
  have k7 : w5.cell? ⟨y.1.heap.size + 1, 7, none⟩ = some (.string ⟨#[]⟩) := old_at hb25 g7
  have k8 : w5.cell? ⟨y.1.heap.size + 1, 8, none⟩ = some (.slice (some ⟨y.1.heap.size, 0, none⟩) 1 1) := old_at hb25 g8
  have l0 : w5.cell? ⟨y.1.heap.size + 1 + 1 + 1, 0, none⟩ = some (.int .i64 10) := old_at hb25 h0
  have l1 : w5.cell? ⟨y.1.heap.size + 1 + 1 + 1, 1, none⟩ = some (.int .i64 0) := old_at hb25 h1
  have l2 : w5.cell? ⟨y.1.heap.size + 1 + 1 + 1, 2, none⟩ = some (.bool false) := old_at hb25 h2
  have l3 : w5.cell? ⟨y.1.heap.size + 1 + 1 + 1, 3, none⟩ = some (.int .i64 0) := old_at hb25 h3
  have l4 : w5.cell? ⟨y.1.heap.size + 1 + 1 + 1, 4, none⟩ = some (.string ⟨#[]⟩) := old_at hb25 h4
  have l5 : w5.cell? ⟨y.1.heap.size + 1 + 1 + 1, 5, none⟩ = some (.bool false) := old_at hb25 h5
  have l6 : w5.cell? ⟨y.1.heap.size + 1 + 1 + 1, 6, none⟩ = some (.int .i64 0) := old_at hb25 h6
  have l7 : w5.cell? ⟨y.1.heap.size + 1 + 1 + 1, 7, none⟩ = some (.string ⟨#[]⟩) := old_at hb25 h7
  have l8 : w5.cell? ⟨y.1.heap.size + 1 + 1 + 1, 8, none⟩ = some (.slice (some ⟨y.1.heap.size + 1 + 1, 0, none⟩) 1 1) := old_at hb25 h8
  have dd0 := fun o0 : Obj => (cell_old (o := o0) (d0))
  have dd1 := fun o0 : Obj => (cell_old (o := o0) (d1))
  have dd2 := fun o0 : Obj => (cell_old (o := o0) (d2))
  have dd3 := fun o0 : Obj => (cell_old (o := o0) (d3))
  have dd4 := fun o0 : Obj => (cell_old (o := o0) (d4))
  have dd5 := fun o0 : Obj => (cell_old (o := o0) (d5))
  have dd6 := fun o0 : Obj => (cell_old (o := o0) (d6))
  have dd7 := fun o0 : Obj => (cell_old (o := o0) (d7))
  have dd8 := fun o0 : Obj => (cell_old (o := o0) (d8))
  have ff0 := fun o0 : Obj => (cell_old (o := o0) (f0))
  have ff1 := fun o0 : Obj => (cell_old (o := o0) (f1))
  have ff2 := fun o0 : Obj => (cell_old (o := o0) (f2))
  have ff3 := fun o0 : Obj => (cell_old (o := o0) (f3))
  have ff4 := fun o0 : Obj => (cell_old (o := o0) (f4))
  have ff5 := fun o0 : Obj => (cell_old (o := o0) (f5))
  have ff6 := fun o0 : Obj => (cell_old (o := o0) (f6))
  have ff7 := fun o0 : Obj => (cell_old (o := o0) (f7))
  have ff8 := fun o0 : Obj => (cell_old (o := o0) (f8))
  have kk0 := fun o0 o1 o2 : Obj => (cell_old (o := o2) (cell_old (o := o1) (cell_old (o := o0) (k0))))
  have kk1 := fun o0 o1 o2 : Obj => (cell_old (o := o2) (cell_old (o := o1) (cell_old (o := o0) (k1))))
  have kk2 := fun o0 o1 o2 : Obj => (cell_old (o := o2) (cell_old (o := o1) (cell_old (o := o0) (k2))))
  have kk3 := fun o0 o1 o2 : Obj => (cell_old (o := o2) (cell_old (o := o1) (cell_old (o := o0) (k3))))
  have kk4 := fun o0 o1 o2 : Obj => (cell_old (o := o2) (cell_old (o := o1) (cell_old (o := o0) (k4))))
  have kk5 := fun o0 o1 o2 : Obj => (cell_old (o := o2) (cell_old (o := o1) (cell_old (o := o0) (k5))))
  have kk6 := fun o0 o1 o2 : Obj => (cell_old (o := o2) (cell_old (o := o1) (cell_old (o := o0) (k6))))
  have kk7 := fun o0 o1 o2 : Obj => (cell_old (o := o2) (cell_old (o := o1) (cell_old (o := o0) (k7))))
  have kk8 := fun o0 o1 o2 : Obj => (cell_old (o := o2) (cell_old (o := o1) (cell_old (o := o0) (k8))))
  have ll0 := fun o0 o1 o2 : Obj => (cell_old (o := o2) (cell_old (o := o1) (cell_old (o := o0) (l0))))
  have ll1 := fun o0 o1 o2 : Obj => (cell_old (o := o2) (cell_old (o := o1) (cell_old (o := o0) (l1))))
  have ll2 := fun o0 o1 o2 : Obj => (cell_old (o := o2) (cell_old (o := o1) (cell_old (o := o0) (l2))))
  have ll3 := fun o0 o1 o2 : Obj => (cell_old (o := o2) (cell_old (o := o1) (cell_old (o := o0) (l3))))
  have ll4 := fun o0 o1 o2 : Obj => (cell_old (o := o2) (cell_old (o := o1) (cell_old (o := o0) (l4))))
  have ll5 := fun o0 o1 o2 : Obj => (cell_old (o := o2) (cell_old (o := o1) (cell_old (o := o0) (l5))))
  have ll6 := fun o0 o1 o2 : Obj => (cell_old (o := o2) (cell_old (o := o1) (cell_old (o := o0) (l6))))
  have ll7 := fun o0 o1 o2 : Obj => (cell_old (o := o2) (cell_old (o := o1) (cell_old (o := o0) (l7))))
  have ll8 := fun o0 o1 o2 : Obj => (cell_old (o := o2) (cell_old (o := o1) (cell_old (o := o0) (l8))))
  have kkk0 := fun o0 o1 o2 o3 o4 : Obj => (cell_old (o := o4) (cell_old (o := o3) (cell_old (o := o2) (cell_old (o := o1) (cell_old (o := o0) (k0))))))
  have kkk1 := fun o0 o1 o2 o3 o4 : Obj => (cell_old (o := o4) (cell_old (o := o3) (cell_old (o := o2) (cell_old (o := o1) (cell_old (o := o0) (k1))))))
  have kkk2 := fun o0 o1 o2 o3 o4 : Obj => (cell_old (o := o4) (cell_old (o := o3) (cell_old (o := o2) (cell_old (o := o1) (cell_old (o := o0) (k2))))))
  have kkk3 := fun o0 o1 o2 o3 o4 : Obj => (cell_old (o := o4) (cell_old (o := o3) (cell_old (o := o2) (cell_old (o := o1) (cell_old (o := o0) (k3))))))
  have kkk4 := fun o0 o1 o2 o3 o4 : Obj => (cell_old (o := o4) (cell_old (o := o3) (cell_old (o := o2) (cell_old (o := o1) (cell_old (o := o0) (k4))))))
  have kkk5 := fun o0 o1 o2 o3 o4 : Obj => (cell_old (o := o4) (cell_old (o := o3) (cell_old (o := o2) (cell_old (o := o1) (cell_old (o := o0) (k5))))))
  have kkk6 := fun o0 o1 o2 o3 o4 : Obj => (cell_old (o := o4) (cell_old (o := o3) (cell_old (o := o2) (cell_old (o := o1) (cell_old (o := o0) (k6))))))
  have kkk7 := fun o0 o1 o2 o3 o4 : Obj => (cell_old (o := o4) (cell_old (o := o3) (cell_old (o := o2) (cell_old (o := o1) (cell_old (o := o0) (k7))))))
  have kkk8 := fun o0 o1 o2 o3 o4 : Obj => (cell_old (o := o4) (cell_old (o := o3) (cell_old (o := o2) (cell_old (o := o1) (cell_old (o := o0) (k8))))))
  go_wp2_with fail
  refine calls_here fun W6 hW6 => ?_
  have hb6 : Below w5.heap.size w5 W6 := hW6 ▸ below_then (below_then (below_then (below_then (below_alloc _) (below_alloc _)) (below_alloc _)) (below_alloc _)) (below_alloc _)
  have hb26 : Below W2.heap.size W2 W6 := below_then hb25 hb6
  have hb46 : Below W4.heap.size W4 W6 := below_then hb5 hb6
  have hbr : Below W.heap.size W W6 := below_then hb0 (below_then hbw5 hb6)
  have hatO : (Pr.mk 12 0 zeroV zeroV [q, p]).At W6 (some ⟨w5.heap.size + 1, 0, none⟩) 2 := by
    rw [hW6]; exact (Pr.at_two (p := q) (q := p) (by simp) (((HQ.out.below hb0).below hbw5).below (below_alloc _)) (((HP.out.below hb0).below hbw5).below (below_alloc _)) 12 0 zeroV zeroV).below (below_then (below_then (below_alloc _) (below_alloc _)) (below_alloc _))
  have hatE : (Pr.mk 12 0 zeroV zeroV [.mk 10 0 zeroV zeroV [p], .mk 10 0 zeroV zeroV [q]]).At W6 (some ⟨w5.heap.size + 1 + 1 + 1, 0, none⟩) 2 := by
    rw [hW6]; exact (Pr.at_two (p := .mk 10 0 zeroV zeroV [p]) (q := .mk 10 0 zeroV zeroV [q]) (by simp) ((hatA.below hb25).below (below_then (below_then (below_alloc _) (below_alloc _)) (below_alloc _))) ((hatB.below hb25).below (below_then (below_then (below_alloc _) (below_alloc _)) (below_alloc _))) 12 0 zeroV zeroV).below (below_alloc _)
  have q0 := fun z : Lt W6 => z.cell (show W6.cell? ⟨w5.heap.size, 0, none⟩ = some (.int .i64 11) by rw [hW6]; exact cell_old (cell_old (cell_old (cell_old (by rw [cell_new rfl]; rfl)))))
  have q1 := fun z : Lt W6 => z.cell (show W6.cell? ⟨w5.heap.size, 1, none⟩ = some (.int .i64 0) by rw [hW6]; exact cell_old (cell_old (cell_old (cell_old (by rw [cell_new rfl]; rfl)))))
  have q2 := fun z : Lt W6 => z.cell (show W6.cell? ⟨w5.heap.size, 2, none⟩ = some (.bool false) by rw [hW6]; exact cell_old (cell_old (cell_old (cell_old (by rw [cell_new rfl]; rfl)))))
  have q3 := fun z : Lt W6 => z.cell (show W6.cell? ⟨w5.heap.size, 3, none⟩ = some (.int .i64 0) by rw [hW6]; exact cell_old (cell_old (cell_old (cell_old (by rw [cell_new rfl]; rfl)))))
  have q4 := fun z : Lt W6 => z.cell (show W6.cell? ⟨w5.heap.size, 4, none⟩ = some (.string ⟨#[]⟩) by rw [hW6]; exact cell_old (cell_old (cell_old (cell_old (by rw [cell_new rfl]; rfl)))))
  have q5 := fun z : Lt W6 => z.cell (show W6.cell? ⟨w5.heap.size, 5, none⟩ = some (.bool false) by rw [hW6]; exact cell_old (cell_old (cell_old (cell_old (by rw [cell_new rfl]; rfl)))))
  have q6 := fun z : Lt W6 => z.cell (show W6.cell? ⟨w5.heap.size, 6, none⟩ = some (.int .i64 0) by rw [hW6]; exact cell_old (cell_old (cell_old (cell_old (by rw [cell_new rfl]; rfl)))))
  have q7 := fun z : Lt W6 => z.cell (show W6.cell? ⟨w5.heap.size, 7, none⟩ = some (.string ⟨#[]⟩) by rw [hW6]; exact cell_old (cell_old (cell_old (cell_old (by rw [cell_new rfl]; rfl)))))
  have q8 := fun z : Lt W6 => z.cell (show W6.cell? ⟨w5.heap.size, 8, none⟩ = some (.slice A5 2 ca5) by rw [hW6]; exact cell_old (cell_old (cell_old (cell_old (by rw [cell_new rfl]; rfl)))))
  have r0 := fun z : Lt W6 => z.cell (show W6.cell? ⟨w5.heap.size + 1 + 1, 0, none⟩ = some (.int .i64 12) by rw [hW6]; exact cell_old (cell_old (by rw [cell_new (by simp)]; rfl)))
  have r1 := fun z : Lt W6 => z.cell (show W6.cell? ⟨w5.heap.size + 1 + 1, 1, none⟩ = some (.int .i64 0) by rw [hW6]; exact cell_old (cell_old (by rw [cell_new (by simp)]; rfl)))
  have r2 := fun z : Lt W6 => z.cell (show W6.cell? ⟨w5.heap.size + 1 + 1, 2, none⟩ = some (.bool false) by rw [hW6]; exact cell_old (cell_old (by rw [cell_new (by simp)]; rfl)))
  have r3 := fun z : Lt W6 => z.cell (show W6.cell? ⟨w5.heap.size + 1 + 1, 3, none⟩ = some (.int .i64 0) by rw [hW6]; exact cell_old (cell_old (by rw [cell_new (by simp)]; rfl)))
  have r4 := fun z : Lt W6 => z.cell (show W6.cell? ⟨w5.heap.size + 1 + 1, 4, none⟩ = some (.string ⟨#[]⟩) by rw [hW6]; exact cell_old (cell_old (by rw [cell_new (by simp)]; rfl)))
  have r5 := fun z : Lt W6 => z.cell (show W6.cell? ⟨w5.heap.size + 1 + 1, 5, none⟩ = some (.bool false) by rw [hW6]; exact cell_old (cell_old (by rw [cell_new (by simp)]; rfl)))
  have r6 := fun z : Lt W6 => z.cell (show W6.cell? ⟨w5.heap.size + 1 + 1, 6, none⟩ = some (.int .i64 0) by rw [hW6]; exact cell_old (cell_old (by rw [cell_new (by simp)]; rfl)))
  have r7 := fun z : Lt W6 => z.cell (show W6.cell? ⟨w5.heap.size + 1 + 1, 7, none⟩ = some (.string ⟨#[]⟩) by rw [hW6]; exact cell_old (cell_old (by rw [cell_new (by simp)]; rfl)))
  have r8 := fun z : Lt W6 => z.cell (show W6.cell? ⟨w5.heap.size + 1 + 1, 8, none⟩ = some (.slice (some ⟨w5.heap.size + 1, 0, none⟩) 2 2) by rw [hW6]; exact cell_old (cell_old (by rw [cell_new (by simp)]; rfl)))
  have s0 := fun z : Lt W6 => z.cell (show W6.cell? ⟨w5.heap.size + 1 + 1 + 1 + 1, 0, none⟩ = some (.int .i64 12) by rw [hW6, cell_new (by simp)]; rfl)
  have s1 := fun z : Lt W6 => z.cell (show W6.cell? ⟨w5.heap.size + 1 + 1 + 1 + 1, 1, none⟩ = some (.int .i64 0) by rw [hW6, cell_new (by simp)]; rfl)
  have s2 := fun z : Lt W6 => z.cell (show W6.cell? ⟨w5.heap.size + 1 + 1 + 1 + 1, 2, none⟩ = some (.bool false) by rw [hW6, cell_new (by simp)]; rfl)
  have s3 := fun z : Lt W6 => z.cell (show W6.cell? ⟨w5.heap.size + 1 + 1 + 1 + 1, 3, none⟩ = some (.int .i64 0) by rw [hW6, cell_new (by simp)]; rfl)
  have s4 := fun z : Lt W6 => z.cell (show W6.cell? ⟨w5.heap.size + 1 + 1 + 1 + 1, 4, none⟩ = some (.string ⟨#[]⟩) by rw [hW6, cell_new (by simp)]; rfl)
  have s5 := fun z : Lt W6 => z.cell (show W6.cell? ⟨w5.heap.size + 1 + 1 + 1 + 1, 5, none⟩ = some (.bool false) by rw [hW6, cell_new (by simp)]; rfl)
  have s6 := fun z : Lt W6 => z.cell (show W6.cell? ⟨w5.heap.size + 1 + 1 + 1 + 1, 6, none⟩ = some (.int .i64 0) by rw [hW6, cell_new (by simp)]; rfl)
  have s7 := fun z : Lt W6 => z.cell (show W6.cell? ⟨w5.heap.size + 1 + 1 + 1 + 1, 7, none⟩ = some (.string ⟨#[]⟩) by rw [hW6, cell_new (by simp)]; rfl)
  have s8 := fun z : Lt W6 => z.cell (show W6.cell? ⟨w5.heap.size + 1 + 1 + 1 + 1, 8, none⟩ = some (.slice (some ⟨w5.heap.size + 1 + 1 + 1, 0, none⟩) 2 2) by rw [hW6, cell_new (by simp)]; rfl)
  have t0 := fun z : Lt W6 => z.old hb46 m0
  have t1 := fun z : Lt W6 => z.old hb46 m1
  have t2 := fun z : Lt W6 => z.old hb46 m2
  have t3 := fun z : Lt W6 => z.old hb46 m3
  have t4 := fun z : Lt W6 => z.old hb46 m4
  have t5 := fun z : Lt W6 => z.old hb46 m5
  have t6 := fun z : Lt W6 => z.old hb46 m6
  have t7 := fun z : Lt W6 => z.old hb46 m7
  have t8 := fun z : Lt W6 => z.old hb46 m8
  have C1 := Lib.hid (show ∀ z : Lt W6, Calls Try.prog 13 #[.agg #[.int .i64 10, .int .i64 0, .bool false, .int .i64 0, .string ⟨#[]⟩, .bool false, .int .i64 0, .string ⟨#[]⟩, .slice (some ⟨y.1.heap.size, 0, none⟩) 1 1], .slice B r.length cb] z.1 fun e w' => e = .returned (.bool (!hx)) ∧ ∃ y : Lt W6, w' = y.1 from fun z => by
    have key := holds_any (p := .mk 10 0 zeroV zeroV [p]) (cb := cb) (by first | (simp only [Pr.size_one]; omega) | (simp only [Pr.size_two]; omega) | (simp only [Pr.size_two, Pr.size_one]; omega)) z (hatA.below hb26) (HR.out.below hbr)
    rw [Pr.holds_not, HX.out] at key
    exact key)
  have C2 := Lib.hid (show ∀ z : Lt W6, Calls Try.prog 13 #[.agg #[.int .i64 11, .int .i64 0, .bool false, .int .i64 0, .string ⟨#[]⟩, .bool false, .int .i64 0, .string ⟨#[]⟩, .slice A3 2 ca3], .slice B r.length cb] z.1 fun e w' => e = .returned (.bool (hx && hy)) ∧ ∃ y : Lt W6, w' = y.1 from fun z => by
    have key := holds_any (p := .mk 11 0 zeroV zeroV [p, q]) (cb := cb) (by first | (simp only [Pr.size_one]; omega) | (simp only [Pr.size_two]; omega) | (simp only [Pr.size_two, Pr.size_one]; omega)) z ((hat3.below hb4).below hb46) (HR.out.below hbr)
    rw [Pr.holds_both, HX.out, HY.out] at key
    exact key)
  have C3 := Lib.hid (show ∀ z : Lt W6, Calls Try.prog 13 #[.agg #[.int .i64 11, .int .i64 0, .bool false, .int .i64 0, .string ⟨#[]⟩, .bool false, .int .i64 0, .string ⟨#[]⟩, .slice A5 2 ca5], .slice B r.length cb] z.1 fun e w' => e = .returned (.bool (hy && hx)) ∧ ∃ y : Lt W6, w' = y.1 from fun z => by
    have key := holds_any (p := .mk 11 0 zeroV zeroV [q, p]) (cb := cb) (by first | (simp only [Pr.size_one]; omega) | (simp only [Pr.size_two]; omega) | (simp only [Pr.size_two, Pr.size_one]; omega)) z (hat5.below hb6) (HR.out.below hbr)
    rw [Pr.holds_both, HX.out, HY.out] at key
    exact key)
  have C4 := Lib.hid (show ∀ z : Lt W6, Calls Try.prog 13 #[.agg #[.int .i64 12, .int .i64 0, .bool false, .int .i64 0, .string ⟨#[]⟩, .bool false, .int .i64 0, .string ⟨#[]⟩, .slice (some ⟨w5.heap.size + 1, 0, none⟩) 2 2], .slice B r.length cb] z.1 fun e w' => e = .returned (.bool (hy || hx)) ∧ ∃ y : Lt W6, w' = y.1 from fun z => by
    have key := holds_any (p := .mk 12 0 zeroV zeroV [q, p]) (cb := cb) (by first | (simp only [Pr.size_one]; omega) | (simp only [Pr.size_two]; omega) | (simp only [Pr.size_two, Pr.size_one]; omega)) z hatO (HR.out.below hbr)
    rw [Pr.holds_or, HX.out, HY.out] at key
    exact key)
  have C5 := Lib.hid (show ∀ z : Lt W6, Calls Try.prog 13 #[.agg #[.int .i64 12, .int .i64 0, .bool false, .int .i64 0, .string ⟨#[]⟩, .bool false, .int .i64 0, .string ⟨#[]⟩, .slice (some ⟨w5.heap.size + 1 + 1 + 1, 0, none⟩) 2 2], .slice B r.length cb] z.1 fun e w' => e = .returned (.bool (!hx || !hy)) ∧ ∃ y : Lt W6, w' = y.1 from fun z => by
    have key := holds_any (p := .mk 12 0 zeroV zeroV [.mk 10 0 zeroV zeroV [p], .mk 10 0 zeroV zeroV [q]]) (cb := cb) (by first | (simp only [Pr.size_one]; omega) | (simp only [Pr.size_two]; omega) | (simp only [Pr.size_two, Pr.size_one]; omega)) z hatE (HR.out.below hbr)
    rw [Pr.holds_or, Pr.holds_not, Pr.holds_not, HX.out, HY.out] at key
    exact key)
  clear hW6 hatA hatB hat2 hat3 hat4 hat5 hatO hatE hp1 hq1
  clear d0 d1 d2 d3 d4 d5 d6 d7 d8 f0 f1 f2 f3 f4 f5 f6 f7 f8 dd0 dd1 dd2 dd3 dd4 dd5 dd6 dd7 dd8 ff0 ff1 ff2 ff3 ff4 ff5 ff6 ff7 ff8 k0 k1 k2 k3 k4 k5 k6 k7 k8 l0 l1 l2 l3 l4 l5 l6 l7 l8 kk0 kk1 kk2 kk3 kk4 kk5 kk6 kk7 kk8 ll0 ll1 ll2 ll3 ll4 ll5 ll6 ll7 ll8 kkk0 kkk1 kkk2 kkk3 kkk4 kkk5 kkk6 kkk7 kkk8 g0 g1 g2 g3 g4 g5 g6 g7 g8 h0 h1 h2 h3 h4 h5 h6 h7 h8 m0 m1 m2 m3 m4 m5 m6 m7 m8 b0 b1 b2 b3 b4 b5 b6 b7 b8 c0 c1 c2 c3 c4 c5 c6 c7 c8
  refine (C1.out (Lt.base W6)).mono ?_; rintro e w' ⟨rfl, z, rfl⟩
  clear HX HY
  cases hx <;> cases hy
  all_goals
    go_wp2_with fail
    refine (C2.out z).mono ?_; rintro e w' ⟨rfl, z2, rfl⟩
    go_wp2_with fail
    refine (C3.out z2).mono ?_; rintro e w' ⟨rfl, z3, rfl⟩
    go_wp2_with fail
    refine (C4.out z3).mono ?_; rintro e w' ⟨rfl, z4, rfl⟩
    go_wp2_with fail
    refine (C5.out z4).mono ?_; rintro e w' ⟨rfl, z5, rfl⟩
    go_wp2_with fail
    go_ret
    exact ⟨rfl, z5.via hbr, rfl⟩
end Go.Proofs.Ytmhgebbmccklmaa

