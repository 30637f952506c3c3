/-
  Rows and tables: how they lie in memory; whether a table, a row, may be; whether two rows are the same (the program's answers and the document's).
-/
import Derived.Test.YtghpildnajdlpaaDoorVal
import Derived.Test.YtghpildnajdlpaaDoorTable
namespace Go.Proofs.YtghpildnajdlpaaDoor
open Go.RowKit

namespace R
def cellOk (c : List Bool) (r : List Val) (i : Nat) : Bool := match r[i]?, c[i]? with
  | some u, some b => decide (u.t = b) && u.right
  | _, _ => false
def fits (c : List Bool) (r : List Val) : Bool := may c.length && decide (r.length = c.length) && (List.range r.length).all (cellOk c r)
theorem all_succ {f : Nat → Bool} {k : Nat} (h : (List.range k).all f = true) (hk : f k = true) : (List.range (k + 1)).all f = true := by
  rw [List.range_succ, List.all_append, h]; simp [hk]
theorem all_no {f : Nat → Bool} {k n : Nat} (h : k < n) (hk : f k = false) : (List.range n).all f = false := by
  rw [← Bool.not_eq_true, List.all_eq_true]
  intro ha
  have := ha k (List.mem_range.2 h)
  rw [hk] at this; cases this
theorem same_take {r s : List Val} {k : Nat} {u : Val} (h : r.take k = s.take k) (hu : r[k]? = some u) (hv : s[k]? = some u) : r.take (k + 1) = s.take (k + 1) := by
  rw [List.take_add_one, List.take_add_one, h, hu, hv]
theorem same_not {r s : List Val} {k : Nat} {u v : Val} (hu : r[k]? = some u) (hv : s[k]? = some v) (h : u ≠ v) : r ≠ s := by
  rintro rfl; rw [hu] at hv; exact h (by injection hv)
end R
variable {W : World}

/-- What a round of a loop over a table and a row reads. -/
theorem round_cells {A B : Option Addr} {c : List Bool} {r : List Val} (hc : ColsAt W A c) (hr : RowAt W B r) {k : Nat} (hk : k < r.length) (hl : r.length = c.length) :
    ∃ (u : Val) (bc : Bool) (b o b' o' : Nat), r[k]? = some u ∧ c[k]? = some bc ∧ A = some ⟨b', o', none⟩ ∧ B = some ⟨b, o, none⟩ ∧ W.cell? ⟨b', o' + k, none⟩ = some (.bool bc) ∧
      W.cell? ⟨b, o + k * 3, none⟩ = some (.bool u.t) ∧ W.cell? ⟨b, o + k * 3 + 1, none⟩ = some (.int .i64 u.n) ∧ W.cell? ⟨b, o + k * 3 + 2, none⟩ = some (.string u.s) := by
  have hkc : k < c.length := by omega
  obtain ⟨b, o, hB, hcr⟩ := hr (fun e => by subst e; simp at hk)
  obtain ⟨b', o', hA, hcc⟩ := hc (fun e => by subst e; simp at hkc)
  have hu : r[k]? = some r[k] := List.getElem?_eq_getElem hk
  have hv : c[k]? = some c[k] := List.getElem?_eq_getElem hkc
  obtain ⟨h0, h1, h2⟩ := hcr k _ hu
  exact ⟨r[k], c[k], b, o, b', o', hu, hv, hA, hB, hcc k _ hv, h0, h1, h2⟩

set_option maxHeartbeats 1000000 in
theorem fits_any {A B : Option Addr} {c : List Bool} {r : List Val} {ca cb : Nat} (hc : ColsAt W A c) (hr : RowAt W B r) (x : Lt W) :
    Calls Tryd.prog 59 #[.agg #[.slice A c.length ca], .slice B r.length cb] x.1 fun e w' => e = .returned (.bool (R.fits c r)) ∧ ∃ y : Lt W, w' = y.1 := by
  cases hmay : R.may c.length
  · have HF := Lib.hid (show R.fits c r = false by simp [R.fits, hmay])
    have HM := Lib.hid hmay
    clear hmay
    go_enter Tryd.func59, Tryd.ntmps59
    go_wp2_with fail
    refine calls_here fun W1 hW1 => ?_
    have hb0 : Below W.heap.size W W1 := hW1 ▸ x.more _
    have hw1 : W1.cell? ⟨x.1.heap.size, 0, none⟩ = some (.slice A c.length ca) := by rw [hW1]; simp
    have hbox : ∀ z : Lt W1, z.1.cell? ⟨x.1.heap.size, 0, none⟩ = some (.slice A c.length ca) := fun z => z.cell hw1
    clear hW1 hw1
    refine (check_no HM.out (Lt.base W1)).mono ?_; rintro e w' ⟨rfl, y, rfl⟩
    go_wp2_with fail
    go_ret
    exact ⟨ret_bool HF.out.symm, y.via hb0, rfl⟩
  obtain ⟨q1, q2⟩ := R.may_iff.1 hmay
  have HM := Lib.hid hmay
  clear hmay
  by_cases hl : r.length = c.length
  · have hne : ((r.length : Int) != (c.length : Int)) = false := by simp [hl]
    have HL := Lib.hid hl
    clear hl
    have hrl : (r.length : Int) ≤ 4 := by have := HL.out; omega
    go_enter Tryd.func59, Tryd.ntmps59
    go_wp2_with fail
    refine calls_here fun W1 hW1 => ?_
    have hb0 : Below W.heap.size W W1 := hW1 ▸ x.more _
    have hw1 : W1.cell? ⟨x.1.heap.size, 0, none⟩ = some (.slice A c.length ca) := by rw [hW1]; simp
    have hbox : ∀ z : Lt W1, z.1.cell? ⟨x.1.heap.size, 0, none⟩ = some (.slice A c.length ca) := fun z => z.cell hw1
    clear hW1 hw1
    refine (check_yes HM.out (Lt.base W1)).mono ?_; rintro e w' ⟨rfl, y, rfl⟩
    go_wp2_with fail
    go_loopw [20] (fun i wr => ∃ (k : Nat) (y : Lt W1), wr = y.1 ∧ i = .int .i64 k ∧ k ≤ r.length ∧ (List.range k).all (R.cellOk c r) = true) (fun i _ => r.length - (intOf i).toNat)
    case atStart => exact ⟨0, y, rfl, rfl, by omega, rfl⟩
    case round =>
      obtain ⟨k, y, rfl, rfl, hk, hall⟩ := hrel
      have HA := Lib.hid hall
      clear hall
      by_cases hlt : k < r.length
      · obtain ⟨u, bc, b, o, b', o', hu, hv, rfl, rfl, d0, c0, c1, c2⟩ := round_cells hc hr hlt HL.out
        have ht : R.cellOk c r k = (decide (u.t = bc) && u.right) := by simp [R.cellOk, hu, hv]
        have HT := Lib.hid ht
        have hkc : k < c.length := by have := HL.out; omega
        have y0 := y.old hb0 c0
        have y1 := y.old hb0 c1
        have y2 := y.old hb0 c2
        clear hc hr ht hu hv
        go_wp2_with fail
        refine wp_here fun W2 hW2 => ?_
        have hb1 : Below W1.heap.size W1 W2 := hW2 ▸ y.more _
        have f0' : W2.cell? ⟨y.1.heap.size, 0, none⟩ = some (.bool u.t) := by rw [hW2]; simp
        have f1' : W2.cell? ⟨y.1.heap.size, 1, none⟩ = some (.int .i64 u.n) := by rw [hW2]; simp
        have f2' : W2.cell? ⟨y.1.heap.size, 2, none⟩ = some (.string u.s) := by rw [hW2]; simp
        have e0 := fun z : Lt W2 => z.old (below_then hb0 hb1) d0
        have e1 : ∀ z : Lt W2, z.1.cell? ⟨x.1.heap.size, 0, none⟩ = _ := fun z => hbox (z.via hb1)
        have f0 := fun z : Lt W2 => z.cell f0'
        have f1 := fun z : Lt W2 => z.cell f1'
        have f2 := fun z : Lt W2 => z.cell f2'
        clear hW2 f0' f1' f2' d0 c0 c1 c2 y0 y1 y2
        by_cases g1 : u.t = bc
        · have n1 : (u.t == bc) = true := by simp [g1]
          have G1 := Lib.hid g1
          clear g1
          cases g2 : u.right
          · have G2 := Lib.hid g2
            have HF := Lib.hid (show R.fits c r = false by
              have := R.all_no hlt (f := R.cellOk c r) (by rw [HT.out, G2.out]; simp)
              simp [R.fits, this])
            clear g2
            refine wp_region_here (by kernel_rfl) (by kernel_rfl) ?_
            repeat (go_big_quiet_step ((go_at_call 57; exact vright_is G2.out _)))
            refine wpQuiet_nil ?_; intro _ hw'; obtain ⟨z, rfl⟩ := hw'
            go_wp2_with fail
            go_ret
            exact ⟨ret_bool HF.out.symm, (z.via hb1).via hb0, rfl⟩
          · have G2 := Lib.hid g2
            clear g2
            refine wp_region_here (by kernel_rfl) (by kernel_rfl) ?_
            repeat (go_big_quiet_step ((go_at_call 57; exact vright_is G2.out _)))
            refine wpQuiet_nil ?_; intro _ hw'; obtain ⟨z, rfl⟩ := hw'
            go_wp2_with fail
            go_roundw
            case rel => exact ⟨k + 1, z.via hb1, rfl, by go_num, by omega, R.all_succ HA.out (by rw [HT.out, G2.out]; simp [G1.out])⟩
            case measure => simp [intOf]; omega
        · have n1 : (u.t == bc) = false := by simpa using g1
          have HF := Lib.hid (show R.fits c r = false by
            have := R.all_no hlt (f := R.cellOk c r) (by rw [HT.out, decide_eq_false g1]; rfl)
            simp [R.fits, this])
          clear g1
          refine wp_region_here (by kernel_rfl) (by kernel_rfl) ?_
          repeat (go_big_quiet_step (fail))
          refine wpQuiet_nil ?_; intro _ hw'; obtain ⟨z, rfl⟩ := hw'
          go_wp2_with fail
          go_ret
          exact ⟨ret_bool HF.out.symm, (z.via hb1).via hb0, rfl⟩
      · obtain rfl : k = r.length := by omega
        have HF := Lib.hid (show R.fits c r = true by simp only [R.fits, HM.out, HA.out, decide_eq_true HL.out, Bool.and_self])
        go_wp2_with fail
        go_ret
        exact ⟨ret_bool HF.out.symm, y.via hb0, rfl⟩
  · have hne : ((r.length : Int) != (c.length : Int)) = true := by simpa using (show ¬ (r.length : Int) = (c.length : Int) by omega)
    have HF := Lib.hid (show R.fits c r = false by simp [R.fits, hl])
    clear hl
    go_enter Tryd.func59, Tryd.ntmps59
    go_wp2_with fail
    refine calls_here fun W1 hW1 => ?_
    have hb0 : Below W.heap.size W W1 := hW1 ▸ x.more _
    have hw1 : W1.cell? ⟨x.1.heap.size, 0, none⟩ = some (.slice A c.length ca) := by rw [hW1]; simp
    have hbox : ∀ z : Lt W1, z.1.cell? ⟨x.1.heap.size, 0, none⟩ = some (.slice A c.length ca) := fun z => z.cell hw1
    clear hW1 hw1
    refine (check_yes HM.out (Lt.base W1)).mono ?_; rintro e w' ⟨rfl, y, rfl⟩
    go_wp2_with fail
    go_ret
    exact ⟨ret_bool HF.out.symm, y.via hb0, rfl⟩
end Go.Proofs.YtghpildnajdlpaaDoor
