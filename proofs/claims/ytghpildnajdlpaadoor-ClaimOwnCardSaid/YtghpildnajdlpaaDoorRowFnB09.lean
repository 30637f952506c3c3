/-
  Rows and tables, the document's answers and the sameness of rows: whether a row may be a table's, whether two rows are the same.
-/
import Derived.Test.YtghpildnajdlpaaDoorRowFn09
namespace Go.Proofs.YtghpildnajdlpaaDoor
open Go.RowKit
variable {W : World}

set_option maxHeartbeats 1000000 in
theorem rfits_row {A B : Option Addr} {c : List Bool} {r : List Val} {ca cb : Nat} (hc : ColsAt W A c) (hr : RowAt W B r) (x : Lt W) :
    Calls Tryd.prog 55 #[.agg #[.slice A c.length ca], .slice B r.length cb] x.1 fun e w' => e = .returned (.bool (R.fits c r)) ∧ ∃ y : Lt W, w' = y.1 := by
  cases hmay : R.may c.length
  · have HF := Lib.hid (show R.fits c r = false by simp [R.fits, hmay])
    have HM := Lib.hid hmay
    clear hmay
    go_enter Tryd.func55, Tryd.ntmps55
    go_wp2_with fail
    refine calls_here fun W1 hW1 => ?_
    have hb0 : Below W.heap.size W W1 := hW1 ▸ x.more _
    clear hW1
    refine (rmay_is HM.out (Lt.base W1)).mono ?_; rintro e w' ⟨rfl, y, rfl⟩
    go_wp2_with fail
    go_ret
    exact ⟨ret_bool HF.out.symm, y.via hb0, rfl⟩
  obtain ⟨q1, q2⟩ := R.may_iff.1 hmay
  have HM := Lib.hid hmay
  clear hmay
  by_cases hl : r.length = c.length
  · have hne : ((r.length : Int) != (c.length : Int)) = false := by simp [hl]
    have HL := Lib.hid hl
    clear hl
    have hrl : (r.length : Int) ≤ 4 := by have := HL.out; omega
    go_enter Tryd.func55, Tryd.ntmps55
    go_wp2_with fail
    refine calls_here fun W1 hW1 => ?_
    have hb0 : Below W.heap.size W W1 := hW1 ▸ x.more _
    have hw1 : W1.cell? ⟨x.1.heap.size, 0, none⟩ = some (.slice A c.length ca) := by rw [hW1]; simp
    have hbox : ∀ z : Lt W1, z.1.cell? ⟨x.1.heap.size, 0, none⟩ = some (.slice A c.length ca) := fun z => z.cell hw1
    clear hW1 hw1
    refine (rmay_is HM.out (Lt.base W1)).mono ?_; rintro e w' ⟨rfl, y, rfl⟩
    go_wp2_with fail
    go_loopw [6, 7] (fun i _ wr => ∃ (k : Nat) (y : Lt W1), wr = y.1 ∧ i = .int .i64 k ∧ k ≤ r.length ∧ (List.range k).all (R.cellOk c r) = true) (fun i _ _ => r.length - (intOf i).toNat)
    case atStart => exact ⟨0, y, rfl, rfl, by omega, rfl⟩
    case round =>
      obtain ⟨k, y, rfl, rfl, hk, hall⟩ := hrel
      have HA := Lib.hid hall
      clear hall
      by_cases hlt : k < r.length
      · obtain ⟨u, bc, b, o, b', o', hu, hv, rfl, rfl, d0, c0, c1, c2⟩ := round_cells hc hr hlt HL.out
        have ht : R.cellOk c r k = (decide (u.t = bc) && u.right) := by simp [R.cellOk, hu, hv]
        have HT := Lib.hid ht
        have hkc : k < c.length := by have := HL.out; omega
        have e0 := fun z : Lt W1 => z.old hb0 c0
        have e1 := fun z : Lt W1 => z.old hb0 c1
        have e2 := fun z : Lt W1 => z.old hb0 c2
        have e3 := fun z : Lt W1 => z.old hb0 d0
        clear hc hr ht hu hv c0 c1 c2 d0
        cases g2 : u.right
        · have G2 := Lib.hid g2
          have HF := Lib.hid (show R.fits c r = false by
            have := R.all_no hlt (f := R.cellOk c r) (by rw [HT.out, G2.out]; simp)
            simp [R.fits, this])
          clear g2
          go_wp2_with fail
          refine (rvright_is G2.out _).mono ?_; rintro e w' ⟨rfl, z, rfl⟩
          go_wp2_with fail
          refine wp_region_pure _ (by kernel_rfl) (by kernel_rfl) ?_
          repeat (go_big_quiet_step (fail))
          refine wpQuiet_nil ?_; intro _ hw'; obtain ⟨z, rfl⟩ := hw'
          go_wp2_with fail
          go_ret
          exact ⟨ret_bool HF.out.symm, z.via hb0, rfl⟩
        have G2 := Lib.hid g2
        clear g2
        by_cases g1 : u.t = bc
        · have n1 : (u.t == bc) = true := by simp [g1]
          have G1 := Lib.hid g1
          clear g1
          go_wp2_with fail
          refine (rvright_is G2.out _).mono ?_; rintro e w' ⟨rfl, z, rfl⟩
          go_wp2_with fail
          refine wp_region_pure _ (by kernel_rfl) (by kernel_rfl) ?_
          repeat (go_big_quiet_step (fail))
          refine wpQuiet_nil ?_; intro _ hw'; obtain ⟨z, rfl⟩ := hw'
          go_wp2_with fail
          go_roundw
          case rel => exact ⟨k + 1, z, rfl, by go_num, by omega, R.all_succ HA.out (by rw [HT.out, G2.out]; simp [G1.out])⟩
          case measure => simp [intOf]; omega
        · have n1 : (u.t == bc) = false := by simpa using g1
          have HF := Lib.hid (show R.fits c r = false by
            have := R.all_no hlt (f := R.cellOk c r) (by rw [HT.out, decide_eq_false g1]; rfl)
            simp [R.fits, this])
          clear g1
          go_wp2_with fail
          refine (rvright_is G2.out _).mono ?_; rintro e w' ⟨rfl, z, rfl⟩
          go_wp2_with fail
          refine wp_region_pure _ (by kernel_rfl) (by kernel_rfl) ?_
          repeat (go_big_quiet_step (fail))
          refine wpQuiet_nil ?_; intro _ hw'; obtain ⟨z, rfl⟩ := hw'
          go_wp2_with fail
          go_ret
          exact ⟨ret_bool HF.out.symm, z.via hb0, rfl⟩
      · obtain rfl : k = r.length := by omega
        have HF := Lib.hid (show R.fits c r = true by simp only [R.fits, HM.out, HA.out, decide_eq_true HL.out, Bool.and_self])
        go_wp2_with fail
        go_ret
        exact ⟨ret_bool HF.out.symm, y.via hb0, rfl⟩
  · have hne : ((r.length : Int) != (c.length : Int)) = true := by simpa using (show ¬ (r.length : Int) = (c.length : Int) by omega)
    have HF := Lib.hid (show R.fits c r = false by simp [R.fits, hl])
    clear hl
    go_enter Tryd.func55, Tryd.ntmps55
    go_wp2_with fail
    refine calls_here fun W1 hW1 => ?_
    have hb0 : Below W.heap.size W W1 := hW1 ▸ x.more _
    have hw1 : W1.cell? ⟨x.1.heap.size, 0, none⟩ = some (.slice A c.length ca) := by rw [hW1]; simp
    have hbox : ∀ z : Lt W1, z.1.cell? ⟨x.1.heap.size, 0, none⟩ = some (.slice A c.length ca) := fun z => z.cell hw1
    clear hW1 hw1
    refine (rmay_is HM.out (Lt.base W1)).mono ?_; rintro e w' ⟨rfl, y, rfl⟩
    go_wp2_with fail
    go_ret
    exact ⟨ret_bool HF.out.symm, y.via hb0, rfl⟩

/-- What a round over two rows reads. -/
theorem round_rows {A B : Option Addr} {r s : List Val} (hr : RowAt W A r) (hs : RowAt W B s) {k : Nat} (hk : k < r.length) (hl : r.length = s.length) :
    ∃ (u v : Val) (b o b' o' : Nat), r[k]? = some u ∧ s[k]? = some v ∧ A = some ⟨b, o, none⟩ ∧ B = some ⟨b', o', none⟩ ∧
      (W.cell? ⟨b, o + k * 3, none⟩ = some (.bool u.t) ∧ W.cell? ⟨b, o + k * 3 + 1, none⟩ = some (.int .i64 u.n) ∧ W.cell? ⟨b, o + k * 3 + 2, none⟩ = some (.string u.s)) ∧
      W.cell? ⟨b', o' + k * 3, none⟩ = some (.bool v.t) ∧ W.cell? ⟨b', o' + k * 3 + 1, none⟩ = some (.int .i64 v.n) ∧ W.cell? ⟨b', o' + k * 3 + 2, none⟩ = some (.string v.s) := by
  have hks : k < s.length := by omega
  obtain ⟨b, o, hA, hcr⟩ := hr (fun e => by subst e; simp at hk)
  obtain ⟨b', o', hB, hcs⟩ := hs (fun e => by subst e; simp at hks)
  have hu : r[k]? = some r[k] := List.getElem?_eq_getElem hk
  have hv : s[k]? = some s[k] := List.getElem?_eq_getElem hks
  exact ⟨r[k], s[k], b, o, b', o', hu, hv, hA, hB, hcr k _ hu, hcs k _ hv⟩

set_option maxHeartbeats 1000000 in
theorem rsame_any {A B : Option Addr} {r s : List Val} {ca cb : Nat} (hr : RowAt W A r) (hs : RowAt W B s) (h1 : r.length ≤ 1000000000) (x : Lt W) :
    Calls Tryd.prog 71 #[.slice A r.length ca, .slice B s.length cb] x.1 fun e w' => e = .returned (.bool (decide (r = s))) ∧ ∃ y : Lt W, w' = y.1 := by
  by_cases hl : r.length = s.length
  · have hne : ((r.length : Int) != (s.length : Int)) = false := by simp [hl]
    have HL := Lib.hid hl
    clear hl
    go_enter Tryd.func71, Tryd.ntmps71
    go_wp2_with fail
    go_loopw [5] (fun i wr => ∃ (k : Nat) (y : Lt W), wr = y.1 ∧ i = .int .i64 k ∧ k ≤ r.length ∧ r.take k = s.take k) (fun i _ => r.length - (intOf i).toNat)
    case atStart => exact ⟨0, x, rfl, rfl, by omega, rfl⟩
    case round =>
      obtain ⟨k, y, rfl, rfl, hk, heq⟩ := hrel
      have HE := Lib.hid heq
      clear heq
      by_cases hlt : k < r.length
      · obtain ⟨u, v, b, o, b', o', hu, hv, rfl, rfl, ⟨c0, c1, c2⟩, d0, d1, d2⟩ := round_rows hr hs hlt HL.out
        have hks : k < s.length := by have := HL.out; omega
        have HU := Lib.hid hu
        have HV := Lib.hid hv
        have e0 := fun z : Lt W => z.cell c0
        have e1 := fun z : Lt W => z.cell c1
        have e2 := fun z : Lt W => z.cell c2
        have f0 := fun z : Lt W => z.cell d0
        have f1 := fun z : Lt W => z.cell d1
        have f2 := fun z : Lt W => z.cell d2
        clear hu hv c0 c1 c2 d0 d1 d2 hr hs
        have hq := run_neq_val u v
        by_cases huv : u = v
        · rw [decide_eq_true huv] at hq
          have HQ := Lib.hid huv
          clear huv
          go_wp2_with fail
          refine wp_region_pure _ (by kernel_rfl) (by kernel_rfl) ?_
          repeat (go_big_quiet_step (fail))
          refine wpQuiet_nil ?_; intro _ hw'; obtain ⟨z, rfl⟩ := hw'
          go_wp2_with fail
          go_roundw
          case rel => exact ⟨k + 1, z, rfl, by go_num, by omega, R.same_take HE.out HU.out (HQ.out ▸ HV.out)⟩
          case measure => simp [intOf]; omega
        · rw [decide_eq_false huv] at hq
          have HF := Lib.hid (decide_eq_false (R.same_not HU.out HV.out huv))
          clear huv
          go_wp2_with fail
          refine wp_region_pure _ (by kernel_rfl) (by kernel_rfl) ?_
          repeat (go_big_quiet_step (fail))
          refine wpQuiet_nil ?_; intro _ hw'; obtain ⟨z, rfl⟩ := hw'
          go_wp2_with fail
          go_ret
          exact ⟨ret_bool HF.out.symm, z, rfl⟩
      · obtain rfl : k = r.length := by omega
        have HF := Lib.hid (show decide (r = s) = true by
          have h := HE.out
          rw [List.take_of_length_le (Nat.le_refl _), List.take_of_length_le (by rw [HL.out]; exact Nat.le_refl _)] at h
          exact decide_eq_true h)
        go_wp2_with fail
        go_ret
        exact ⟨ret_bool HF.out.symm, y, rfl⟩
  · have hne : ((r.length : Int) != (s.length : Int)) = true := by simpa using (show ¬ (r.length : Int) = (s.length : Int) by omega)
    have HF := Lib.hid (show decide (r = s) = false from decide_eq_false (fun e => hl (by rw [e])))
    clear hl
    go_enter Tryd.func71, Tryd.ntmps71
    go_wp2_with fail
    go_ret
    exact ⟨ret_bool HF.out.symm, x, rfl⟩
set_option maxHeartbeats 1000000 in
theorem equal_any {A B : Option Addr} {r s : List Val} {ca cb : Nat} (hr : RowAt W A r) (hs : RowAt W B s) (h1 : r.length ≤ 1000000000) (x : Lt W) :
    Calls Tryd.prog 83 #[.slice A r.length ca, .slice B s.length cb] x.1 fun e w' => e = .returned (.bool (decide (r = s))) ∧ ∃ y : Lt W, w' = y.1 := by
  by_cases hl : r.length = s.length
  · have hne : ((r.length : Int) != (s.length : Int)) = false := by simp [hl]
    have HL := Lib.hid hl
    clear hl
    go_enter Tryd.func83, Tryd.ntmps83
    go_wp2_with fail
    go_loopw [13, 5] (fun i _ wr => ∃ (k : Nat) (y : Lt W), wr = y.1 ∧ i = .int .i64 k ∧ k ≤ r.length ∧ r.take k = s.take k) (fun i _ _ => r.length - (intOf i).toNat)
    case atStart => exact ⟨0, x, rfl, rfl, by omega, rfl⟩
    case round =>
      obtain ⟨k, y, rfl, rfl, hk, heq⟩ := hrel
      have HE := Lib.hid heq
      clear heq
      by_cases hlt : k < r.length
      · obtain ⟨u, v, b, o, b', o', hu, hv, rfl, rfl, ⟨c0, c1, c2⟩, d0, d1, d2⟩ := round_rows hr hs hlt HL.out
        have hks : k < s.length := by have := HL.out; omega
        have HU := Lib.hid hu
        have HV := Lib.hid hv
        have e0 := fun z : Lt W => z.cell c0
        have e1 := fun z : Lt W => z.cell c1
        have e2 := fun z : Lt W => z.cell c2
        have f0 := fun z : Lt W => z.cell d0
        have f1 := fun z : Lt W => z.cell d1
        have f2 := fun z : Lt W => z.cell d2
        clear hu hv c0 c1 c2 d0 d1 d2 hr hs
        have hq := run_neq_val u v
        by_cases huv : u = v
        · rw [decide_eq_true huv] at hq
          have HQ := Lib.hid huv
          clear huv
          go_wp2_with fail
          refine wp_region_pure _ (by kernel_rfl) (by kernel_rfl) ?_
          repeat (go_big_quiet_step (fail))
          refine wpQuiet_nil ?_; intro _ hw'; obtain ⟨z, rfl⟩ := hw'
          go_wp2_with fail
          go_roundw
          case rel => exact ⟨k + 1, z, rfl, by go_num, by omega, R.same_take HE.out HU.out (HQ.out ▸ HV.out)⟩
          case measure => simp [intOf]; omega
        · rw [decide_eq_false huv] at hq
          have HF := Lib.hid (decide_eq_false (R.same_not HU.out HV.out huv))
          clear huv
          go_wp2_with fail
          refine wp_region_pure _ (by kernel_rfl) (by kernel_rfl) ?_
          repeat (go_big_quiet_step (fail))
          refine wpQuiet_nil ?_; intro _ hw'; obtain ⟨z, rfl⟩ := hw'
          go_wp2_with fail
          go_ret
          exact ⟨ret_bool HF.out.symm, z, rfl⟩
      · obtain rfl : k = r.length := by omega
        have HF := Lib.hid (show decide (r = s) = true by
          have h := HE.out
          rw [List.take_of_length_le (Nat.le_refl _), List.take_of_length_le (by rw [HL.out]; exact Nat.le_refl _)] at h
          exact decide_eq_true h)
        go_wp2_with fail
        go_ret
        exact ⟨ret_bool HF.out.symm, y, rfl⟩
  · have hne : ((r.length : Int) != (s.length : Int)) = true := by simpa using (show ¬ (r.length : Int) = (s.length : Int) by omega)
    have HF := Lib.hid (show decide (r = s) = false from decide_eq_false (fun e => hl (by rw [e])))
    clear hl
    go_enter Tryd.func83, Tryd.ntmps83
    go_wp2_with fail
    go_ret
    exact ⟨ret_bool HF.out.symm, x, rfl⟩

theorem same_any {A B : Option Addr} {r s : List Val} {ca cb : Nat} (hr : RowAt W A r) (hs : RowAt W B s) (h1 : r.length ≤ 1000000000) (x : Lt W) :
    Calls Tryd.prog 70 #[.slice A r.length ca, .slice B s.length cb] x.1 fun e w' => e = .returned (.bool (decide (r = s))) ∧ ∃ y : Lt W, w' = y.1 := by
  go_enter Tryd.func70, Tryd.ntmps70
  go_wp2_with fail
  refine (equal_any hr hs h1 x).mono ?_; rintro e w' ⟨rfl, y, rfl⟩
  go_wp2_with fail
  go_ret
  exact ⟨rfl, y, rfl⟩
end Go.Proofs.YtghpildnajdlpaaDoor
