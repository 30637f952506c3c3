/-
  The statements PredHolds and PredChecks, walked: they return true. Conditions: the arguments lie in memory as they read.
-/
import Derived.Test.YtmhgebbmccklmaaAwake03
import Derived.Test.YtmhgebbmccklmaaRHolds
import Derived.Test.YtmhgebbmccklmaaRPart
import Derived.Test.YtmhgebbmccklmaaFew
import Derived.Test.YtmhgebbmccklmaaOpenP
namespace Go.Proofs.Ytmhgebbmccklmaa
open Go.RowKit
variable {W : World}

set_option maxHeartbeats 1000000 in
theorem predHolds_any {p : Pr} {A B : Option Addr} {ca cb : Nat} {r : List Val} (hat : p.At W A ca) (hr : RowAt W B r) (hfit : Fit r) (x : Lt W) :
    Calls Try.prog 3 #[p.arg A ca, .slice B r.length cb] x.1 fun e w' => e = .returned (.bool true) ∧ ∃ y : Lt W, w' = y.1 := by
  have HA := Lib.hid hat
  have HR := Lib.hid hr
  have HF := Lib.hid hfit
  clear hat hr hfit
  unfold Pr.arg
  go_enter Try.func3, Try.ntmps3
  go_wp2_with fail
  refine calls_here fun W1 hW1 => ?_
  have hb0 : Below W.heap.size W W1 := hW1 ▸ x.more _
  have b0 := fun z : Lt W1 => z.cell (show W1.cell? ⟨x.1.heap.size, 0, none⟩ = some (.int .i64 p.op) by rw [hW1, cell_new rfl]; rfl)
  have b1 := fun z : Lt W1 => z.cell (show W1.cell? ⟨x.1.heap.size, 1, none⟩ = some (.int .i64 p.col) by rw [hW1, cell_new rfl]; rfl)
  have b2 := fun z : Lt W1 => z.cell (show W1.cell? ⟨x.1.heap.size, 2, none⟩ = some (.bool p.v.t) by rw [hW1, cell_new rfl]; rfl)
  have b3 := fun z : Lt W1 => z.cell (show W1.cell? ⟨x.1.heap.size, 3, none⟩ = some (.int .i64 p.v.n) by rw [hW1, cell_new rfl]; rfl)
  have b4 := fun z : Lt W1 => z.cell (show W1.cell? ⟨x.1.heap.size, 4, none⟩ = some (.string p.v.s) by rw [hW1, cell_new rfl]; rfl)
  have b5 := fun z : Lt W1 => z.cell (show W1.cell? ⟨x.1.heap.size, 5, none⟩ = some (.bool p.w.t) by rw [hW1, cell_new rfl]; rfl)
  have b6 := fun z : Lt W1 => z.cell (show W1.cell? ⟨x.1.heap.size, 6, none⟩ = some (.int .i64 p.w.n) by rw [hW1, cell_new rfl]; rfl)
  have b7 := fun z : Lt W1 => z.cell (show W1.cell? ⟨x.1.heap.size, 7, none⟩ = some (.string p.w.s) by rw [hW1, cell_new rfl]; rfl)
  have b8 := fun z : Lt W1 => z.cell (show W1.cell? ⟨x.1.heap.size, 8, none⟩ = some (.slice A p.l.length ca) by rw [hW1, cell_new rfl]; rfl)
  clear hW1
  refine (awake_any (Lt.base W1)).mono ?_; rintro e w' ⟨rfl, y, rfl⟩
  go_wp2_with fail
  obtain ⟨s, hs⟩ : ∃ s, p.few 40 40 200 0 = s := ⟨_, rfl⟩
  refine (few_is hs y (HA.out.below hb0)).mono ?_; rintro e w' ⟨rfl, y, rfl⟩
  cases s
  · clear hs
    go_wp2_with fail
    go_ret
    exact ⟨rfl, y.via hb0, rfl⟩
  · have hsz := Pr.few_size hs
    clear hs
    by_cases hl : r.length ≤ 1000
    · have hd : decide ((1000 : Int) < r.length) = false := decide_eq_false (by omega)
      obtain ⟨h, hh⟩ : ∃ h, p.holds r = h := ⟨_, rfl⟩
      have C1 := Lib.hid (show ∀ z : Lt W1, Calls Try.prog 13 #[p.arg A ca, .slice B r.length cb] z.1 fun e w' => e = .returned (.bool h) ∧ ∃ y : Lt W1, w' = y.1 from fun z => hh ▸ holds_any (by omega) z (HA.out.below hb0) (HR.out.below hb0))
      have C2 := Lib.hid (show ∀ z : Lt W1, Calls Try.prog 14 #[p.arg A ca, .slice B r.length cb] z.1 fun e w' => e = .returned (.bool h) ∧ ∃ y : Lt W1, w' = y.1 from fun z => hh ▸ rholds_any r B cb HF.out p z (HA.out.below hb0) (HR.out.below hb0) (by omega))
      clear hh
      go_wp2_with fail
      refine wp_region_pure _ (by kernel_rfl) (by kernel_rfl) ?_
      repeat (go_big_quiet_step ((first | (go_at_call 13; exact C1.out _) | (go_at_call 14; exact C2.out _))))
      refine wpQuiet_nil ?_; intro _ hw'; obtain ⟨z, rfl⟩ := hw'
      go_wp2_with fail
      go_ret
      exact ⟨ret_bool (by simp), z.via hb0, rfl⟩
    · have hd : decide ((1000 : Int) < r.length) = true := decide_eq_true (by omega)
      have hd2 : (1000 : Int) < r.length := by omega
      clear hl
      go_wp2_with fail
      go_ret
      exact ⟨rfl, y.via hb0, rfl⟩

set_option maxHeartbeats 1000000 in
theorem predChecks_any {p : Pr} {A A0 : Option Addr} {ca ca0 : Nat} {t : List Bool} (ht : ColsAt W A0 t) (hat : p.At W A ca) (x : Lt W) :
    Calls Try.prog 4 #[.agg #[.slice A0 t.length ca0], p.arg A ca] x.1 fun e w' => e = .returned (.bool true) ∧ ∃ y : Lt W, w' = y.1 := by
  have HA := Lib.hid hat
  have HT := Lib.hid ht
  clear hat ht
  unfold Pr.arg
  go_enter Try.func4, Try.ntmps4
  go_wp2_with fail
  refine calls_here fun W1 hW1 => ?_
  have hb0 : Below W.heap.size W W1 := hW1 ▸ x.more2 _ _
  have t0 := fun z : Lt W1 => z.cell (show W1.cell? ⟨x.1.heap.size, 0, none⟩ = some (.slice A0 t.length ca0) by rw [hW1]; exact cell_old (by rw [cell_new rfl]; rfl))
  have b0 := fun z : Lt W1 => z.cell (show W1.cell? ⟨x.1.heap.size + 1, 0, none⟩ = some (.int .i64 p.op) by rw [hW1, cell_new (by simp)]; rfl)
  have b1 := fun z : Lt W1 => z.cell (show W1.cell? ⟨x.1.heap.size + 1, 1, none⟩ = some (.int .i64 p.col) by rw [hW1, cell_new (by simp)]; rfl)
  have b2 := fun z : Lt W1 => z.cell (show W1.cell? ⟨x.1.heap.size + 1, 2, none⟩ = some (.bool p.v.t) by rw [hW1, cell_new (by simp)]; rfl)
  have b3 := fun z : Lt W1 => z.cell (show W1.cell? ⟨x.1.heap.size + 1, 3, none⟩ = some (.int .i64 p.v.n) by rw [hW1, cell_new (by simp)]; rfl)
  have b4 := fun z : Lt W1 => z.cell (show W1.cell? ⟨x.1.heap.size + 1, 4, none⟩ = some (.string p.v.s) by rw [hW1, cell_new (by simp)]; rfl)
  have b5 := fun z : Lt W1 => z.cell (show W1.cell? ⟨x.1.heap.size + 1, 5, none⟩ = some (.bool p.w.t) by rw [hW1, cell_new (by simp)]; rfl)
  have b6 := fun z : Lt W1 => z.cell (show W1.cell? ⟨x.1.heap.size + 1, 6, none⟩ = some (.int .i64 p.w.n) by rw [hW1, cell_new (by simp)]; rfl)
  have b7 := fun z : Lt W1 => z.cell (show W1.cell? ⟨x.1.heap.size + 1, 7, none⟩ = some (.string p.w.s) by rw [hW1, cell_new (by simp)]; rfl)
  have b8 := fun z : Lt W1 => z.cell (show W1.cell? ⟨x.1.heap.size + 1, 8, none⟩ = some (.slice A p.l.length ca) by rw [hW1, cell_new (by simp)]; rfl)
  clear hW1
  refine (awake_any (Lt.base W1)).mono ?_; rintro e w' ⟨rfl, y, rfl⟩
  go_wp2_with fail
  obtain ⟨s, hs⟩ : ∃ s, p.few 40 40 200 0 = s := ⟨_, rfl⟩
  refine (few_is hs y (HA.out.below hb0)).mono ?_; rintro e w' ⟨rfl, y, rfl⟩
  cases s
  · clear hs
    go_wp2_with fail
    go_ret
    exact ⟨rfl, y.via hb0, rfl⟩
  · have hsz := Pr.few_size hs
    clear hs
    by_cases hl : t.length ≤ 1000
    · have hd : decide ((1000 : Int) < t.length) = false := decide_eq_false (by omega)
      have key : ∃ (y m : Bool) (er : Int), p.may t = y ∧ R.may t.length = m ∧ p.err t = er ∧ ((y = true ∧ m = true ∧ er = 0) ∨ (y = false ∧ m = true ∧ er = 30) ∨ (y = false ∧ m = false ∧ er = 1)) := by
        refine ⟨_, _, _, rfl, rfl, rfl, ?_⟩
        cases hm : R.may t.length
        · refine .inr (.inr ⟨?_, rfl, Pr.err_no hm⟩)
          unfold R.may at hm
          unfold Pr.may
          rw [hm]; rfl
        · cases hy : p.may t
          · exact .inr (.inl ⟨rfl, rfl, Pr.err_bad hm hy⟩)
          · exact .inl ⟨rfl, rfl, Pr.err_ok hm hy⟩
      obtain ⟨my, m, er, h1, h2, h3, h4⟩ := key
      have C1 := Lib.hid (show ∀ z : Lt W1, Calls Try.prog 15 #[.agg #[.slice A0 t.length ca0], p.arg A ca] z.1 fun e w' => e = .returned (.bool my) ∧ ∃ y : Lt W1, w' = y.1 from fun z => h1 ▸ rmay_any z (HT.out.below hb0) (HA.out.below hb0) (by omega))
      have C2 := Lib.hid (show ∀ z : Lt W1, Calls Try.prog 16 #[.agg #[.slice A0 t.length ca0]] z.1 fun e w' => e = .returned (.bool m) ∧ ∃ y : Lt W1, w' = y.1 from fun z => rmay_is h2 z)
      have C3 := Lib.hid (show ∀ z : Lt W1, Calls Try.prog 17 #[.agg #[.slice A0 t.length ca0], p.arg A ca] z.1 fun e w' => e = .returned (.int .i64 er) ∧ ∃ y : Lt W1, w' = y.1 from fun z => h3 ▸ pcheck_any z (HT.out.below hb0) (HA.out.below hb0) (by omega))
      have C4 := Lib.hid (show ∀ z : Lt W1, Calls Try.prog 18 #[p.arg A ca] z.1 fun e w' => e = .returned (.int .i64 (p.size : Int)) ∧ ∃ y : Lt W1, w' = y.1 from fun z => psize_any z (HA.out.below hb0) (by omega))
      have C5 := Lib.hid (show ∀ z : Lt W1, Calls Try.prog 19 #[p.arg A ca] z.1 fun e w' => e = .returned (.int .i64 (p.size : Int)) ∧ ∃ y : Lt W1, w' = y.1 from fun z => rsize_any p z (HA.out.below hb0) (by omega))
      clear h1 h2 h3
      rcases h4 with ⟨rfl, rfl, rfl⟩ | ⟨rfl, rfl, rfl⟩ | ⟨rfl, rfl, rfl⟩
      all_goals
        go_wp2_with fail
        refine (C1.out y).mono ?_; rintro e w' ⟨rfl, y2, rfl⟩
        go_wp2_with fail
        refine (C2.out y2).mono ?_; rintro e w' ⟨rfl, y3, rfl⟩
        go_wp2_with fail
        refine wp_region_pure _ (by kernel_rfl) (by kernel_rfl) ?_
        repeat (go_big_quiet_step ((first | (go_at_call 17; exact C3.out _) | (go_at_call 18; exact C4.out _) | (go_at_call 19; exact C5.out _))))
        refine wpQuiet_nil ?_; intro _ hw'; obtain ⟨z, rfl⟩ := hw'
        go_wp2_with fail
        go_ret
        exact ⟨ret_bool (by simp), z.via hb0, rfl⟩
    · have hd : decide ((1000 : Int) < t.length) = true := decide_eq_true (by omega)
      have hd2 : (1000 : Int) < t.length := by omega
      clear hl
      go_wp2_with fail
      go_ret
      exact ⟨rfl, y.via hb0, rfl⟩
end Go.Proofs.Ytmhgebbmccklmaa

