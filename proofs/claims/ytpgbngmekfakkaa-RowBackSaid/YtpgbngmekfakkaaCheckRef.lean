/-
  Whether an update may be a table's: the document's answer. Condition: table and update lie in memory as they read.
-/
import Derived.Test.YtpgbngmekfakkaaCheck
namespace Go.Proofs.Ytpgbngmekfakkaa
open Go.RowKit
variable {W : World}

theorem R.met_true {l : List SetV} {k j : Nat} {s : SetV} {i : Int} (hj : j < k) (hs : l[j]? = some s) (h : s.col = i) : R.met l k i = true := by
  unfold R.met
  rw [List.any_eq_true]
  exact ⟨j, List.mem_range.2 hj, by rw [hs]; simpa using h⟩

theorem rsets_long {A B : Option Addr} {c : List Bool} {l : List SetV} {ca cb : Nat} (hl : 3 < l.length) (x : Lt W) :
    Calls Try.prog 17 #[.agg #[.slice A c.length ca], .slice B l.length cb] x.1 fun e w' => e = .returned (.bool (R.sets c l)) ∧ ∃ y : Lt W, w' = y.1 := by
  have HF := Lib.hid (show R.sets c l = false by unfold R.sets; rw [decide_eq_false (by omega)]; rfl)
  have hl' : (3 : Int) < l.length := by omega
  go_enter Try.func17, Try.ntmps17
  go_wp2_with fail
  go_ret
  exact ⟨ret_bool HF.out.symm, x.end_ (below_alloc _)⟩

set_option maxHeartbeats 4000000 in
theorem rsets_short {A B : Option Addr} {c : List Bool} {l : List SetV} {ca cb : Nat} (hc : ColsAt W A c) (hs : SetsAt W B l) (hl : l.length ≤ 3) (x : Lt W) :
    Calls Try.prog 17 #[.agg #[.slice A c.length ca], .slice B l.length cb] x.1 fun e w' => e = .returned (.bool (R.sets c l)) ∧ ∃ y : Lt W, w' = y.1 := by
  have hF : R.sets c l = (List.range l.length).all (R.setOk c l) := by
    simp only [R.sets, decide_eq_true hl, Bool.true_and]
  have HF := Lib.hid hF
  have hl' : (l.length : Int) ≤ 3 := by omega
  clear hF
  go_enter Try.func17, Try.ntmps17
  go_wp2_with fail
  have hb0 : Below W.heap.size W (x.1.alloc (.cells #[.slice A c.length ca] 24)) := x.more _
  have hw0 : (x.1.alloc (.cells #[.slice A c.length ca] 24)).cell? ⟨x.1.heap.size, 0, none⟩ = some (.slice A c.length ca) := by simp
  refine wp_here fun W1 hW1 => ?_
  rw [← hW1] at hb0 hw0
  have z0 := fun z : Lt W1 => z.cell hw0
  have hcW := hc.below hb0
  have hsW := hs.below hb0
  clear hW1 hw0
  go_loopw [5, 6, 7] (fun i _ _ wr => ∃ (k : Nat) (y : Lt W1), wr = y.1 ∧ i = .int .i64 k ∧ k ≤ l.length ∧ (List.range k).all (R.setOk c l) = true) (fun i _ _ _ => l.length - (intOf i).toNat)
  case atStart => exact ⟨0, Lt.base W1, rfl, rfl, by omega, rfl⟩
  case round =>
    obtain ⟨k, y, rfl, rfl, hk, hall⟩ := hrel
    have HA := Lib.hid hall
    clear hall
    by_cases hlt : k < l.length
    · obtain ⟨b, o, s, rfl, hsk, c0, c1, c2, c3, c4, c5, c6⟩ := hsW.at_ hlt
      have y0 := fun z : Lt W1 => z.cell c0
      have y1 := fun z : Lt W1 => z.cell c1
      have y2 := fun z : Lt W1 => z.cell c2
      have y3 := fun z : Lt W1 => z.cell c3
      have y4 := fun z : Lt W1 => z.cell c4
      have y5 := fun z : Lt W1 => z.cell c5
      have y6 := fun z : Lt W1 => z.cell c6
      clear c0 c1 c2 c3 c4 c5 c6
      have hok : R.setOk c l k = (R.maySet c s && !R.met l k s.col) := by simp [R.setOk, hsk]
      have HO := Lib.hid hok
      have HS := Lib.hid hsk
      clear hok hsk
      cases hmy : R.maySet c s
      · have HY := Lib.hid hmy
        have HF2 := Lib.hid (show R.sets c l = false by
          rw [HF.out, R.all_no hlt (f := R.setOk c l) (by rw [HO.out, HY.out]; rfl)])
        clear hmy
        go_wp2_with fail
        refine wp_region_pure _ (by kernel_rfl) (by kernel_rfl) ?_
        repeat (go_big_quiet_step ((go_at_call 26; exact set_is hcW HY.out _)))
        refine wpQuiet_nil ?_; intro _ hw'; obtain ⟨z, rfl⟩ := hw'
        go_wp2_with fail
        go_ret
        exact ⟨ret_bool HF2.out.symm, z.via hb0, rfl⟩
      · have HY := Lib.hid hmy
        clear hmy
        go_wp2_with fail
        refine wp_region_pure _ (by kernel_rfl) (by kernel_rfl) ?_
        repeat (go_big_quiet_step ((go_at_call 26; exact set_is hcW HY.out _)))
        refine wpQuiet_nil ?_; intro _ hw'; obtain ⟨z, rfl⟩ := hw'
        go_wp2_with fail
        go_loopw [7] (fun j wr => ∃ (m : Nat) (y : Lt W1), wr = y.1 ∧ j = .int .i64 m ∧ m ≤ k ∧ R.met l m s.col = false) (fun j _ => k - (intOf j).toNat)
        case atStart => exact ⟨0, z, rfl, rfl, by omega, rfl⟩
        case round =>
          obtain ⟨m, z, rfl, rfl, hm, hmet⟩ := hrel
          have HM := Lib.hid hmet
          clear hmet
          by_cases hmk : m < k
          · obtain ⟨b', o', s', hA, hsm, d0, _, _, _, _, _, _⟩ := hsW.at_ (show m < l.length by omega)
            simp only [Option.some.injEq, Addr.mk.injEq, and_true] at hA
            obtain ⟨rfl, rfl⟩ := hA
            have hml : m < l.length := by omega
            have x0 := fun z : Lt W1 => z.cell d0
            clear d0
            by_cases heq : s'.col = s.col
            · have n1 : (s'.col == s.col) = true := by simpa using heq
              have HF2 := Lib.hid (show R.sets c l = false by
                rw [HF.out, R.all_no hlt (f := R.setOk c l) (by rw [HO.out, R.met_true hmk hsm heq]; simp)])
              clear heq hsm
              go_wp2_with fail
              refine wp_region_pure _ (by kernel_rfl) (by kernel_rfl) ?_
              repeat (go_big_quiet_step (fail))
              refine wpQuiet_nil ?_; intro _ hw'; obtain ⟨z, rfl⟩ := hw'
              go_wp2_with fail
              go_ret
              exact ⟨ret_bool HF2.out.symm, z.via hb0, rfl⟩
            · have n1 : (s'.col == s.col) = false := by simpa using heq
              have HN := Lib.hid heq
              have HSM := Lib.hid hsm
              clear heq hsm
              go_wp2_with fail
              refine wp_region_pure _ (by kernel_rfl) (by kernel_rfl) ?_
              repeat (go_big_quiet_step (fail))
              refine wpQuiet_nil ?_; intro _ hw'; obtain ⟨z, rfl⟩ := hw'
              go_wp2_with fail
              go_roundw
              case rel => exact ⟨m + 1, z, rfl, by go_num, by omega, by rw [R.met_succ HSM.out, HM.out, decide_eq_false HN.out]; rfl⟩
              case measure => simp [intOf]; omega
          · obtain rfl : m = k := by omega
            go_wp2_with fail
            go_roundw
            case rel => exact ⟨m + 1, z, rfl, by go_num, by omega, R.all_succ HA.out (by rw [HO.out, HY.out, HM.out]; rfl)⟩
            case measure => simp [intOf]; omega
    · obtain rfl : k = l.length := by omega
      have HF2 := Lib.hid (show R.sets c l = true by rw [HF.out, HA.out])
      go_wp2_with fail
      go_ret
      exact ⟨ret_bool HF2.out.symm, y.via hb0, rfl⟩

theorem rsets_any {A B : Option Addr} {c : List Bool} {l : List SetV} {ca cb : Nat} (hc : ColsAt W A c) (hs : SetsAt W B l) (x : Lt W) :
    Calls Try.prog 17 #[.agg #[.slice A c.length ca], .slice B l.length cb] x.1 fun e w' => e = .returned (.bool (R.sets c l)) ∧ ∃ y : Lt W, w' = y.1 := by
  by_cases hl : l.length ≤ 3
  · exact rsets_short hc hs hl x
  · exact rsets_long (by omega) x
end Go.Proofs.Ytpgbngmekfakkaa
