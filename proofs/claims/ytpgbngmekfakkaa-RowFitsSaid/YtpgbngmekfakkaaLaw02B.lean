/-
  The statement RowFits, walked: it returns true. Conditions: table, row and update lie in memory as they read.
-/
import Derived.Test.YtpgbngmekfakkaaOpen
namespace Go.Proofs.Ytpgbngmekfakkaa
open Go.RowKit
variable {W : World}

theorem fits_is {A B : Option Addr} {c : List Bool} {r : List Val} {ca cb : Nat} {b : Bool} (hc : ColsAt W A c) (hr : RowAt W B r) (h : R.fits c r = b) (x : Lt W) :
    Calls Try.prog 15 #[.agg #[.slice A c.length ca], .slice B r.length cb] x.1 fun e w' => e = .returned (.bool b) ∧ ∃ y : Lt W, w' = y.1 := h ▸ fits_any hc hr x
theorem rfits_is {A B : Option Addr} {c : List Bool} {r : List Val} {ca cb : Nat} {b : Bool} (hc : ColsAt W A c) (hr : RowAt W B r) (h : R.fits c r = b) (x : Lt W) :
    Calls Try.prog 16 #[.agg #[.slice A c.length ca], .slice B r.length cb] x.1 fun e w' => e = .returned (.bool b) ∧ ∃ y : Lt W, w' = y.1 := h ▸ rfits_row hc hr x
theorem check_is {A : Option Addr} {n c : Nat} {i : Int} (h : (if R.may n then 0 else 1) = i) (x : Lt W) : Calls Try.prog 13 #[.agg #[.slice A n c]] x.1 fun e w' => e = .returned (.int .i64 i) ∧ ∃ y : Lt W, w' = y.1 := by
  cases hm : R.may n
  · rw [hm] at h; subst h; exact check_no hm x
  · rw [hm] at h; subst h; exact check_yes hm x
theorem checkSets_is {A B : Option Addr} {c : List Bool} {l : List SetV} {ca cb : Nat} {i : Int} (hc : ColsAt W A c) (hs : SetsAt W B l) (h : errSets c l = i) (x : Lt W) :
    Calls Try.prog 14 #[.agg #[.slice A c.length ca], .slice B l.length cb] x.1 fun e w' => e = .returned (.int .i64 i) ∧ ∃ y : Lt W, w' = y.1 := h ▸ checkSets_any hc hs x
theorem rsets_is {A B : Option Addr} {c : List Bool} {l : List SetV} {ca cb : Nat} {b : Bool} (hc : ColsAt W A c) (hs : SetsAt W B l) (h : R.sets c l = b) (x : Lt W) :
    Calls Try.prog 17 #[.agg #[.slice A c.length ca], .slice B l.length cb] x.1 fun e w' => e = .returned (.bool b) ∧ ∃ y : Lt W, w' = y.1 := h ▸ rsets_any hc hs x

set_option maxHeartbeats 4000000 in
theorem rowFits_any {A B C : Option Addr} {c : List Bool} {r : List Val} {l : List SetV} {ca cb cc : Nat} (hc : ColsAt W A c) (hr : RowAt W B r) (hs : SetsAt W C l) (x : Lt W) :
    Calls Try.prog 3 #[.agg #[.slice A c.length ca], .slice B r.length cb, .slice C l.length cc] x.1 fun e w' => e = .returned (.bool true) ∧ ∃ y : Lt W, w' = y.1 := by
  go_enter Try.func3, Try.ntmps3
  go_wp2_with fail
  refine calls_here fun W1 hW1 => ?_
  have hb0 : Below W.heap.size W W1 := hW1 ▸ x.more _
  have hw1 : W1.cell? ⟨x.1.heap.size, 0, none⟩ = some (.slice A c.length ca) := by rw [hW1]; simp
  have zt := fun z : Lt W1 => z.cell hw1
  have hc1 := hc.below hb0
  have hr1 := hr.below hb0
  have hs1 := hs.below hb0
  clear hW1 hc hr hs hw1
  refine (awake_any (Lt.base W1)).mono ?_; rintro e w' ⟨rfl, y, rfl⟩
  go_wp2_with fail
  by_cases hbig : c.length ≤ 1000 ∧ r.length ≤ 1000 ∧ l.length ≤ 1000
  · refine (long_any hbig y).mono ?_; rintro e w' ⟨rfl, y, rfl⟩
    clear hbig
    obtain ⟨b, hb⟩ : ∃ b, R.fits c r = b := ⟨_, rfl⟩
    have HB := Lib.hid hb
    clear hb
    cases hm : R.may c.length
    · have HM := Lib.hid hm
      have HE := Lib.hid (show errSets c l = 1 by simp [errSets, hm])
      clear hm
      go_wp2_with fail
      refine (rmay_is HM.out y).mono ?_; rintro e w' ⟨rfl, y, rfl⟩
      go_wp2_with fail
      refine (check_no HM.out y).mono ?_; rintro e w' ⟨rfl, y, rfl⟩
      go_wp2_with fail
      refine (checkSets_is hc1 hs1 HE.out y).mono ?_; rintro e w' ⟨rfl, y, rfl⟩
      go_wp2_with fail
      refine wp_region_pure _ (by kernel_rfl) (by kernel_rfl) ?_
      repeat (go_big_quiet_step ((first | (go_at_call 15; exact fits_is hc1 hr1 HB.out _) | (go_at_call 16; exact rfits_is hc1 hr1 HB.out _))))
      refine wpQuiet_nil ?_; intro _ hw'; obtain ⟨z, rfl⟩ := hw'
      go_wp2_with fail
      go_ret
      exact ⟨rfl, z.via hb0, rfl⟩
    · have HM := Lib.hid hm
      cases hst : R.sets c l
      · have HE := Lib.hid (show errSets c l = 20 by simp [errSets, hm, hst])
        have HS := Lib.hid hst
        clear hm hst
        go_wp2_with fail
        refine (rmay_is HM.out y).mono ?_; rintro e w' ⟨rfl, y, rfl⟩
        go_wp2_with fail
        refine (check_yes HM.out y).mono ?_; rintro e w' ⟨rfl, y, rfl⟩
        go_wp2_with fail
        refine (checkSets_is hc1 hs1 HE.out y).mono ?_; rintro e w' ⟨rfl, y, rfl⟩
        go_wp2_with fail
        refine wp_region_pure _ (by kernel_rfl) (by kernel_rfl) ?_
        repeat (go_big_quiet_step ((first | (go_at_call 15; exact fits_is hc1 hr1 HB.out _) | (go_at_call 16; exact rfits_is hc1 hr1 HB.out _))))
        refine wpQuiet_nil ?_; intro _ hw'; obtain ⟨z, rfl⟩ := hw'
        go_wp2_with fail
        refine (rsets_is hc1 hs1 HS.out z).mono ?_; rintro e w' ⟨rfl, z, rfl⟩
        go_wp2_with fail
        go_ret
        exact ⟨rfl, z.via hb0, rfl⟩
      · have HE := Lib.hid (show errSets c l = 0 by simp [errSets, hm, hst])
        have HS := Lib.hid hst
        clear hm hst
        go_wp2_with fail
        refine (rmay_is HM.out y).mono ?_; rintro e w' ⟨rfl, y, rfl⟩
        go_wp2_with fail
        refine (check_yes HM.out y).mono ?_; rintro e w' ⟨rfl, y, rfl⟩
        go_wp2_with fail
        refine (checkSets_is hc1 hs1 HE.out y).mono ?_; rintro e w' ⟨rfl, y, rfl⟩
        go_wp2_with fail
        refine wp_region_pure _ (by kernel_rfl) (by kernel_rfl) ?_
        repeat (go_big_quiet_step ((first | (go_at_call 15; exact fits_is hc1 hr1 HB.out _) | (go_at_call 16; exact rfits_is hc1 hr1 HB.out _))))
        refine wpQuiet_nil ?_; intro _ hw'; obtain ⟨z, rfl⟩ := hw'
        go_wp2_with fail
        refine (rsets_is hc1 hs1 HS.out z).mono ?_; rintro e w' ⟨rfl, z, rfl⟩
        go_wp2_with fail
        go_ret
        exact ⟨rfl, z.via hb0, rfl⟩
  · refine (long_big hbig y).mono ?_; rintro e w' ⟨rfl, y, rfl⟩
    go_wp2_with fail
    go_ret
    exact ⟨rfl, y.via hb0, rfl⟩
end Go.Proofs.Ytpgbngmekfakkaa
