/-
  The document's example of predicates: the program answers it as the document says.
-/
import Derived.Test.YtmhgebbmccklmaaHolds
import Derived.Test.YtmhgebbmccklmaaPrCheck
import Derived.Test.YtmhgebbmccklmaaSame
import Derived.Test.YtmhgebbmccklmaaPrClone
import Derived.Deep.RegionHeld3
namespace Go.Proofs.Ytmhgebbmccklmaa
open Go.RowKit
variable {W : World}

def awV (n : Int) : Val := ⟨false, n, ⟨#[]⟩⟩
def awP : Pr := .mk 9 1 (awV 3) (awV 5) []
def awN : Pr := .mk 10 0 (awV 0) (awV 0) [awP]
def awO : Pr := .mk 10 0 (awV 0) (awV 0) []
def awT : List Bool := [false, false]
def awR : List Val := [awV 1, awV 5]
theorem aw_1 : awP.holds awR = true := by decide +kernel
theorem aw_2 : awN.holds awR = false := by decide +kernel
theorem aw_3 : awN.err awT = 0 := by decide +kernel
theorem aw_4 : awN.size = 2 := by decide +kernel
theorem aw_5 : awO.err awT = 30 := by decide +kernel
theorem aw_s1 : awP.size = 1 := by decide +kernel
theorem aw_s5 : awO.size = 1 := by decide +kernel

set_option maxHeartbeats 4000000 in
theorem awake_any (x : Lt W) : Calls Try.prog 11 #[] x.1 fun e w' => e = .returned (.bool true) ∧ ∃ y : Lt W, w' = y.1 := by
  go_enter Try.func11, Try.ntmps11
  go_wp2_with fail
  refine wp_here fun W1 hW1 => ?_
  have k0 : W1.cell? ⟨x.1.heap.size + 1, 0, none⟩ = some (.slice (some ⟨x.1.heap.size, 0, none⟩) 2 2) := by rw [hW1]; exact cell_old (cell_old (cell_old (cell_old (by rw [cell_new (by simp)]; rfl))))
  have k1 : W1.cell? ⟨x.1.heap.size + 1 + 1, 0, none⟩ = some (.int .i64 9) := by rw [hW1]; exact cell_old (cell_old (cell_old (by rw [cell_new (by simp)]; rfl)))
  have k2 : W1.cell? ⟨x.1.heap.size + 1 + 1, 1, none⟩ = some (.int .i64 1) := by rw [hW1]; exact cell_old (cell_old (cell_old (by rw [cell_new (by simp)]; rfl)))
  have k3 : W1.cell? ⟨x.1.heap.size + 1 + 1, 2, none⟩ = some (.bool false) := by rw [hW1]; exact cell_old (cell_old (cell_old (by rw [cell_new (by simp)]; rfl)))
  have k4 : W1.cell? ⟨x.1.heap.size + 1 + 1, 3, none⟩ = some (.int .i64 3) := by rw [hW1]; exact cell_old (cell_old (cell_old (by rw [cell_new (by simp)]; rfl)))
  have k5 : W1.cell? ⟨x.1.heap.size + 1 + 1, 4, none⟩ = some (.string ⟨#[]⟩) := by rw [hW1]; exact cell_old (cell_old (cell_old (by rw [cell_new (by simp)]; rfl)))
  have k6 : W1.cell? ⟨x.1.heap.size + 1 + 1, 5, none⟩ = some (.bool false) := by rw [hW1]; exact cell_old (cell_old (cell_old (by rw [cell_new (by simp)]; rfl)))
  have k7 : W1.cell? ⟨x.1.heap.size + 1 + 1, 6, none⟩ = some (.int .i64 5) := by rw [hW1]; exact cell_old (cell_old (cell_old (by rw [cell_new (by simp)]; rfl)))
  have k8 : W1.cell? ⟨x.1.heap.size + 1 + 1, 7, none⟩ = some (.string ⟨#[]⟩) := by rw [hW1]; exact cell_old (cell_old (cell_old (by rw [cell_new (by simp)]; rfl)))
  have k9 : W1.cell? ⟨x.1.heap.size + 1 + 1, 8, none⟩ = some (.slice none 0 0) := by rw [hW1]; exact cell_old (cell_old (cell_old (by rw [cell_new (by simp)]; rfl)))
  have k10 : W1.cell? ⟨x.1.heap.size + 1 + 1 + 1 + 1, 0, none⟩ = some (.int .i64 10) := by rw [hW1]; exact cell_old (by rw [cell_new (by simp)]; rfl)
  have k11 : W1.cell? ⟨x.1.heap.size + 1 + 1 + 1 + 1, 1, none⟩ = some (.int .i64 0) := by rw [hW1]; exact cell_old (by rw [cell_new (by simp)]; rfl)
  have k12 : W1.cell? ⟨x.1.heap.size + 1 + 1 + 1 + 1, 2, none⟩ = some (.bool false) := by rw [hW1]; exact cell_old (by rw [cell_new (by simp)]; rfl)
  have k13 : W1.cell? ⟨x.1.heap.size + 1 + 1 + 1 + 1, 3, none⟩ = some (.int .i64 0) := by rw [hW1]; exact cell_old (by rw [cell_new (by simp)]; rfl)
  have k14 : W1.cell? ⟨x.1.heap.size + 1 + 1 + 1 + 1, 4, none⟩ = some (.string ⟨#[]⟩) := by rw [hW1]; exact cell_old (by rw [cell_new (by simp)]; rfl)
  have k15 : W1.cell? ⟨x.1.heap.size + 1 + 1 + 1 + 1, 5, none⟩ = some (.bool false) := by rw [hW1]; exact cell_old (by rw [cell_new (by simp)]; rfl)
  have k16 : W1.cell? ⟨x.1.heap.size + 1 + 1 + 1 + 1, 6, none⟩ = some (.int .i64 0) := by rw [hW1]; exact cell_old (by rw [cell_new (by simp)]; rfl)
  have k17 : W1.cell? ⟨x.1.heap.size + 1 + 1 + 1 + 1, 7, none⟩ = some (.string ⟨#[]⟩) := by rw [hW1]; exact cell_old (by rw [cell_new (by simp)]; rfl)
  have k18 : W1.cell? ⟨x.1.heap.size + 1 + 1 + 1 + 1, 8, none⟩ = some (.slice (some ⟨x.1.heap.size + 1 + 1 + 1, 0, none⟩) 1 1) := by rw [hW1]; exact cell_old (by rw [cell_new (by simp)]; rfl)
  have hb1 : Below W.heap.size W W1 := by
    rw [hW1]
    exact below_then (below_then (below_then (below_then (below_then (x.more _) (below_alloc _)) (below_alloc _)) (below_alloc _)) (below_alloc _)) (below_alloc _)
  have hT : ∀ w', Below W1.heap.size W1 w' → Below W1.heap.size W1 w' ∧ w'.cell? ⟨x.1.heap.size + 1, 0, none⟩ = some (.slice (some ⟨x.1.heap.size, 0, none⟩) 2 2) ∧ w'.cell? ⟨x.1.heap.size + 1 + 1, 0, none⟩ = some (.int .i64 9) ∧ w'.cell? ⟨x.1.heap.size + 1 + 1, 1, none⟩ = some (.int .i64 1) ∧ w'.cell? ⟨x.1.heap.size + 1 + 1, 2, none⟩ = some (.bool false) ∧ w'.cell? ⟨x.1.heap.size + 1 + 1, 3, none⟩ = some (.int .i64 3) ∧ w'.cell? ⟨x.1.heap.size + 1 + 1, 4, none⟩ = some (.string ⟨#[]⟩) ∧ w'.cell? ⟨x.1.heap.size + 1 + 1, 5, none⟩ = some (.bool false) ∧ w'.cell? ⟨x.1.heap.size + 1 + 1, 6, none⟩ = some (.int .i64 5) ∧ w'.cell? ⟨x.1.heap.size + 1 + 1, 7, none⟩ = some (.string ⟨#[]⟩) ∧ w'.cell? ⟨x.1.heap.size + 1 + 1, 8, none⟩ = some (.slice none 0 0) ∧ w'.cell? ⟨x.1.heap.size + 1 + 1 + 1 + 1, 0, none⟩ = some (.int .i64 10) ∧ w'.cell? ⟨x.1.heap.size + 1 + 1 + 1 + 1, 1, none⟩ = some (.int .i64 0) ∧ w'.cell? ⟨x.1.heap.size + 1 + 1 + 1 + 1, 2, none⟩ = some (.bool false) ∧ w'.cell? ⟨x.1.heap.size + 1 + 1 + 1 + 1, 3, none⟩ = some (.int .i64 0) ∧ w'.cell? ⟨x.1.heap.size + 1 + 1 + 1 + 1, 4, none⟩ = some (.string ⟨#[]⟩) ∧ w'.cell? ⟨x.1.heap.size + 1 + 1 + 1 + 1, 5, none⟩ = some (.bool false) ∧ w'.cell? ⟨x.1.heap.size + 1 + 1 + 1 + 1, 6, none⟩ = some (.int .i64 0) ∧ w'.cell? ⟨x.1.heap.size + 1 + 1 + 1 + 1, 7, none⟩ = some (.string ⟨#[]⟩) ∧ w'.cell? ⟨x.1.heap.size + 1 + 1 + 1 + 1, 8, none⟩ = some (.slice (some ⟨x.1.heap.size + 1 + 1 + 1, 0, none⟩) 1 1) := fun w' h => ⟨h, (h.cell (cell_lt k0)).trans k0, (h.cell (cell_lt k1)).trans k1, (h.cell (cell_lt k2)).trans k2, (h.cell (cell_lt k3)).trans k3, (h.cell (cell_lt k4)).trans k4, (h.cell (cell_lt k5)).trans k5, (h.cell (cell_lt k6)).trans k6, (h.cell (cell_lt k7)).trans k7, (h.cell (cell_lt k8)).trans k8, (h.cell (cell_lt k9)).trans k9, (h.cell (cell_lt k10)).trans k10, (h.cell (cell_lt k11)).trans k11, (h.cell (cell_lt k12)).trans k12, (h.cell (cell_lt k13)).trans k13, (h.cell (cell_lt k14)).trans k14, (h.cell (cell_lt k15)).trans k15, (h.cell (cell_lt k16)).trans k16, (h.cell (cell_lt k17)).trans k17, (h.cell (cell_lt k18)).trans k18⟩
  have hc : ColsAt W1 (some ⟨x.1.heap.size, 0, none⟩) awT := fun _ => ⟨_, 0, rfl, fun i u hu => by
    match i, hu with
    | 0, hu | 1, hu => simp [awT] at hu; subst hu; rw [hW1]; exact cell_old (cell_old (cell_old (cell_old (cell_old (by rw [cell_new rfl]; rfl)))))
    | i + 2, hu => simp [awT] at hu⟩
  have hr : RowAt W1 (some ⟨x.1.heap.size + 1 + 1 + 1 + 1 + 1, 0, none⟩) awR := fun _ => ⟨_, 0, rfl, fun i u hu => by
    match i, hu with
    | 0, hu | 1, hu => simp [awR] at hu; subst hu; rw [hW1]; exact ⟨by rw [cell_new (by simp)]; rfl, by rw [cell_new (by simp)]; rfl, by rw [cell_new (by simp)]; rfl⟩
    | i + 2, hu => simp [awR] at hu⟩
  have hp : ∀ W : World, awP.At W none 0 := fun W => Pr.at_mk.2 ⟨fun _ => rfl, fun h => absurd rfl h⟩
  have ho : ∀ W : World, awO.At W none 0 := fun W => Pr.at_mk.2 ⟨fun _ => rfl, fun h => absurd rfl h⟩
  have hn : awN.At W1 (some ⟨x.1.heap.size + 1 + 1 + 1, 0, none⟩) 1 := Pr.at_mk.2 ⟨fun e => (by cases e), fun _ => ⟨_, 0, rfl, fun i q hq => by
    match i, hq with
    | 0, hq =>
      simp at hq; subst hq
      refine ⟨none, 0, ?_, hp _⟩
      rw [hW1]
      exact ⟨cell_old (cell_old (by rw [cell_new (by simp)]; rfl)), cell_old (cell_old (by rw [cell_new (by simp)]; rfl)), cell_old (cell_old (by rw [cell_new (by simp)]; rfl)), cell_old (cell_old (by rw [cell_new (by simp)]; rfl)), cell_old (cell_old (by rw [cell_new (by simp)]; rfl)), cell_old (cell_old (by rw [cell_new (by simp)]; rfl)), cell_old (cell_old (by rw [cell_new (by simp)]; rfl)), cell_old (cell_old (by rw [cell_new (by simp)]; rfl)), cell_old (cell_old (by rw [cell_new (by simp)]; rfl))⟩
    | i + 1, hq => simp at hq⟩⟩
  clear hW1 k0 k1 k2 k3 k4 k5 k6 k7 k8 k9 k10 k11 k12 k13 k14 k15 k16 k17 k18
  have C1 := Lib.hid (show ∀ w, Below W1.heap.size W1 w → Calls Try.prog 13 #[.agg #[.int .i64 9, .int .i64 1, .bool false, .int .i64 3, .string ⟨#[]⟩, .bool false, .int .i64 5, .string ⟨#[]⟩, .slice none 0 0], .slice (some ⟨x.1.heap.size + 1 + 1 + 1 + 1 + 1, 0, none⟩) 2 2] w fun e w' => e = .returned (.bool true) ∧ Below w.heap.size w w' from fun w h => by
    have := holds_any (p := awP) (r := awR) (cb := 2) (by rw [aw_s1]; omega) (Lt.base w) (hp w) (hr.below h)
    rw [aw_1] at this
    exact this.mono fun e w' ⟨h1, y, h2⟩ => ⟨h1, h2 ▸ y.2⟩)
  have C2 := Lib.hid (show ∀ w, Below W1.heap.size W1 w → Calls Try.prog 13 #[.agg #[.int .i64 10, .int .i64 0, .bool false, .int .i64 0, .string ⟨#[]⟩, .bool false, .int .i64 0, .string ⟨#[]⟩, .slice (some ⟨x.1.heap.size + 1 + 1 + 1, 0, none⟩) 1 1], .slice (some ⟨x.1.heap.size + 1 + 1 + 1 + 1 + 1, 0, none⟩) 2 2] w fun e w' => e = .returned (.bool false) ∧ Below w.heap.size w w' from fun w h => by
    have := holds_any (p := awN) (r := awR) (cb := 2) (by rw [aw_4]; omega) (Lt.base w) (hn.below h) (hr.below h)
    rw [aw_2] at this
    exact this.mono fun e w' ⟨h1, y, h2⟩ => ⟨h1, h2 ▸ y.2⟩)
  have C3 := Lib.hid (show ∀ w, Below W1.heap.size W1 w → Calls Try.prog 17 #[.agg #[.slice (some ⟨x.1.heap.size, 0, none⟩) 2 2], .agg #[.int .i64 10, .int .i64 0, .bool false, .int .i64 0, .string ⟨#[]⟩, .bool false, .int .i64 0, .string ⟨#[]⟩, .slice (some ⟨x.1.heap.size + 1 + 1 + 1, 0, none⟩) 1 1]] w fun e w' => e = .returned (.int .i64 0) ∧ Below w.heap.size w w' from fun w h => by
    have := pcheck_any (t := awT) (ca0 := 2) (Lt.base w) (hc.below h) (hn.below h) (by rw [aw_4]; omega)
    rw [aw_3] at this
    exact this.mono fun e w' ⟨h1, y, h2⟩ => ⟨h1, h2 ▸ y.2⟩)
  have C4 := Lib.hid (show ∀ w, Below W1.heap.size W1 w → Calls Try.prog 18 #[.agg #[.int .i64 10, .int .i64 0, .bool false, .int .i64 0, .string ⟨#[]⟩, .bool false, .int .i64 0, .string ⟨#[]⟩, .slice (some ⟨x.1.heap.size + 1 + 1 + 1, 0, none⟩) 1 1]] w fun e w' => e = .returned (.int .i64 2) ∧ Below w.heap.size w w' from fun w h => by
    have := psize_any (Lt.base w) (hn.below h) (by rw [aw_4]; omega)
    rw [aw_4] at this
    exact this.mono fun e w' ⟨h1, y, h2⟩ => ⟨h1, h2 ▸ y.2⟩)
  have C5 := Lib.hid (show ∀ w, Below W1.heap.size W1 w → Calls Try.prog 20 #[.agg #[.int .i64 10, .int .i64 0, .bool false, .int .i64 0, .string ⟨#[]⟩, .bool false, .int .i64 0, .string ⟨#[]⟩, .slice (some ⟨x.1.heap.size + 1 + 1 + 1, 0, none⟩) 1 1]] w (PCloned w awN) from fun w h => pclone_all awN (by rw [aw_4]; omega) w _ _ (hn.below h))
  have C6 := Lib.hid (show ∀ w A' ca', Below W1.heap.size W1 w → awN.At w A' ca' → Calls Try.prog 22 #[.agg #[.int .i64 10, .int .i64 0, .bool false, .int .i64 0, .string ⟨#[]⟩, .bool false, .int .i64 0, .string ⟨#[]⟩, .slice A' 1 ca'], .agg #[.int .i64 10, .int .i64 0, .bool false, .int .i64 0, .string ⟨#[]⟩, .bool false, .int .i64 0, .string ⟨#[]⟩, .slice (some ⟨x.1.heap.size + 1 + 1 + 1, 0, none⟩) 1 1]] w fun e w' => e = .returned (.bool true) ∧ Below w.heap.size w w' from fun w A' ca' h ha => by
    have := psame_any (Lt.base w) ha (hn.below h) (by rw [aw_4]; omega)
    rw [Pr.same_self] at this
    exact this.mono fun e w' ⟨h1, y, h2⟩ => ⟨h1, h2 ▸ y.2⟩)
  have C7 := Lib.hid (show ∀ w, Below W1.heap.size W1 w → Calls Try.prog 17 #[.agg #[.slice (some ⟨x.1.heap.size, 0, none⟩) 2 2], .agg #[.int .i64 10, .int .i64 0, .bool false, .int .i64 0, .string ⟨#[]⟩, .bool false, .int .i64 0, .string ⟨#[]⟩, .slice none 0 0]] w fun e w' => e = .returned (.int .i64 30) ∧ Below w.heap.size w w' from fun w h => by
    have := pcheck_any (t := awT) (ca0 := 2) (Lt.base w) (hc.below h) (ho w) (by rw [aw_s5]; omega)
    rw [aw_5] at this
    exact this.mono fun e w' ⟨h1, y, h2⟩ => ⟨h1, h2 ▸ y.2⟩)
  clear hc hr hp ho hn
  go_region_held3 (fun w' => Below W1.heap.size W1 w' ∧ w'.cell? ⟨x.1.heap.size + 1, 0, none⟩ = some (.slice (some ⟨x.1.heap.size, 0, none⟩) 2 2) ∧ w'.cell? ⟨x.1.heap.size + 1 + 1, 0, none⟩ = some (.int .i64 9) ∧ w'.cell? ⟨x.1.heap.size + 1 + 1, 1, none⟩ = some (.int .i64 1) ∧ w'.cell? ⟨x.1.heap.size + 1 + 1, 2, none⟩ = some (.bool false) ∧ w'.cell? ⟨x.1.heap.size + 1 + 1, 3, none⟩ = some (.int .i64 3) ∧ w'.cell? ⟨x.1.heap.size + 1 + 1, 4, none⟩ = some (.string ⟨#[]⟩) ∧ w'.cell? ⟨x.1.heap.size + 1 + 1, 5, none⟩ = some (.bool false) ∧ w'.cell? ⟨x.1.heap.size + 1 + 1, 6, none⟩ = some (.int .i64 5) ∧ w'.cell? ⟨x.1.heap.size + 1 + 1, 7, none⟩ = some (.string ⟨#[]⟩) ∧ w'.cell? ⟨x.1.heap.size + 1 + 1, 8, none⟩ = some (.slice none 0 0) ∧ w'.cell? ⟨x.1.heap.size + 1 + 1 + 1 + 1, 0, none⟩ = some (.int .i64 10) ∧ w'.cell? ⟨x.1.heap.size + 1 + 1 + 1 + 1, 1, none⟩ = some (.int .i64 0) ∧ w'.cell? ⟨x.1.heap.size + 1 + 1 + 1 + 1, 2, none⟩ = some (.bool false) ∧ w'.cell? ⟨x.1.heap.size + 1 + 1 + 1 + 1, 3, none⟩ = some (.int .i64 0) ∧ w'.cell? ⟨x.1.heap.size + 1 + 1 + 1 + 1, 4, none⟩ = some (.string ⟨#[]⟩) ∧ w'.cell? ⟨x.1.heap.size + 1 + 1 + 1 + 1, 5, none⟩ = some (.bool false) ∧ w'.cell? ⟨x.1.heap.size + 1 + 1 + 1 + 1, 6, none⟩ = some (.int .i64 0) ∧ w'.cell? ⟨x.1.heap.size + 1 + 1 + 1 + 1, 7, none⟩ = some (.string ⟨#[]⟩) ∧ w'.cell? ⟨x.1.heap.size + 1 + 1 + 1 + 1, 8, none⟩ = some (.slice (some ⟨x.1.heap.size + 1 + 1 + 1, 0, none⟩) 1 1)) (first | exact hT _ (below_then (And.left ‹Below W1.heap.size W1 _ ∧ _›) hb4) | exact hT _ ((Below.refl _ _).drew)) (first | (go_at_call 13; first | ((with_reducible refine (C1.out _ (And.left ‹Below W1.heap.size W1 _ ∧ _›)).mono ?_); rintro e w4 ⟨rfl, hb4⟩) | ((with_reducible refine (C2.out _ (And.left ‹Below W1.heap.size W1 _ ∧ _›)).mono ?_); rintro e w4 ⟨rfl, hb4⟩)) | (go_at_call 17; first | ((with_reducible refine (C3.out _ (And.left ‹Below W1.heap.size W1 _ ∧ _›)).mono ?_); rintro e w4 ⟨rfl, hb4⟩) | ((with_reducible refine (C7.out _ (And.left ‹Below W1.heap.size W1 _ ∧ _›)).mono ?_); rintro e w4 ⟨rfl, hb4⟩)) | (go_at_call 18; ((with_reducible refine (C4.out _ (And.left ‹Below W1.heap.size W1 _ ∧ _›)).mono ?_); rintro e w4 ⟨rfl, hb4⟩)) | (go_at_call 20; (refine (C5.out _ (And.left ‹Below W1.heap.size W1 _ ∧ _›)).mono ?_); rintro e w4 ⟨A5, ca5, rfl, hat5, _, hb4⟩) | (go_at_call 22; (refine (C6.out _ _ _ (And.left ‹Below W1.heap.size W1 _ ∧ _›) hat5).mono ?_); rintro e w4 ⟨rfl, hb4⟩))
  all_goals
    go_wp2_with fail
    go_ret
    exact ⟨rfl, (Lt.base _).via (below_then hb1 (And.left ‹Below W1.heap.size W1 _ ∧ _›)), rfl⟩
end Go.Proofs.Ytmhgebbmccklmaa
