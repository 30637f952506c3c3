/-
  The document's example of updates: the program answers it as the document says.
-/
import Derived.Test.YtpgbngmekfakkaaUpdRef
namespace Go.Proofs.Ytpgbngmekfakkaa
open Go.RowKit
variable {W : World}

def awT : List Bool := [false, false, true]
def awR : List Val := [⟨false, 1, ⟨#[]⟩⟩, ⟨false, 5, ⟨#[]⟩⟩, ⟨true, 0, ⟨#[97]⟩⟩]
def awL : List SetV := [⟨2, 1, 0, 0, ⟨true, 0, ⟨#[98]⟩⟩⟩, ⟨1, 6, 0, 1, ⟨false, 0, ⟨#[]⟩⟩⟩]
def awL2 : List SetV := [⟨0, 1, 0, 0, ⟨false, 0, ⟨#[]⟩⟩⟩]
def awX : List Val := [⟨false, 1, ⟨#[]⟩⟩, ⟨false, 6, ⟨#[]⟩⟩, ⟨true, 0, ⟨#[98]⟩⟩]
theorem aw_err : R.err awT awR awL = 0 := by decide +kernel
theorem aw_out : R.out awT awR awL = awX := by rfl
theorem aw_err2 : R.err awT awR awL2 = 20 := by decide +kernel
theorem aw_out2 : R.out awT awR awL2 = [] := by rfl
theorem aw_fits : R.fits awT awX = true := by decide +kernel
theorem aw_nums : Nums awR := by
  intro u hu
  simp [awR] at hu
  rcases hu with rfl | rfl | rfl <;> decide
theorem aw_sn : SetNums awL := by
  intro s hs
  simp [awL] at hs
  rcases hs with rfl | rfl <;> decide
theorem aw_sn2 : SetNums awL2 := by
  intro s hs
  simp [awL2] at hs
  subst hs; decide

set_option maxHeartbeats 1000000 in
theorem awake_any (x : Lt W) : Calls Try.prog 10 #[] x.1 fun e w' => e = .returned (.bool true) ∧ ∃ y : Lt W, w' = y.1 := by
  go_enter Try.func10, Try.ntmps10
  go_wp2_with fail
  refine calls_here fun W1 hW1 => ?_
  have hb1 : Below W.heap.size W W1 := by
    rw [hW1]
    exact below_then (below_then (below_then (x.more _) (below_alloc _)) (below_alloc _)) (below_alloc _)
  have hc : ColsAt W1 (some ⟨x.1.heap.size, 0, none⟩) awT := fun _ => ⟨_, 0, rfl, fun i u hu => by
    match i, hu with
    | 0, hu | 1, hu | 2, hu => simp [awT] at hu; subst hu; rw [hW1]; exact cell_old (cell_old (cell_old (by rw [cell_new rfl]; rfl)))
    | i + 3, hu => simp [awT] at hu⟩
  have hr : RowAt W1 (some ⟨x.1.heap.size + 1 + 1, 0, none⟩) awR := fun _ => ⟨_, 0, rfl, fun i u hu => by
    match i, hu with
    | 0, hu | 1, hu | 2, hu => simp [awR] at hu; subst hu; rw [hW1]; exact ⟨cell_old (by rw [cell_new (by simp)]; rfl), cell_old (by rw [cell_new (by simp)]; rfl), cell_old (by rw [cell_new (by simp)]; rfl)⟩
    | i + 3, hu => simp [awR] at hu⟩
  have hl : SetsAt W1 (some ⟨x.1.heap.size + 1 + 1 + 1, 0, none⟩) awL := fun _ => ⟨_, 0, rfl, fun i u hu => by
    match i, hu with
    | 0, hu | 1, hu => simp [awL] at hu; subst hu; rw [hW1]; exact ⟨by rw [cell_new (by simp)]; rfl, by rw [cell_new (by simp)]; rfl, by rw [cell_new (by simp)]; rfl, by rw [cell_new (by simp)]; rfl, by rw [cell_new (by simp)]; rfl, by rw [cell_new (by simp)]; rfl, by rw [cell_new (by simp)]; rfl⟩
    | i + 2, hu => simp [awL] at hu⟩
  have hbox : W1.cell? ⟨x.1.heap.size + 1, 0, none⟩ = some (.slice (some ⟨x.1.heap.size, 0, none⟩) 3 3) := by rw [hW1]; exact cell_old (cell_old (by rw [cell_new (by simp)]; rfl))
  clear hW1
  refine (update_any (c := awT) (r := awR) (l := awL) hc hr hl aw_nums aw_sn (fun e => by cases e) (Lt.base W1)).mono ?_
  rintro e w2 ⟨v, rfl, hown, hb2⟩
  rw [aw_err]
  rw [aw_out] at hown
  have hb2 : Below W1.heap.size W1 w2 := hb2
  have hbox2 := (hb2.cell (cell_lt hbox)).trans hbox
  have hbox3 : ∀ o1, (w2.alloc o1).cell? ⟨x.1.heap.size + 1, 0, none⟩ = some (.slice (some ⟨x.1.heap.size, 0, none⟩) 3 3) := fun o1 => (World.cell?_alloc_lt _ _ _ (cell_lt hbox2)).trans hbox2
  obtain ⟨A, ca, rfl, _, ho⟩ := hown
  obtain ⟨g, rfl, _, hog⟩ := ho (by simp [awX])
  clear ho
  go_wp2_with fail
  refine calls_here fun W3 hW3 => ?_
  have hb3 : Below w2.heap.size w2 W3 := hW3 ▸ below_alloc _
  have hl2 : SetsAt W3 (some ⟨w2.heap.size, 0, none⟩) awL2 := fun _ => ⟨_, 0, rfl, fun i u hu => by
    match i, hu with
    | 0, hu => simp [awL2] at hu; subst hu; rw [hW3]; exact ⟨by rw [cell_new (by simp)]; rfl, by rw [cell_new (by simp)]; rfl, by rw [cell_new (by simp)]; rfl, by rw [cell_new (by simp)]; rfl, by rw [cell_new (by simp)]; rfl, by rw [cell_new (by simp)]; rfl, by rw [cell_new (by simp)]; rfl⟩
    | i + 1, hu => simp [awL2] at hu⟩
  clear hW3 hbox3
  have hb13 := below_then hb2 hb3
  refine (update_any (c := awT) (r := awR) (l := awL2) (hc.below hb13) (hr.below hb13) hl2 aw_nums aw_sn2 (fun e => by cases e) (Lt.base W3)).mono ?_
  rintro e w4 ⟨v2, rfl, hown2, hb4⟩
  rw [aw_err2]
  rw [aw_out2] at hown2
  obtain ⟨A2, ca2, rfl, hn2, _⟩ := hown2
  have hb4 : Below W3.heap.size W3 w4 := hb4
  have hb14 := below_then hb13 hb4
  have hb24 := below_then hb3 hb4
  have hog4 := hog.below hb24
  have hbox4 := (hb14.cell (cell_lt hbox)).trans hbox
  have k1 : w4.cell? ⟨g, 4, none⟩ = some (.int .i64 6) := (hog4.cell 1 _ rfl).2.1
  have k2 : w4.cell? ⟨g, 8, none⟩ = some (.string ⟨#[98]⟩) := (hog4.cell 2 _ rfl).2.2
  go_wp2_with fail
  have hx4 : RowAt w4 (some ⟨g, 0, none⟩) awX := fun _ => ⟨g, 0, rfl, fun i u hu => by simpa using hog4.cell i u hu⟩
  refine (fits_any (c := awT) (r := awX) (hc.below hb14) hx4 (Lt.base w4)).mono ?_
  rintro e w5 ⟨rfl, z, rfl⟩
  rw [aw_fits]
  go_wp2_with fail
  go_ret
  exact ⟨rfl, z.via (below_then hb1 hb14), rfl⟩
end Go.Proofs.Ytpgbngmekfakkaa
