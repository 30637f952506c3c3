/-
  The statements RowFits and RowUpdates, walked: each returns true. Conditions: table, row and update lie in memory as they read, their numbers are of 64 bits.
-/
import Derived.Test.YtpgbngmekfakkaaOpen
namespace Go.Proofs.Ytpgbngmekfakkaa
open Go.RowKit
variable {W : World}

set_option maxHeartbeats 4000000 in
theorem rowUpdates_any {A B C : Option Addr} {c : List Bool} {r : List Val} {l : List SetV} {ca cb cc : Nat} (hc : ColsAt W A c) (hr : RowAt W B r) (hs : SetsAt W C l) (hn : Nums r) (hsn : SetNums l) (hnil : B = none → cb = 0) (x : Lt W) :
    Calls Try.prog 4 #[.agg #[.slice A c.length ca], .slice B r.length cb, .slice C l.length cc] x.1 fun e w' => e = .returned (.bool true) ∧ ∃ y : Lt W, w' = y.1 := by
  go_enter Try.func4, Try.ntmps4
  go_wp2_with fail
  refine calls_here fun W1 hW1 => ?_
  have hb0 : Below W.heap.size W W1 := hW1 ▸ x.more _
  have hw1 : W1.cell? ⟨x.1.heap.size, 0, none⟩ = some (.slice A c.length ca) := by rw [hW1]; simp
  have zt := fun z : Lt W1 => z.cell hw1
  have hc1 := hc.below hb0
  have hr1 := hr.below hb0
  have hs1 := hs.below hb0
  clear hW1 hc hr hs
  refine (awake_any (Lt.base W1)).mono ?_; rintro e w' ⟨rfl, y, rfl⟩
  go_wp2_with fail
  by_cases hbig : c.length ≤ 1000 ∧ r.length ≤ 1000 ∧ l.length ≤ 1000
  · refine (long_any hbig y).mono ?_; rintro e w' ⟨rfl, y, rfl⟩
    have hrl : r.length ≤ 1000 := hbig.2.1
    go_wp2_with fail
    refine (update_any hc1 hr1 hs1 hn hsn hnil y).mono ?_
    rintro e w2 ⟨v, rfl, hown, hb2⟩
    obtain ⟨A2, ca2, rfl, _, hra⟩ := hown.row
    have hby2 : Below W1.heap.size W1 w2 := y.2.trans (hb2.mono y.2.size)
    have hx2 : ∀ z : Lt w2, z.1.cell? ⟨x.1.heap.size, 0, none⟩ = some (.slice A c.length ca) := fun z => z.old hby2 hw1
    have hx20 : w2.cell? ⟨x.1.heap.size, 0, none⟩ = some (.slice A c.length ca) := hx2 (Lt.base w2)
    go_wp2_with fail
    refine (rupdate_any (hc1.below hby2) (hr1.below hby2) (hs1.below hby2) hn hsn (Lt.base w2)).mono ?_
    rintro e w3 ⟨v3, rfl, hown3, hb3⟩
    have hb3 : Below w2.heap.size w2 w3 := hb3
    obtain ⟨A3, ca3, rfl, _, hra3⟩ := hown3.row
    have hout : (R.out c r l).length ≤ 1000000000 := by
      unfold R.out
      split
      · cases hu : R.upd r l l.length with
        | none => simp
        | some out => simp only [Option.getD_some]; rw [R.upd_length hu]; omega
      · simp
    go_wp2_with fail
    refine (rsame_any (hra.below hb3) hra3 hout (Lt.base w3)).mono ?_
    rintro e w4 ⟨rfl, z, rfl⟩
    have hd : decide (R.out c r l = R.out c r l) = true := decide_eq_true rfl
    go_wp2_with fail
    go_ret
    exact ⟨ret_bool hd, z.via (below_then hb0 (below_then hby2 hb3)), rfl⟩
  · refine (long_big hbig y).mono ?_; rintro e w' ⟨rfl, y, rfl⟩
    go_wp2_with fail
    go_ret
    exact ⟨rfl, y.via hb0, rfl⟩
end Go.Proofs.Ytpgbngmekfakkaa
