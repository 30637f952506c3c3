/-
  The statement RowSame, walked: the program's Same is the document's, a clone is the row's own; it returns true. Conditions: the rows lie in memory as they read, their numbers are of 64 bits.
-/
import Derived.Test.YtpgbngmekfakkaaOpen
import Derived.Test.YtpgbngmekfakkaaAppRow
namespace Go.Proofs.Ytpgbngmekfakkaa
open Go.RowKit
variable {W : World}

set_option maxHeartbeats 1000000 in
theorem rowSame_any {A B : Option Addr} {r s : List Val} {ca cb : Nat} {v : Val} (hr : RowAt W A r) (hs : RowAt W B s) (hn0 : A = none → ca = 0) (x : Lt W) :
    Calls Try.prog 9 #[.slice A r.length ca, .slice B s.length cb, .agg #[.bool v.t, .int .i64 v.n, .string v.s]] x.1 fun e w' => e = .returned (.bool true) ∧ ∃ y : Lt W, w' = y.1 := by
  go_enter Try.func9, Try.ntmps9
  go_wp2_with fail
  refine calls_here fun W1 hW1 => ?_
  have hb0 : Below W.heap.size W W1 := hW1 ▸ x.more _
  have e0 : W1.cell? ⟨x.1.heap.size, 0, none⟩ = some (.bool v.t) := by rw [hW1]; simp
  have e1 : W1.cell? ⟨x.1.heap.size, 1, none⟩ = some (.int .i64 v.n) := by rw [hW1]; simp
  have e2 : W1.cell? ⟨x.1.heap.size, 2, none⟩ = some (.string v.s) := by rw [hW1]; simp
  have hr1 := hr.below hb0
  have hs1 := hs.below hb0
  clear hW1 hr hs
  refine (awake_any (Lt.base W1)).mono ?_; rintro e w' ⟨rfl, y, rfl⟩
  by_cases hbr : r.length ≤ 1000
  · have d1 : decide ((1000 : Int) < r.length) = false := decide_eq_false (by omega)
    by_cases hbs : s.length ≤ 1000
    · have d2 : decide ((1000 : Int) < s.length) = false := decide_eq_false (by omega)
      go_wp2_with fail
      refine (clone_any y.1 (hr1.below y.2) hn0 (by omega)).mono ?_
      rintro e w2 ⟨v8, rfl, hown, hb2⟩
      have hby2 : Below W1.heap.size W1 w2 := y.2.trans (hb2.mono y.2.size)
      obtain ⟨A8, ca8, rfl, hn8, ho8⟩ := OwnRow.of_owns hown
      have hra8 : RowAt w2 A8 r := by
        obtain ⟨A', ca', hv', _, h⟩ := (OwnRow.of_owns hown).row
        injection hv' with h1 h2 h3
        subst h1; exact h
      clear hown
      go_wp2_with fail
      obtain ⟨b, hb⟩ : ∃ b, decide (r = s) = b := ⟨_, rfl⟩
      refine ((hb ▸ same_any (hr1.below hby2) (hs1.below hby2) (by omega) (Lt.base w2) : Calls Try.prog 22 _ w2 fun e w' => e = .returned (.bool b) ∧ ∃ y : Lt w2, w' = y.1)).mono ?_
      rintro e w3 ⟨rfl, z, rfl⟩
      go_wp2_with fail
      refine ((hb ▸ rsame_any ((hr1.below hby2).below z.2) ((hs1.below hby2).below z.2) (by omega) (Lt.base z.1) : Calls Try.prog 20 _ z.1 fun e w' => e = .returned (.bool b) ∧ ∃ y : Lt z.1, w' = y.1)).mono ?_
      rintro e w4 ⟨rfl, z2, rfl⟩
      have hbz2 : Below w2.heap.size w2 z2.1 := below_then z.2 z2.2
      have hby4 : Below W1.heap.size W1 z2.1 := hby2.trans (hbz2.mono hby2.size)
      clear hb
      have hbb : (b != b) = false := by simp
      go_wp2_with fail
      refine (rsame_any (hr1.below hby4) (hra8.below hbz2) (by omega) (Lt.base z2.1)).mono ?_
      rintro e w5 ⟨rfl, z3, rfl⟩
      have hd : decide (r = r) = true := decide_eq_true rfl
      have hbz3 : Below w2.heap.size w2 z3.1 := below_then hbz2 z3.2
      have hby5 : Below W1.heap.size W1 z3.1 := hby2.trans (hbz3.mono hby2.size)
      have hr5 := hr1.below hby5
      go_wp2_with (at_builtin; go_must (refine wpList_append_row rfl _ _ rfl rfl rfl hr5 hn0 (by omega) ?_); intro v9 w6 hown9 hb6)
      have hyw : Below y.1.heap.size y.1 w6 := (hb2.trans ((below_then hbz3 hb6).mono hb2.size))
      have hyz : Below y.1.heap.size y.1 z3.1 := hb2.trans (hbz3.mono hb2.size)
      go_loopw [10] (fun i wr => ∃ (k : Nat) (l : List Val), l.length = r.length ∧ (r ≠ [] → ∃ g, A8 = some ⟨g, 0, none⟩ ∧ g < z3.1.heap.size ∧ y.1.heap.size ≤ g ∧ OwnG wr g l) ∧ OwnRow z3.1.heap.size wr v9 r ∧ Below y.1.heap.size y.1 wr ∧ i = .int .i64 k ∧ k ≤ r.length) (fun i _ => r.length - (intOf i).toNat)
      case atStart =>
        refine ⟨0, r, rfl, fun hne => ?_, hown9, hyw, rfl, by omega⟩
        obtain ⟨g, hA, hg, ho⟩ := ho8 hne
        have := hbz3.size
        have := ho.lt
        exact ⟨g, hA, by omega, hg, ho.below (below_then hbz3 hb6)⟩
      case round =>
        obtain ⟨k, l, hll, hol, hor, hbw, rfl, hk⟩ := hrel
        have HL := Lib.hid hll
        have hbw1 : Below W1.heap.size W1 wr := y.2.trans (hbw.mono y.2.size)
        clear hll
        by_cases hlt : k < r.length
        · have hne : r ≠ [] := fun e => by subst e; simp at hlt
          obtain ⟨g, rfl, hgz, hgy, ho⟩ := hol hne
          have hkl : k < l.length := by have := HL.out; omega
          obtain ⟨g0, g1, g2⟩ := ho.cell k l[k] (List.getElem?_eq_getElem hkl)
          have gf := ho.free
          have f0 := (hbw1.cell (cell_lt e0)).trans e0
          have f1 := (hbw1.cell (cell_lt e1)).trans e1
          have f2 := (hbw1.cell (cell_lt e2)).trans e2
          go_wp2_with fail
          go_roundw
          case rel => exact ⟨k + 1, _, by rw [List.length_set]; exact HL.out, fun _ => ⟨g, rfl, hgz, hgy, ho.set hkl v⟩, ((hor.other hgz _ _).other hgz _ _).other hgz _ _, ((hbw.setCell hgy _).setCell hgy _).setCell hgy _, by go_num, by omega⟩
          case measure => simp [intOf]; omega
        · obtain rfl : k = r.length := by omega
          obtain ⟨A9, ca9, rfl, _, hra9⟩ := hor.row
          go_wp2_with fail
          refine (rsame_any (hr1.below hbw1) hra9 (by omega) (Lt.base wr)).mono ?_
          rintro e w7 ⟨rfl, z4, rfl⟩
          go_wp2_with fail
          go_ret
          exact ⟨rfl, z4.via (below_then hb0 hbw1), rfl⟩
    · have d2 : decide ((1000 : Int) < s.length) = true := decide_eq_true (by omega)
      go_wp2_with fail
      go_ret
      exact ⟨rfl, y.via hb0, rfl⟩
  · have d1 : decide ((1000 : Int) < r.length) = true := decide_eq_true (by omega)
    go_wp2_with fail
    go_ret
    exact ⟨rfl, y.via hb0, rfl⟩
end Go.Proofs.Ytpgbngmekfakkaa
