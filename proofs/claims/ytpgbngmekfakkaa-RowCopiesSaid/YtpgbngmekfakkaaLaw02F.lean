/-
  The statement RowCopies, walked: a column set to a value has it, set to itself it stays; it returns true. Conditions: table and row lie in memory as they read, their numbers are of 64 bits.
-/
import Derived.Test.YtpgbngmekfakkaaOpen
import Derived.Test.YtpgbngmekfakkaaBackLaw
import Derived.Test.YtpgbngmekfakkaaAppRow
namespace Go.Proofs.Ytpgbngmekfakkaa
open Go.RowKit
variable {W : World}

theorem sets_one_at {w : World} {g : Nat} {s : SetV} (hg : g = w.heap.size) : SetsAt (w.alloc (.cells #[.int .i64 s.col, .int .i64 s.op, .int .i64 s.src, .int .i64 s.oth, .bool s.v.t, .int .i64 s.v.n, .string s.v.s] 42)) (some ⟨g, 0, none⟩) [s] := fun _ => ⟨g, 0, rfl, fun i u hu => by
  match i, hu with
  | 0, hu =>
    simp at hu; subst hu
    simp only [Nat.zero_mul, Nat.add_zero, Nat.zero_add]
    exact ⟨by rw [cell_new hg]; rfl, by rw [cell_new hg]; rfl, by rw [cell_new hg]; rfl, by rw [cell_new hg]; rfl, by rw [cell_new hg]; rfl, by rw [cell_new hg]; rfl, by rw [cell_new hg]; rfl⟩
  | i + 1, hu => simp at hu⟩

theorem other3 {w : World} {b g i j k l : Nat} {u v t : Value} (h : b ≠ g) : (((w.setCell ⟨g, i, none⟩ u).setCell ⟨g, j, none⟩ v).setCell ⟨g, k, none⟩ t).cell? ⟨b, l, none⟩ = w.cell? ⟨b, l, none⟩ := by
  have off : ∀ a : Nat, (⟨g, a, none⟩ : Addr) ≠ ⟨b, l, none⟩ := fun a e => h (by injection e with e1; exact e1.symm)
  rw [World.cell?_setCell_other _ _ _ _ (off _), World.cell?_setCell_other _ _ _ _ (off _), World.cell?_setCell_other _ _ _ _ (off _)]

set_option maxHeartbeats 2000000 in
theorem rowCopies_any {A B : Option Addr} {c : List Bool} {r : List Val} {ca cb : Nat} {s : SetV} (hc : ColsAt W A c) (hr : RowAt W B r) (hn : Nums r) (hv : Num.is s.v.n = true) (hnil : B = none → cb = 0) (x : Lt W) :
    Calls Try.prog 8 #[.agg #[.slice A c.length ca], .slice B r.length cb, .agg #[.int .i64 s.col, .int .i64 s.op, .int .i64 s.src, .int .i64 s.oth, .bool s.v.t, .int .i64 s.v.n, .string s.v.s]] x.1 fun e w' => e = .returned (.bool true) ∧ ∃ y : Lt W, w' = y.1 := by
  go_enter Try.func8, Try.ntmps8
  go_wp2_with fail
  refine calls_here fun W1 hW1 => ?_
  have hb0 : Below W.heap.size W W1 := hW1 ▸ x.more2 _ _
  have hw1 : W1.cell? ⟨x.1.heap.size, 0, none⟩ = some (.slice A c.length ca) := by rw [hW1]; exact cell_old (by rw [cell_new rfl]; rfl)
  have k0 : W1.cell? ⟨x.1.heap.size + 1, 0, none⟩ = some (.int .i64 s.col) := by rw [hW1, cell_new (by simp)]; rfl
  have k4 : W1.cell? ⟨x.1.heap.size + 1, 4, none⟩ = some (.bool s.v.t) := by rw [hW1, cell_new (by simp)]; rfl
  have k5 : W1.cell? ⟨x.1.heap.size + 1, 5, none⟩ = some (.int .i64 s.v.n) := by rw [hW1, cell_new (by simp)]; rfl
  have k6 : W1.cell? ⟨x.1.heap.size + 1, 6, none⟩ = some (.string s.v.s) := by rw [hW1, cell_new (by simp)]; rfl
  have zt := fun z : Lt W1 => z.cell hw1
  have z0 := fun z : Lt W1 => z.cell k0
  have z4 := fun z : Lt W1 => z.cell k4
  have z5 := fun z : Lt W1 => z.cell k5
  have z6 := fun z : Lt W1 => z.cell k6
  have hc1 := hc.below hb0
  have hr1 := hr.below hb0
  clear hW1 hc hr
  refine (awake_any (Lt.base W1)).mono ?_; rintro e w' ⟨rfl, y, rfl⟩
  by_cases hbc : c.length ≤ 100
  · have d1 : decide ((100 : Int) < c.length) = false := decide_eq_false (by omega)
    by_cases hbr : r.length ≤ 100
    · have d2 : decide ((100 : Int) < r.length) = false := decide_eq_false (by omega)
      go_wp2_with fail
      refine calls_here fun W2 hW2 => ?_
      have hb2 : Below W1.heap.size W1 W2 := hW2 ▸ y.more _
      have hs2 : SetsAt W2 (some ⟨y.1.heap.size, 0, none⟩) [R.toSet s.col s.v] := hW2 ▸ sets_one_at rfl
      clear hW2
      have hsn : SetNums [R.toSet s.col s.v] := fun t ht => by simp at ht; subst ht; exact hv
      have key := update_any (ca := ca) (cb := cb) (cc := 1) (hc1.below hb2) (hr1.below hb2) hs2 hn hsn hnil (Lt.base W2)
      refine key.mono ?_
      rintro e w3 ⟨v, rfl, hown, hb3⟩
      clear key
      have hb3 : Below W2.heap.size W2 w3 := hb3
      have hby3 : Below W1.heap.size W1 w3 := hb2.trans (hb3.mono hb2.size)
      have t3 : w3.cell? ⟨x.1.heap.size, 0, none⟩ = some (.slice A c.length ca) := (Lt.base w3).old hby3 hw1
      cases hf : R.fits c r
      · have HE := Lib.hid (show R.err c r [R.toSet s.col s.v] = 1 by simp [R.err, hf])
        have HF := Lib.hid hf
        rw [HE.out]
        clear hf
        go_wp2_with fail
        refine ((HF.out ▸ fits_any (hc1.below hby3) (hr1.below hby3) (Lt.base w3) : Calls Try.prog 15 _ w3 fun e w' => e = .returned (.bool false) ∧ ∃ y : Lt w3, w' = y.1)).mono ?_; rintro e w' ⟨rfl, z, rfl⟩
        go_wp2_with fail
        go_ret
        exact ⟨rfl, z.via (below_then hb0 hby3), rfl⟩
      have HF := Lib.hid hf
      have hfit : Calls Try.prog 15 #[.agg #[.slice A c.length ca], .slice B r.length cb] w3 fun e w' => e = .returned (.bool true) ∧ ∃ y : Lt w3, w' = y.1 := HF.out ▸ fits_any (hc1.below hby3) (hr1.below hby3) (Lt.base w3)
      cases hcol : R.colAt c s.col with
      | none =>
        have hm : R.maySet c (R.toSet s.col s.v) = false := by rw [R.may_toSet, hcol]; simp
        obtain ⟨he, ho⟩ := R.err_toSet hf hm
        rw [he]
        rw [ho] at hown
        obtain ⟨A3, ca3, rfl, _, _⟩ := hown.row
        have hout := R.colAt_none hcol
        clear hown he ho hm hf hcol
        by_cases hlo : s.col < 1
        · have hd := decide_eq_true hlo
          go_wp2_with fail
          refine hfit.mono ?_; rintro e w' ⟨rfl, z, rfl⟩
          have q0 := fun z2 : Lt z.1 => z2.old (below_then hby3 z.2) k0
          clear zt z0 z4 z5 z6
          go_wp2_with fail
          refine wp_region_here (by kernel_rfl) (by kernel_rfl) ?_
          repeat (go_big_quiet_step (fail))
          refine wpQuiet_nil ?_; intro _ hw'; obtain ⟨z2, rfl⟩ := hw'
          go_wp2_with fail
          go_ret
          exact ⟨rfl, z2.via (below_then hb0 (below_then hby3 z.2)), rfl⟩
        · have hd : decide (s.col < 1) = false := decide_eq_false hlo
          have hd2 : decide ((c.length : Int) ≤ s.col) = true := decide_eq_true (by omega)
          have hd3 : (c.length : Int) ≤ s.col := by omega
          go_wp2_with fail
          refine hfit.mono ?_; rintro e w' ⟨rfl, z, rfl⟩
          have q0 := fun z2 : Lt z.1 => z2.old (below_then hby3 z.2) k0
          have qt := fun z2 : Lt z.1 => z2.old (below_then hby3 z.2) hw1
          clear zt z0 z4 z5 z6
          go_wp2_with fail
          refine wp_region_here (by kernel_rfl) (by kernel_rfl) ?_
          repeat (go_big_quiet_step (fail))
          refine wpQuiet_nil ?_; intro _ hw'; obtain ⟨z2, rfl⟩ := hw'
          go_wp2_with fail
          go_ret
          exact ⟨rfl, z2.via (below_then hb0 (below_then hby3 z.2)), rfl⟩
      | some kk =>
        obtain ⟨o1, o2, o3⟩ := R.colAt_some hcol
        by_cases hlo : s.col < 1
        · have hm : R.maySet c (R.toSet s.col s.v) = false := by rw [R.may_toSet, decide_eq_false (by omega : ¬ 1 ≤ s.col)]; rfl
          obtain ⟨he, ho⟩ := R.err_toSet hf hm
          rw [he]
          rw [ho] at hown
          obtain ⟨A3, ca3, rfl, _, _⟩ := hown.row
          have hd := decide_eq_true hlo
          clear hown he ho hm hf hcol o1 o2 o3
          go_wp2_with fail
          refine hfit.mono ?_; rintro e w' ⟨rfl, z, rfl⟩
          have q0 := fun z2 : Lt z.1 => z2.old (below_then hby3 z.2) k0
          clear zt z0 z4 z5 z6
          go_wp2_with fail
          refine wp_region_here (by kernel_rfl) (by kernel_rfl) ?_
          repeat (go_big_quiet_step (fail))
          refine wpQuiet_nil ?_; intro _ hw'; obtain ⟨z2, rfl⟩ := hw'
          go_wp2_with fail
          go_ret
          exact ⟨rfl, z2.via (below_then hb0 (below_then hby3 z.2)), rfl⟩
        have hd : decide (s.col < 1) = false := decide_eq_false hlo
        have hd2 : decide ((c.length : Int) ≤ s.col) = false := decide_eq_false (by omega)
        obtain ⟨b', o', rfl, hcell⟩ := hc1.at_ hcol
        by_cases hk : s.v.t = kk
        · subst hk
          have hne : (s.v.t != s.v.t) = false := by simp
          have hlen := (R.fits_may hf).2
          have hmay := R.may_toSet (c := c) (j := s.col) (v := s.v)
          rw [hcol, decide_eq_true rfl, decide_eq_true (by omega : 1 ≤ s.col), Bool.true_and, Bool.true_and] at hmay
          have hfs := R.fits_set hf hcol
          have hcs : s.col.toNat < r.length := by omega
          have HLEN := Lib.hid hlen
          have hcol' := hcol
          have hf' := hf
          have hmay' := hmay
          cases hri : s.v.right
          · rw [hri] at hmay'
            obtain ⟨he, ho⟩ := R.err_toSet hf hmay'
            rw [he]
            rw [hri] at hfs
            have HFS := Lib.hid hfs
            obtain ⟨A3, ca3, rfl, _, hra3⟩ := hown.row
            clear hmay hmay' hfs hcol hcol' hf hf' hlen hown o3 he ho hri
            go_wp2_with fail
            refine hfit.mono ?_; rintro e w' ⟨rfl, z, rfl⟩
            have hbyz : Below W1.heap.size W1 z.1 := below_then hby3 z.2
            have q0 := fun z2 : Lt z.1 => z2.old hbyz k0
            have q4 := fun z2 : Lt z.1 => z2.old hbyz k4
            have q5 := fun z2 : Lt z.1 => z2.old hbyz hcell
            have q6 := fun z2 : Lt z.1 => z2.old hbyz k5
            have q7 := fun z2 : Lt z.1 => z2.old hbyz k6
            have qt := fun z2 : Lt z.1 => z2.old hbyz hw1
            have hxl : x.1.heap.size < z.1.heap.size := Nat.lt_of_lt_of_le (cell_lt hw1) hbyz.size
            clear zt z0 z4 z5 z6
            go_wp2_with fail
            refine wp_region_here (by kernel_rfl) (by kernel_rfl) ?_
            repeat (go_big_quiet_step (fail))
            refine wpQuiet_nil ?_; intro _ hw'; obtain ⟨z2, rfl⟩ := hw'
            have hbyz2 : Below W1.heap.size W1 z2.1 := below_then hbyz z2.2
            have hr5 := hr1.below hbyz2
            have hrne : r ≠ [] := fun e => by subst e; simp at hcs
            have hur : r[s.col.toNat]? = some r[s.col.toNat] := List.getElem?_eq_getElem hcs
            have HUR := Lib.hid hur
            have HRN := Lib.hid hnil
            have hz2s := z2.2.size
            have i0 : 0 ≤ s.col := o1
            have i3 : s.col < (r.length : Int) := by omega
            clear hur hnil
            go_wp2_with (at_builtin; go_must (refine wpList_append_row rfl _ _ rfl rfl rfl hr5 HRN.out (by omega) ?_); intro v9 w6 hown9 hb6; have hq6 : Below z.1.heap.size z.1 w6 := z2.2.trans (hb6.mono hz2s); obtain ⟨A9, ca9, rfl, hn9, ho9⟩ := hown9; obtain ⟨g9, rfl, hge9, hog9⟩ := ho9 hrne; obtain ⟨e0, e1, e2⟩ := hog9.cell _ _ HUR.out; have ef := hog9.free; have m0 := q0 ⟨w6, hq6⟩; have m4 := q4 ⟨w6, hq6⟩; have m5 := q6 ⟨w6, hq6⟩; have m6 := q7 ⟨w6, hq6⟩; have hne9 : x.1.heap.size ≠ g9 := (by omega); have mt9 : (((w6.setCell ⟨g9, s.col.toNat * 3, none⟩ (.bool s.v.t)).setCell ⟨g9, s.col.toNat * 3 + 1, none⟩ (.int .i64 s.v.n)).setCell ⟨g9, s.col.toNat * 3 + 2, none⟩ (.string s.v.s)).cell? ⟨x.1.heap.size, 0, none⟩ = _ := (other3 hne9).trans (qt ⟨w6, hq6⟩))
            refine calls_here fun W7 hW7 => ?_
            have hg7 : OwnG W7 g9 (r.set s.col.toNat s.v) := hW7 ▸ hog9.set hcs s.v
            have hz7 : Below z.1.heap.size z.1 W7 := hW7 ▸ ((hq6.setCell (by show z.1.heap.size ≤ g9; omega) _).setCell (by show z.1.heap.size ≤ g9; omega) _).setCell (by show z.1.heap.size ≤ g9; omega) _
            clear hW7 m0 m4 m5 m6 mt9 e0 e1 e2 ef
            have hby7 : Below W1.heap.size W1 W7 := below_then hbyz hz7
            have hrw7 : RowAt W7 (some ⟨g9, 0, none⟩) (r.set s.col.toNat s.v) := fun _ => ⟨g9, 0, rfl, fun i u hu => by simpa using hg7.cell i u hu⟩
            have hnw : Nums (r.set s.col.toNat s.v) := fun u hu => by
              rcases List.mem_or_eq_of_mem_set hu with h | h
              · exact hn u h
              · exact h ▸ hv
            have hfit2 := fits_any (ca := ca) (cb := ca9) (hc1.below hby7) hrw7 (Lt.base W7)
            rw [List.length_set] at hfit2
            rw [HFS.out] at hfit2
            refine hfit2.mono ?_; rintro e w' ⟨rfl, z8, rfl⟩
            clear hfit2
            go_wp2_with fail
            go_ret
            exact ⟨rfl, (Lt.base z8.1).via (below_then hb0 (below_then hbyz (below_then hz7 z8.2))), rfl⟩
          · rw [hri] at hmay'
            obtain ⟨he, ho⟩ := R.ok_toSet hf hmay'
            rw [he]
            rw [ho] at hown
            rw [hri] at hfs
            have HFS := Lib.hid hfs
            have hsn2 : SetNums [R.selfSet s.col] := fun t ht => by
              simp at ht; subst ht
              show Num.is 0 = true
              decide
            obtain ⟨he2, ho2⟩ := R.ok_selfSet (k := s.v.t) (v := s.v) hfs hcol' (by omega) (List.getElem?_set_self hcs)
            have HE2 := Lib.hid he2
            have HO2 := Lib.hid ho2
            obtain ⟨A3, ca3, rfl, _, hra3⟩ := hown.row
            clear hmay hmay' hfs hcol hcol' hf hf' hlen hown o3 he ho hri he2 ho2
            simp only [List.length_set]
            go_wp2_with fail
            refine hfit.mono ?_; rintro e w' ⟨rfl, z, rfl⟩
            have hbyz : Below W1.heap.size W1 z.1 := below_then hby3 z.2
            have q0 := fun z2 : Lt z.1 => z2.old hbyz k0
            have q4 := fun z2 : Lt z.1 => z2.old hbyz k4
            have q5 := fun z2 : Lt z.1 => z2.old hbyz hcell
            have q6 := fun z2 : Lt z.1 => z2.old hbyz k5
            have q7 := fun z2 : Lt z.1 => z2.old hbyz k6
            have qt := fun z2 : Lt z.1 => z2.old hbyz hw1
            have hxl : x.1.heap.size < z.1.heap.size := Nat.lt_of_lt_of_le (cell_lt hw1) hbyz.size
            clear zt z0 z4 z5 z6
            go_wp2_with fail
            refine wp_region_here (by kernel_rfl) (by kernel_rfl) ?_
            repeat (go_big_quiet_step (fail))
            refine wpQuiet_nil ?_; intro _ hw'; obtain ⟨z2, rfl⟩ := hw'
            have hbyz2 : Below W1.heap.size W1 z2.1 := below_then hbyz z2.2
            have hr5 := hr1.below hbyz2
            have hrne : r ≠ [] := fun e => by subst e; simp at hcs
            have hur : r[s.col.toNat]? = some r[s.col.toNat] := List.getElem?_eq_getElem hcs
            have HUR := Lib.hid hur
            have HRN := Lib.hid hnil
            have hz2s := z2.2.size
            have i0 : 0 ≤ s.col := o1
            have i3 : s.col < (r.length : Int) := by omega
            clear hur hnil
            go_wp2_with (at_builtin; go_must (refine wpList_append_row rfl _ _ rfl rfl rfl hr5 HRN.out (by omega) ?_); intro v9 w6 hown9 hb6; have hq6 : Below z.1.heap.size z.1 w6 := z2.2.trans (hb6.mono hz2s); obtain ⟨A9, ca9, rfl, hn9, ho9⟩ := hown9; obtain ⟨g9, rfl, hge9, hog9⟩ := ho9 hrne; obtain ⟨e0, e1, e2⟩ := hog9.cell _ _ HUR.out; have ef := hog9.free; have m0 := q0 ⟨w6, hq6⟩; have m4 := q4 ⟨w6, hq6⟩; have m5 := q6 ⟨w6, hq6⟩; have m6 := q7 ⟨w6, hq6⟩; have hne9 : x.1.heap.size ≠ g9 := (by omega); have mt9 : (((w6.setCell ⟨g9, s.col.toNat * 3, none⟩ (.bool s.v.t)).setCell ⟨g9, s.col.toNat * 3 + 1, none⟩ (.int .i64 s.v.n)).setCell ⟨g9, s.col.toNat * 3 + 2, none⟩ (.string s.v.s)).cell? ⟨x.1.heap.size, 0, none⟩ = _ := (other3 hne9).trans (qt ⟨w6, hq6⟩))
            refine calls_here fun W7 hW7 => ?_
            have hg7 : OwnG W7 g9 (r.set s.col.toNat s.v) := hW7 ▸ hog9.set hcs s.v
            have hz7 : Below z.1.heap.size z.1 W7 := hW7 ▸ ((hq6.setCell (by show z.1.heap.size ≤ g9; omega) _).setCell (by show z.1.heap.size ≤ g9; omega) _).setCell (by show z.1.heap.size ≤ g9; omega) _
            clear hW7 m0 m4 m5 m6 mt9 e0 e1 e2 ef
            have hby7 : Below W1.heap.size W1 W7 := below_then hbyz hz7
            have hrw7 : RowAt W7 (some ⟨g9, 0, none⟩) (r.set s.col.toNat s.v) := fun _ => ⟨g9, 0, rfl, fun i u hu => by simpa using hg7.cell i u hu⟩
            have hnw : Nums (r.set s.col.toNat s.v) := fun u hu => by
              rcases List.mem_or_eq_of_mem_set hu with h | h
              · exact hn u h
              · exact h ▸ hv
            have hfit2 := fits_any (ca := ca) (cb := ca9) (hc1.below hby7) hrw7 (Lt.base W7)
            rw [List.length_set] at hfit2
            rw [HFS.out] at hfit2
            refine hfit2.mono ?_; rintro e w' ⟨rfl, z8, rfl⟩
            clear hfit2
            have hz8 : Below z.1.heap.size z.1 z8.1 := below_then hz7 z8.2
            have m0 := q0 ⟨z8.1, hz8⟩
            have mt := qt ⟨z8.1, hz8⟩
            go_wp2_with fail
            refine calls_here fun W9 hW9 => ?_
            have hb9 : Below z8.1.heap.size z8.1 W9 := hW9 ▸ below_alloc _
            have hs9 : SetsAt W9 (some ⟨z8.1.heap.size, 0, none⟩) [R.selfSet s.col] := hW9 ▸ sets_one_at (s := R.selfSet s.col) rfl
            clear hW9
            have hz9 : Below z.1.heap.size z.1 W9 := below_then hz8 hb9
            have hby9 : Below W1.heap.size W1 W9 := below_then hbyz hz9
            have hrw9 : RowAt W9 (some ⟨g9, 0, none⟩) (r.set s.col.toNat s.v) := hrw7.below (below_then z8.2 hb9)
            have key := update_any (ca := ca) (cb := ca9) (cc := 1) (hc1.below hby9) hrw9 hs9 hnw hsn2 (fun e => by cases e) (Lt.base W9)
            rw [List.length_set] at key
            refine key.mono ?_
            rintro e w10 ⟨v10, rfl, hown10, hb10⟩
            clear key
            have hb10 : Below W9.heap.size W9 w10 := hb10
            rw [HE2.out]
            rw [HO2.out] at hown10
            obtain ⟨A10, ca10, rfl, _, hra10⟩ := hown10.row
            clear hown10
            simp only [List.length_set]
            have hb3x : Below w3.heap.size w3 w10 := below_then z.2 (below_then hz9 hb10)
            have hs1 : ∀ y : Lt w10, Calls Try.prog 20 #[.slice A3 r.length ca3, .slice (some ⟨g9, 0, none⟩) r.length ca9] y.1 fun e w' => e = .returned (.bool true) ∧ ∃ y : Lt w10, w' = y.1 := fun y => by
              have := rsame_any (r := r.set s.col.toNat s.v) (s := r.set s.col.toNat s.v) (ca := ca3) (cb := ca9) (hra3.below hb3x) (hrw9.below hb10) (by rw [List.length_set]; omega) y
              rw [List.length_set, decide_eq_true rfl] at this
              exact this
            have hs2 : ∀ y : Lt w10, Calls Try.prog 20 #[.slice A10 r.length ca10, .slice (some ⟨g9, 0, none⟩) r.length ca9] y.1 fun e w' => e = .returned (.bool true) ∧ ∃ y : Lt w10, w' = y.1 := fun y => by
              have := rsame_any (r := r.set s.col.toNat s.v) (s := r.set s.col.toNat s.v) (ca := ca10) (cb := ca9) hra10 (hrw9.below hb10) (by rw [List.length_set]; omega) y
              rw [List.length_set, decide_eq_true rfl] at this
              exact this
            have HS1 := Lib.hid hs1
            have HS2 := Lib.hid hs2
            clear hs1 hs2
            go_wp2_with fail
            refine (HS1.out (Lt.base w10)).mono ?_; rintro e w' ⟨rfl, z11, rfl⟩
            go_wp2_with fail
            refine (HS2.out z11).mono ?_; rintro e w' ⟨rfl, z12, rfl⟩
            go_wp2_with fail
            go_ret
            exact ⟨rfl, (Lt.base z12.1).via (below_then hb0 (below_then hby9 (below_then hb10 z12.2))), rfl⟩
        · have hne : (s.v.t == kk) = false := by simpa using hk
          have hm : R.maySet c (R.toSet s.col s.v) = false := by
            rw [R.may_toSet, hcol, decide_eq_false (fun e : some kk = some s.v.t => hk (Option.some.inj e).symm)]; simp
          obtain ⟨he, ho⟩ := R.err_toSet hf hm
          rw [he]
          rw [ho] at hown
          obtain ⟨A3, ca3, rfl, _, _⟩ := hown.row
          clear hown he ho hm hf hcol hk o3
          go_wp2_with fail
          refine hfit.mono ?_; rintro e w' ⟨rfl, z, rfl⟩
          have hbyz : Below W1.heap.size W1 z.1 := below_then hby3 z.2
          have q0 := fun z2 : Lt z.1 => z2.old hbyz k0
          have q4 := fun z2 : Lt z.1 => z2.old hbyz k4
          have q5 := fun z2 : Lt z.1 => z2.old hbyz hcell
          have qt := fun z2 : Lt z.1 => z2.old hbyz hw1
          clear zt z0 z4 z5 z6
          go_wp2_with fail
          refine wp_region_here (by kernel_rfl) (by kernel_rfl) ?_
          repeat (go_big_quiet_step (fail))
          refine wpQuiet_nil ?_; intro _ hw'; obtain ⟨z2, rfl⟩ := hw'
          go_wp2_with fail
          go_ret
          exact ⟨rfl, z2.via (below_then hb0 hbyz), rfl⟩
    · have d2 : decide ((100 : Int) < r.length) = true := decide_eq_true (by omega)
      go_wp2_with fail
      go_ret
      exact ⟨rfl, y.via hb0, rfl⟩
  · have d1 : decide ((100 : Int) < c.length) = true := decide_eq_true (by omega)
    go_wp2_with fail
    go_ret
    exact ⟨rfl, y.via hb0, rfl⟩
end Go.Proofs.Ytpgbngmekfakkaa
