/-
  The statement NormalSays, walked: it returns true. Conditions: the arguments lie in memory as they read.
-/
import Derived.Test.YtppoefbfepehpaaAwake04
import Derived.Test.YtppoefbfepehpaaFew04
import Derived.Test.YtppoefbfepehpaaRHolds04
import Derived.Test.YtppoefbfepehpaaRFits04
import Derived.Test.YtppoefbfepehpaaWithout
import Derived.Test.YtppoefbfepehpaaOpenS
namespace Go.Proofs.Ytppoefbfepehpaa
open Go.RowKit
variable {W : World}

/-- What is made of a predicate has no PNot. -/
theorem normal_bare (t : List Bool) (p : Pr) : (p.normal t).bare = true := by
  unfold Pr.normal
  cases h : p.may t
  · rfl
  · exact (Pr.push_bare p (Pr.parts_shape p (Pr.may_parts h)) false).2.1
theorem normal_size (t : List Bool) {p : Pr} {n : Nat} (hsz : p.size ≤ n) (hn : 1 ≤ n) : (p.normal t).size ≤ 3 * n := by
  unfold Pr.normal
  cases h : p.may t
  · show (Pr.mk 2 0 Pr.zv Pr.zv []).size ≤ _
    rw [Pr.size_mk]; simp; omega
  · have := push_size p (Pr.parts_shape p (Pr.may_parts h)) false
    show (p.push false).size ≤ _
    omega
theorem fits_len {c : List Bool} {r : List Val} (h : R.fits c r = true) : r.length = c.length := by
  unfold R.fits at h
  simp only [Bool.and_eq_true, decide_eq_true_eq] at h
  exact h.1.2
set_option maxHeartbeats 1000000 in
theorem normalSays_any {A0 A : Option Addr} {ca0 ca : Nat} {t : List Bool} {p : Pr} (ht : ColsAt W A0 t) (hat : p.At W A ca) {B : Option Addr} {cb : Nat} {r : List Val} (hr : RowAt W B r) (hfit : Fit r) (x : Lt W) : Calls Try.prog 5 #[.agg #[.slice A0 t.length ca0], p.arg A ca, .slice B r.length cb] x.1 fun e w' => e = .returned (.bool true) ∧ ∃ y : Lt W, w' = y.1 := by
  have HT := Lib.hid ht
  have HA := Lib.hid hat
  have HR := Lib.hid hr
  have HF := Lib.hid hfit
  clear ht hat hr hfit
  unfold Pr.arg
  obtain ⟨s, hs⟩ : ∃ s, p.few 40 40 100 0 = s := ⟨_, rfl⟩
  by_cases hT : t.length ≤ 100
  · have hd : decide ((100 : Int) < t.length) = false := decide_eq_false (by omega)
    by_cases hR : r.length ≤ 100
    · have hd2 : decide ((100 : Int) < r.length) = false := decide_eq_false (by omega)
      go_enter Try.func5, Try.ntmps5
      go_wp2_with fail
      refine calls_here fun W1 hW1 => ?_
      have hb1 : Below W.heap.size W W1 := by rw [hW1]; exact below_then (x.more _) (below_alloc _)
      have kt : Blk W1 (x.1.heap.size) [.slice A0 t.length ca0] := by rw [hW1]; refine Blk.alloc ?_ _; exact Blk.new' (l := #[.slice A0 t.length ca0]) (by simp)
      have kp : Blk W1 (x.1.heap.size + 1) [.int .i64 p.op, .int .i64 p.col, .bool p.v.t, .int .i64 p.v.n, .string p.v.s, .bool p.w.t, .int .i64 p.w.n, .string p.w.s, .slice A p.l.length ca] := by rw [hW1]; exact Blk.new' (l := #[.int .i64 p.op, .int .i64 p.col, .bool p.v.t, .int .i64 p.v.n, .string p.v.s, .bool p.w.t, .int .i64 p.w.n, .string p.w.s, .slice A p.l.length ca]) (by simp)
      clear hW1
      have tw0 := kt.cell 0 _ rfl
      have tz0 := fun z : Lt W1 => z.cell tw0
      have pw0 := kp.cell 0 _ rfl
      have pw1 := kp.cell 1 _ rfl
      have pw2 := kp.cell 2 _ rfl
      have pw3 := kp.cell 3 _ rfl
      have pw4 := kp.cell 4 _ rfl
      have pw5 := kp.cell 5 _ rfl
      have pw6 := kp.cell 6 _ rfl
      have pw7 := kp.cell 7 _ rfl
      have pw8 := kp.cell 8 _ rfl
      have pz0 := fun z : Lt W1 => z.cell pw0
      have pz1 := fun z : Lt W1 => z.cell pw1
      have pz2 := fun z : Lt W1 => z.cell pw2
      have pz3 := fun z : Lt W1 => z.cell pw3
      have pz4 := fun z : Lt W1 => z.cell pw4
      have pz5 := fun z : Lt W1 => z.cell pw5
      have pz6 := fun z : Lt W1 => z.cell pw6
      have pz7 := fun z : Lt W1 => z.cell pw7
      have pz8 := fun z : Lt W1 => z.cell pw8
      refine (awake_any (Lt.base W1)).mono ?_; rintro e w' ⟨rfl, y1, rfl⟩
      go_upto_region 2 with fail
      refine wp_here fun U1 hU1 => ?_
      have bU1 : Below W1.heap.size W1 U1 := by rw [hU1]; exact y1.2
      clear tw0 tz0 pw0 pz0 pw1 pz1 pw2 pz2 pw3 pz3 pw4 pz4 pw5 pz5 pw6 pz6 pw7 pz7 pw8 pz8
      replace kt := kt.below bU1
      replace kp := kp.below bU1
      have BU1 : Below W.heap.size W U1 := below_then hb1 bU1
      clear hU1
      have tw0 := kt.cell 0 _ rfl
      have tz0 := fun z : Lt U1 => z.cell tw0
      have pw0 := kp.cell 0 _ rfl
      have pw1 := kp.cell 1 _ rfl
      have pw2 := kp.cell 2 _ rfl
      have pw3 := kp.cell 3 _ rfl
      have pw4 := kp.cell 4 _ rfl
      have pw5 := kp.cell 5 _ rfl
      have pw6 := kp.cell 6 _ rfl
      have pw7 := kp.cell 7 _ rfl
      have pw8 := kp.cell 8 _ rfl
      have pz0 := fun z : Lt U1 => z.cell pw0
      have pz1 := fun z : Lt U1 => z.cell pw1
      have pz2 := fun z : Lt U1 => z.cell pw2
      have pz3 := fun z : Lt U1 => z.cell pw3
      have pz4 := fun z : Lt U1 => z.cell pw4
      have pz5 := fun z : Lt U1 => z.cell pw5
      have pz6 := fun z : Lt U1 => z.cell pw6
      have pz7 := fun z : Lt U1 => z.cell pw7
      have pz8 := fun z : Lt U1 => z.cell pw8
      go_wp2_with fail
      refine (few_is hs (Lt.base U1) (HA.out.below BU1)).mono ?_; rintro e w' ⟨rfl, y2, rfl⟩
      cases s
      · clear hs
        go_wp2_with fail
        go_ret
        exact ⟨rfl, y2.via BU1, rfl⟩
      · have hsz := Pr.few_size hs
        clear hs
        obtain ⟨nn, hnn⟩ : ∃ nn, p.normal t = nn := ⟨_, rfl⟩
        have HB := Lib.hid (show nn.bare = true from hnn ▸ normal_bare t p)
        have HS := Lib.hid (show nn.size ≤ 3 * 100 from hnn ▸ normal_size t hsz (by omega))
        have CN := Lib.hid (show ∀ W' : World, ColsAt W' A0 t → p.At W' A ca → Calls Try.prog 13 #[.agg #[.slice A0 t.length ca0], p.arg A ca] W' (PFresh W' nn) from fun W' h1 h2 => hnn ▸ normal_any (by omega) W' h1 h2)
        have HSZ := Lib.hid hsz
        clear hsz
        go_upto_region 7 with fail
        refine wp_here fun U2 hU2 => ?_
        have bU2 : Below U1.heap.size U1 U2 := by rw [hU2]; exact y2.2
        clear tw0 tz0 pw0 pz0 pw1 pz1 pw2 pz2 pw3 pz3 pw4 pz4 pw5 pz5 pw6 pz6 pw7 pz7 pw8 pz8
        replace kt := kt.below bU2
        replace kp := kp.below bU2
        have BU2 : Below W.heap.size W U2 := below_then BU1 bU2
        clear hU2
        have tw0 := kt.cell 0 _ rfl
        have tz0 := fun z : Lt U2 => z.cell tw0
        have pw0 := kp.cell 0 _ rfl
        have pw1 := kp.cell 1 _ rfl
        have pw2 := kp.cell 2 _ rfl
        have pw3 := kp.cell 3 _ rfl
        have pw4 := kp.cell 4 _ rfl
        have pw5 := kp.cell 5 _ rfl
        have pw6 := kp.cell 6 _ rfl
        have pw7 := kp.cell 7 _ rfl
        have pw8 := kp.cell 8 _ rfl
        have pz0 := fun z : Lt U2 => z.cell pw0
        have pz1 := fun z : Lt U2 => z.cell pw1
        have pz2 := fun z : Lt U2 => z.cell pw2
        have pz3 := fun z : Lt U2 => z.cell pw3
        have pz4 := fun z : Lt U2 => z.cell pw4
        have pz5 := fun z : Lt U2 => z.cell pw5
        have pz6 := fun z : Lt U2 => z.cell pw6
        have pz7 := fun z : Lt U2 => z.cell pw7
        have pz8 := fun z : Lt U2 => z.cell pw8
        go_wp2_with fail
        refine (CN.out U2 (HT.out.below BU2) (HA.out.below BU2)).mono ?_; rintro e w6 ⟨A6, ca6, rfl, hat6, _, hb6⟩
        obtain ⟨g6, hg6⟩ : ∃ g, w6.heap.size = g := ⟨_, rfl⟩
        go_upto_region 8 with fail
        refine wp_here fun U3 hU3 => ?_
        have bU3 : Below U2.heap.size U2 U3 := by rw [hU3]; exact below_then hb6 (below_alloc _)
        have hatn : nn.At U3 A6 ca6 := by rw [hU3]; exact hat6.below (below_alloc _)
        clear tw0 tz0 pw0 pz0 pw1 pz1 pw2 pz2 pw3 pz3 pw4 pz4 pw5 pz5 pw6 pz6 pw7 pz7 pw8 pz8
        replace kt := kt.below bU3
        replace kp := kp.below bU3
        have knn : Blk U3 g6 [.int .i64 nn.op, .int .i64 nn.col, .bool nn.v.t, .int .i64 nn.v.n, .string nn.v.s, .bool nn.w.t, .int .i64 nn.w.n, .string nn.w.s, .slice A6 nn.l.length ca6] := by rw [hU3]; exact Blk.new' (l := #[.int .i64 nn.op, .int .i64 nn.col, .bool nn.v.t, .int .i64 nn.v.n, .string nn.v.s, .bool nn.w.t, .int .i64 nn.w.n, .string nn.w.s, .slice A6 nn.l.length ca6]) hg6.symm
        have BU3 : Below W.heap.size W U3 := below_then BU2 bU3
        clear hU3 hat6 hg6
        have tw0 := kt.cell 0 _ rfl
        have tz0 := fun z : Lt U3 => z.cell tw0
        have pw0 := kp.cell 0 _ rfl
        have pw1 := kp.cell 1 _ rfl
        have pw2 := kp.cell 2 _ rfl
        have pw3 := kp.cell 3 _ rfl
        have pw4 := kp.cell 4 _ rfl
        have pw5 := kp.cell 5 _ rfl
        have pw6 := kp.cell 6 _ rfl
        have pw7 := kp.cell 7 _ rfl
        have pw8 := kp.cell 8 _ rfl
        have pz0 := fun z : Lt U3 => z.cell pw0
        have pz1 := fun z : Lt U3 => z.cell pw1
        have pz2 := fun z : Lt U3 => z.cell pw2
        have pz3 := fun z : Lt U3 => z.cell pw3
        have pz4 := fun z : Lt U3 => z.cell pw4
        have pz5 := fun z : Lt U3 => z.cell pw5
        have pz6 := fun z : Lt U3 => z.cell pw6
        have pz7 := fun z : Lt U3 => z.cell pw7
        have pz8 := fun z : Lt U3 => z.cell pw8
        have nnw0 := knn.cell 0 _ rfl
        have nnw1 := knn.cell 1 _ rfl
        have nnw2 := knn.cell 2 _ rfl
        have nnw3 := knn.cell 3 _ rfl
        have nnw4 := knn.cell 4 _ rfl
        have nnw5 := knn.cell 5 _ rfl
        have nnw6 := knn.cell 6 _ rfl
        have nnw7 := knn.cell 7 _ rfl
        have nnw8 := knn.cell 8 _ rfl
        have nnz0 := fun z : Lt U3 => z.cell nnw0
        have nnz1 := fun z : Lt U3 => z.cell nnw1
        have nnz2 := fun z : Lt U3 => z.cell nnw2
        have nnz3 := fun z : Lt U3 => z.cell nnw3
        have nnz4 := fun z : Lt U3 => z.cell nnw4
        have nnz5 := fun z : Lt U3 => z.cell nnw5
        have nnz6 := fun z : Lt U3 => z.cell nnw6
        have nnz7 := fun z : Lt U3 => z.cell nnw7
        have nnz8 := fun z : Lt U3 => z.cell nnw8
        have HN := Lib.hid hatn
        clear hatn
        go_wp2_with fail
        have CW := without_all nn (by have := HS.out; omega) (Lt.base U3) HN.out
        rw [HB.out] at CW
        refine CW.mono ?_; rintro e w' ⟨rfl, y3, rfl⟩
        clear CW
        go_upto_region 11 with fail
        refine wp_here fun U4 hU4 => ?_
        have bU4 : Below U3.heap.size U3 U4 := by rw [hU4]; exact y3.2
        clear tw0 tz0 pw0 pz0 pw1 pz1 pw2 pz2 pw3 pz3 pw4 pz4 pw5 pz5 pw6 pz6 pw7 pz7 pw8 pz8 nnw0 nnz0 nnw1 nnz1 nnw2 nnz2 nnw3 nnz3 nnw4 nnz4 nnw5 nnz5 nnw6 nnz6 nnw7 nnz7 nnw8 nnz8
        replace kt := kt.below bU4
        replace kp := kp.below bU4
        replace knn := knn.below bU4
        have BU4 : Below W.heap.size W U4 := below_then BU3 bU4
        clear hU4
        have tw0 := kt.cell 0 _ rfl
        have tz0 := fun z : Lt U4 => z.cell tw0
        have pw0 := kp.cell 0 _ rfl
        have pw1 := kp.cell 1 _ rfl
        have pw2 := kp.cell 2 _ rfl
        have pw3 := kp.cell 3 _ rfl
        have pw4 := kp.cell 4 _ rfl
        have pw5 := kp.cell 5 _ rfl
        have pw6 := kp.cell 6 _ rfl
        have pw7 := kp.cell 7 _ rfl
        have pw8 := kp.cell 8 _ rfl
        have pz0 := fun z : Lt U4 => z.cell pw0
        have pz1 := fun z : Lt U4 => z.cell pw1
        have pz2 := fun z : Lt U4 => z.cell pw2
        have pz3 := fun z : Lt U4 => z.cell pw3
        have pz4 := fun z : Lt U4 => z.cell pw4
        have pz5 := fun z : Lt U4 => z.cell pw5
        have pz6 := fun z : Lt U4 => z.cell pw6
        have pz7 := fun z : Lt U4 => z.cell pw7
        have pz8 := fun z : Lt U4 => z.cell pw8
        have nnw0 := knn.cell 0 _ rfl
        have nnw1 := knn.cell 1 _ rfl
        have nnw2 := knn.cell 2 _ rfl
        have nnw3 := knn.cell 3 _ rfl
        have nnw4 := knn.cell 4 _ rfl
        have nnw5 := knn.cell 5 _ rfl
        have nnw6 := knn.cell 6 _ rfl
        have nnw7 := knn.cell 7 _ rfl
        have nnw8 := knn.cell 8 _ rfl
        have nnz0 := fun z : Lt U4 => z.cell nnw0
        have nnz1 := fun z : Lt U4 => z.cell nnw1
        have nnz2 := fun z : Lt U4 => z.cell nnw2
        have nnz3 := fun z : Lt U4 => z.cell nnw3
        have nnz4 := fun z : Lt U4 => z.cell nnw4
        have nnz5 := fun z : Lt U4 => z.cell nnw5
        have nnz6 := fun z : Lt U4 => z.cell nnw6
        have nnz7 := fun z : Lt U4 => z.cell nnw7
        have nnz8 := fun z : Lt U4 => z.cell nnw8
        replace HN := Lib.hid (HN.out.below bU4)
        go_wp2_with fail
        refine (rmay_any (Lt.base U4) (HT.out.below BU4) (HA.out.below BU4) (by have := HSZ.out; omega)).mono ?_; rintro e w' ⟨rfl, y4, rfl⟩
        cases hm : p.may t
        · have hl : nn = .mk 2 0 Pr.zv Pr.zv [] := by rw [← hnn]; unfold Pr.normal; rw [hm]; rfl
          subst hl
          clear hm hnn
          simp only [Pr.op, Pr.l, List.length_nil] at nnz0 nnz8
          go_wp2_with fail
          go_ret
          exact ⟨rfl, y4.via BU4, rfl⟩
        · have HM := Lib.hid hm
          clear hm
          go_wp2_with fail
          refine (rfits_row (HT.out.below BU4) (HR.out.below BU4) y4).mono ?_; rintro e w' ⟨rfl, y5, rfl⟩
          cases hf : R.fits t r
          · clear hf hnn
            go_wp2_with fail
            go_ret
            exact ⟨rfl, y5.via BU4, rfl⟩
          · have hv : nn.holds r = p.holds r := by
              rw [← hnn]
              unfold Pr.normal
              rw [HM.out, if_pos rfl, Pr.holds_push r (fits_len hf) p (Pr.may_parts HM.out), Bool.bne_false]
            obtain ⟨b, hb⟩ : ∃ b, p.holds r = b := ⟨_, rfl⟩
            rw [hb] at hv
            have C1 := Lib.hid (show ∀ z : Lt U4, Calls Try.prog 26 #[.agg #[.int .i64 nn.op, .int .i64 nn.col, .bool nn.v.t, .int .i64 nn.v.n, .string nn.v.s, .bool nn.w.t, .int .i64 nn.w.n, .string nn.w.s, .slice A6 nn.l.length ca6], .slice B r.length cb] z.1 fun e w' => e = .returned (.bool b) ∧ ∃ y : Lt U4, w' = y.1 from fun z => hv ▸ rholds_any r B cb HF.out nn z HN.out (HR.out.below BU4) (by have := HS.out; omega))
            have C2 := Lib.hid (show ∀ z : Lt U4, Calls Try.prog 26 #[.agg #[.int .i64 p.op, .int .i64 p.col, .bool p.v.t, .int .i64 p.v.n, .string p.v.s, .bool p.w.t, .int .i64 p.w.n, .string p.w.s, .slice A p.l.length ca], .slice B r.length cb] z.1 fun e w' => e = .returned (.bool b) ∧ ∃ y : Lt U4, w' = y.1 from fun z => hb ▸ rholds_any r B cb HF.out p z (HA.out.below BU4) (HR.out.below BU4) (by have := HSZ.out; omega))
            clear hf hnn hv hb
            cases b
            all_goals
              go_wp2_with fail
              refine wp_region_pure _ (by kernel_rfl) (by kernel_rfl) ?_
              repeat (go_big_quiet_step ((first | (go_at_call 26; with_reducible exact C1.out _) | (go_at_call 26; with_reducible exact C2.out _))))
              refine wpQuiet_nil ?_; intro _ hw'; obtain ⟨z, rfl⟩ := hw'
              go_wp2_with fail
              go_ret
              exact ⟨rfl, z.via BU4, rfl⟩
    · have hd2 : decide ((100 : Int) < r.length) = true := decide_eq_true (by omega)
      have hd3 : (100 : Int) < r.length := by omega
      clear hR
      go_enter Try.func5, Try.ntmps5
      go_wp2_with fail
      refine calls_here fun W1 hW1 => ?_
      have hb1 : Below W.heap.size W W1 := by rw [hW1]; exact below_then (x.more _) (below_alloc _)
      have kt : Blk W1 (x.1.heap.size) [.slice A0 t.length ca0] := by rw [hW1]; refine Blk.alloc ?_ _; exact Blk.new' (l := #[.slice A0 t.length ca0]) (by simp)
      have kp : Blk W1 (x.1.heap.size + 1) [.int .i64 p.op, .int .i64 p.col, .bool p.v.t, .int .i64 p.v.n, .string p.v.s, .bool p.w.t, .int .i64 p.w.n, .string p.w.s, .slice A p.l.length ca] := by rw [hW1]; exact Blk.new' (l := #[.int .i64 p.op, .int .i64 p.col, .bool p.v.t, .int .i64 p.v.n, .string p.v.s, .bool p.w.t, .int .i64 p.w.n, .string p.w.s, .slice A p.l.length ca]) (by simp)
      clear hW1
      have tw0 := kt.cell 0 _ rfl
      have tz0 := fun z : Lt W1 => z.cell tw0
      have pw0 := kp.cell 0 _ rfl
      have pw1 := kp.cell 1 _ rfl
      have pw2 := kp.cell 2 _ rfl
      have pw3 := kp.cell 3 _ rfl
      have pw4 := kp.cell 4 _ rfl
      have pw5 := kp.cell 5 _ rfl
      have pw6 := kp.cell 6 _ rfl
      have pw7 := kp.cell 7 _ rfl
      have pw8 := kp.cell 8 _ rfl
      have pz0 := fun z : Lt W1 => z.cell pw0
      have pz1 := fun z : Lt W1 => z.cell pw1
      have pz2 := fun z : Lt W1 => z.cell pw2
      have pz3 := fun z : Lt W1 => z.cell pw3
      have pz4 := fun z : Lt W1 => z.cell pw4
      have pz5 := fun z : Lt W1 => z.cell pw5
      have pz6 := fun z : Lt W1 => z.cell pw6
      have pz7 := fun z : Lt W1 => z.cell pw7
      have pz8 := fun z : Lt W1 => z.cell pw8
      refine (awake_any (Lt.base W1)).mono ?_; rintro e w' ⟨rfl, y1, rfl⟩
      go_upto_region 2 with fail
      refine wp_here fun U1 hU1 => ?_
      have bU1 : Below W1.heap.size W1 U1 := by rw [hU1]; exact y1.2
      clear tw0 tz0 pw0 pz0 pw1 pz1 pw2 pz2 pw3 pz3 pw4 pz4 pw5 pz5 pw6 pz6 pw7 pz7 pw8 pz8
      replace kt := kt.below bU1
      replace kp := kp.below bU1
      have BU1 : Below W.heap.size W U1 := below_then hb1 bU1
      clear hU1
      have tw0 := kt.cell 0 _ rfl
      have tz0 := fun z : Lt U1 => z.cell tw0
      have pw0 := kp.cell 0 _ rfl
      have pw1 := kp.cell 1 _ rfl
      have pw2 := kp.cell 2 _ rfl
      have pw3 := kp.cell 3 _ rfl
      have pw4 := kp.cell 4 _ rfl
      have pw5 := kp.cell 5 _ rfl
      have pw6 := kp.cell 6 _ rfl
      have pw7 := kp.cell 7 _ rfl
      have pw8 := kp.cell 8 _ rfl
      have pz0 := fun z : Lt U1 => z.cell pw0
      have pz1 := fun z : Lt U1 => z.cell pw1
      have pz2 := fun z : Lt U1 => z.cell pw2
      have pz3 := fun z : Lt U1 => z.cell pw3
      have pz4 := fun z : Lt U1 => z.cell pw4
      have pz5 := fun z : Lt U1 => z.cell pw5
      have pz6 := fun z : Lt U1 => z.cell pw6
      have pz7 := fun z : Lt U1 => z.cell pw7
      have pz8 := fun z : Lt U1 => z.cell pw8
      go_wp2_with fail
      refine (few_is hs (Lt.base U1) (HA.out.below BU1)).mono ?_; rintro e w' ⟨rfl, y2, rfl⟩
      cases s
      · clear hs
        go_wp2_with fail
        go_ret
        exact ⟨rfl, y2.via BU1, rfl⟩
      · clear hs
        go_wp2_with fail
        go_ret
        exact ⟨rfl, y2.via BU1, rfl⟩
  · have hd : decide ((100 : Int) < t.length) = true := decide_eq_true (by omega)
    have hd3 : (100 : Int) < t.length := by omega
    clear hT
    go_enter Try.func5, Try.ntmps5
    go_wp2_with fail
    refine calls_here fun W1 hW1 => ?_
    have hb1 : Below W.heap.size W W1 := by rw [hW1]; exact below_then (x.more _) (below_alloc _)
    have kt : Blk W1 (x.1.heap.size) [.slice A0 t.length ca0] := by rw [hW1]; refine Blk.alloc ?_ _; exact Blk.new' (l := #[.slice A0 t.length ca0]) (by simp)
    have kp : Blk W1 (x.1.heap.size + 1) [.int .i64 p.op, .int .i64 p.col, .bool p.v.t, .int .i64 p.v.n, .string p.v.s, .bool p.w.t, .int .i64 p.w.n, .string p.w.s, .slice A p.l.length ca] := by rw [hW1]; exact Blk.new' (l := #[.int .i64 p.op, .int .i64 p.col, .bool p.v.t, .int .i64 p.v.n, .string p.v.s, .bool p.w.t, .int .i64 p.w.n, .string p.w.s, .slice A p.l.length ca]) (by simp)
    clear hW1
    have tw0 := kt.cell 0 _ rfl
    have tz0 := fun z : Lt W1 => z.cell tw0
    have pw0 := kp.cell 0 _ rfl
    have pw1 := kp.cell 1 _ rfl
    have pw2 := kp.cell 2 _ rfl
    have pw3 := kp.cell 3 _ rfl
    have pw4 := kp.cell 4 _ rfl
    have pw5 := kp.cell 5 _ rfl
    have pw6 := kp.cell 6 _ rfl
    have pw7 := kp.cell 7 _ rfl
    have pw8 := kp.cell 8 _ rfl
    have pz0 := fun z : Lt W1 => z.cell pw0
    have pz1 := fun z : Lt W1 => z.cell pw1
    have pz2 := fun z : Lt W1 => z.cell pw2
    have pz3 := fun z : Lt W1 => z.cell pw3
    have pz4 := fun z : Lt W1 => z.cell pw4
    have pz5 := fun z : Lt W1 => z.cell pw5
    have pz6 := fun z : Lt W1 => z.cell pw6
    have pz7 := fun z : Lt W1 => z.cell pw7
    have pz8 := fun z : Lt W1 => z.cell pw8
    refine (awake_any (Lt.base W1)).mono ?_; rintro e w' ⟨rfl, y1, rfl⟩
    go_upto_region 2 with fail
    refine wp_here fun U1 hU1 => ?_
    have bU1 : Below W1.heap.size W1 U1 := by rw [hU1]; exact y1.2
    clear tw0 tz0 pw0 pz0 pw1 pz1 pw2 pz2 pw3 pz3 pw4 pz4 pw5 pz5 pw6 pz6 pw7 pz7 pw8 pz8
    replace kt := kt.below bU1
    replace kp := kp.below bU1
    have BU1 : Below W.heap.size W U1 := below_then hb1 bU1
    clear hU1
    have tw0 := kt.cell 0 _ rfl
    have tz0 := fun z : Lt U1 => z.cell tw0
    have pw0 := kp.cell 0 _ rfl
    have pw1 := kp.cell 1 _ rfl
    have pw2 := kp.cell 2 _ rfl
    have pw3 := kp.cell 3 _ rfl
    have pw4 := kp.cell 4 _ rfl
    have pw5 := kp.cell 5 _ rfl
    have pw6 := kp.cell 6 _ rfl
    have pw7 := kp.cell 7 _ rfl
    have pw8 := kp.cell 8 _ rfl
    have pz0 := fun z : Lt U1 => z.cell pw0
    have pz1 := fun z : Lt U1 => z.cell pw1
    have pz2 := fun z : Lt U1 => z.cell pw2
    have pz3 := fun z : Lt U1 => z.cell pw3
    have pz4 := fun z : Lt U1 => z.cell pw4
    have pz5 := fun z : Lt U1 => z.cell pw5
    have pz6 := fun z : Lt U1 => z.cell pw6
    have pz7 := fun z : Lt U1 => z.cell pw7
    have pz8 := fun z : Lt U1 => z.cell pw8
    go_wp2_with fail
    refine (few_is hs (Lt.base U1) (HA.out.below BU1)).mono ?_; rintro e w' ⟨rfl, y2, rfl⟩
    cases s
    · clear hs
      go_wp2_with fail
      go_ret
      exact ⟨rfl, y2.via BU1, rfl⟩
    · clear hs
      go_wp2_with fail
      go_ret
      exact ⟨rfl, y2.via BU1, rfl⟩
end Go.Proofs.Ytppoefbfepehpaa
