/-
  The statement NormalTwice, walked: it returns true. Conditions: the arguments lie in memory as they read.
-/
import Derived.Test.YtppoefbfepehpaaLaw04E
import Derived.Test.YtppoefbfepehpaaRSame04
import Derived.Deep.RegionHeld3
namespace Go.Proofs.Ytppoefbfepehpaa
open Go.RowKit
variable {W : World}

theorem twice_size (p : Pr) : (Pr.mk 10 0 Pr.zv Pr.zv [.mk 10 0 Pr.zv Pr.zv [p]]).size = p.size + 2 := by
  rw [Pr.size_mk]
  simp only [List.map_cons, List.map_nil, List.sum_cons, List.sum_nil]
  rw [Pr.size_mk]
  simp only [List.map_cons, List.map_nil, List.sum_cons, List.sum_nil]
  omega
theorem may_len {t : List Bool} {p : Pr} (h : p.may t = true) : 1 ≤ t.length ∧ t.length ≤ 4 := by
  unfold Pr.may at h
  simp only [Bool.and_eq_true, decide_eq_true_eq] at h
  exact ⟨h.1.1.1, h.1.1.2⟩
theorem may_of {t : List Bool} {p : Pr} (h1 : 1 ≤ t.length ∧ t.length ≤ 4) (h2 : p.size ≤ 15) (h3 : p.parts t = true) : p.may t = true := by
  unfold Pr.may
  simp only [Bool.and_eq_true, decide_eq_true_eq]
  exact ⟨⟨⟨h1.1, h1.2⟩, h2⟩, h3⟩
/-- Not of not is the same. -/
theorem normal_twice {t : List Bool} {p : Pr} (h : p.may t = true) (hs : p.size ≤ 13) : (Pr.mk 10 0 Pr.zv Pr.zv [.mk 10 0 Pr.zv Pr.zv [p]]).normal t = p.normal t := by
  have hm : (Pr.mk 10 0 Pr.zv Pr.zv [.mk 10 0 Pr.zv Pr.zv [p]]).may t = true := by
    refine may_of (may_len h) (by rw [twice_size]; omega) ?_
    rw [Pr.parts_mk, Bool.and_eq_true]
    refine ⟨rfl, ?_⟩
    simp only [List.all_cons, List.all_nil, Bool.and_true]
    rw [Pr.parts_mk, Bool.and_eq_true]
    refine ⟨rfl, ?_⟩
    simp only [List.all_cons, List.all_nil, Bool.and_true]
    exact Pr.may_parts h
  unfold Pr.normal
  rw [hm, h, if_pos rfl, if_pos rfl, Pr.push_not, Pr.push_not]
  rfl
/-- What is normal stays so. -/
theorem normal_again {t : List Bool} {p : Pr} (h : p.may t = true) (hs : (p.normal t).size ≤ 15) : (p.normal t).normal t = p.normal t := by
  have e : p.normal t = p.push false := by unfold Pr.normal; rw [h, if_pos rfl]
  have hm : (p.normal t).may t = true := may_of (may_len h) hs (by rw [e]; exact Pr.push_parts p (Pr.may_parts h) false)
  have hb := (Pr.push_bare p (Pr.parts_shape p (Pr.may_parts h)) false).2.2
  rw [show (p.normal t).normal t = (p.normal t).push false by unfold Pr.normal at hm ⊢; rw [hm, if_pos rfl], e, hb]
set_option maxHeartbeats 2000000 in
theorem normalTwice_any {A0 A : Option Addr} {ca0 ca : Nat} {t : List Bool} {p : Pr} (ht : ColsAt W A0 t) (hat : p.At W A ca) (x : Lt W) : Calls Try.prog 8 #[.agg #[.slice A0 t.length ca0], p.arg A ca] x.1 fun e w' => e = .returned (.bool true) ∧ ∃ y : Lt W, w' = y.1 := by
  have HT := Lib.hid ht
  have HA := Lib.hid hat
  clear ht hat
  unfold Pr.arg
  obtain ⟨s, hs⟩ : ∃ s, p.few 40 40 100 0 = s := ⟨_, rfl⟩
  by_cases hT : t.length ≤ 100
  · have hd : decide ((100 : Int) < t.length) = false := decide_eq_false (by omega)
    clear hT
    go_enter Try.func8, Try.ntmps8
    go_wp2_with fail
    refine calls_here fun W1 hW1 => ?_
    have hb1 : Below W.heap.size W W1 := by rw [hW1]; exact below_then (x.more _) (below_alloc _)
    have kt : Blk W1 (x.1.heap.size) [.slice A0 t.length ca0] := by rw [hW1]; refine Blk.alloc ?_ _; exact Blk.new' (l := #[.slice A0 t.length ca0]) (by simp)
    have kp : Blk W1 (x.1.heap.size + 1) [.int .i64 p.op, .int .i64 p.col, .bool p.v.t, .int .i64 p.v.n, .string p.v.s, .bool p.w.t, .int .i64 p.w.n, .string p.w.s, .slice A p.l.length ca] := by rw [hW1]; exact Blk.new' (l := #[.int .i64 p.op, .int .i64 p.col, .bool p.v.t, .int .i64 p.v.n, .string p.v.s, .bool p.w.t, .int .i64 p.w.n, .string p.w.s, .slice A p.l.length ca]) (by simp)
    clear hW1
    have tw0 := kt.cell 0 _ rfl
    have tz0 := fun z : Lt W1 => z.cell tw0
    have pw0 := kp.cell 0 _ rfl
    have pw1 := kp.cell 1 _ rfl
    have pw2 := kp.cell 2 _ rfl
    have pw3 := kp.cell 3 _ rfl
    have pw4 := kp.cell 4 _ rfl
    have pw5 := kp.cell 5 _ rfl
    have pw6 := kp.cell 6 _ rfl
    have pw7 := kp.cell 7 _ rfl
    have pw8 := kp.cell 8 _ rfl
    have pz0 := fun z : Lt W1 => z.cell pw0
    have pz1 := fun z : Lt W1 => z.cell pw1
    have pz2 := fun z : Lt W1 => z.cell pw2
    have pz3 := fun z : Lt W1 => z.cell pw3
    have pz4 := fun z : Lt W1 => z.cell pw4
    have pz5 := fun z : Lt W1 => z.cell pw5
    have pz6 := fun z : Lt W1 => z.cell pw6
    have pz7 := fun z : Lt W1 => z.cell pw7
    have pz8 := fun z : Lt W1 => z.cell pw8
    refine (awake_any (Lt.base W1)).mono ?_; rintro e w' ⟨rfl, y1, rfl⟩
    go_upto_region 2 with fail
    refine wp_here fun U1 hU1 => ?_
    have bU1 : Below W1.heap.size W1 U1 := by rw [hU1]; exact y1.2
    clear tw0 tz0 pw0 pz0 pw1 pz1 pw2 pz2 pw3 pz3 pw4 pz4 pw5 pz5 pw6 pz6 pw7 pz7 pw8 pz8
    replace kt := kt.below bU1
    replace kp := kp.below bU1
    have BU1 : Below W.heap.size W U1 := below_then hb1 bU1
    clear hU1
    have tw0 := kt.cell 0 _ rfl
    have tz0 := fun z : Lt U1 => z.cell tw0
    have pw0 := kp.cell 0 _ rfl
    have pw1 := kp.cell 1 _ rfl
    have pw2 := kp.cell 2 _ rfl
    have pw3 := kp.cell 3 _ rfl
    have pw4 := kp.cell 4 _ rfl
    have pw5 := kp.cell 5 _ rfl
    have pw6 := kp.cell 6 _ rfl
    have pw7 := kp.cell 7 _ rfl
    have pw8 := kp.cell 8 _ rfl
    have pz0 := fun z : Lt U1 => z.cell pw0
    have pz1 := fun z : Lt U1 => z.cell pw1
    have pz2 := fun z : Lt U1 => z.cell pw2
    have pz3 := fun z : Lt U1 => z.cell pw3
    have pz4 := fun z : Lt U1 => z.cell pw4
    have pz5 := fun z : Lt U1 => z.cell pw5
    have pz6 := fun z : Lt U1 => z.cell pw6
    have pz7 := fun z : Lt U1 => z.cell pw7
    have pz8 := fun z : Lt U1 => z.cell pw8
    go_wp2_with fail
    refine (few_is hs (Lt.base U1) (HA.out.below BU1)).mono ?_; rintro e w' ⟨rfl, y2, rfl⟩
    cases s
    · clear hs
      go_wp2_with fail
      go_ret
      exact ⟨rfl, y2.via BU1, rfl⟩
    · have hsz := Pr.few_size hs
      clear hs
      obtain ⟨nn, hnn⟩ : ∃ nn, p.normal t = nn := ⟨_, rfl⟩
      obtain ⟨tw, htw⟩ : ∃ tw, (Pr.mk 10 0 Pr.zv Pr.zv [.mk 10 0 Pr.zv Pr.zv [p]]).normal t = tw := ⟨_, rfl⟩
      have HS := Lib.hid (show nn.size ≤ 3 * 100 from hnn ▸ normal_size t hsz (by omega))
      have CN := Lib.hid (show ∀ W' : World, ColsAt W' A0 t → p.At W' A ca → Calls Try.prog 13 #[.agg #[.slice A0 t.length ca0], p.arg A ca] W' (PFresh W' nn) from fun W' h1 h2 => hnn ▸ normal_any (by omega) W' h1 h2)
      have CT := Lib.hid (show ∀ (W' : World) (A' : Option Addr) (ca' : Nat), ColsAt W' A0 t → (Pr.mk 10 0 Pr.zv Pr.zv [.mk 10 0 Pr.zv Pr.zv [p]]).At W' A' ca' → Calls Try.prog 13 #[.agg #[.slice A0 t.length ca0], (Pr.mk 10 0 Pr.zv Pr.zv [.mk 10 0 Pr.zv Pr.zv [p]]).arg A' ca'] W' (PFresh W' tw) from fun W' A' ca' h1 h2 => htw ▸ normal_any (by rw [twice_size]; omega) W' h1 h2)
      have HSZ := Lib.hid hsz
      have HNN := Lib.hid hnn
      have HTW := Lib.hid htw
      clear hsz hnn htw
      go_upto_region 7 with fail
      refine wp_here fun U2 hU2 => ?_
      have bU2 : Below U1.heap.size U1 U2 := by rw [hU2]; exact y2.2
      clear tw0 tz0 pw0 pz0 pw1 pz1 pw2 pz2 pw3 pz3 pw4 pz4 pw5 pz5 pw6 pz6 pw7 pz7 pw8 pz8
      replace kt := kt.below bU2
      replace kp := kp.below bU2
      have BU2 : Below W.heap.size W U2 := below_then BU1 bU2
      clear hU2
      have tw0 := kt.cell 0 _ rfl
      have tz0 := fun z : Lt U2 => z.cell tw0
      have pw0 := kp.cell 0 _ rfl
      have pw1 := kp.cell 1 _ rfl
      have pw2 := kp.cell 2 _ rfl
      have pw3 := kp.cell 3 _ rfl
      have pw4 := kp.cell 4 _ rfl
      have pw5 := kp.cell 5 _ rfl
      have pw6 := kp.cell 6 _ rfl
      have pw7 := kp.cell 7 _ rfl
      have pw8 := kp.cell 8 _ rfl
      have pz0 := fun z : Lt U2 => z.cell pw0
      have pz1 := fun z : Lt U2 => z.cell pw1
      have pz2 := fun z : Lt U2 => z.cell pw2
      have pz3 := fun z : Lt U2 => z.cell pw3
      have pz4 := fun z : Lt U2 => z.cell pw4
      have pz5 := fun z : Lt U2 => z.cell pw5
      have pz6 := fun z : Lt U2 => z.cell pw6
      have pz7 := fun z : Lt U2 => z.cell pw7
      have pz8 := fun z : Lt U2 => z.cell pw8
      go_wp2_with fail
      refine (CN.out U2 (HT.out.below BU2) (HA.out.below BU2)).mono ?_; rintro e w6 ⟨A6, ca6, rfl, hat6, _, hb6⟩
      obtain ⟨g6, hg6⟩ : ∃ g, w6.heap.size = g := ⟨_, rfl⟩
      go_upto_region 8 with fail
      refine wp_here fun U3 hU3 => ?_
      have bU3 : Below U2.heap.size U2 U3 := by rw [hU3]; exact below_then hb6 (below_alloc _)
      have hatn : nn.At U3 A6 ca6 := by rw [hU3]; exact hat6.below (below_alloc _)
      clear tw0 tz0 pw0 pz0 pw1 pz1 pw2 pz2 pw3 pz3 pw4 pz4 pw5 pz5 pw6 pz6 pw7 pz7 pw8 pz8
      replace kt := kt.below bU3
      replace kp := kp.below bU3
      have knn : Blk U3 g6 [.int .i64 nn.op, .int .i64 nn.col, .bool nn.v.t, .int .i64 nn.v.n, .string nn.v.s, .bool nn.w.t, .int .i64 nn.w.n, .string nn.w.s, .slice A6 nn.l.length ca6] := by rw [hU3]; exact Blk.new' (l := #[.int .i64 nn.op, .int .i64 nn.col, .bool nn.v.t, .int .i64 nn.v.n, .string nn.v.s, .bool nn.w.t, .int .i64 nn.w.n, .string nn.w.s, .slice A6 nn.l.length ca6]) hg6.symm
      have BU3 : Below W.heap.size W U3 := below_then BU2 bU3
      clear hU3 hg6
      have tw0 := kt.cell 0 _ rfl
      have tz0 := fun z : Lt U3 => z.cell tw0
      have pw0 := kp.cell 0 _ rfl
      have pw1 := kp.cell 1 _ rfl
      have pw2 := kp.cell 2 _ rfl
      have pw3 := kp.cell 3 _ rfl
      have pw4 := kp.cell 4 _ rfl
      have pw5 := kp.cell 5 _ rfl
      have pw6 := kp.cell 6 _ rfl
      have pw7 := kp.cell 7 _ rfl
      have pw8 := kp.cell 8 _ rfl
      have pz0 := fun z : Lt U3 => z.cell pw0
      have pz1 := fun z : Lt U3 => z.cell pw1
      have pz2 := fun z : Lt U3 => z.cell pw2
      have pz3 := fun z : Lt U3 => z.cell pw3
      have pz4 := fun z : Lt U3 => z.cell pw4
      have pz5 := fun z : Lt U3 => z.cell pw5
      have pz6 := fun z : Lt U3 => z.cell pw6
      have pz7 := fun z : Lt U3 => z.cell pw7
      have pz8 := fun z : Lt U3 => z.cell pw8
      have nnw0 := knn.cell 0 _ rfl
      have nnw1 := knn.cell 1 _ rfl
      have nnw2 := knn.cell 2 _ rfl
      have nnw3 := knn.cell 3 _ rfl
      have nnw4 := knn.cell 4 _ rfl
      have nnw5 := knn.cell 5 _ rfl
      have nnw6 := knn.cell 6 _ rfl
      have nnw7 := knn.cell 7 _ rfl
      have nnw8 := knn.cell 8 _ rfl
      have nnz0 := fun z : Lt U3 => z.cell nnw0
      have nnz1 := fun z : Lt U3 => z.cell nnw1
      have nnz2 := fun z : Lt U3 => z.cell nnw2
      have nnz3 := fun z : Lt U3 => z.cell nnw3
      have nnz4 := fun z : Lt U3 => z.cell nnw4
      have nnz5 := fun z : Lt U3 => z.cell nnw5
      have nnz6 := fun z : Lt U3 => z.cell nnw6
      have nnz7 := fun z : Lt U3 => z.cell nnw7
      have nnz8 := fun z : Lt U3 => z.cell nnw8
      go_wp2_with fail
      refine calls_here fun U5 hU5 => ?_
      have bU5 : Below U3.heap.size U3 U5 := by rw [hU5]; exact below_then (below_alloc _) (below_alloc _)
      have hNN : (Pr.mk 10 0 Pr.zv Pr.zv [.mk 10 0 Pr.zv Pr.zv [p]]).At U5 (some ⟨U3.heap.size + 1, 0, none⟩) 1 := by
        rw [hU5]
        exact Pr.at_one (p := .mk 10 0 Pr.zv Pr.zv [p]) (by simp) (Pr.at_one (p := p) rfl (HA.out.below BU3) (by omega) 10 0 Pr.zv Pr.zv) (by omega) 10 0 Pr.zv Pr.zv
      have BU5 : Below W.heap.size W U5 := below_then BU3 bU5
      clear hU5
      refine (CT.out U5 _ _ (HT.out.below BU5) hNN).mono ?_; rintro e w7 ⟨A7, ca7, rfl, hat7, _, hb7⟩
      obtain ⟨g7, hg7⟩ : ∃ g, w7.heap.size = g := ⟨_, rfl⟩
      go_upto_region 9 with fail
      refine wp_here fun U6 hU6 => ?_
      have bU6 : Below U3.heap.size U3 U6 := by rw [hU6]; exact below_then (below_then bU5 hb7) (below_alloc _)
      have hatt : tw.At U6 A7 ca7 := by rw [hU6]; exact hat7.below (below_alloc _)
      replace hatn := hatn.below bU6
      clear tw0 tz0 pw0 pz0 pw1 pz1 pw2 pz2 pw3 pz3 pw4 pz4 pw5 pz5 pw6 pz6 pw7 pz7 pw8 pz8 nnw0 nnz0 nnw1 nnz1 nnw2 nnz2 nnw3 nnz3 nnw4 nnz4 nnw5 nnz5 nnw6 nnz6 nnw7 nnz7 nnw8 nnz8
      replace kt := kt.below bU6
      replace kp := kp.below bU6
      replace knn := knn.below bU6
      have ktw : Blk U6 g7 [.int .i64 tw.op, .int .i64 tw.col, .bool tw.v.t, .int .i64 tw.v.n, .string tw.v.s, .bool tw.w.t, .int .i64 tw.w.n, .string tw.w.s, .slice A7 tw.l.length ca7] := by rw [hU6]; exact Blk.new' (l := #[.int .i64 tw.op, .int .i64 tw.col, .bool tw.v.t, .int .i64 tw.v.n, .string tw.v.s, .bool tw.w.t, .int .i64 tw.w.n, .string tw.w.s, .slice A7 tw.l.length ca7]) hg7.symm
      have BU6 : Below W.heap.size W U6 := below_then BU3 bU6
      clear hU6 hg7
      have tw0 := kt.cell 0 _ rfl
      have tz0 := fun z : Lt U6 => z.cell tw0
      have pw0 := kp.cell 0 _ rfl
      have pw1 := kp.cell 1 _ rfl
      have pw2 := kp.cell 2 _ rfl
      have pw3 := kp.cell 3 _ rfl
      have pw4 := kp.cell 4 _ rfl
      have pw5 := kp.cell 5 _ rfl
      have pw6 := kp.cell 6 _ rfl
      have pw7 := kp.cell 7 _ rfl
      have pw8 := kp.cell 8 _ rfl
      have pz0 := fun z : Lt U6 => z.cell pw0
      have pz1 := fun z : Lt U6 => z.cell pw1
      have pz2 := fun z : Lt U6 => z.cell pw2
      have pz3 := fun z : Lt U6 => z.cell pw3
      have pz4 := fun z : Lt U6 => z.cell pw4
      have pz5 := fun z : Lt U6 => z.cell pw5
      have pz6 := fun z : Lt U6 => z.cell pw6
      have pz7 := fun z : Lt U6 => z.cell pw7
      have pz8 := fun z : Lt U6 => z.cell pw8
      have nnw0 := knn.cell 0 _ rfl
      have nnw1 := knn.cell 1 _ rfl
      have nnw2 := knn.cell 2 _ rfl
      have nnw3 := knn.cell 3 _ rfl
      have nnw4 := knn.cell 4 _ rfl
      have nnw5 := knn.cell 5 _ rfl
      have nnw6 := knn.cell 6 _ rfl
      have nnw7 := knn.cell 7 _ rfl
      have nnw8 := knn.cell 8 _ rfl
      have nnz0 := fun z : Lt U6 => z.cell nnw0
      have nnz1 := fun z : Lt U6 => z.cell nnw1
      have nnz2 := fun z : Lt U6 => z.cell nnw2
      have nnz3 := fun z : Lt U6 => z.cell nnw3
      have nnz4 := fun z : Lt U6 => z.cell nnw4
      have nnz5 := fun z : Lt U6 => z.cell nnw5
      have nnz6 := fun z : Lt U6 => z.cell nnw6
      have nnz7 := fun z : Lt U6 => z.cell nnw7
      have nnz8 := fun z : Lt U6 => z.cell nnw8
      have tww0 := ktw.cell 0 _ rfl
      have tww1 := ktw.cell 1 _ rfl
      have tww2 := ktw.cell 2 _ rfl
      have tww3 := ktw.cell 3 _ rfl
      have tww4 := ktw.cell 4 _ rfl
      have tww5 := ktw.cell 5 _ rfl
      have tww6 := ktw.cell 6 _ rfl
      have tww7 := ktw.cell 7 _ rfl
      have tww8 := ktw.cell 8 _ rfl
      have twz0 := fun z : Lt U6 => z.cell tww0
      have twz1 := fun z : Lt U6 => z.cell tww1
      have twz2 := fun z : Lt U6 => z.cell tww2
      have twz3 := fun z : Lt U6 => z.cell tww3
      have twz4 := fun z : Lt U6 => z.cell tww4
      have twz5 := fun z : Lt U6 => z.cell tww5
      have twz6 := fun z : Lt U6 => z.cell tww6
      have twz7 := fun z : Lt U6 => z.cell tww7
      have twz8 := fun z : Lt U6 => z.cell tww8
      clear CN CT hNN hat6 hat7 hb6 hb7 bU5 BU5
      have HN := Lib.hid hatn
      have HW := Lib.hid hatt
      clear hatn hatt
      by_cases h13 : p.size ≤ 13
      · have hd13 : decide ((13 : Int) < p.size) = false := decide_eq_false (by omega)
        have hd15 : ¬ 13 < p.size := by omega
        go_wp2_with fail
        refine (rsize_any p (Lt.base U6) (HA.out.below BU6) (by have := HSZ.out; omega)).mono ?_; rintro e w' ⟨rfl, y3, rfl⟩
        go_wp2_with fail
        refine (rmay_any y3 (HT.out.below BU6) (HA.out.below BU6) (by have := HSZ.out; omega)).mono ?_; rintro e w' ⟨rfl, y4, rfl⟩
        cases hm : p.may t
        · clear hm h13
          go_wp2_with fail
          go_ret
          exact ⟨rfl, y4.via BU6, rfl⟩
        · have he : nn = tw := by rw [← HNN.out, ← HTW.out, normal_twice hm h13]
          subst he
          have HAG := Lib.hid (show nn.size ≤ 15 → nn.normal t = nn from fun h => by rw [← HNN.out] at h ⊢; exact normal_again hm h)
          clear hm h13 hd13 hd15
          go_upto_region 11 with fail
          refine wp_here fun U7 hU7 => ?_
          have bU7 : Below U6.heap.size U6 U7 := by rw [hU7]; exact y4.2
          clear tw0 tz0 pw0 pz0 pw1 pz1 pw2 pz2 pw3 pz3 pw4 pz4 pw5 pz5 pw6 pz6 pw7 pz7 pw8 pz8 nnw0 nnz0 nnw1 nnz1 nnw2 nnz2 nnw3 nnz3 nnw4 nnz4 nnw5 nnz5 nnw6 nnz6 nnw7 nnz7 nnw8 nnz8 tww0 twz0 tww1 twz1 tww2 twz2 tww3 twz3 tww4 twz4 tww5 twz5 tww6 twz6 tww7 twz7 tww8 twz8
          replace kt := kt.below bU7
          replace kp := kp.below bU7
          replace knn := knn.below bU7
          replace ktw := ktw.below bU7
          have BU7 : Below W.heap.size W U7 := below_then BU6 bU7
          clear hU7
          have tw0 := kt.cell 0 _ rfl
          have tz0 := fun z : Lt U7 => z.cell tw0
          have pw0 := kp.cell 0 _ rfl
          have pw1 := kp.cell 1 _ rfl
          have pw2 := kp.cell 2 _ rfl
          have pw3 := kp.cell 3 _ rfl
          have pw4 := kp.cell 4 _ rfl
          have pw5 := kp.cell 5 _ rfl
          have pw6 := kp.cell 6 _ rfl
          have pw7 := kp.cell 7 _ rfl
          have pw8 := kp.cell 8 _ rfl
          have pz0 := fun z : Lt U7 => z.cell pw0
          have pz1 := fun z : Lt U7 => z.cell pw1
          have pz2 := fun z : Lt U7 => z.cell pw2
          have pz3 := fun z : Lt U7 => z.cell pw3
          have pz4 := fun z : Lt U7 => z.cell pw4
          have pz5 := fun z : Lt U7 => z.cell pw5
          have pz6 := fun z : Lt U7 => z.cell pw6
          have pz7 := fun z : Lt U7 => z.cell pw7
          have pz8 := fun z : Lt U7 => z.cell pw8
          have nnw0 := knn.cell 0 _ rfl
          have nnw1 := knn.cell 1 _ rfl
          have nnw2 := knn.cell 2 _ rfl
          have nnw3 := knn.cell 3 _ rfl
          have nnw4 := knn.cell 4 _ rfl
          have nnw5 := knn.cell 5 _ rfl
          have nnw6 := knn.cell 6 _ rfl
          have nnw7 := knn.cell 7 _ rfl
          have nnw8 := knn.cell 8 _ rfl
          have nnz0 := fun z : Lt U7 => z.cell nnw0
          have nnz1 := fun z : Lt U7 => z.cell nnw1
          have nnz2 := fun z : Lt U7 => z.cell nnw2
          have nnz3 := fun z : Lt U7 => z.cell nnw3
          have nnz4 := fun z : Lt U7 => z.cell nnw4
          have nnz5 := fun z : Lt U7 => z.cell nnw5
          have nnz6 := fun z : Lt U7 => z.cell nnw6
          have nnz7 := fun z : Lt U7 => z.cell nnw7
          have nnz8 := fun z : Lt U7 => z.cell nnw8
          have tww0 := ktw.cell 0 _ rfl
          have tww1 := ktw.cell 1 _ rfl
          have tww2 := ktw.cell 2 _ rfl
          have tww3 := ktw.cell 3 _ rfl
          have tww4 := ktw.cell 4 _ rfl
          have tww5 := ktw.cell 5 _ rfl
          have tww6 := ktw.cell 6 _ rfl
          have tww7 := ktw.cell 7 _ rfl
          have tww8 := ktw.cell 8 _ rfl
          have twz0 := fun z : Lt U7 => z.cell tww0
          have twz1 := fun z : Lt U7 => z.cell tww1
          have twz2 := fun z : Lt U7 => z.cell tww2
          have twz3 := fun z : Lt U7 => z.cell tww3
          have twz4 := fun z : Lt U7 => z.cell tww4
          have twz5 := fun z : Lt U7 => z.cell tww5
          have twz6 := fun z : Lt U7 => z.cell tww6
          have twz7 := fun z : Lt U7 => z.cell tww7
          have twz8 := fun z : Lt U7 => z.cell tww8
          have CS := Lib.hid (show ∀ w A' ca' A'' ca'', nn.At w A' ca' → nn.At w A'' ca'' → Calls Try.prog 12 #[.agg #[.int .i64 nn.op, .int .i64 nn.col, .bool nn.v.t, .int .i64 nn.v.n, .string nn.v.s, .bool nn.w.t, .int .i64 nn.w.n, .string nn.w.s, .slice A' nn.l.length ca'], .agg #[.int .i64 nn.op, .int .i64 nn.col, .bool nn.v.t, .int .i64 nn.v.n, .string nn.v.s, .bool nn.w.t, .int .i64 nn.w.n, .string nn.w.s, .slice A'' nn.l.length ca'']] w fun e w' => e = .returned (.bool true) ∧ Below w.heap.size w w' from fun w A' ca' A'' ca'' h1 h2 => by
            have := rpsame_any nn (Lt.base w) nn h1 h2 (by have := HS.out; omega)
            rw [Pr.same_self] at this
            exact this.mono fun e w' ⟨h1, y, h2⟩ => ⟨h1, h2 ▸ y.2⟩)
          go_wp2_with fail
          refine (CS.out U7 _ _ _ _ (HW.out.below bU7) (HN.out.below bU7)).mono ?_; rintro e w8 ⟨rfl, hb8⟩
          obtain ⟨y8, hy8⟩ : ∃ y8 : Lt U7, y8.1 = w8 := ⟨⟨w8, hb8⟩, rfl⟩
          subst hy8
          go_upto_region 13 with fail
          refine wp_here fun U8 hU8 => ?_
          have bU8 : Below U7.heap.size U7 U8 := by rw [hU8]; exact y8.2
          clear tw0 tz0 pw0 pz0 pw1 pz1 pw2 pz2 pw3 pz3 pw4 pz4 pw5 pz5 pw6 pz6 pw7 pz7 pw8 pz8 nnw0 nnz0 nnw1 nnz1 nnw2 nnz2 nnw3 nnz3 nnw4 nnz4 nnw5 nnz5 nnw6 nnz6 nnw7 nnz7 nnw8 nnz8 tww0 twz0 tww1 twz1 tww2 twz2 tww3 twz3 tww4 twz4 tww5 twz5 tww6 twz6 tww7 twz7 tww8 twz8
          replace kt := kt.below bU8
          replace kp := kp.below bU8
          replace knn := knn.below bU8
          replace ktw := ktw.below bU8
          have BU8 : Below W.heap.size W U8 := below_then BU7 bU8
          clear hU8
          have tw0 := kt.cell 0 _ rfl
          have tz0 := fun z : Lt U8 => z.cell tw0
          have pw0 := kp.cell 0 _ rfl
          have pw1 := kp.cell 1 _ rfl
          have pw2 := kp.cell 2 _ rfl
          have pw3 := kp.cell 3 _ rfl
          have pw4 := kp.cell 4 _ rfl
          have pw5 := kp.cell 5 _ rfl
          have pw6 := kp.cell 6 _ rfl
          have pw7 := kp.cell 7 _ rfl
          have pw8 := kp.cell 8 _ rfl
          have pz0 := fun z : Lt U8 => z.cell pw0
          have pz1 := fun z : Lt U8 => z.cell pw1
          have pz2 := fun z : Lt U8 => z.cell pw2
          have pz3 := fun z : Lt U8 => z.cell pw3
          have pz4 := fun z : Lt U8 => z.cell pw4
          have pz5 := fun z : Lt U8 => z.cell pw5
          have pz6 := fun z : Lt U8 => z.cell pw6
          have pz7 := fun z : Lt U8 => z.cell pw7
          have pz8 := fun z : Lt U8 => z.cell pw8
          have nnw0 := knn.cell 0 _ rfl
          have nnw1 := knn.cell 1 _ rfl
          have nnw2 := knn.cell 2 _ rfl
          have nnw3 := knn.cell 3 _ rfl
          have nnw4 := knn.cell 4 _ rfl
          have nnw5 := knn.cell 5 _ rfl
          have nnw6 := knn.cell 6 _ rfl
          have nnw7 := knn.cell 7 _ rfl
          have nnw8 := knn.cell 8 _ rfl
          have nnz0 := fun z : Lt U8 => z.cell nnw0
          have nnz1 := fun z : Lt U8 => z.cell nnw1
          have nnz2 := fun z : Lt U8 => z.cell nnw2
          have nnz3 := fun z : Lt U8 => z.cell nnw3
          have nnz4 := fun z : Lt U8 => z.cell nnw4
          have nnz5 := fun z : Lt U8 => z.cell nnw5
          have nnz6 := fun z : Lt U8 => z.cell nnw6
          have nnz7 := fun z : Lt U8 => z.cell nnw7
          have nnz8 := fun z : Lt U8 => z.cell nnw8
          have tww0 := ktw.cell 0 _ rfl
          have tww1 := ktw.cell 1 _ rfl
          have tww2 := ktw.cell 2 _ rfl
          have tww3 := ktw.cell 3 _ rfl
          have tww4 := ktw.cell 4 _ rfl
          have tww5 := ktw.cell 5 _ rfl
          have tww6 := ktw.cell 6 _ rfl
          have tww7 := ktw.cell 7 _ rfl
          have tww8 := ktw.cell 8 _ rfl
          have twz0 := fun z : Lt U8 => z.cell tww0
          have twz1 := fun z : Lt U8 => z.cell tww1
          have twz2 := fun z : Lt U8 => z.cell tww2
          have twz3 := fun z : Lt U8 => z.cell tww3
          have twz4 := fun z : Lt U8 => z.cell tww4
          have twz5 := fun z : Lt U8 => z.cell tww5
          have twz6 := fun z : Lt U8 => z.cell tww6
          have twz7 := fun z : Lt U8 => z.cell tww7
          have twz8 := fun z : Lt U8 => z.cell tww8
          have hn8 : nn.At U8 A6 ca6 := (HN.out.below bU7).below bU8
          by_cases h15 : nn.size ≤ 15
          · have hd16 : decide ((15 : Int) < nn.size) = false := decide_eq_false (by omega)
            have hd17 : ¬ 15 < nn.size := by omega
            have hT : ∀ w', Below U8.heap.size U8 w' → Below U8.heap.size U8 w' ∧ w'.cell? ⟨(x.1.heap.size), 0, none⟩ = some (.slice A0 t.length ca0) ∧ w'.cell? ⟨g6, 0, none⟩ = some (.int .i64 nn.op) ∧ w'.cell? ⟨g6, 1, none⟩ = some (.int .i64 nn.col) ∧ w'.cell? ⟨g6, 2, none⟩ = some (.bool nn.v.t) ∧ w'.cell? ⟨g6, 3, none⟩ = some (.int .i64 nn.v.n) ∧ w'.cell? ⟨g6, 4, none⟩ = some (.string nn.v.s) ∧ w'.cell? ⟨g6, 5, none⟩ = some (.bool nn.w.t) ∧ w'.cell? ⟨g6, 6, none⟩ = some (.int .i64 nn.w.n) ∧ w'.cell? ⟨g6, 7, none⟩ = some (.string nn.w.s) ∧ w'.cell? ⟨g6, 8, none⟩ = some (.slice A6 nn.l.length ca6) := fun w' h => ⟨h, (h.cell (cell_lt tw0)).trans tw0, (h.cell (cell_lt nnw0)).trans nnw0, (h.cell (cell_lt nnw1)).trans nnw1, (h.cell (cell_lt nnw2)).trans nnw2, (h.cell (cell_lt nnw3)).trans nnw3, (h.cell (cell_lt nnw4)).trans nnw4, (h.cell (cell_lt nnw5)).trans nnw5, (h.cell (cell_lt nnw6)).trans nnw6, (h.cell (cell_lt nnw7)).trans nnw7, (h.cell (cell_lt nnw8)).trans nnw8⟩
            have C1 := Lib.hid (show ∀ w, Below U8.heap.size U8 w → Calls Try.prog 27 #[.agg #[.int .i64 nn.op, .int .i64 nn.col, .bool nn.v.t, .int .i64 nn.v.n, .string nn.v.s, .bool nn.w.t, .int .i64 nn.w.n, .string nn.w.s, .slice A6 nn.l.length ca6]] w (fun e w' => e = .returned (.int .i64 nn.size) ∧ Below w.heap.size w w') from fun w h => (rsize_any nn (Lt.base w) (hn8.below h) (by have := HS.out; omega)).mono fun e w' ⟨h1, y, h2⟩ => ⟨h1, h2 ▸ y.2⟩)
            have C2 := Lib.hid (show ∀ w, Below U8.heap.size U8 w → Calls Try.prog 13 #[.agg #[.slice A0 t.length ca0], .agg #[.int .i64 nn.op, .int .i64 nn.col, .bool nn.v.t, .int .i64 nn.v.n, .string nn.v.s, .bool nn.w.t, .int .i64 nn.w.n, .string nn.w.s, .slice A6 nn.l.length ca6]] w (PFresh w nn) from fun w h => by
              have := normal_any (t := t) (p := nn) (ca0 := ca0) (by have := HS.out; omega) w ((HT.out.below BU8).below h) (hn8.below h)
              rwa [HAG.out h15] at this)
            have HN8 := Lib.hid hn8
            clear hn8 h15
            go_region_held3 (fun w' => Below U8.heap.size U8 w' ∧ w'.cell? ⟨(x.1.heap.size), 0, none⟩ = some (.slice A0 t.length ca0) ∧ w'.cell? ⟨g6, 0, none⟩ = some (.int .i64 nn.op) ∧ w'.cell? ⟨g6, 1, none⟩ = some (.int .i64 nn.col) ∧ w'.cell? ⟨g6, 2, none⟩ = some (.bool nn.v.t) ∧ w'.cell? ⟨g6, 3, none⟩ = some (.int .i64 nn.v.n) ∧ w'.cell? ⟨g6, 4, none⟩ = some (.string nn.v.s) ∧ w'.cell? ⟨g6, 5, none⟩ = some (.bool nn.w.t) ∧ w'.cell? ⟨g6, 6, none⟩ = some (.int .i64 nn.w.n) ∧ w'.cell? ⟨g6, 7, none⟩ = some (.string nn.w.s) ∧ w'.cell? ⟨g6, 8, none⟩ = some (.slice A6 nn.l.length ca6)) (first | exact hT _ (below_then (And.left ‹Below U8.heap.size U8 _ ∧ _›) hb5) | exact hT _ (below_then (And.left ‹Below U8.heap.size U8 _ ∧ _›) hb4) | exact hT _ (below_then (And.left ‹Below U8.heap.size U8 _ ∧ _›) hb3) | exact hT _ ((Below.refl _ _).drew)) (first
              | (go_at_call 27; (refine (C1.out _ (And.left ‹Below U8.heap.size U8 _ ∧ _›)).mono ?_); rintro e w3 ⟨rfl, hb3⟩)
              | (go_at_call 13; (refine (C2.out _ (And.left ‹Below U8.heap.size U8 _ ∧ _›)).mono ?_); rintro e w4 ⟨A4, ca4, rfl, hat4, _, hb4⟩)
              | (go_at_call 12; (refine (CS.out _ _ _ _ _ hat4 (HN8.out.below (And.left ‹Below U8.heap.size U8 _ ∧ _›))).mono ?_); rintro e w5 ⟨rfl, hb5⟩))
            all_goals
              go_wp2_with fail
              go_ret
              exact ⟨rfl, (Lt.base _).via (below_then BU8 (And.left ‹Below U8.heap.size U8 _ ∧ _›)), rfl⟩
          · have hd16 : decide ((15 : Int) < nn.size) = true := decide_eq_true (by omega)
            have hd17 : (15 : Int) < nn.size := by omega
            have hd18 : 15 < nn.size := by omega
            have C1 := Lib.hid (show ∀ z : Lt U8, Calls Try.prog 27 #[.agg #[.int .i64 nn.op, .int .i64 nn.col, .bool nn.v.t, .int .i64 nn.v.n, .string nn.v.s, .bool nn.w.t, .int .i64 nn.w.n, .string nn.w.s, .slice A6 nn.l.length ca6]] z.1 (fun e w' => e = .returned (.int .i64 nn.size) ∧ ∃ y : Lt U8, w' = y.1) from fun z => rsize_any nn z hn8 (by have := HS.out; omega))
            clear h15 hn8
            refine wp_region_here (by kernel_rfl) (by kernel_rfl) ?_
            repeat (go_big_quiet_step ((go_at_call 27; with_reducible exact C1.out _)))
            refine wpQuiet_nil ?_; intro _ hw'; obtain ⟨z, rfl⟩ := hw'
            go_wp2_with fail
            go_ret
            exact ⟨rfl, z.via BU8, rfl⟩
      · have hd13 : decide ((13 : Int) < p.size) = true := decide_eq_true (by omega)
        have hd14 : (13 : Int) < p.size := by omega
        have hd15 : 13 < p.size := by omega
        clear h13
        go_wp2_with fail
        refine (rsize_any p (Lt.base U6) (HA.out.below BU6) (by have := HSZ.out; omega)).mono ?_; rintro e w' ⟨rfl, y3, rfl⟩
        go_wp2_with fail
        go_ret
        exact ⟨rfl, y3.via BU6, rfl⟩
  · have hd : decide ((100 : Int) < t.length) = true := decide_eq_true (by omega)
    have hd3 : (100 : Int) < t.length := by omega
    clear hT
    go_enter Try.func8, Try.ntmps8
    go_wp2_with fail
    refine calls_here fun W1 hW1 => ?_
    have hb1 : Below W.heap.size W W1 := by rw [hW1]; exact below_then (x.more _) (below_alloc _)
    have kt : Blk W1 (x.1.heap.size) [.slice A0 t.length ca0] := by rw [hW1]; refine Blk.alloc ?_ _; exact Blk.new' (l := #[.slice A0 t.length ca0]) (by simp)
    have kp : Blk W1 (x.1.heap.size + 1) [.int .i64 p.op, .int .i64 p.col, .bool p.v.t, .int .i64 p.v.n, .string p.v.s, .bool p.w.t, .int .i64 p.w.n, .string p.w.s, .slice A p.l.length ca] := by rw [hW1]; exact Blk.new' (l := #[.int .i64 p.op, .int .i64 p.col, .bool p.v.t, .int .i64 p.v.n, .string p.v.s, .bool p.w.t, .int .i64 p.w.n, .string p.w.s, .slice A p.l.length ca]) (by simp)
    clear hW1
    have tw0 := kt.cell 0 _ rfl
    have tz0 := fun z : Lt W1 => z.cell tw0
    have pw0 := kp.cell 0 _ rfl
    have pw1 := kp.cell 1 _ rfl
    have pw2 := kp.cell 2 _ rfl
    have pw3 := kp.cell 3 _ rfl
    have pw4 := kp.cell 4 _ rfl
    have pw5 := kp.cell 5 _ rfl
    have pw6 := kp.cell 6 _ rfl
    have pw7 := kp.cell 7 _ rfl
    have pw8 := kp.cell 8 _ rfl
    have pz0 := fun z : Lt W1 => z.cell pw0
    have pz1 := fun z : Lt W1 => z.cell pw1
    have pz2 := fun z : Lt W1 => z.cell pw2
    have pz3 := fun z : Lt W1 => z.cell pw3
    have pz4 := fun z : Lt W1 => z.cell pw4
    have pz5 := fun z : Lt W1 => z.cell pw5
    have pz6 := fun z : Lt W1 => z.cell pw6
    have pz7 := fun z : Lt W1 => z.cell pw7
    have pz8 := fun z : Lt W1 => z.cell pw8
    refine (awake_any (Lt.base W1)).mono ?_; rintro e w' ⟨rfl, y1, rfl⟩
    go_upto_region 2 with fail
    refine wp_here fun U1 hU1 => ?_
    have bU1 : Below W1.heap.size W1 U1 := by rw [hU1]; exact y1.2
    clear tw0 tz0 pw0 pz0 pw1 pz1 pw2 pz2 pw3 pz3 pw4 pz4 pw5 pz5 pw6 pz6 pw7 pz7 pw8 pz8
    replace kt := kt.below bU1
    replace kp := kp.below bU1
    have BU1 : Below W.heap.size W U1 := below_then hb1 bU1
    clear hU1
    have tw0 := kt.cell 0 _ rfl
    have tz0 := fun z : Lt U1 => z.cell tw0
    have pw0 := kp.cell 0 _ rfl
    have pw1 := kp.cell 1 _ rfl
    have pw2 := kp.cell 2 _ rfl
    have pw3 := kp.cell 3 _ rfl
    have pw4 := kp.cell 4 _ rfl
    have pw5 := kp.cell 5 _ rfl
    have pw6 := kp.cell 6 _ rfl
    have pw7 := kp.cell 7 _ rfl
    have pw8 := kp.cell 8 _ rfl
    have pz0 := fun z : Lt U1 => z.cell pw0
    have pz1 := fun z : Lt U1 => z.cell pw1
    have pz2 := fun z : Lt U1 => z.cell pw2
    have pz3 := fun z : Lt U1 => z.cell pw3
    have pz4 := fun z : Lt U1 => z.cell pw4
    have pz5 := fun z : Lt U1 => z.cell pw5
    have pz6 := fun z : Lt U1 => z.cell pw6
    have pz7 := fun z : Lt U1 => z.cell pw7
    have pz8 := fun z : Lt U1 => z.cell pw8
    go_wp2_with fail
    refine (few_is hs (Lt.base U1) (HA.out.below BU1)).mono ?_; rintro e w' ⟨rfl, y2, rfl⟩
    cases s
    · clear hs
      go_wp2_with fail
      go_ret
      exact ⟨rfl, y2.via BU1, rfl⟩
    · clear hs
      go_wp2_with fail
      go_ret
      exact ⟨rfl, y2.via BU1, rfl⟩
end Go.Proofs.Ytppoefbfepehpaa
