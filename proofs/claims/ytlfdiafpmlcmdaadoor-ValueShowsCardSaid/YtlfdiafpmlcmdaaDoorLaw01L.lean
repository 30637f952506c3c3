/-
  The statement ValueShows, walked: it returns true. Conditions: the tables of package value and of strconv, and strconv's error variables, hold what the programs' texts lay; a number is of 64 bits.
-/
import Derived.Test.YtlfdiafpmlcmdaaDoorRRead
import Derived.Test.YtlfdiafpmlcmdaaDoorAwake01
namespace Go.Proofs.YtlfdiafpmlcmdaaDoor
open Go.RowKit
variable {W : World}

set_option maxHeartbeats 2000000 in
theorem valueShows_any (hd : Digs W) (hp : Pows W) (he : Errs W) {a : Val} (na : Num.is a.n = true) {s : ByteArray} (x : Lt W) : Calls Tryd.prog 4 #[.agg #[.bool a.t, .int .i64 a.n, .string a.s], .string s] x.1 fun e w' => e = .returned (.bool true) ∧ ∃ y : Lt W, w' = y.1 := by
  have HD := Lib.hid hd
  have HP := Lib.hid hp
  have HE := Lib.hid he
  have NA := Lib.hid na
  clear hd hp he na
  go_enter Tryd.func4, Tryd.ntmps4
  go_wp2_with fail
  refine calls_here fun W1 hW1 => ?_
  have B1 : Below W.heap.size W W1 := by rw [hW1]; exact x.more _
  obtain ⟨g, hgg⟩ : ∃ g, x.1.heap.size = g := ⟨_, rfl⟩
  have ka : Blk W1 g [.bool a.t, .int .i64 a.n, .string a.s] := by rw [hW1]; exact Blk.new' (l := #[.bool a.t, .int .i64 a.n, .string a.s]) hgg.symm
  rw [hgg]
  clear hW1 hgg
  refine (awake_any (HD.out.below B1) (Lt.base W1)).mono ?_; rintro e w' ⟨rfl, y1, rfl⟩
  have ka1 := ka.below y1.2
  have qa2 := ka1.cell 2 _ rfl
  by_cases h1 : 1000 < s.size
  · have d1 : decide ((1000 : Int) < (s.size : Int)) = true := decide_eq_true (by omega)
    have d2 : (1000 : Int) < (s.size : Int) := by omega
    go_wp2_with fail
    go_ret
    exact ⟨rfl, y1.via B1, rfl⟩
  have d1 : decide ((1000 : Int) < (s.size : Int)) = false := decide_eq_false (by omega)
  by_cases h2 : 1000 < a.s.size
  · have d3 : decide ((1000 : Int) < (a.s.size : Int)) = true := decide_eq_true (by omega)
    have d2 : (1000 : Int) < (a.s.size : Int) := by omega
    go_wp2_with fail
    go_ret
    exact ⟨rfl, y1.via B1, rfl⟩
  have d2 : decide ((1000 : Int) < (a.s.size : Int)) = false := decide_eq_false (by omega)
  obtain ⟨S, hS⟩ : ∃ S : ByteArray, ⟨a.shows.toArray⟩ = S := ⟨_, rfl⟩
  obtain ⟨rv, hrv⟩ : ∃ rv, readOf s.data.toList = rv := ⟨_, rfl⟩
  have C1 := fun z : Lt W1 => vread_any (HD.out.below B1) (HP.out.below B1) (HE.out.below B1) (s := s) (by omega) z
  have C2 := fun (V : World) (z : Lt V) => rread_any (W := V) (s := s) (by omega) z
  rw [hrv] at C1 C2
  have Q1 := fun (V : World) (h : Below W1.heap.size W1 V) (z : Lt V) => vshow_any (v := a) ((HD.out.below B1).below h) ((HP.out.below B1).below h) NA.out z
  have Q2 := fun (V : World) (z : Lt V) => rshow_any (v := a) NA.out (by omega) z
  rw [hS] at Q1 Q2
  have Q1 := Lib.hid Q1
  have Q2 := Lib.hid Q2
  clear hS hrv
  cases rv with
  | none =>
    unfold readV at C1 C2
    have C1 := Lib.hid C1
    have C2 := Lib.hid C2
    have rq : ∀ w : World, (binOp .eql 23 (.agg #[.bool false, .int .i64 0, .string ⟨#[]⟩]) (.agg #[.bool false, .int .i64 0, .string ⟨#[]⟩])).run Tryd.prog w = .ok (.bool true) w := fun w => by have h := run_eql_val ⟨false, 0, ⟨#[]⟩⟩ ⟨false, 0, ⟨#[]⟩⟩ w; rwa [decide_eq_true rfl] at h
    go_wp2_with fail
    refine (C1.out y1).mono ?_; rintro e w' ⟨rfl, y2, rfl⟩
    obtain ⟨g1, hg1⟩ : ∃ g, y2.1.heap.size = g := ⟨_, rfl⟩
    go_upto_region 7 with fail
    refine wp_here fun V hV => ?_
    have bV : Below W1.heap.size W1 V := by rw [hV]; exact y2.more _
    have kx : Blk V g1 [.bool false, .int .i64 0, .string ⟨#[]⟩] := by rw [hV]; exact Blk.new' (l := #[.bool false, .int .i64 0, .string ⟨#[]⟩]) hg1.symm
    clear hV hg1
    go_wp2_with fail
    refine (C2.out V (Lt.base V)).mono ?_; rintro e w' ⟨rfl, y3, rfl⟩
    obtain ⟨g2, hg2⟩ : ∃ g, y3.1.heap.size = g := ⟨_, rfl⟩
    go_upto_region 8 with fail
    refine wp_here fun U hU => ?_
    have bU0 : Below V.heap.size V U := by rw [hU]; exact y3.more _
    have ky : Blk U g2 [.bool false, .int .i64 0, .string ⟨#[]⟩] := by rw [hU]; exact Blk.new' (l := #[.bool false, .int .i64 0, .string ⟨#[]⟩]) hg2.symm
    clear hU hg2
    have kx2 := kx.below bU0
    have bU := below_then bV bU0
    have ka2 := ka.below bU
    have a0 := fun z : Lt U => z.cell (ka2.cell 0 _ rfl)
    have a1 := fun z : Lt U => z.cell (ka2.cell 1 _ rfl)
    have a2 := fun z : Lt U => z.cell (ka2.cell 2 _ rfl)
    have x0 := fun z : Lt U => z.cell (kx2.cell 0 _ rfl)
    have x1 := fun z : Lt U => z.cell (kx2.cell 1 _ rfl)
    have x2 := fun z : Lt U => z.cell (kx2.cell 2 _ rfl)
    have z0 := fun z : Lt U => z.cell (ky.cell 0 _ rfl)
    have z1 := fun z : Lt U => z.cell (ky.cell 1 _ rfl)
    have z2 := fun z : Lt U => z.cell (ky.cell 2 _ rfl)
    have R1 := Lib.hid (fun z : Lt U => Q1.out U bU z)
    have R2 := Lib.hid (fun z : Lt U => Q2.out U z)
    clear Q1 Q2 C1 C2
    refine wp_region_here (by kernel_rfl) (by kernel_rfl) ?_
    repeat (go_big_quiet_step ((first | (go_at_call 17; with_reducible exact R1.out _) | (go_at_call 18; with_reducible exact R2.out _))))
    refine wpQuiet_nil ?_; intro _ hw'; obtain ⟨z, rfl⟩ := hw'
    go_wp2_with fail
    go_ret
    exact ⟨ret_bool (by simp), z.via (below_then B1 bU), rfl⟩
  | some u =>
    unfold readV at C1 C2
    have C1 := Lib.hid C1
    have C2 := Lib.hid C2
    have rq : ∀ w : World, (binOp .eql 23 (.agg #[.bool u.t, .int .i64 u.n, .string u.s]) (.agg #[.bool u.t, .int .i64 u.n, .string u.s])).run Tryd.prog w = .ok (.bool true) w := fun w => by have h := run_eql_val u u w; rwa [decide_eq_true rfl] at h
    go_wp2_with fail
    refine (C1.out y1).mono ?_; rintro e w' ⟨rfl, y2, rfl⟩
    obtain ⟨g1, hg1⟩ : ∃ g, y2.1.heap.size = g := ⟨_, rfl⟩
    go_upto_region 7 with fail
    refine wp_here fun V hV => ?_
    have bV : Below W1.heap.size W1 V := by rw [hV]; exact y2.more _
    have kx : Blk V g1 [.bool u.t, .int .i64 u.n, .string u.s] := by rw [hV]; exact Blk.new' (l := #[.bool u.t, .int .i64 u.n, .string u.s]) hg1.symm
    clear hV hg1
    go_wp2_with fail
    refine (C2.out V (Lt.base V)).mono ?_; rintro e w' ⟨rfl, y3, rfl⟩
    obtain ⟨g2, hg2⟩ : ∃ g, y3.1.heap.size = g := ⟨_, rfl⟩
    go_upto_region 8 with fail
    refine wp_here fun U hU => ?_
    have bU0 : Below V.heap.size V U := by rw [hU]; exact y3.more _
    have ky : Blk U g2 [.bool u.t, .int .i64 u.n, .string u.s] := by rw [hU]; exact Blk.new' (l := #[.bool u.t, .int .i64 u.n, .string u.s]) hg2.symm
    clear hU hg2
    have kx2 := kx.below bU0
    have bU := below_then bV bU0
    have ka2 := ka.below bU
    have a0 := fun z : Lt U => z.cell (ka2.cell 0 _ rfl)
    have a1 := fun z : Lt U => z.cell (ka2.cell 1 _ rfl)
    have a2 := fun z : Lt U => z.cell (ka2.cell 2 _ rfl)
    have x0 := fun z : Lt U => z.cell (kx2.cell 0 _ rfl)
    have x1 := fun z : Lt U => z.cell (kx2.cell 1 _ rfl)
    have x2 := fun z : Lt U => z.cell (kx2.cell 2 _ rfl)
    have z0 := fun z : Lt U => z.cell (ky.cell 0 _ rfl)
    have z1 := fun z : Lt U => z.cell (ky.cell 1 _ rfl)
    have z2 := fun z : Lt U => z.cell (ky.cell 2 _ rfl)
    have R1 := Lib.hid (fun z : Lt U => Q1.out U bU z)
    have R2 := Lib.hid (fun z : Lt U => Q2.out U z)
    clear Q1 Q2 C1 C2
    refine wp_region_here (by kernel_rfl) (by kernel_rfl) ?_
    repeat (go_big_quiet_step ((first | (go_at_call 17; with_reducible exact R1.out _) | (go_at_call 18; with_reducible exact R2.out _))))
    refine wpQuiet_nil ?_; intro _ hw'; obtain ⟨z, rfl⟩ := hw'
    go_wp2_with fail
    go_ret
    exact ⟨ret_bool (by simp), z.via (below_then B1 bU), rfl⟩
end Go.Proofs.YtlfdiafpmlcmdaaDoor
