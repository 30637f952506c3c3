/-
  The statement ValueBack, walked: it returns true. Conditions: the tables of package value and of strconv, and strconv's error variables, hold what the programs' texts lay; numbers are of 64 bits.
-/
import Derived.Test.YtlfdiafpmlcmdaaDoorBack
import Derived.Test.YtlfdiafpmlcmdaaDoorAwake01
namespace Go.Proofs.YtlfdiafpmlcmdaaDoor
open Go.RowKit
variable {W : World}

set_option maxHeartbeats 2000000 in
theorem valueBack_any (hd : Digs W) (hp : Pows W) (he : Errs W) {a b : Val} (na : Num.is a.n = true) (nb : Num.is b.n = true) (x : Lt W) : Calls Tryd.prog 6 #[.agg #[.bool a.t, .int .i64 a.n, .string a.s], .agg #[.bool b.t, .int .i64 b.n, .string b.s]] x.1 fun e w' => e = .returned (.bool true) ∧ ∃ y : Lt W, w' = y.1 := by
  have HD := Lib.hid hd
  have HP := Lib.hid hp
  have HE := Lib.hid he
  have NA := Lib.hid na
  have NB := Lib.hid nb
  clear hd hp he na nb
  go_enter Tryd.func6, Tryd.ntmps6
  go_wp2_with fail
  refine calls_here fun W1 hW1 => ?_
  have B1 : Below W.heap.size W W1 := by rw [hW1]; exact x.more2 _ _
  obtain ⟨g, hgg⟩ : ∃ g, x.1.heap.size = g := ⟨_, rfl⟩
  have ka : Blk W1 g [.bool a.t, .int .i64 a.n, .string a.s] := by rw [hW1]; refine Blk.alloc ?_ _; exact Blk.new' (l := #[.bool a.t, .int .i64 a.n, .string a.s]) hgg.symm
  have kb : Blk W1 (g + 1) [.bool b.t, .int .i64 b.n, .string b.s] := by rw [hW1]; exact Blk.new' (l := #[.bool b.t, .int .i64 b.n, .string b.s]) (by simp [hgg])
  rw [hgg]
  clear hW1 hgg
  refine (awake_any (HD.out.below B1) (Lt.base W1)).mono ?_; rintro e w' ⟨rfl, y1, rfl⟩
  have ka1 := ka.below y1.2
  have kb1 := kb.below y1.2
  have qa2 := ka1.cell 2 _ rfl
  have qb2 := kb1.cell 2 _ rfl
  by_cases h1 : 1000 < a.s.size
  · have d1 : decide ((1000 : Int) < (a.s.size : Int)) = true := decide_eq_true (by omega)
    have d2 : (1000 : Int) < (a.s.size : Int) := by omega
    go_wp2_with fail
    go_ret
    exact ⟨rfl, y1.via B1, rfl⟩
  have d1 : decide ((1000 : Int) < (a.s.size : Int)) = false := decide_eq_false (by omega)
  by_cases h2 : 1000 < b.s.size
  · have d3 : decide ((1000 : Int) < (b.s.size : Int)) = true := decide_eq_true (by omega)
    have d2 : (1000 : Int) < (b.s.size : Int) := by omega
    go_wp2_with fail
    go_ret
    exact ⟨rfl, y1.via B1, rfl⟩
  have d2 : decide ((1000 : Int) < (b.s.size : Int)) = false := decide_eq_false (by omega)
  have qa0 := ka1.cell 0 _ rfl
  have qa1 := ka1.cell 1 _ rfl
  obtain ⟨S, hS⟩ : ∃ S : ByteArray, ⟨a.shows.toArray⟩ = S := ⟨_, rfl⟩
  obtain ⟨T, hTT⟩ : ∃ T : ByteArray, ⟨b.shows.toArray⟩ = T := ⟨_, rfl⟩
  have hS2 : S.data.toList = a.shows := by rw [← hS]
  have hT2 : T.data.toList = b.shows := by rw [← hTT]
  have hSs : S.size ≤ 1000 := by rw [← size_data, hS2]; have := shows_short NA.out; omega
  have CS := fun z : Lt W1 => vshow_any (v := a) (HD.out.below B1) (HP.out.below B1) NA.out z
  have CT := fun z : Lt W1 => vshow_any (v := b) (HD.out.below B1) (HP.out.below B1) NB.out z
  rw [hS] at CS
  rw [hTT] at CT
  have CR := fun z : Lt W1 => vread_any (HD.out.below B1) (HP.out.below B1) (HE.out.below B1) hSs z
  obtain ⟨r, hr⟩ : ∃ r, a.right = r := ⟨_, rfl⟩
  have C3 := fun (V : World) (h : Below W1.heap.size W1 V) (z : Lt V) => vright_is hr z
  have HR := Lib.hid hr
  cases r
  · -- a may not be
    have e1 : readOf S.data.toList = none := by rw [hS2, shows_wrong hr, readOf_nil]
    rw [e1] at CR
    unfold readV at CR
    have e2 : S.toList.isEmpty = true := by rw [Lib.toList_data, hS2, shows_wrong hr]; rfl
    have CS := Lib.hid CS
    have CR := Lib.hid CR
    have C3 := Lib.hid C3
    clear hS hS2 hTT hT2 e1 hr CT
    go_wp2_with fail
    refine (CS.out y1).mono ?_; rintro e w' ⟨rfl, y2, rfl⟩
    go_wp2_with fail
    refine (CR.out y2).mono ?_; rintro e w' ⟨rfl, y3, rfl⟩
    obtain ⟨g2, hg2⟩ : ∃ g, y3.1.heap.size = g := ⟨_, rfl⟩
    go_upto_region 8 with fail
    refine wp_here fun V hV => ?_
    have bV : Below W1.heap.size W1 V := by rw [hV]; exact y3.more _
    have kv : Blk V g2 [.bool false, .int .i64 0, .string ⟨#[]⟩] := by rw [hV]; exact Blk.new' (l := #[.bool false, .int .i64 0, .string ⟨#[]⟩]) hg2.symm
    have ka4 := ka.below bV
    have kb4 := kb.below bV
    clear hV hg2
    have s0 := ka4.cell 0 _ rfl
    have s1 := ka4.cell 1 _ rfl
    have s2 := ka4.cell 2 _ rfl
    go_wp2_with fail
    refine (C3.out V bV (Lt.base V)).mono ?_; rintro e w' ⟨rfl, y5, rfl⟩
    have kv5 := kv.below y5.2
    have r0 := kv5.cell 0 _ rfl
    have r1 := kv5.cell 1 _ rfl
    have r2 := kv5.cell 2 _ rfl
    have rz : ∀ w : World, (binOp .eql 23 (.agg #[.bool false, .int .i64 0, .string ⟨#[]⟩]) (.agg #[.bool false, .int .i64 0, .string ⟨#[]⟩])).run Tryd.prog w = .ok (.bool true) w := fun w => by have h := run_eql_val ⟨false, 0, ⟨#[]⟩⟩ ⟨false, 0, ⟨#[]⟩⟩ w; rwa [decide_eq_true rfl] at h
    go_wp2_with fail
    go_ret
    exact ⟨rfl, y5.via (below_then B1 bV), rfl⟩
  · have e1 : readOf S.data.toList = some a := by rw [hS2]; exact readOf_shows hr NA.out
    rw [e1] at CR
    unfold readV at CR
    have rq : ∀ w : World, (binOp .eql 23 (.agg #[.bool a.t, .int .i64 a.n, .string a.s]) (.agg #[.bool a.t, .int .i64 a.n, .string a.s])).run Tryd.prog w = .ok (.bool true) w := fun w => by have h := run_eql_val a a w; rwa [decide_eq_true rfl] at h
    have hts : (T.toList == S.toList) = false ∨ (T.toList == S.toList) = true ∧ a = b := by
      by_cases h : T.toList = S.toList
      · refine .inr ⟨by rw [beq_iff_eq]; exact h, ?_⟩
        rw [Lib.toList_data, Lib.toList_data, hT2, hS2] at h
        have hbr : b.right = true := by
          cases hq : b.right
          · rw [shows_wrong hq] at h; exact absurd h.symm (shows_ne hr)
          · rfl
        exact Says.one (s := a.shows) ⟨hr, NA.out, rfl⟩ ⟨hbr, NB.out, h⟩
      · exact .inl (by rw [beq_eq_false_iff_ne]; exact h)
    have CS := Lib.hid CS
    have CR := Lib.hid CR
    have C3 := Lib.hid C3
    have CT := Lib.hid CT
    clear hS hS2 hTT hT2 e1 hr
    go_wp2_with fail
    refine (CS.out y1).mono ?_; rintro e w' ⟨rfl, y2, rfl⟩
    go_wp2_with fail
    refine (CR.out y2).mono ?_; rintro e w' ⟨rfl, y3, rfl⟩
    obtain ⟨g2, hg2⟩ : ∃ g, y3.1.heap.size = g := ⟨_, rfl⟩
    go_upto_region 8 with fail
    refine wp_here fun V hV => ?_
    have bV : Below W1.heap.size W1 V := by rw [hV]; exact y3.more _
    have kv : Blk V g2 [.bool a.t, .int .i64 a.n, .string a.s] := by rw [hV]; exact Blk.new' (l := #[.bool a.t, .int .i64 a.n, .string a.s]) hg2.symm
    have ka4 := ka.below bV
    have kb4 := kb.below bV
    clear hV hg2
    have s0 := ka4.cell 0 _ rfl
    have s1 := ka4.cell 1 _ rfl
    have s2 := ka4.cell 2 _ rfl
    go_wp2_with fail
    refine (C3.out V bV (Lt.base V)).mono ?_; rintro e w' ⟨rfl, y5, rfl⟩
    have kv5 := kv.below y5.2
    have r0 := kv5.cell 0 _ rfl
    have r1 := kv5.cell 1 _ rfl
    have r2 := kv5.cell 2 _ rfl
    have ka5 := ka4.below y5.2
    have t0 := ka5.cell 0 _ rfl
    have t1 := ka5.cell 1 _ rfl
    have t2 := ka5.cell 2 _ rfl
    have kb5 := kb4.below y5.2
    have u0 := kb5.cell 0 _ rfl
    have u1 := kb5.cell 1 _ rfl
    have u2 := kb5.cell 2 _ rfl
    have B5 := below_then bV y5.2
    rcases hts with hts | ⟨hts, hab⟩
    · go_wp2_with fail
      refine (CT.out ⟨y5.1, B5⟩).mono ?_; rintro e w' ⟨rfl, y6, rfl⟩
      go_wp2_with fail
      go_ret
      exact ⟨rfl, y6.via B1, rfl⟩
    · subst hab
      go_wp2_with fail
      refine (CT.out ⟨y5.1, B5⟩).mono ?_; rintro e w' ⟨rfl, y6, rfl⟩
      have B6 := y6.2
      have v0 := (ka.below B6).cell 0 _ rfl
      have v1 := (ka.below B6).cell 1 _ rfl
      have v2 := (ka.below B6).cell 2 _ rfl
      have w0 := (kb.below B6).cell 0 _ rfl
      have w1 := (kb.below B6).cell 1 _ rfl
      have w2 := (kb.below B6).cell 2 _ rfl
      go_wp2_with fail
      go_ret
      exact ⟨rfl, y6.via B1, rfl⟩
end Go.Proofs.YtlfdiafpmlcmdaaDoor
