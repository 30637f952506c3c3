/-
  The statement NormalKeys, walked: it returns true. Conditions: the arguments lie in memory as they read.
-/
import Derived.Test.YtppoefbfepehpaaLaw04E
namespace Go.Proofs.Ytppoefbfepehpaa
open Go.RowKit
variable {W : World}

theorem fits_may {c : List Bool} {r : List Val} (h : R.fits c r = true) : 1 ≤ c.length := by
  unfold R.fits at h
  simp only [Bool.and_eq_true] at h
  exact (R.may_iff.1 h.1.1).1
set_option maxHeartbeats 1000000 in
theorem normalKeys_any {A0 A : Option Addr} {ca0 ca : Nat} {t : List Bool} {p : Pr} (ht : ColsAt W A0 t) (hat : p.At W A ca) {B : Option Addr} {cb : Nat} {r : List Val} (hr : RowAt W B r) (hfit : Fit r) (x : Lt W) : Calls Try.prog 6 #[.agg #[.slice A0 t.length ca0], p.arg A ca, .slice B r.length cb] x.1 fun e w' => e = .returned (.bool true) ∧ ∃ y : Lt W, w' = y.1 := by
  have HT := Lib.hid ht
  have HA := Lib.hid hat
  have HR := Lib.hid hr
  have HF := Lib.hid hfit
  clear ht hat hr hfit
  unfold Pr.arg
  obtain ⟨s, hs⟩ : ∃ s, p.few 40 40 100 0 = s := ⟨_, rfl⟩
  by_cases hT : t.length ≤ 100
  · have hd : decide ((100 : Int) < t.length) = false := decide_eq_false (by omega)
    by_cases hR : r.length ≤ 100
    · have hd2 : decide ((100 : Int) < r.length) = false := decide_eq_false (by omega)
      go_enter Try.func6, Try.ntmps6
      go_wp2_with fail
      refine calls_here fun W1 hW1 => ?_
      have hb1 : Below W.heap.size W W1 := by rw [hW1]; exact below_then (x.more _) (below_alloc _)
      have kt : Blk W1 (x.1.heap.size) [.slice A0 t.length ca0] := by rw [hW1]; refine Blk.alloc ?_ _; exact Blk.new' (l := #[.slice A0 t.length ca0]) (by simp)
      have kp : Blk W1 (x.1.heap.size + 1) [.int .i64 p.op, .int .i64 p.col, .bool p.v.t, .int .i64 p.v.n, .string p.v.s, .bool p.w.t, .int .i64 p.w.n, .string p.w.s, .slice A p.l.length ca] := by rw [hW1]; exact Blk.new' (l := #[.int .i64 p.op, .int .i64 p.col, .bool p.v.t, .int .i64 p.v.n, .string p.v.s, .bool p.w.t, .int .i64 p.w.n, .string p.w.s, .slice A p.l.length ca]) (by simp)
      clear hW1
      have tw0 := kt.cell 0 _ rfl
      have tz0 := fun z : Lt W1 => z.cell tw0
      have pw0 := kp.cell 0 _ rfl
      have pw1 := kp.cell 1 _ rfl
      have pw2 := kp.cell 2 _ rfl
      have pw3 := kp.cell 3 _ rfl
      have pw4 := kp.cell 4 _ rfl
      have pw5 := kp.cell 5 _ rfl
      have pw6 := kp.cell 6 _ rfl
      have pw7 := kp.cell 7 _ rfl
      have pw8 := kp.cell 8 _ rfl
      have pz0 := fun z : Lt W1 => z.cell pw0
      have pz1 := fun z : Lt W1 => z.cell pw1
      have pz2 := fun z : Lt W1 => z.cell pw2
      have pz3 := fun z : Lt W1 => z.cell pw3
      have pz4 := fun z : Lt W1 => z.cell pw4
      have pz5 := fun z : Lt W1 => z.cell pw5
      have pz6 := fun z : Lt W1 => z.cell pw6
      have pz7 := fun z : Lt W1 => z.cell pw7
      have pz8 := fun z : Lt W1 => z.cell pw8
      refine (awake_any (Lt.base W1)).mono ?_; rintro e w' ⟨rfl, y1, rfl⟩
      go_upto_region 2 with fail
      refine wp_here fun U1 hU1 => ?_
      have bU1 : Below W1.heap.size W1 U1 := by rw [hU1]; exact y1.2
      clear tw0 tz0 pw0 pz0 pw1 pz1 pw2 pz2 pw3 pz3 pw4 pz4 pw5 pz5 pw6 pz6 pw7 pz7 pw8 pz8
      replace kt := kt.below bU1
      replace kp := kp.below bU1
      have BU1 : Below W.heap.size W U1 := below_then hb1 bU1
      clear hU1
      have tw0 := kt.cell 0 _ rfl
      have tz0 := fun z : Lt U1 => z.cell tw0
      have pw0 := kp.cell 0 _ rfl
      have pw1 := kp.cell 1 _ rfl
      have pw2 := kp.cell 2 _ rfl
      have pw3 := kp.cell 3 _ rfl
      have pw4 := kp.cell 4 _ rfl
      have pw5 := kp.cell 5 _ rfl
      have pw6 := kp.cell 6 _ rfl
      have pw7 := kp.cell 7 _ rfl
      have pw8 := kp.cell 8 _ rfl
      have pz0 := fun z : Lt U1 => z.cell pw0
      have pz1 := fun z : Lt U1 => z.cell pw1
      have pz2 := fun z : Lt U1 => z.cell pw2
      have pz3 := fun z : Lt U1 => z.cell pw3
      have pz4 := fun z : Lt U1 => z.cell pw4
      have pz5 := fun z : Lt U1 => z.cell pw5
      have pz6 := fun z : Lt U1 => z.cell pw6
      have pz7 := fun z : Lt U1 => z.cell pw7
      have pz8 := fun z : Lt U1 => z.cell pw8
      go_wp2_with fail
      refine (few_is hs (Lt.base U1) (HA.out.below BU1)).mono ?_; rintro e w' ⟨rfl, y2, rfl⟩
      cases s
      · clear hs
        go_wp2_with fail
        go_ret
        exact ⟨rfl, y2.via BU1, rfl⟩
      · have hsz := Pr.few_size hs
        clear hs
        obtain ⟨sp, hsp⟩ : ∃ sp, p.span t = sp := ⟨_, rfl⟩
        have CN := Lib.hid (show ∀ W' : World, ColsAt W' A0 t → p.At W' A ca → Calls Try.prog 15 #[.agg #[.slice A0 t.length ca0], p.arg A ca] W' (fun e w' => e = .returned sp.val ∧ Below W'.heap.size W' w') from fun W' h1 h2 => hsp ▸ span_any (by omega) W' h1 h2)
        have HSZ := Lib.hid hsz
        clear hsz
        go_upto_region 7 with fail
        refine wp_here fun U2 hU2 => ?_
        have bU2 : Below U1.heap.size U1 U2 := by rw [hU2]; exact y2.2
        clear tw0 tz0 pw0 pz0 pw1 pz1 pw2 pz2 pw3 pz3 pw4 pz4 pw5 pz5 pw6 pz6 pw7 pz7 pw8 pz8
        replace kt := kt.below bU2
        replace kp := kp.below bU2
        have BU2 : Below W.heap.size W U2 := below_then BU1 bU2
        clear hU2
        have tw0 := kt.cell 0 _ rfl
        have tz0 := fun z : Lt U2 => z.cell tw0
        have pw0 := kp.cell 0 _ rfl
        have pw1 := kp.cell 1 _ rfl
        have pw2 := kp.cell 2 _ rfl
        have pw3 := kp.cell 3 _ rfl
        have pw4 := kp.cell 4 _ rfl
        have pw5 := kp.cell 5 _ rfl
        have pw6 := kp.cell 6 _ rfl
        have pw7 := kp.cell 7 _ rfl
        have pw8 := kp.cell 8 _ rfl
        have pz0 := fun z : Lt U2 => z.cell pw0
        have pz1 := fun z : Lt U2 => z.cell pw1
        have pz2 := fun z : Lt U2 => z.cell pw2
        have pz3 := fun z : Lt U2 => z.cell pw3
        have pz4 := fun z : Lt U2 => z.cell pw4
        have pz5 := fun z : Lt U2 => z.cell pw5
        have pz6 := fun z : Lt U2 => z.cell pw6
        have pz7 := fun z : Lt U2 => z.cell pw7
        have pz8 := fun z : Lt U2 => z.cell pw8
        go_wp2_with fail
        refine (CN.out U2 (HT.out.below BU2) (HA.out.below BU2)).mono ?_; rintro e w6 ⟨rfl, hb6⟩
        obtain ⟨g6, hg6⟩ : ∃ g, w6.heap.size = g := ⟨_, rfl⟩
        go_upto_region 8 with fail
        refine wp_here fun U3 hU3 => ?_
        have bU3 : Below U2.heap.size U2 U3 := by rw [hU3]; exact below_then hb6 (below_alloc _)
        clear tw0 tz0 pw0 pz0 pw1 pz1 pw2 pz2 pw3 pz3 pw4 pz4 pw5 pz5 pw6 pz6 pw7 pz7 pw8 pz8
        replace kt := kt.below bU3
        replace kp := kp.below bU3
        have ksp : Blk U3 g6 [.bool sp.none, .bool sp.lo, .bool sp.olo, .bool sp.l.t, .int .i64 sp.l.n, .string sp.l.s, .bool sp.hi, .bool sp.ohi, .bool sp.h.t, .int .i64 sp.h.n, .string sp.h.s] := by rw [hU3]; exact Blk.new' (l := #[.bool sp.none, .bool sp.lo, .bool sp.olo, .bool sp.l.t, .int .i64 sp.l.n, .string sp.l.s, .bool sp.hi, .bool sp.ohi, .bool sp.h.t, .int .i64 sp.h.n, .string sp.h.s]) hg6.symm
        have BU3 : Below W.heap.size W U3 := below_then BU2 bU3
        clear hU3 hg6
        have tw0 := kt.cell 0 _ rfl
        have tz0 := fun z : Lt U3 => z.cell tw0
        have pw0 := kp.cell 0 _ rfl
        have pw1 := kp.cell 1 _ rfl
        have pw2 := kp.cell 2 _ rfl
        have pw3 := kp.cell 3 _ rfl
        have pw4 := kp.cell 4 _ rfl
        have pw5 := kp.cell 5 _ rfl
        have pw6 := kp.cell 6 _ rfl
        have pw7 := kp.cell 7 _ rfl
        have pw8 := kp.cell 8 _ rfl
        have pz0 := fun z : Lt U3 => z.cell pw0
        have pz1 := fun z : Lt U3 => z.cell pw1
        have pz2 := fun z : Lt U3 => z.cell pw2
        have pz3 := fun z : Lt U3 => z.cell pw3
        have pz4 := fun z : Lt U3 => z.cell pw4
        have pz5 := fun z : Lt U3 => z.cell pw5
        have pz6 := fun z : Lt U3 => z.cell pw6
        have pz7 := fun z : Lt U3 => z.cell pw7
        have pz8 := fun z : Lt U3 => z.cell pw8
        have qsp : Blk U3 g6 (Sp.cells sp) := ksp
        obtain ⟨spw0, spw1, spw2, spw3, spw4, spw5, spw6, spw7, spw8, spw9, spw10⟩ := qsp.c11
        have spz0 := fun z : Lt U3 => z.cell spw0
        have spz1 := fun z : Lt U3 => z.cell spw1
        have spz2 := fun z : Lt U3 => z.cell spw2
        have spz3 := fun z : Lt U3 => z.cell spw3
        have spz4 := fun z : Lt U3 => z.cell spw4
        have spz5 := fun z : Lt U3 => z.cell spw5
        have spz6 := fun z : Lt U3 => z.cell spw6
        have spz7 := fun z : Lt U3 => z.cell spw7
        have spz8 := fun z : Lt U3 => z.cell spw8
        have spz9 := fun z : Lt U3 => z.cell spw9
        have spz10 := fun z : Lt U3 => z.cell spw10
        cases hm : p.may t
        · have hl : sp = Sp.nothing := by rw [← hsp]; unfold Pr.span; rw [hm]; rfl
          have q0 : sp.none = true := by rw [hl]
          clear hl hsp
          have CM := Lib.hid (show ∀ z : Lt U3, Calls Try.prog 24 #[.agg #[.slice A0 t.length ca0], p.arg A ca] z.1 fun e w' => e = .returned (.bool false) ∧ ∃ y : Lt U3, w' = y.1 from fun z => hm ▸ rmay_any z (HT.out.below BU3) (HA.out.below BU3) (by have := HSZ.out; omega))
          clear hm
          go_wp2_with fail
          refine (CM.out (Lt.base U3)).mono ?_; rintro e w' ⟨rfl, y3, rfl⟩
          go_wp2_with fail
          refine (CM.out y3).mono ?_; rintro e w' ⟨rfl, y4, rfl⟩
          go_wp2_with fail
          go_ret
          exact ⟨rfl, y4.via BU3, rfl⟩
        · have HM := Lib.hid hm
          have CM := Lib.hid (show ∀ z : Lt U3, Calls Try.prog 24 #[.agg #[.slice A0 t.length ca0], p.arg A ca] z.1 fun e w' => e = .returned (.bool true) ∧ ∃ y : Lt U3, w' = y.1 from fun z => hm ▸ rmay_any z (HT.out.below BU3) (HA.out.below BU3) (by have := HSZ.out; omega))
          clear hm
          go_wp2_with fail
          refine (CM.out (Lt.base U3)).mono ?_; rintro e w' ⟨rfl, y3, rfl⟩
          go_wp2_with fail
          refine (rfits_row (HT.out.below BU3) (HR.out.below BU3) y3).mono ?_; rintro e w' ⟨rfl, y5, rfl⟩
          cases hf : R.fits t r
          · clear hf hsp
            go_wp2_with fail
            refine (CM.out y5).mono ?_; rintro e w' ⟨rfl, y6, rfl⟩
            go_wp2_with fail
            go_ret
            exact ⟨rfl, y6.via BU3, rfl⟩
          · have hlen := fits_len hf
            have ht1 := fits_may hf
            have hne : r ≠ [] := fun e => by subst e; simp at hlen; omega
            obtain ⟨u0, h0⟩ : ∃ u0, r[0]? = some u0 := ⟨_, List.getElem?_eq_getElem (by omega)⟩
            have hnth : Pr.nth r 0 = u0 := by simp [Pr.nth, h0]
            have hwi : p.holds r = true → sp.within u0 = true := fun hh => by
              have hp := Pr.may_parts HM.out
              have hb := Pr.push_bare p (Pr.parts_shape p hp) false
              have := Pr.keys_within r _ hb.1 hb.2.1 (by rw [Pr.holds_push r hlen p hp, hh]; rfl)
              rw [hnth] at this
              rw [← hsp]
              unfold Pr.span
              rw [HM.out, if_pos rfl]
              exact this
            obtain ⟨bb, oo, rfl, hc⟩ := HR.out hne
            obtain ⟨d0, d1, d2⟩ := hc 0 u0 h0
            rw [Nat.zero_mul, Nat.add_zero] at d0 d1 d2
            have D0 := fun z : Lt U3 => (show z.1.cell? ⟨bb, oo, none⟩ = some (.bool u0.t) from (z.via BU3).cell d0)
            have D1 := fun z : Lt U3 => (show z.1.cell? ⟨bb, oo + 1, none⟩ = some (.int .i64 u0.n) from (z.via BU3).cell d1)
            have D2 := fun z : Lt U3 => (show z.1.cell? ⟨bb, oo + 2, none⟩ = some (.string u0.s) from (z.via BU3).cell d2)
            have hpos : (0 : Int) < (r.length : Int) := by omega
            obtain ⟨b, hb⟩ : ∃ b, p.holds r = b := ⟨_, rfl⟩
            rw [hb] at hwi
            have C2 := Lib.hid (show ∀ z : Lt U3, Calls Try.prog 26 #[.agg #[.int .i64 p.op, .int .i64 p.col, .bool p.v.t, .int .i64 p.v.n, .string p.v.s, .bool p.w.t, .int .i64 p.w.n, .string p.w.s, .slice A p.l.length ca], .slice (some ⟨bb, oo, none⟩) r.length cb] z.1 fun e w' => e = .returned (.bool b) ∧ ∃ y : Lt U3, w' = y.1 from fun z => hb ▸ rholds_any r _ cb HF.out p z (HA.out.below BU3) (HR.out.below BU3) (by have := HSZ.out; omega))
            clear hf hsp hb d0 d1 d2 hc h0 hnth hlen ht1 hne
            cases b
            · go_wp2_with fail
              refine wp_region_pure _ (by kernel_rfl) (by kernel_rfl) ?_
              repeat (go_big_quiet_step ((go_at_call 26; with_reducible exact C2.out _)))
              refine wpQuiet_nil ?_; intro _ hw'; obtain ⟨z, rfl⟩ := hw'
              go_wp2_with fail
              go_ret
              exact ⟨rfl, z.via BU3, rfl⟩
            · have C3 := Lib.hid (show ∀ z : Lt U3, Calls Try.prog 17 #[.agg #[.bool sp.none, .bool sp.lo, .bool sp.olo, .bool sp.l.t, .int .i64 sp.l.n, .string sp.l.s, .bool sp.hi, .bool sp.ohi, .bool sp.h.t, .int .i64 sp.h.n, .string sp.h.s], .agg #[.bool u0.t, .int .i64 u0.n, .string u0.s]] z.1 fun e w' => e = .returned (.bool true) ∧ ∃ y : Lt U3, w' = y.1 from fun z => hwi rfl ▸ within_any sp u0 z)
              clear hwi
              go_wp2_with fail
              refine wp_region_pure _ (by kernel_rfl) (by kernel_rfl) ?_
              repeat (go_big_quiet_step ((first | (go_at_call 26; with_reducible exact C2.out _) | (go_at_call 17; with_reducible exact C3.out _))))
              refine wpQuiet_nil ?_; intro _ hw'; obtain ⟨z, rfl⟩ := hw'
              go_wp2_with fail
              go_ret
              exact ⟨rfl, z.via BU3, rfl⟩
    · have hd2 : decide ((100 : Int) < r.length) = true := decide_eq_true (by omega)
      have hd3 : (100 : Int) < r.length := by omega
      clear hR
      go_enter Try.func6, Try.ntmps6
      go_wp2_with fail
      refine calls_here fun W1 hW1 => ?_
      have hb1 : Below W.heap.size W W1 := by rw [hW1]; exact below_then (x.more _) (below_alloc _)
      have kt : Blk W1 (x.1.heap.size) [.slice A0 t.length ca0] := by rw [hW1]; refine Blk.alloc ?_ _; exact Blk.new' (l := #[.slice A0 t.length ca0]) (by simp)
      have kp : Blk W1 (x.1.heap.size + 1) [.int .i64 p.op, .int .i64 p.col, .bool p.v.t, .int .i64 p.v.n, .string p.v.s, .bool p.w.t, .int .i64 p.w.n, .string p.w.s, .slice A p.l.length ca] := by rw [hW1]; exact Blk.new' (l := #[.int .i64 p.op, .int .i64 p.col, .bool p.v.t, .int .i64 p.v.n, .string p.v.s, .bool p.w.t, .int .i64 p.w.n, .string p.w.s, .slice A p.l.length ca]) (by simp)
      clear hW1
      have tw0 := kt.cell 0 _ rfl
      have tz0 := fun z : Lt W1 => z.cell tw0
      have pw0 := kp.cell 0 _ rfl
      have pw1 := kp.cell 1 _ rfl
      have pw2 := kp.cell 2 _ rfl
      have pw3 := kp.cell 3 _ rfl
      have pw4 := kp.cell 4 _ rfl
      have pw5 := kp.cell 5 _ rfl
      have pw6 := kp.cell 6 _ rfl
      have pw7 := kp.cell 7 _ rfl
      have pw8 := kp.cell 8 _ rfl
      have pz0 := fun z : Lt W1 => z.cell pw0
      have pz1 := fun z : Lt W1 => z.cell pw1
      have pz2 := fun z : Lt W1 => z.cell pw2
      have pz3 := fun z : Lt W1 => z.cell pw3
      have pz4 := fun z : Lt W1 => z.cell pw4
      have pz5 := fun z : Lt W1 => z.cell pw5
      have pz6 := fun z : Lt W1 => z.cell pw6
      have pz7 := fun z : Lt W1 => z.cell pw7
      have pz8 := fun z : Lt W1 => z.cell pw8
      refine (awake_any (Lt.base W1)).mono ?_; rintro e w' ⟨rfl, y1, rfl⟩
      go_upto_region 2 with fail
      refine wp_here fun U1 hU1 => ?_
      have bU1 : Below W1.heap.size W1 U1 := by rw [hU1]; exact y1.2
      clear tw0 tz0 pw0 pz0 pw1 pz1 pw2 pz2 pw3 pz3 pw4 pz4 pw5 pz5 pw6 pz6 pw7 pz7 pw8 pz8
      replace kt := kt.below bU1
      replace kp := kp.below bU1
      have BU1 : Below W.heap.size W U1 := below_then hb1 bU1
      clear hU1
      have tw0 := kt.cell 0 _ rfl
      have tz0 := fun z : Lt U1 => z.cell tw0
      have pw0 := kp.cell 0 _ rfl
      have pw1 := kp.cell 1 _ rfl
      have pw2 := kp.cell 2 _ rfl
      have pw3 := kp.cell 3 _ rfl
      have pw4 := kp.cell 4 _ rfl
      have pw5 := kp.cell 5 _ rfl
      have pw6 := kp.cell 6 _ rfl
      have pw7 := kp.cell 7 _ rfl
      have pw8 := kp.cell 8 _ rfl
      have pz0 := fun z : Lt U1 => z.cell pw0
      have pz1 := fun z : Lt U1 => z.cell pw1
      have pz2 := fun z : Lt U1 => z.cell pw2
      have pz3 := fun z : Lt U1 => z.cell pw3
      have pz4 := fun z : Lt U1 => z.cell pw4
      have pz5 := fun z : Lt U1 => z.cell pw5
      have pz6 := fun z : Lt U1 => z.cell pw6
      have pz7 := fun z : Lt U1 => z.cell pw7
      have pz8 := fun z : Lt U1 => z.cell pw8
      go_wp2_with fail
      refine (few_is hs (Lt.base U1) (HA.out.below BU1)).mono ?_; rintro e w' ⟨rfl, y2, rfl⟩
      cases s
      · clear hs
        go_wp2_with fail
        go_ret
        exact ⟨rfl, y2.via BU1, rfl⟩
      · clear hs
        go_wp2_with fail
        go_ret
        exact ⟨rfl, y2.via BU1, rfl⟩
  · have hd : decide ((100 : Int) < t.length) = true := decide_eq_true (by omega)
    have hd3 : (100 : Int) < t.length := by omega
    clear hT
    go_enter Try.func6, Try.ntmps6
    go_wp2_with fail
    refine calls_here fun W1 hW1 => ?_
    have hb1 : Below W.heap.size W W1 := by rw [hW1]; exact below_then (x.more _) (below_alloc _)
    have kt : Blk W1 (x.1.heap.size) [.slice A0 t.length ca0] := by rw [hW1]; refine Blk.alloc ?_ _; exact Blk.new' (l := #[.slice A0 t.length ca0]) (by simp)
    have kp : Blk W1 (x.1.heap.size + 1) [.int .i64 p.op, .int .i64 p.col, .bool p.v.t, .int .i64 p.v.n, .string p.v.s, .bool p.w.t, .int .i64 p.w.n, .string p.w.s, .slice A p.l.length ca] := by rw [hW1]; exact Blk.new' (l := #[.int .i64 p.op, .int .i64 p.col, .bool p.v.t, .int .i64 p.v.n, .string p.v.s, .bool p.w.t, .int .i64 p.w.n, .string p.w.s, .slice A p.l.length ca]) (by simp)
    clear hW1
    have tw0 := kt.cell 0 _ rfl
    have tz0 := fun z : Lt W1 => z.cell tw0
    have pw0 := kp.cell 0 _ rfl
    have pw1 := kp.cell 1 _ rfl
    have pw2 := kp.cell 2 _ rfl
    have pw3 := kp.cell 3 _ rfl
    have pw4 := kp.cell 4 _ rfl
    have pw5 := kp.cell 5 _ rfl
    have pw6 := kp.cell 6 _ rfl
    have pw7 := kp.cell 7 _ rfl
    have pw8 := kp.cell 8 _ rfl
    have pz0 := fun z : Lt W1 => z.cell pw0
    have pz1 := fun z : Lt W1 => z.cell pw1
    have pz2 := fun z : Lt W1 => z.cell pw2
    have pz3 := fun z : Lt W1 => z.cell pw3
    have pz4 := fun z : Lt W1 => z.cell pw4
    have pz5 := fun z : Lt W1 => z.cell pw5
    have pz6 := fun z : Lt W1 => z.cell pw6
    have pz7 := fun z : Lt W1 => z.cell pw7
    have pz8 := fun z : Lt W1 => z.cell pw8
    refine (awake_any (Lt.base W1)).mono ?_; rintro e w' ⟨rfl, y1, rfl⟩
    go_upto_region 2 with fail
    refine wp_here fun U1 hU1 => ?_
    have bU1 : Below W1.heap.size W1 U1 := by rw [hU1]; exact y1.2
    clear tw0 tz0 pw0 pz0 pw1 pz1 pw2 pz2 pw3 pz3 pw4 pz4 pw5 pz5 pw6 pz6 pw7 pz7 pw8 pz8
    replace kt := kt.below bU1
    replace kp := kp.below bU1
    have BU1 : Below W.heap.size W U1 := below_then hb1 bU1
    clear hU1
    have tw0 := kt.cell 0 _ rfl
    have tz0 := fun z : Lt U1 => z.cell tw0
    have pw0 := kp.cell 0 _ rfl
    have pw1 := kp.cell 1 _ rfl
    have pw2 := kp.cell 2 _ rfl
    have pw3 := kp.cell 3 _ rfl
    have pw4 := kp.cell 4 _ rfl
    have pw5 := kp.cell 5 _ rfl
    have pw6 := kp.cell 6 _ rfl
    have pw7 := kp.cell 7 _ rfl
    have pw8 := kp.cell 8 _ rfl
    have pz0 := fun z : Lt U1 => z.cell pw0
    have pz1 := fun z : Lt U1 => z.cell pw1
    have pz2 := fun z : Lt U1 => z.cell pw2
    have pz3 := fun z : Lt U1 => z.cell pw3
    have pz4 := fun z : Lt U1 => z.cell pw4
    have pz5 := fun z : Lt U1 => z.cell pw5
    have pz6 := fun z : Lt U1 => z.cell pw6
    have pz7 := fun z : Lt U1 => z.cell pw7
    have pz8 := fun z : Lt U1 => z.cell pw8
    go_wp2_with fail
    refine (few_is hs (Lt.base U1) (HA.out.below BU1)).mono ?_; rintro e w' ⟨rfl, y2, rfl⟩
    cases s
    · clear hs
      go_wp2_with fail
      go_ret
      exact ⟨rfl, y2.via BU1, rfl⟩
    · clear hs
      go_wp2_with fail
      go_ret
      exact ⟨rfl, y2.via BU1, rfl⟩
end Go.Proofs.Ytppoefbfepehpaa
