/-
  The least span that has both, walked on the program's side. Conditions: none.
-/
import Derived.Test.YtppoefbfepehpaaSpanMeet
namespace Go.Proofs.Ytppoefbfepehpaa
open Go.RowKit
variable {W : World}

theorem lo_three {i : Int} (h : i = -1 ∨ i = 0 ∨ i = 1) : i = -1 ∨ i = 0 ∨ i = 1 := h
theorem hi_three {i : Int} (h : i = -1 ∨ i = 0 ∨ i = 1) : i = 1 ∨ i = 0 ∨ i = -1 := by omega

set_option maxHeartbeats 4000000 in
theorem hull_any (a b : Sp) (x : Lt W) : Calls Try.prog 21 #[a.val, b.val] x.1 fun e w' => e = .returned (a.hull b).val ∧ ∃ y : Lt W, w' = y.1 := by
  obtain ⟨A, hA⟩ : ∃ A, a.clean = A := ⟨_, rfl⟩
  obtain ⟨B, hB⟩ : ∃ B, b.clean = B := ⟨_, rfl⟩
  have hm : a.hull b = if A.none then B else if B.none then A else (Sp.hullEnds (Sp.hullHi (Sp.hullLo A B) B) B).clean := by rw [← hA, ← hB]; rfl
  have hAn : A.none = true → A = Sp.nothing := fun h => by rw [← hA] at h ⊢; exact Sp.clean_nothing h
  have hBn : B.none = true → B = Sp.nothing := fun h => by rw [← hB] at h ⊢; exact Sp.clean_nothing h
  have CA := Lib.hid (fun w : World => clean_from hA w)
  have CB := Lib.hid (fun w : World => clean_from hB w)
  obtain ⟨i, hi⟩ : ∃ i, cmpV B.l A.l = i := ⟨_, rfl⟩
  have hmlo : Sp.hullLo A B = if i < 0 then { A with l := B.l, olo := B.olo } else if i = 0 then { A with olo := A.olo && B.olo } else A := by rw [← hi]; rfl
  have hri : i = -1 ∨ i = 0 ∨ i = 1 := hi ▸ cmpV_range _ _
  obtain ⟨A2, hA2⟩ : ∃ A2, Sp.hullLo A B = A2 := ⟨_, rfl⟩
  obtain ⟨j, hj⟩ : ∃ j, cmpV B.h A2.h = j := ⟨_, rfl⟩
  have hmhi : Sp.hullHi A2 B = if 0 < j then { A2 with h := B.h, ohi := B.ohi } else if j = 0 then { A2 with ohi := A2.ohi && B.ohi } else A2 := by rw [← hj]; rfl
  have hrj : j = -1 ∨ j = 0 ∨ j = 1 := hj ▸ cmpV_range _ _
  obtain ⟨A3, hA3⟩ : ∃ A3, Sp.hullHi A2 B = A3 := ⟨_, rfl⟩
  have C1 := Lib.hid (fun (W : World) (z : Lt W) => compare_is hi z)
  have C2 := Lib.hid (fun (W : World) (z : Lt W) => compare_is hj z)
  have C3 := Lib.hid (fun (W : World) (z : Lt W) => clean_any (Sp.hullEnds A3 B) z)
  rw [hA2] at hm hmlo
  rw [hA3] at hm hmhi
  have HM := Lib.hid hm
  have HLO := Lib.hid hmlo
  have HHI := Lib.hid hmhi
  have HN := Lib.hid (And.intro hAn hBn)
  clear hA hB hAn hBn hm hmlo hmhi hi hj hA2 hA3
  go_enter Try.func21, Try.ntmps21
  go_wp2_with fail
  refine wp_here fun W1 hW1 => ?_
  have h3 : Three W x.1.heap.size a b Sp.full W1 := by rw [hW1]; exact Three.new
  clear hW1
  obtain ⟨g, hg⟩ : ∃ g, x.1.heap.size = g := ⟨_, rfl⟩
  rw [hg] at h3 ⊢
  clear hg
  go_cut [] from 7 to 10 (fun wx => Three W g A B Sp.full wx)
  case first =>
    obtain ⟨a0, a1, a2, a3, a4, a5, a6, a7, a8, a9, a10⟩ := h3.a.c11
    obtain ⟨b0, b1, b2, b3, b4, b5, b6, b7, b8, b9, b10⟩ := h3.b.c11
    go_region_law (first
      | (go_simp; go_at_call 36; with_reducible refine Calls.mono (CA.out _) ?_; rintro e w4 ⟨rfl, hb4⟩; have hx4 := undrew hb4; obtain ⟨p0, p1, p2, p3, p4, p5, p6, p7, p8, p9, p10⟩ := (h3.next hx4).b.c11)
      | (go_simp; go_at_call 36; with_reducible refine Calls.mono (CB.out _) ?_; rintro e w5 ⟨rfl, hb5⟩; have h5 := (h3.next hx4).next hb5; have af := h5.a.free; have bf := h5.b.free; obtain ⟨q0, q1, q2, q3, q4, q5, q6, q7, q8, q9, q10⟩ := h5.a.c11; obtain ⟨r0, r1, r2, r3, r4, r5, r6, r7, r8, r9, r10⟩ := h5.b.c11))
    all_goals
      clear a0 a1 a2 a3 a4 a5 a6 a7 a8 a9 a10 b0 b1 b2 b3 b4 b5 b6 b7 b8 b9 b10 p0 p1 p2 p3 p4 p5 p6 p7 p8 p9 p10 q0 q1 q2 q3 q4 q5 q6 q7 q8 q9 q10 r0 r1 r2 r3 r4 r5 r6 r7 r8 r9 r10 af bf
      refine meet_now (by assumption) ?_
      go_meet
      case rel => exact (h5.putA A).putB B
  case rest =>
    have h4 : Three W g A B Sp.full wc := hcut
    clear h3 hcut
    obtain ⟨a0, a1, a2, a3, a4, a5, a6, a7, a8, a9, a10⟩ := h4.a.c11
    obtain ⟨b0, b1, b2, b3, b4, b5, b6, b7, b8, b9, b10⟩ := h4.b.c11
    have pa0 := fun z : Lt wc => z.cell a0
    have pa1 := fun z : Lt wc => z.cell a1
    have pa2 := fun z : Lt wc => z.cell a2
    have pa3 := fun z : Lt wc => z.cell a3
    have pa4 := fun z : Lt wc => z.cell a4
    have pa5 := fun z : Lt wc => z.cell a5
    have pa6 := fun z : Lt wc => z.cell a6
    have pa7 := fun z : Lt wc => z.cell a7
    have pa8 := fun z : Lt wc => z.cell a8
    have pa9 := fun z : Lt wc => z.cell a9
    have pa10 := fun z : Lt wc => z.cell a10
    have pb0 := fun z : Lt wc => z.cell b0
    have pb1 := fun z : Lt wc => z.cell b1
    have pb2 := fun z : Lt wc => z.cell b2
    have pb3 := fun z : Lt wc => z.cell b3
    have pb4 := fun z : Lt wc => z.cell b4
    have pb5 := fun z : Lt wc => z.cell b5
    have pb6 := fun z : Lt wc => z.cell b6
    have pb7 := fun z : Lt wc => z.cell b7
    have pb8 := fun z : Lt wc => z.cell b8
    have pb9 := fun z : Lt wc => z.cell b9
    have pb10 := fun z : Lt wc => z.cell b10
    by_cases hn : A.none = true
    · have e1 := fun w => run_eql_span_t (HN.out.1 hn) w
      have HM2 := Lib.hid (HM.out.trans (if_pos hn))
      clear hn
      go_upto_region 2 with fail
      refine wp_region_here (by kernel_rfl) (by kernel_rfl) ?_
      repeat (go_big_quiet_step ((go_at_call 31; exact nothing_any _)))
      refine wpQuiet_nil ?_; intro _ hw'; obtain ⟨z, rfl⟩ := hw'
      have h6 := h4.next z.2
      obtain ⟨r0, r1, r2, r3, r4, r5, r6, r7, r8, r9, r10⟩ := h6.c.c11
      have rf := h6.c.free
      obtain ⟨b0, b1, b2, b3, b4, b5, b6, b7, b8, b9, b10⟩ := h6.b.c11
      go_wp2_with fail
      have h7 := h6.putC B
      exact bodyPost_ret (span_out rfl rfl h7.c) rfl ⟨ret_span HM2.out.symm, h7.lt⟩
    have e1 := fun w => run_eql_span_f (a := A) (b := Sp.nothing) (fun h => hn (by rw [h])) w
    have HM3 := Lib.hid (HM.out.trans (if_neg hn))
    clear hn
    go_upto_region 2 with fail
    refine wp_region_here (by kernel_rfl) (by kernel_rfl) ?_
    repeat (go_big_quiet_step ((go_at_call 31; exact nothing_any _)))
    refine wpQuiet_nil ?_; intro _ hw'; obtain ⟨z, rfl⟩ := hw'
    have h40 := h4.next z.2
    clear pa0 pa1 pa2 pa3 pa4 pa5 pa6 pa7 pa8 pa9 pa10 pb0 pb1 pb2 pb3 pb4 pb5 pb6 pb7 pb8 pb9 pb10 a0 a1 a2 a3 a4 a5 a6 a7 a8 a9 a10 b0 b1 b2 b3 b4 b5 b6 b7 b8 b9 b10
    obtain ⟨a0, a1, a2, a3, a4, a5, a6, a7, a8, a9, a10⟩ := h40.a.c11
    obtain ⟨b0, b1, b2, b3, b4, b5, b6, b7, b8, b9, b10⟩ := h40.b.c11
    have pa0 := fun z : Lt z.1 => z.cell a0
    have pa1 := fun z : Lt z.1 => z.cell a1
    have pa2 := fun z : Lt z.1 => z.cell a2
    have pa3 := fun z : Lt z.1 => z.cell a3
    have pa4 := fun z : Lt z.1 => z.cell a4
    have pa5 := fun z : Lt z.1 => z.cell a5
    have pa6 := fun z : Lt z.1 => z.cell a6
    have pa7 := fun z : Lt z.1 => z.cell a7
    have pa8 := fun z : Lt z.1 => z.cell a8
    have pa9 := fun z : Lt z.1 => z.cell a9
    have pa10 := fun z : Lt z.1 => z.cell a10
    have pb0 := fun z : Lt z.1 => z.cell b0
    have pb1 := fun z : Lt z.1 => z.cell b1
    have pb2 := fun z : Lt z.1 => z.cell b2
    have pb3 := fun z : Lt z.1 => z.cell b3
    have pb4 := fun z : Lt z.1 => z.cell b4
    have pb5 := fun z : Lt z.1 => z.cell b5
    have pb6 := fun z : Lt z.1 => z.cell b6
    have pb7 := fun z : Lt z.1 => z.cell b7
    have pb8 := fun z : Lt z.1 => z.cell b8
    have pb9 := fun z : Lt z.1 => z.cell b9
    have pb10 := fun z : Lt z.1 => z.cell b10
    by_cases hn : B.none = true
    · have e2 := fun w => run_eql_span_t (HN.out.2 hn) w
      have HM2 := Lib.hid (HM3.out.trans (if_pos hn))
      clear hn
      go_upto_region 4 with fail
      refine wp_region_here (by kernel_rfl) (by kernel_rfl) ?_
      repeat (go_big_quiet_step ((go_at_call 31; exact nothing_any _)))
      refine wpQuiet_nil ?_; intro _ hw'; obtain ⟨z, rfl⟩ := hw'
      have h6 := h40.next z.2
      obtain ⟨r0, r1, r2, r3, r4, r5, r6, r7, r8, r9, r10⟩ := h6.c.c11
      have rf := h6.c.free
      obtain ⟨a0, a1, a2, a3, a4, a5, a6, a7, a8, a9, a10⟩ := h6.a.c11
      go_wp2_with fail
      have h7 := h6.putC A
      exact bodyPost_ret (span_out rfl rfl h7.c) rfl ⟨ret_span HM2.out.symm, h7.lt⟩
    have e2 := fun w => run_eql_span_f (a := B) (b := Sp.nothing) (fun h => hn (by rw [h])) w
    have HM2 := Lib.hid (HM3.out.trans (if_neg hn))
    clear hn
    go_upto_region 4 with fail
    refine wp_region_here (by kernel_rfl) (by kernel_rfl) ?_
    repeat (go_big_quiet_step ((go_at_call 31; exact nothing_any _)))
    refine wpQuiet_nil ?_; intro _ hw'; obtain ⟨z, rfl⟩ := hw'
    have h41 := h40.next z.2
    clear pa0 pa1 pa2 pa3 pa4 pa5 pa6 pa7 pa8 pa9 pa10 pb0 pb1 pb2 pb3 pb4 pb5 pb6 pb7 pb8 pb9 pb10 a0 a1 a2 a3 a4 a5 a6 a7 a8 a9 a10 b0 b1 b2 b3 b4 b5 b6 b7 b8 b9 b10
    clear h4 h40 e1 e2 HM HM3 HN
    obtain ⟨a0, a1, a2, a3, a4, a5, a6, a7, a8, a9, a10⟩ := h41.a.c11
    obtain ⟨b0, b1, b2, b3, b4, b5, b6, b7, b8, b9, b10⟩ := h41.b.c11
    go_wp2_with fail
    refine (C1.out z.1 (Lt.base z.1)).mono ?_; rintro e w' ⟨rfl, y, rfl⟩
    have h5 := h41.next y.2
    clear a0 a1 a2 a3 a4 a5 a6 a7 a8 a9 a10 b0 b1 b2 b3 b4 b5 b6 b7 b8 b9 b10
    obtain ⟨a0, a1, a2, a3, a4, a5, a6, a7, a8, a9, a10⟩ := h5.a.c11
    obtain ⟨b0, b1, b2, b3, b4, b5, b6, b7, b8, b9, b10⟩ := h5.b.c11
    have af := h5.a.free
    go_upto_if 27 with fail
    go_cut [12] from 26 to 42 (fun _ wx => Three W g A2 B Sp.full wx)
    case first =>
      rcases lo_three hri with rfl | rfl | rfl
      · have HE := Lib.hid (show A2 = { A with l := B.l, olo := B.olo } by rw [HLO.out]; rfl)
        go_wp2_with fail
        go_region
        go_wp2_with fail
        go_meet
        case rel => exact (((h5.setL B.l).setOlo B.olo).drew).to HE.out
      · have HE := Lib.hid (show A2 = { A with olo := A.olo && B.olo } by rw [HLO.out]; rfl)
        cases q'' : A.olo
        · go_wp2_with fail
          go_meet
          case rel => exact (h5.setOlo (false)).to (by rw [HE.out, q'']; rfl)
        · go_wp2_with fail
          go_meet
          case rel => exact (h5.setOlo (B.olo)).to (by rw [HE.out, q'']; rfl)
      · have HE := Lib.hid (show A2 = A by rw [HLO.out]; rfl)
        go_wp2_with fail
        go_meet
        case rel => exact h5.to HE.out
    case rest =>
    have h6 := hcut
    clear hcut h5 h41 HLO af hri C1 CA CB
    clear a0 a1 a2 a3 a4 a5 a6 a7 a8 a9 a10 b0 b1 b2 b3 b4 b5 b6 b7 b8 b9 b10
    obtain ⟨a0, a1, a2, a3, a4, a5, a6, a7, a8, a9, a10⟩ := h6.a.c11
    obtain ⟨b0, b1, b2, b3, b4, b5, b6, b7, b8, b9, b10⟩ := h6.b.c11
    go_wp2_with fail
    refine (C2.out wc (Lt.base wc)).mono ?_; rintro e w' ⟨rfl, y2, rfl⟩
    have h7 := h6.next y2.2
    clear a0 a1 a2 a3 a4 a5 a6 a7 a8 a9 a10 b0 b1 b2 b3 b4 b5 b6 b7 b8 b9 b10
    obtain ⟨a0, a1, a2, a3, a4, a5, a6, a7, a8, a9, a10⟩ := h7.a.c11
    obtain ⟨b0, b1, b2, b3, b4, b5, b6, b7, b8, b9, b10⟩ := h7.b.c11
    have af := h7.a.free
    go_upto_if 49 with fail
    go_cut [12] from 48 to 64 (fun _ wx => Three W g A3 B Sp.full wx)
    case first =>
      rcases hi_three hrj with rfl | rfl | rfl
      · have HE := Lib.hid (show A3 = { A2 with h := B.h, ohi := B.ohi } by rw [HHI.out]; rfl)
        go_wp2_with fail
        go_region
        go_wp2_with fail
        go_meet
        case rel => exact (((h7.setH B.h).setOhi B.ohi).drew).to HE.out
      · have HE := Lib.hid (show A3 = { A2 with ohi := A2.ohi && B.ohi } by rw [HHI.out]; rfl)
        cases q'' : A2.ohi
        · go_wp2_with fail
          go_meet
          case rel => exact (h7.setOhi (false)).to (by rw [HE.out, q'']; rfl)
        · go_wp2_with fail
          go_meet
          case rel => exact (h7.setOhi (B.ohi)).to (by rw [HE.out, q'']; rfl)
      · have HE := Lib.hid (show A3 = A2 by rw [HHI.out]; rfl)
        go_wp2_with fail
        go_meet
        case rel => exact h7.to HE.out
    case rest =>
    have h8 := hcut
    clear hcut h7 h6 HHI af hrj C2
    clear a0 a1 a2 a3 a4 a5 a6 a7 a8 a9 a10 b0 b1 b2 b3 b4 b5 b6 b7 b8 b9 b10
    obtain ⟨a0, a1, a2, a3, a4, a5, a6, a7, a8, a9, a10⟩ := h8.a.c11
    obtain ⟨b0, b1, b2, b3, b4, b5, b6, b7, b8, b9, b10⟩ := h8.b.c11
    have af := h8.a.free
    go_upto_region 16 with fail
    go_cut [] from 65 to 71 (fun wx => Three W g { A3 with lo := A3.lo && B.lo } B Sp.full wx)
    case first =>
      cases q : A3.lo
      · go_wp2_with fail
        go_meet
        case rel => exact (h8.setLo false).to (by show ({ A3 with lo := A3.lo && B.lo } : Sp) = _; rw [q]; rfl)
      · go_wp2_with fail
        go_meet
        case rel => exact (h8.setLo B.lo).to (by show ({ A3 with lo := A3.lo && B.lo } : Sp) = _; rw [q]; rfl)
    case rest =>
    have h81 := hcut
    clear hcut h8 af
    clear a0 a1 a2 a3 a4 a5 a6 a7 a8 a9 a10 b0 b1 b2 b3 b4 b5 b6 b7 b8 b9 b10
    obtain ⟨a0, a1, a2, a3, a4, a5, a6, a7, a8, a9, a10⟩ := h81.a.c11
    obtain ⟨b0, b1, b2, b3, b4, b5, b6, b7, b8, b9, b10⟩ := h81.b.c11
    have af := h81.a.free
    go_upto_region 17 with fail
    go_cut [] from 72 to 78 (fun wx => Three W g (Sp.hullEnds A3 B) B Sp.full wx)
    case first =>
      cases q : A3.hi
      · go_wp2_with fail
        go_meet
        case rel => exact (h81.setHi false).to (by show ({ A3 with lo := A3.lo && B.lo, hi := A3.hi && B.hi } : Sp) = _; rw [q]; rfl)
      · go_wp2_with fail
        go_meet
        case rel => exact (h81.setHi B.hi).to (by show ({ A3 with lo := A3.lo && B.lo, hi := A3.hi && B.hi } : Sp) = _; rw [q]; rfl)
    case rest =>
    have h9 := hcut
    clear hcut h81 af
    clear a0 a1 a2 a3 a4 a5 a6 a7 a8 a9 a10 b0 b1 b2 b3 b4 b5 b6 b7 b8 b9 b10
    obtain ⟨a0, a1, a2, a3, a4, a5, a6, a7, a8, a9, a10⟩ := h9.a.c11
    go_wp2_with fail
    refine (C3.out wc (Lt.base wc)).mono ?_; rintro e w' ⟨rfl, y3, rfl⟩
    have h10 := h9.next y3.2
    clear a0 a1 a2 a3 a4 a5 a6 a7 a8 a9 a10
    obtain ⟨r0, r1, r2, r3, r4, r5, r6, r7, r8, r9, r10⟩ := h10.c.c11
    have rf := h10.c.free
    go_wp2_with fail
    have h11 := h10.putC (Sp.hullEnds A3 B).clean
    exact bodyPost_ret (span_out rfl rfl h11.c) rfl ⟨ret_span HM2.out.symm, h11.lt⟩
end Go.Proofs.Ytppoefbfepehpaa
