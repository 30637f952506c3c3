/-
  What two spans meet in by the document, walked. Conditions: the spans' texts are no longer than an int holds.
-/
import Derived.Test.YtppoefbfepehpaaSpanRef
namespace Go.Proofs.Ytppoefbfepehpaa
open Go.RowKit
variable {W : World}

namespace Sp
/-- The lower end where two meet, as the document goes. -/
theorem meetLo_doc (A B : Sp) : A.meetLo B = if B.lo then (if !A.lo || decide (0 < cmpV B.l A.l) then { A with l := B.l, olo := B.olo, lo := true } else if cmpV B.l A.l = 0 then { A with olo := A.olo || B.olo, lo := true } else { A with lo := true }) else A := by
  obtain ⟨n, lo, olo, l, hi, ohi, h⟩ := A
  unfold meetLo
  cases B.lo <;> cases lo <;> simp
theorem meetHi_doc (A B : Sp) : A.meetHi B = if B.hi then (if !A.hi || decide (cmpV B.h A.h < 0) then { A with h := B.h, ohi := B.ohi, hi := true } else if cmpV B.h A.h = 0 then { A with ohi := A.ohi || B.ohi, hi := true } else { A with hi := true }) else A := by
  obtain ⟨n, lo, olo, l, hi, ohi, h⟩ := A
  unfold meetHi
  cases B.hi <;> cases hi <;> simp
theorem Fit.meetLo {A B : Sp} (h : A.Fit) (k : B.Fit) : (A.meetLo B).Fit := by
  unfold Sp.meetLo
  split
  · exact ⟨k.1, h.2⟩
  · split
    · exact h
    · exact h
theorem Fit.meetHi {A B : Sp} (h : A.Fit) (k : B.Fit) : (A.meetHi B).Fit := by
  unfold Sp.meetHi
  split
  · exact ⟨h.1, k.2⟩
  · split
    · exact h
    · exact h
end Sp
theorem none_ways (a b : Bool) : a = true ∨ (a = false ∧ b = true) ∨ (a = false ∧ b = false) := by cases a <;> cases b <;> simp

set_option maxHeartbeats 4000000 in
theorem rmeet_any (a b : Sp) (ha : a.Fit) (hb : b.Fit) (x : Lt W) : Calls Try.prog 20 #[a.val, b.val] x.1 fun e w' => e = .returned (a.meet b).val ∧ ∃ y : Lt W, w' = y.1 := by
  obtain ⟨A, hA⟩ : ∃ A, a.clean = A := ⟨_, rfl⟩
  obtain ⟨B, hB⟩ : ∃ B, b.clean = B := ⟨_, rfl⟩
  have fA : A.Fit := hA ▸ ha.clean
  have fB : B.Fit := hB ▸ hb.clean
  have hm : a.meet b = if A.none || B.none then Sp.nothing else (Sp.meetHi (Sp.meetLo A B) B).clean := by rw [← hA, ← hB]; rfl
  have CA := Lib.hid (fun (W : World) (z : Lt W) => rclean_is hA ha.1 z)
  have CB := Lib.hid (fun (W : World) (z : Lt W) => rclean_is hB hb.1 z)
  obtain ⟨i, hi⟩ : ∃ i, cmpV B.l A.l = i := ⟨_, rfl⟩
  have hmlo := Sp.meetLo_doc A B
  have hri : i = -1 ∨ i = 0 ∨ i = 1 := hi ▸ cmpV_range _ _
  have f2 := fA.meetLo fB
  obtain ⟨A2, hA2⟩ : ∃ A2, Sp.meetLo A B = A2 := ⟨_, rfl⟩
  obtain ⟨j, hj⟩ : ∃ j, cmpV B.h A2.h = j := ⟨_, rfl⟩
  have hmhi := Sp.meetHi_doc A2 B
  have hrj : j = -1 ∨ j = 0 ∨ j = 1 := hj ▸ cmpV_range _ _
  rw [hA2] at hm hmlo f2
  have f3 := f2.meetHi fB
  obtain ⟨A3, hA3⟩ : ∃ A3, Sp.meetHi A2 B = A3 := ⟨_, rfl⟩
  rw [hA3] at hm hmhi f3
  rw [hi] at hmlo
  rw [hj] at hmhi
  have C1 := Lib.hid (fun (W : World) (z : Lt W) => rcompare_is hi fB.1 z)
  have C2 := Lib.hid (fun (W : World) (z : Lt W) => rcompare_is hj fB.2 z)
  have C3 := Lib.hid (fun (W : World) (z : Lt W) => rclean_any A3 f3.1 z)
  have HM := Lib.hid hm
  have HLO := Lib.hid hmlo
  have HHI := Lib.hid hmhi
  clear hA hB hm hmlo hmhi hi hj hA2 hA3 fA fB f2 f3 ha hb
  go_enter Try.func20, Try.ntmps20
  go_wp2_with fail
  refine calls_here fun W1 hW1 => ?_
  have h3 : Three W x.1.heap.size a b Sp.full W1 := by rw [hW1]; exact Three.new
  clear hW1
  obtain ⟨g, hg⟩ : ∃ g, x.1.heap.size = g := ⟨_, rfl⟩
  rw [hg] at h3 ⊢
  clear hg
  refine (CA.out W1 (Lt.base W1)).mono ?_; rintro e w' ⟨rfl, y1, rfl⟩
  have h4 := h3.next y1.2
  obtain ⟨a0, a1, a2, a3, a4, a5, a6, a7, a8, a9, a10⟩ := h4.a.c11
  obtain ⟨b0, b1, b2, b3, b4, b5, b6, b7, b8, b9, b10⟩ := h4.b.c11
  have af := h4.a.free
  go_wp2_with fail
  clear a0 a1 a2 a3 a4 a5 a6 a7 a8 a9 a10 b0 b1 b2 b3 b4 b5 b6 b7 b8 b9 b10
  clear af
  refine calls_here fun W2 hW2 => ?_
  have h5 : Three W g A b Sp.full W2 := by rw [hW2]; exact h4.putA A
  clear hW2 h4 h3
  refine (CB.out W2 (Lt.base W2)).mono ?_; rintro e w' ⟨rfl, y2, rfl⟩
  have h6 := h5.next y2.2
  obtain ⟨b0, b1, b2, b3, b4, b5, b6, b7, b8, b9, b10⟩ := h6.b.c11
  have bf := h6.b.free
  go_upto_region 3 with fail
  clear b0 b1 b2 b3 b4 b5 b6 b7 b8 b9 b10
  clear bf
  refine wp_here fun W3 hW3 => ?_
  have h7 : Three W g A B Sp.full W3 := by rw [hW3]; exact h6.putB B
  clear hW3 h6 h5
  obtain ⟨a0, a1, a2, a3, a4, a5, a6, a7, a8, a9, a10⟩ := h7.a.c11
  obtain ⟨b0, b1, b2, b3, b4, b5, b6, b7, b8, b9, b10⟩ := h7.b.c11
  have af := h7.a.free
  rcases none_ways A.none B.none with q | ⟨q, q'⟩ | ⟨q, q'⟩
  · have HE := Lib.hid (HM.out.trans (if_pos (by simp [q])))
    obtain ⟨r0, r1, r2, r3, r4, r5, r6, r7, r8, r9, r10⟩ := h7.c.c11
    have rf := h7.c.free
    go_wp2_with fail
    have h8 := h7.putC Sp.nothing
    exact bodyPost_ret (span_out rfl rfl h8.c) rfl ⟨ret_span HE.out.symm, h8.lt⟩
  · have HE := Lib.hid (HM.out.trans (if_pos (by simp [q'])))
    obtain ⟨r0, r1, r2, r3, r4, r5, r6, r7, r8, r9, r10⟩ := h7.c.c11
    have rf := h7.c.free
    go_wp2_with fail
    have h8 := h7.putC Sp.nothing
    exact bodyPost_ret (span_out rfl rfl h8.c) rfl ⟨ret_span HE.out.symm, h8.lt⟩
  have HE := Lib.hid (HM.out.trans (if_neg (by simp [q, q'])))
  clear HM CA CB
  go_upto_region 5 with fail
  go_cut [19] from 18 to 19 (fun s wx => s = .bool B.lo ∧ Three W g A B Sp.full wx)
  case first =>
    go_wp2_with fail
    go_meet
    case rel => exact ⟨rfl, h7⟩
  case rest =>
  obtain ⟨c, hc⟩ : ∃ c, B.lo = c := ⟨_, rfl⟩
  have hcut2 : u19 = .bool c := hc ▸ hcut.1
  have h7' := hcut.2
  clear hcut
  clear a0 a1 a2 a3 a4 a5 a6 a7 a8 a9 a10 b0 b1 b2 b3 b4 b5 b6 b7 b8 b9 b10
  clear af h7
  obtain rfl := hcut2
  have HC := Lib.hid hc
  clear hc
  obtain ⟨a0, a1, a2, a3, a4, a5, a6, a7, a8, a9, a10⟩ := h7'.a.c11
  obtain ⟨b0, b1, b2, b3, b4, b5, b6, b7, b8, b9, b10⟩ := h7'.b.c11
  have af := h7'.a.free
  go_upto_if 19 with fail
  go_cut [8, 10] from 19 to 47 (fun _ _ wx => Three W g A2 B Sp.full wx)
  case first =>
    rcases lo_ways (a := A.lo) (b := B.lo) hri with q | ⟨q, q'⟩ | ⟨q, q', rfl⟩ | ⟨q, q', rfl⟩ | ⟨q, q', rfl⟩
    · have HE := Lib.hid (show A2 = A by rw [HLO.out, q]; rfl)
      obtain rfl : c = false := by rw [← HC.out, q]
      go_wp2_with fail
      go_meet
      case rel => exact h7'.to HE.out
    · have HE := Lib.hid (show A2 = { A with l := B.l, olo := B.olo, lo := true } by rw [HLO.out, q, q']; rfl)
      obtain rfl : c = true := by rw [← HC.out, q]
      go_wp2_with fail
      refine (C1.out wc (Lt.base wc)).mono ?_; rintro e w' ⟨rfl, y, rfl⟩
      have h8 := h7'.next y.2
      clear a0 a1 a2 a3 a4 a5 a6 a7 a8 a9 a10 b0 b1 b2 b3 b4 b5 b6 b7 b8 b9 b10
      obtain ⟨a0, a1, a2, a3, a4, a5, a6, a7, a8, a9, a10⟩ := h8.a.c11
      obtain ⟨b0, b1, b2, b3, b4, b5, b6, b7, b8, b9, b10⟩ := h8.b.c11
      have af := h8.a.free
      go_wp2_with fail
      go_meet
      case rel => exact (((h8.setL B.l).setOlo B.olo).setLo true).to HE.out
    · have HE := Lib.hid (show A2 = { A with l := B.l, olo := B.olo, lo := true } by rw [HLO.out, q, q']; rfl)
      obtain rfl : c = true := by rw [← HC.out, q]
      go_wp2_with fail
      refine (C1.out wc (Lt.base wc)).mono ?_; rintro e w' ⟨rfl, y, rfl⟩
      have h8 := h7'.next y.2
      clear a0 a1 a2 a3 a4 a5 a6 a7 a8 a9 a10 b0 b1 b2 b3 b4 b5 b6 b7 b8 b9 b10
      obtain ⟨a0, a1, a2, a3, a4, a5, a6, a7, a8, a9, a10⟩ := h8.a.c11
      obtain ⟨b0, b1, b2, b3, b4, b5, b6, b7, b8, b9, b10⟩ := h8.b.c11
      have af := h8.a.free
      go_wp2_with fail
      go_meet
      case rel => exact (((h8.setL B.l).setOlo B.olo).setLo true).to HE.out
    · have HE := Lib.hid (show A2 = { A with olo := A.olo || B.olo, lo := true } by rw [HLO.out, q, q']; rfl)
      obtain rfl : c = true := by rw [← HC.out, q]
      go_wp2_with fail
      refine (C1.out wc (Lt.base wc)).mono ?_; rintro e w' ⟨rfl, y, rfl⟩
      have h8 := h7'.next y.2
      clear a0 a1 a2 a3 a4 a5 a6 a7 a8 a9 a10 b0 b1 b2 b3 b4 b5 b6 b7 b8 b9 b10
      obtain ⟨a0, a1, a2, a3, a4, a5, a6, a7, a8, a9, a10⟩ := h8.a.c11
      obtain ⟨b0, b1, b2, b3, b4, b5, b6, b7, b8, b9, b10⟩ := h8.b.c11
      have af := h8.a.free
      cases q'' : A.olo
      · go_wp2_with fail
        go_meet
        case rel => exact ((h8.setOlo (B.olo)).setLo true).to (by rw [HE.out, q'']; rfl)
      · go_wp2_with fail
        go_meet
        case rel => exact ((h8.setOlo (true)).setLo true).to (by rw [HE.out, q'']; rfl)
    · have HE := Lib.hid (show A2 = { A with lo := true } by rw [HLO.out, q, q']; rfl)
      obtain rfl : c = true := by rw [← HC.out, q]
      go_wp2_with fail
      refine (C1.out wc (Lt.base wc)).mono ?_; rintro e w' ⟨rfl, y, rfl⟩
      have h8 := h7'.next y.2
      clear a0 a1 a2 a3 a4 a5 a6 a7 a8 a9 a10 b0 b1 b2 b3 b4 b5 b6 b7 b8 b9 b10
      obtain ⟨a0, a1, a2, a3, a4, a5, a6, a7, a8, a9, a10⟩ := h8.a.c11
      obtain ⟨b0, b1, b2, b3, b4, b5, b6, b7, b8, b9, b10⟩ := h8.b.c11
      have af := h8.a.free
      go_wp2_with fail
      go_meet
      case rel => exact (h8.setLo true).to HE.out
  case rest =>
  have h9 := hcut
  clear hcut h7' HLO af hri C1
  clear a0 a1 a2 a3 a4 a5 a6 a7 a8 a9 a10 b0 b1 b2 b3 b4 b5 b6 b7 b8 b9 b10
  obtain ⟨a0, a1, a2, a3, a4, a5, a6, a7, a8, a9, a10⟩ := h9.a.c11
  obtain ⟨b0, b1, b2, b3, b4, b5, b6, b7, b8, b9, b10⟩ := h9.b.c11
  have af := h9.a.free
  go_upto_region 13 with fail
  go_cut [49] from 48 to 49 (fun s wx => s = .bool B.hi ∧ Three W g A2 B Sp.full wx)
  case first =>
    go_wp2_with fail
    go_meet
    case rel => exact ⟨rfl, h9⟩
  case rest =>
  obtain ⟨c, hc⟩ : ∃ c, B.hi = c := ⟨_, rfl⟩
  have hcut2 : u49 = .bool c := hc ▸ hcut.1
  have h9' := hcut.2
  clear hcut
  clear a0 a1 a2 a3 a4 a5 a6 a7 a8 a9 a10 b0 b1 b2 b3 b4 b5 b6 b7 b8 b9 b10
  clear af h9
  obtain rfl := hcut2
  have HC := Lib.hid hc
  clear hc
  obtain ⟨a0, a1, a2, a3, a4, a5, a6, a7, a8, a9, a10⟩ := h9'.a.c11
  obtain ⟨b0, b1, b2, b3, b4, b5, b6, b7, b8, b9, b10⟩ := h9'.b.c11
  have af := h9'.a.free
  go_upto_if 49 with fail
  go_cut [8, 10] from 49 to 77 (fun _ _ wx => Three W g A3 B Sp.full wx)
  case first =>
    rcases hi_ways (a := A2.hi) (b := B.hi) hrj with q | ⟨q, q'⟩ | ⟨q, q', rfl⟩ | ⟨q, q', rfl⟩ | ⟨q, q', rfl⟩
    · have HE := Lib.hid (show A3 = A2 by rw [HHI.out, q]; rfl)
      obtain rfl : c = false := by rw [← HC.out, q]
      go_wp2_with fail
      go_meet
      case rel => exact h9'.to HE.out
    · have HE := Lib.hid (show A3 = { A2 with h := B.h, ohi := B.ohi, hi := true } by rw [HHI.out, q, q']; rfl)
      obtain rfl : c = true := by rw [← HC.out, q]
      go_wp2_with fail
      refine (C2.out wc (Lt.base wc)).mono ?_; rintro e w' ⟨rfl, y, rfl⟩
      have h8 := h9'.next y.2
      clear a0 a1 a2 a3 a4 a5 a6 a7 a8 a9 a10 b0 b1 b2 b3 b4 b5 b6 b7 b8 b9 b10
      obtain ⟨a0, a1, a2, a3, a4, a5, a6, a7, a8, a9, a10⟩ := h8.a.c11
      obtain ⟨b0, b1, b2, b3, b4, b5, b6, b7, b8, b9, b10⟩ := h8.b.c11
      have af := h8.a.free
      go_wp2_with fail
      go_meet
      case rel => exact (((h8.setH B.h).setOhi B.ohi).setHi true).to HE.out
    · have HE := Lib.hid (show A3 = { A2 with h := B.h, ohi := B.ohi, hi := true } by rw [HHI.out, q, q']; rfl)
      obtain rfl : c = true := by rw [← HC.out, q]
      go_wp2_with fail
      refine (C2.out wc (Lt.base wc)).mono ?_; rintro e w' ⟨rfl, y, rfl⟩
      have h8 := h9'.next y.2
      clear a0 a1 a2 a3 a4 a5 a6 a7 a8 a9 a10 b0 b1 b2 b3 b4 b5 b6 b7 b8 b9 b10
      obtain ⟨a0, a1, a2, a3, a4, a5, a6, a7, a8, a9, a10⟩ := h8.a.c11
      obtain ⟨b0, b1, b2, b3, b4, b5, b6, b7, b8, b9, b10⟩ := h8.b.c11
      have af := h8.a.free
      go_wp2_with fail
      go_meet
      case rel => exact (((h8.setH B.h).setOhi B.ohi).setHi true).to HE.out
    · have HE := Lib.hid (show A3 = { A2 with ohi := A2.ohi || B.ohi, hi := true } by rw [HHI.out, q, q']; rfl)
      obtain rfl : c = true := by rw [← HC.out, q]
      go_wp2_with fail
      refine (C2.out wc (Lt.base wc)).mono ?_; rintro e w' ⟨rfl, y, rfl⟩
      have h8 := h9'.next y.2
      clear a0 a1 a2 a3 a4 a5 a6 a7 a8 a9 a10 b0 b1 b2 b3 b4 b5 b6 b7 b8 b9 b10
      obtain ⟨a0, a1, a2, a3, a4, a5, a6, a7, a8, a9, a10⟩ := h8.a.c11
      obtain ⟨b0, b1, b2, b3, b4, b5, b6, b7, b8, b9, b10⟩ := h8.b.c11
      have af := h8.a.free
      cases q'' : A2.ohi
      · go_wp2_with fail
        go_meet
        case rel => exact ((h8.setOhi (B.ohi)).setHi true).to (by rw [HE.out, q'']; rfl)
      · go_wp2_with fail
        go_meet
        case rel => exact ((h8.setOhi (true)).setHi true).to (by rw [HE.out, q'']; rfl)
    · have HE := Lib.hid (show A3 = { A2 with hi := true } by rw [HHI.out, q, q']; rfl)
      obtain rfl : c = true := by rw [← HC.out, q]
      go_wp2_with fail
      refine (C2.out wc (Lt.base wc)).mono ?_; rintro e w' ⟨rfl, y, rfl⟩
      have h8 := h9'.next y.2
      clear a0 a1 a2 a3 a4 a5 a6 a7 a8 a9 a10 b0 b1 b2 b3 b4 b5 b6 b7 b8 b9 b10
      obtain ⟨a0, a1, a2, a3, a4, a5, a6, a7, a8, a9, a10⟩ := h8.a.c11
      obtain ⟨b0, b1, b2, b3, b4, b5, b6, b7, b8, b9, b10⟩ := h8.b.c11
      have af := h8.a.free
      go_wp2_with fail
      go_meet
      case rel => exact (h8.setHi true).to HE.out
  case rest =>
  have h10 := hcut
  clear hcut h9' HHI af hrj C2
  clear a0 a1 a2 a3 a4 a5 a6 a7 a8 a9 a10 b0 b1 b2 b3 b4 b5 b6 b7 b8 b9 b10
  obtain ⟨a0, a1, a2, a3, a4, a5, a6, a7, a8, a9, a10⟩ := h10.a.c11
  go_wp2_with fail
  refine (C3.out wc (Lt.base wc)).mono ?_; rintro e w' ⟨rfl, y3, rfl⟩
  have h11 := h10.next y3.2
  clear a0 a1 a2 a3 a4 a5 a6 a7 a8 a9 a10
  obtain ⟨r0, r1, r2, r3, r4, r5, r6, r7, r8, r9, r10⟩ := h11.c.c11
  have rf := h11.c.free
  go_wp2_with fail
  have h12 := h11.putC A3.clean
  exact bodyPost_ret (span_out rfl rfl h12.c) rfl ⟨ret_span HE.out.symm, h12.lt⟩
end Go.Proofs.Ytppoefbfepehpaa
