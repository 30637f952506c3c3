/-
  The least span that has both by the document, walked. Conditions: the spans' texts are no longer than an int holds.
-/
import Derived.Test.YtppoefbfepehpaaSpanRMeet
namespace Go.Proofs.Ytppoefbfepehpaa
open Go.RowKit
variable {W : World}

namespace Sp
/-- The ends of the hull, as the document goes. -/
def rhLo (A B : Sp) (i : Int) : Sp := if !A.lo || !B.lo then { A with lo := false } else if i < 0 then { A with l := B.l, olo := B.olo } else if i = 0 then { A with olo := A.olo && B.olo } else A
def rhHi (A B : Sp) (j : Int) : Sp := if !A.hi || !B.hi then { A with hi := false } else if 0 < j then { A with h := B.h, ohi := B.ohi } else if j = 0 then { A with ohi := A.ohi && B.ohi } else A
theorem rhull_eq (A B : Sp) : (rhHi (rhLo A B (cmpV B.l A.l)) B (cmpV B.h A.h)).clean = (hullEnds (hullHi (hullLo A B) B) B).clean := by
  obtain ⟨n, lo, olo, l, hi, ohi, h⟩ := A
  obtain ⟨n', lo', olo', l', hi', ohi', h'⟩ := B
  rcases cmpV_range l' l with p | p | p <;> rcases cmpV_range h' h with q | q | q <;> simp [rhLo, rhHi, hullLo, hullHi, hullEnds, p, q] <;> cases lo <;> cases lo' <;> cases hi <;> cases hi' <;> simp [clean, shut]
theorem Fit.rhLo {A B : Sp} (h : A.Fit) (k : B.Fit) (i : Int) : (A.rhLo B i).Fit := by
  unfold Sp.rhLo
  split
  · exact h
  · split
    · exact ⟨k.1, h.2⟩
    · split <;> exact h
theorem Fit.rhHi {A B : Sp} (h : A.Fit) (k : B.Fit) (i : Int) : (A.rhHi B i).Fit := by
  unfold Sp.rhHi
  split
  · exact h
  · split
    · exact ⟨h.1, k.2⟩
    · split <;> exact h
theorem with_none {A : Sp} (h : A.none = false) : A = { A with none := false } := by
  obtain ⟨n, lo, olo, l, hi, ohi, h'⟩ := A
  obtain rfl : n = false := h
  rfl
theorem rhLo_h (A B : Sp) (i : Int) : (A.rhLo B i).h = A.h := by
  unfold Sp.rhLo
  split
  · rfl
  · split
    · rfl
    · split <;> rfl
end Sp
theorem two_ways (a b : Bool) : a = false ∨ (a = true ∧ b = false) ∨ (a = true ∧ b = true) := by cases a <;> cases b <;> simp
theorem hull_ways_lo {a b : Bool} {i : Int} (h : i = -1 ∨ i = 0 ∨ i = 1) : a = false ∨ (a = true ∧ b = false) ∨ (a = true ∧ b = true ∧ i = -1) ∨ (a = true ∧ b = true ∧ i = 0) ∨ (a = true ∧ b = true ∧ i = 1) := by
  cases a <;> cases b <;> simp
  omega
theorem hull_ways_hi {a b : Bool} {i : Int} (h : i = -1 ∨ i = 0 ∨ i = 1) : a = false ∨ (a = true ∧ b = false) ∨ (a = true ∧ b = true ∧ i = 1) ∨ (a = true ∧ b = true ∧ i = 0) ∨ (a = true ∧ b = true ∧ i = -1) := by
  cases a <;> cases b <;> simp
  omega

set_option maxHeartbeats 2000000 in
theorem rhull_any (a b : Sp) (ha : a.Fit) (hb : b.Fit) (x : Lt W) : Calls Try.prog 22 #[a.val, b.val] x.1 fun e w' => e = .returned (a.hull b).val ∧ ∃ y : Lt W, w' = y.1 := by
  obtain ⟨A, hA⟩ : ∃ A, a.clean = A := ⟨_, rfl⟩
  obtain ⟨B, hB⟩ : ∃ B, b.clean = B := ⟨_, rfl⟩
  have fA : A.Fit := hA ▸ ha.clean
  have fB : B.Fit := hB ▸ hb.clean
  have hm : a.hull b = if A.none then B else if B.none then A else (Sp.rhHi (Sp.rhLo A B (cmpV B.l A.l)) B (cmpV B.h A.h)).clean := by rw [Sp.rhull_eq, ← hA, ← hB]; rfl
  have CA := Lib.hid (fun (W : World) (z : Lt W) => rclean_is hA ha.1 z)
  have CB := Lib.hid (fun (W : World) (z : Lt W) => rclean_is hB hb.1 z)
  obtain ⟨i, hi⟩ : ∃ i, cmpV B.l A.l = i := ⟨_, rfl⟩
  obtain ⟨j, hj⟩ : ∃ j, cmpV B.h A.h = j := ⟨_, rfl⟩
  have hri : i = -1 ∨ i = 0 ∨ i = 1 := hi ▸ cmpV_range _ _
  have hrj : j = -1 ∨ j = 0 ∨ j = 1 := hj ▸ cmpV_range _ _
  rw [hi, hj] at hm
  have C1 := Lib.hid (fun (W : World) (z : Lt W) => rcompare_is hi fB.1 z)
  have C2 := Lib.hid (fun (W : World) (z : Lt W) => rcompare_is hj fB.2 z)
  have f3 := (fA.rhLo fB i).rhHi fB j
  obtain ⟨A2, hA2⟩ : ∃ A2, Sp.rhLo A B i = A2 := ⟨_, rfl⟩
  rw [hA2] at hm f3
  obtain ⟨A3, hA3⟩ : ∃ A3, Sp.rhHi A2 B j = A3 := ⟨_, rfl⟩
  rw [hA3] at hm f3
  have C3 := Lib.hid (fun (W : World) (z : Lt W) => rclean_any A3 f3.1 z)
  have HM := Lib.hid hm
  have HLO := Lib.hid (show A2 = if !A.lo || !B.lo then { A with lo := false } else if i < 0 then { A with l := B.l, olo := B.olo } else if i = 0 then { A with olo := A.olo && B.olo } else A from hA2.symm)
  have HHI := Lib.hid (show A3 = if !A2.hi || !B.hi then { A2 with hi := false } else if 0 < j then { A2 with h := B.h, ohi := B.ohi } else if j = 0 then { A2 with ohi := A2.ohi && B.ohi } else A2 from hA3.symm)
  clear hA hB hm hi hj hA2 hA3 fA fB f3 ha hb
  go_enter Try.func22, Try.ntmps22
  go_wp2_with fail
  refine calls_here fun W1 hW1 => ?_
  have h3 : Three W x.1.heap.size a b Sp.full W1 := by rw [hW1]; exact Three.new
  clear hW1
  obtain ⟨g, hg⟩ : ∃ g, x.1.heap.size = g := ⟨_, rfl⟩
  rw [hg] at h3 ⊢
  clear hg
  refine (CA.out W1 (Lt.base W1)).mono ?_; rintro e w' ⟨rfl, y1, rfl⟩
  have h4 := h3.next y1.2
  obtain ⟨a0, a1, a2, a3, a4, a5, a6, a7, a8, a9, a10⟩ := h4.a.c11
  obtain ⟨b0, b1, b2, b3, b4, b5, b6, b7, b8, b9, b10⟩ := h4.b.c11
  have af := h4.a.free
  go_wp2_with fail
  clear a0 a1 a2 a3 a4 a5 a6 a7 a8 a9 a10 b0 b1 b2 b3 b4 b5 b6 b7 b8 b9 b10
  clear af
  refine calls_here fun W2 hW2 => ?_
  have h5 : Three W g A b Sp.full W2 := by rw [hW2]; exact h4.putA A
  clear hW2 h4 h3
  refine (CB.out W2 (Lt.base W2)).mono ?_; rintro e w' ⟨rfl, y2, rfl⟩
  have h6 := h5.next y2.2
  obtain ⟨b0, b1, b2, b3, b4, b5, b6, b7, b8, b9, b10⟩ := h6.b.c11
  have bf := h6.b.free
  go_upto_region 3 with fail
  clear b0 b1 b2 b3 b4 b5 b6 b7 b8 b9 b10
  clear bf
  refine wp_here fun W3 hW3 => ?_
  have h7 : Three W g A B Sp.full W3 := by rw [hW3]; exact h6.putB B
  clear hW3 h6 h5
  obtain ⟨a0, a1, a2, a3, a4, a5, a6, a7, a8, a9, a10⟩ := h7.a.c11
  obtain ⟨b0, b1, b2, b3, b4, b5, b6, b7, b8, b9, b10⟩ := h7.b.c11
  have af := h7.a.free
  rcases none_ways A.none B.none with q | ⟨q, q'⟩ | ⟨q, q'⟩
  · have HE := Lib.hid (HM.out.trans (if_pos q))
    obtain ⟨r0, r1, r2, r3, r4, r5, r6, r7, r8, r9, r10⟩ := h7.c.c11
    have rf := h7.c.free
    go_wp2_with fail
    have h8 := h7.putC B
    exact bodyPost_ret (span_out rfl rfl h8.c) rfl ⟨ret_span HE.out.symm, h8.lt⟩
  · have HE := Lib.hid (HM.out.trans ((if_neg (by simp [q])).trans (if_pos q')))
    obtain ⟨r0, r1, r2, r3, r4, r5, r6, r7, r8, r9, r10⟩ := h7.c.c11
    have rf := h7.c.free
    have HE := Lib.hid (HE.out.trans (Sp.with_none q))
    go_wp2_with fail
    have h8 := h7.putC { A with none := false }
    exact bodyPost_ret (span_out rfl rfl h8.c) rfl ⟨ret_span HE.out.symm, h8.lt⟩
  have HE := Lib.hid (HM.out.trans ((if_neg (by simp [q])).trans (if_neg (by simp [q']))))
  clear HM CA CB
  go_wp2_with fail
  refine (C1.out W3 (Lt.base W3)).mono ?_; rintro e w' ⟨rfl, y3, rfl⟩
  have h8 := h7.next y3.2
  clear a0 a1 a2 a3 a4 a5 a6 a7 a8 a9 a10 b0 b1 b2 b3 b4 b5 b6 b7 b8 b9 b10
  obtain ⟨a0, a1, a2, a3, a4, a5, a6, a7, a8, a9, a10⟩ := h8.a.c11
  obtain ⟨b0, b1, b2, b3, b4, b5, b6, b7, b8, b9, b10⟩ := h8.b.c11
  clear af
  go_wp2_with fail
  refine calls_here fun W4 hW4 => ?_
  have h81 : Three W g A B Sp.full W4 := by rw [hW4]; exact h8
  clear hW4
  refine (C2.out W4 (Lt.base W4)).mono ?_; rintro e w' ⟨rfl, y4, rfl⟩
  have h9 := h81.next y4.2
  clear a0 a1 a2 a3 a4 a5 a6 a7 a8 a9 a10 b0 b1 b2 b3 b4 b5 b6 b7 b8 b9 b10
  obtain ⟨a0, a1, a2, a3, a4, a5, a6, a7, a8, a9, a10⟩ := h9.a.c11
  obtain ⟨b0, b1, b2, b3, b4, b5, b6, b7, b8, b9, b10⟩ := h9.b.c11
  have af := h9.a.free
  clear h7 h8 h81 C1 C2
  go_upto_region 9 with fail
  go_cut [8, 10, 34] from 27 to 34 (fun _ _ s wx => s = .bool (!A.lo || !B.lo) ∧ Three W g A B Sp.full wx)
  case first =>
    rcases two_ways A.lo B.lo with q | ⟨q, q'⟩ | ⟨q, q'⟩
    · go_wp2_with fail
      go_meet
      case rel => exact ⟨by simp [q], h9⟩
    · go_wp2_with fail
      go_meet
      case rel => exact ⟨by simp [q, q'], h9⟩
    · go_wp2_with fail
      go_meet
      case rel => exact ⟨by simp [q, q'], h9⟩
  case rest =>
  obtain ⟨c, hc⟩ : ∃ c, (!A.lo || !B.lo) = c := ⟨_, rfl⟩
  have hcut2 : u34 = .bool c := hc ▸ hcut.1
  have h9' := hcut.2
  clear hcut
  clear a0 a1 a2 a3 a4 a5 a6 a7 a8 a9 a10 b0 b1 b2 b3 b4 b5 b6 b7 b8 b9 b10
  clear af h9
  obtain rfl := hcut2
  have HC := Lib.hid hc
  clear hc
  obtain ⟨a0, a1, a2, a3, a4, a5, a6, a7, a8, a9, a10⟩ := h9'.a.c11
  obtain ⟨b0, b1, b2, b3, b4, b5, b6, b7, b8, b9, b10⟩ := h9'.b.c11
  have af := h9'.a.free
  go_upto_if 34 with fail
  go_cut [] from 34 to 52 (fun wx => Three W g A2 B Sp.full wx)
  case first =>
    rcases hull_ways_lo (a := A.lo) (b := B.lo) hri with q | ⟨q, q'⟩ | ⟨q, q', rfl⟩ | ⟨q, q', rfl⟩ | ⟨q, q', rfl⟩
    · have HE := Lib.hid (show A2 = { A with lo := false } by rw [HLO.out, q]; rfl)
      obtain rfl : c = true := by rw [← HC.out, q]; rfl
      go_wp2_with fail
      go_meet
      case rel => exact (h9'.setLo false).to HE.out
    · have HE := Lib.hid (show A2 = { A with lo := false } by rw [HLO.out, q, q']; rfl)
      obtain rfl : c = true := by rw [← HC.out, q, q']; rfl
      go_wp2_with fail
      go_meet
      case rel => exact (h9'.setLo false).to HE.out
    · have HE := Lib.hid (show A2 = { A with l := B.l, olo := B.olo } by rw [HLO.out, q, q']; rfl)
      obtain rfl : c = false := by rw [← HC.out, q, q']; rfl
      go_wp2_with fail
      go_meet
      case rel => exact ((h9'.setL B.l).setOlo B.olo).to HE.out
    · have HE := Lib.hid (show A2 = { A with olo := A.olo && B.olo } by rw [HLO.out, q, q']; rfl)
      obtain rfl : c = false := by rw [← HC.out, q, q']; rfl
      cases q'' : A.olo
      · go_wp2_with fail
        go_meet
        case rel => exact (h9'.setOlo (false)).to (by rw [HE.out, q'']; rfl)
      · go_wp2_with fail
        go_meet
        case rel => exact (h9'.setOlo (B.olo)).to (by rw [HE.out, q'']; rfl)
    · have HE := Lib.hid (show A2 = A by rw [HLO.out, q, q']; rfl)
      obtain rfl : c = false := by rw [← HC.out, q, q']; rfl
      go_wp2_with fail
      go_meet
      case rel => exact h9'.to HE.out
  case rest =>
  have h10 := hcut
  clear hcut h9' HLO af hri
  clear a0 a1 a2 a3 a4 a5 a6 a7 a8 a9 a10 b0 b1 b2 b3 b4 b5 b6 b7 b8 b9 b10
  obtain ⟨a0, a1, a2, a3, a4, a5, a6, a7, a8, a9, a10⟩ := h10.a.c11
  obtain ⟨b0, b1, b2, b3, b4, b5, b6, b7, b8, b9, b10⟩ := h10.b.c11
  have af := h10.a.free
  go_upto_region 16 with fail
  go_cut [8, 10, 60] from 53 to 60 (fun _ _ s wx => s = .bool (!A2.hi || !B.hi) ∧ Three W g A2 B Sp.full wx)
  case first =>
    rcases two_ways A2.hi B.hi with q | ⟨q, q'⟩ | ⟨q, q'⟩
    · go_wp2_with fail
      go_meet
      case rel => exact ⟨by simp [q], h10⟩
    · go_wp2_with fail
      go_meet
      case rel => exact ⟨by simp [q, q'], h10⟩
    · go_wp2_with fail
      go_meet
      case rel => exact ⟨by simp [q, q'], h10⟩
  case rest =>
  obtain ⟨c, hc⟩ : ∃ c, (!A2.hi || !B.hi) = c := ⟨_, rfl⟩
  have hcut2 : u60 = .bool c := hc ▸ hcut.1
  have h10' := hcut.2
  clear hcut
  clear a0 a1 a2 a3 a4 a5 a6 a7 a8 a9 a10 b0 b1 b2 b3 b4 b5 b6 b7 b8 b9 b10
  clear af h10
  obtain rfl := hcut2
  have HC := Lib.hid hc
  clear hc
  obtain ⟨a0, a1, a2, a3, a4, a5, a6, a7, a8, a9, a10⟩ := h10'.a.c11
  obtain ⟨b0, b1, b2, b3, b4, b5, b6, b7, b8, b9, b10⟩ := h10'.b.c11
  have af := h10'.a.free
  go_upto_if 60 with fail
  go_cut [] from 60 to 78 (fun wx => Three W g A3 B Sp.full wx)
  case first =>
    rcases hull_ways_hi (a := A2.hi) (b := B.hi) hrj with q | ⟨q, q'⟩ | ⟨q, q', rfl⟩ | ⟨q, q', rfl⟩ | ⟨q, q', rfl⟩
    · have HE := Lib.hid (show A3 = { A2 with hi := false } by rw [HHI.out, q]; rfl)
      obtain rfl : c = true := by rw [← HC.out, q]; rfl
      go_wp2_with fail
      go_meet
      case rel => exact (h10'.setHi false).to HE.out
    · have HE := Lib.hid (show A3 = { A2 with hi := false } by rw [HHI.out, q, q']; rfl)
      obtain rfl : c = true := by rw [← HC.out, q, q']; rfl
      go_wp2_with fail
      go_meet
      case rel => exact (h10'.setHi false).to HE.out
    · have HE := Lib.hid (show A3 = { A2 with h := B.h, ohi := B.ohi } by rw [HHI.out, q, q']; rfl)
      obtain rfl : c = false := by rw [← HC.out, q, q']; rfl
      go_wp2_with fail
      go_meet
      case rel => exact ((h10'.setH B.h).setOhi B.ohi).to HE.out
    · have HE := Lib.hid (show A3 = { A2 with ohi := A2.ohi && B.ohi } by rw [HHI.out, q, q']; rfl)
      obtain rfl : c = false := by rw [← HC.out, q, q']; rfl
      cases q'' : A2.ohi
      · go_wp2_with fail
        go_meet
        case rel => exact (h10'.setOhi (false)).to (by rw [HE.out, q'']; rfl)
      · go_wp2_with fail
        go_meet
        case rel => exact (h10'.setOhi (B.ohi)).to (by rw [HE.out, q'']; rfl)
    · have HE := Lib.hid (show A3 = A2 by rw [HHI.out, q, q']; rfl)
      obtain rfl : c = false := by rw [← HC.out, q, q']; rfl
      go_wp2_with fail
      go_meet
      case rel => exact h10'.to HE.out
  case rest =>
  have h11 := hcut
  clear hcut h10' HHI af hrj
  clear a0 a1 a2 a3 a4 a5 a6 a7 a8 a9 a10 b0 b1 b2 b3 b4 b5 b6 b7 b8 b9 b10
  obtain ⟨a0, a1, a2, a3, a4, a5, a6, a7, a8, a9, a10⟩ := h11.a.c11
  go_wp2_with fail
  refine (C3.out wc (Lt.base wc)).mono ?_; rintro e w' ⟨rfl, y5, rfl⟩
  have h12 := h11.next y5.2
  clear a0 a1 a2 a3 a4 a5 a6 a7 a8 a9 a10
  obtain ⟨r0, r1, r2, r3, r4, r5, r6, r7, r8, r9, r10⟩ := h12.c.c11
  have rf := h12.c.free
  go_wp2_with fail
  have h13 := h12.putC A3.clean
  exact bodyPost_ret (span_out rfl rfl h13.c) rfl ⟨ret_span HE.out.symm, h13.lt⟩
end Go.Proofs.Ytppoefbfepehpaa
