/-
  A span as the document cleans it, walked. Conditions: the lower end's text is no longer than an int holds.
-/
import Derived.Test.YtppoefbfepehpaaSpanMeet
namespace Go.Proofs.Ytppoefbfepehpaa
open Go.RowKit
variable {W : World}

/-- Two spans, one behind the other: an argument's box and the result's. -/
structure Two (W : World) (g : Nat) (A C : Sp) (w : World) : Prop where
  below : Below W.heap.size W w
  old : W.heap.size ≤ g
  a : Blk w g A.cells
  c : Blk w (g + 1) C.cells
theorem Two.next {W w w' : World} {g : Nat} {A C : Sp} (h : Two W g A C w) (hb : Below w.heap.size w w') : Two W g A C w' := ⟨below_then h.below hb, h.old, h.a.below hb, h.c.below hb⟩
theorem Two.set {W w : World} {g : Nat} {A C : Sp} (h : Two W g A C w) {j : Nat} (hj : j < 11) (v : Value) {A' : Sp} (e : A.cells.set j v = A'.cells) : Two W g A' C (w.setCell ⟨g, j, none⟩ v) :=
  ⟨h.below.setCell h.old v, h.old, (h.a.set1 hj v).to e, h.c.setOther (by show g + 1 ≠ g; omega) v⟩
theorem Two.setL {W w : World} {g : Nat} {A C : Sp} (h : Two W g A C w) (v : Val) : Two W g { A with l := v } C (((w.setCell ⟨g, 3, none⟩ (.bool v.t)).setCell ⟨g, 4, none⟩ (.int .i64 v.n)).setCell ⟨g, 5, none⟩ (.string v.s)) :=
  (((h.set (A' := { A with l := ⟨v.t, A.l.n, A.l.s⟩ }) (j := 3) (by omega) _ rfl).set (A' := { A with l := ⟨v.t, v.n, A.l.s⟩ }) (j := 4) (by omega) _ rfl).set (A' := { A with l := v }) (j := 5) (by omega) _ rfl)
theorem Two.setH {W w : World} {g : Nat} {A C : Sp} (h : Two W g A C w) (v : Val) : Two W g { A with h := v } C (((w.setCell ⟨g, 8, none⟩ (.bool v.t)).setCell ⟨g, 9, none⟩ (.int .i64 v.n)).setCell ⟨g, 10, none⟩ (.string v.s)) :=
  (((h.set (A' := { A with h := ⟨v.t, A.h.n, A.h.s⟩ }) (j := 8) (by omega) _ rfl).set (A' := { A with h := ⟨v.t, v.n, A.h.s⟩ }) (j := 9) (by omega) _ rfl).set (A' := { A with h := v }) (j := 10) (by omega) _ rfl)
theorem Two.setOlo {W w : World} {g : Nat} {A C : Sp} (h : Two W g A C w) (v : Bool) : Two W g { A with olo := v } C (w.setCell ⟨g, 2, none⟩ (.bool v)) := h.set (by omega) _ rfl
theorem Two.setOhi {W w : World} {g : Nat} {A C : Sp} (h : Two W g A C w) (v : Bool) : Two W g { A with ohi := v } C (w.setCell ⟨g, 7, none⟩ (.bool v)) := h.set (by omega) _ rfl
theorem Two.putC {W w : World} {g : Nat} {A C : Sp} (h : Two W g A C w) (s : Sp) : Two W g A s (sput w (g + 1) s) :=
  ⟨sput_below h.below (by have := h.old; omega) s, h.old, sput_other h.a (by omega) s, sput_blk h.c s⟩
theorem Two.lt {W w : World} {g : Nat} {A C : Sp} (h : Two W g A C w) : ∃ y : Lt W, w = y.1 := ⟨⟨w, h.below⟩, rfl⟩
theorem Two.new {x : Lt W} {a : Sp} {t t' : TypeId} : Two W x.1.heap.size a Sp.full ((x.1.alloc (.cells #[.bool a.none, .bool a.lo, .bool a.olo, .bool a.l.t, .int .i64 a.l.n, .string a.l.s, .bool a.hi, .bool a.ohi, .bool a.h.t, .int .i64 a.h.n, .string a.h.s] t)).alloc
    (.cells #[.bool false, .bool false, .bool false, .bool false, .int .i64 0, .string ⟨#[]⟩, .bool false, .bool false, .bool false, .int .i64 0, .string ⟨#[]⟩] t')) :=
  ⟨x.more2 _ _, x.2.size, (Blk.new' rfl).alloc _, Blk.new' (by simp)⟩

set_option maxHeartbeats 4000000 in
theorem rclean_any (s : Sp) (hv : s.l.s.size ≤ maxLen) (x : Lt W) : Calls Try.prog 37 #[s.val] x.1 fun e w' => e = .returned s.clean.val ∧ ∃ y : Lt W, w' = y.1 := by
  obtain ⟨none, lo, olo, l, hi, ohi, h⟩ := s
  obtain ⟨i, hi1⟩ : ∃ i, cmpV l h = i := ⟨_, rfl⟩
  have key := both_cases (olo := olo) (ohi := ohi) (hi1 ▸ cmpV_range l h)
  have C1 := Lib.hid (fun (W : World) (z : Lt W) => rcompare_is hi1 hv z)
  have hw : (⟨none, lo, olo, l, hi, ohi, h⟩ : Sp).clean = if (none || (lo && hi && (decide (0 < i) || decide (i = 0) && (olo || ohi)))) = true then Sp.nothing else ⟨false, lo, lo && olo, if lo then l else Sp.z, hi, hi && ohi, if hi then h else Sp.z⟩ := by rw [← hi1]; rfl
  have HW := Lib.hid hw
  clear hi1 hw hv
  go_enter Try.func37, Try.ntmps37
  go_wp2_with fail
  refine calls_here fun W1 hW1 => ?_
  have h3 : Two W x.1.heap.size ⟨none, lo, olo, l, hi, ohi, h⟩ Sp.full W1 := by rw [hW1]; exact Two.new
  clear hW1
  obtain ⟨g, hg⟩ : ∃ g, x.1.heap.size = g := ⟨_, rfl⟩
  rw [hg] at h3 ⊢
  clear hg
  refine (C1.out W1 (Lt.base W1)).mono ?_; rintro e w' ⟨rfl, y, rfl⟩
  have h4 := h3.next y.2
  obtain ⟨a0, a1, a2, a3, a4, a5, a6, a7, a8, a9, a10⟩ := h4.a.c11
  obtain ⟨r0, r1, r2, r3, r4, r5, r6, r7, r8, r9, r10⟩ := h4.c.c11
  have af := h4.a.free
  have rf := h4.c.free
  clear h3 C1
  rcases none
  case true =>
    have HE := Lib.hid (HW.out.trans (if_pos rfl))
    go_wp2_with fail
    have h5 := h4.putC Sp.nothing
    exact bodyPost_ret (span_out rfl rfl h5.c) rfl ⟨ret_span HE.out.symm, h5.lt⟩
  rcases lo
  case false =>
    rcases hi
    case false =>
      have HE := Lib.hid (HW.out.trans (if_neg (by simp)))
      go_wp2_with fail
      have h5 := ((((h4.setL Sp.z).setOlo false).setH Sp.z).setOhi false).putC Sp.full
      exact bodyPost_ret (span_out rfl rfl h5.c) rfl ⟨ret_span HE.out.symm, h5.lt⟩
    case true =>
      have HE := Lib.hid (HW.out.trans (if_neg (by simp)))
      go_wp2_with fail
      have h5 := ((h4.setL Sp.z).setOlo false).putC ⟨false, false, false, Sp.z, true, ohi, h⟩
      exact bodyPost_ret (span_out rfl rfl h5.c) rfl ⟨ret_span HE.out.symm, h5.lt⟩
  case true =>
    rcases hi
    case false =>
      have HE := Lib.hid (HW.out.trans (if_neg (by simp)))
      go_wp2_with fail
      have h5 := ((h4.setH Sp.z).setOhi false).putC ⟨false, true, olo, l, false, false, Sp.z⟩
      exact bodyPost_ret (span_out rfl rfl h5.c) rfl ⟨ret_span HE.out.symm, h5.lt⟩
    case true =>
      rcases key with rfl | ⟨rfl, rfl⟩ | ⟨rfl, rfl, rfl⟩ | ⟨rfl, rfl, rfl⟩ | rfl
      case inl | inr.inl | inr.inr.inl =>
        have HE := Lib.hid (HW.out.trans (if_pos (by simp)))
        go_wp2_with fail
        have h5 := h4.putC Sp.nothing
        exact bodyPost_ret (span_out rfl rfl h5.c) rfl ⟨ret_span HE.out.symm, h5.lt⟩
      case inr.inr.inr.inl =>
        have HE := Lib.hid (HW.out.trans (if_neg (by simp)))
        go_wp2_with fail
        have h5 := h4.putC ⟨false, true, false, l, true, false, h⟩
        exact bodyPost_ret (span_out rfl rfl h5.c) rfl ⟨ret_span HE.out.symm, h5.lt⟩
      case inr.inr.inr.inr =>
        have HE := Lib.hid (HW.out.trans (if_neg (by simp)))
        go_wp2_with fail
        have h5 := h4.putC ⟨false, true, olo, l, true, ohi, h⟩
        exact bodyPost_ret (span_out rfl rfl h5.c) rfl ⟨ret_span HE.out.symm, h5.lt⟩
theorem rclean_is {s A : Sp} (hs : s.clean = A) (hv : s.l.s.size ≤ maxLen) (x : Lt W) : Calls Try.prog 37 #[s.val] x.1 fun e w' => e = .returned A.val ∧ ∃ y : Lt W, w' = y.1 := hs ▸ rclean_any s hv x
/-- A span's texts are no longer than an int holds. -/
def Sp.Fit (s : Sp) : Prop := s.l.s.size ≤ maxLen ∧ s.h.s.size ≤ maxLen
theorem Sp.Fit.clean {s : Sp} (h : s.Fit) : s.clean.Fit := by
  have h0 : Sp.z.s.size ≤ maxLen := by show 0 ≤ maxLen; exact Nat.zero_le _
  rcases Sp.clean_is s with ⟨e, _⟩ | ⟨_, e⟩
  · rw [e]; exact ⟨h0, h0⟩
  · rw [e]
    refine ⟨?_, ?_⟩
    · show (if s.lo then s.l else Sp.z).s.size ≤ maxLen
      split
      · exact h.1
      · exact h0
    · show (if s.hi then s.h else Sp.z).s.size ≤ maxLen
      split
      · exact h.2
      · exact h0
end Go.Proofs.Ytppoefbfepehpaa
