/-
  Normal and Keys, walked on both sides. Conditions: the table and the predicate lie in memory as they read; at most a billion parts.
-/
import Derived.Test.YtppoefbfepehpaaRSpan
import Derived.Test.YtppoefbfepehpaaRPush
import Derived.Test.YtppoefbfepehpaaPrCheck
import Derived.Test.YtppoefbfepehpaaRPart
namespace Go.Proofs.Ytppoefbfepehpaa
open Go.RowKit

namespace Pr
/-- A table's predicate without PNot, or what never holds. -/
def normal (t : List Bool) (p : Pr) : Pr := if p.may t then p.push false else mk 2 0 zv zv []
def span (t : List Bool) (p : Pr) : Sp := if p.may t then (p.push false).keys else Sp.nothing
theorem may_parts {t : List Bool} {p : Pr} (h : p.may t = true) : p.parts t = true := by
  unfold may at h
  rw [Bool.and_eq_true] at h
  exact h.2
theorem err_may {t : List Bool} {p : Pr} (h : p.may t = true) : p.err t = 0 := by
  have hr : R.may t.length = true := by
    unfold may at h
    unfold R.may
    simp only [Bool.and_eq_true, decide_eq_true_eq] at h ⊢
    omega
  exact err_ok hr h
theorem err_not {t : List Bool} {p : Pr} (h : p.may t = false) : (p.err t == 0) = false := by
  unfold err
  cases R.may t.length
  · rfl
  · rw [h]; rfl
end Pr
/-- A size that a push keeps small enough. -/
theorem push_size : ∀ p : Pr, p.shape = true → ∀ n, (p.push n).size ≤ 3 * p.size := by
  refine Pr.ind fun p ih h n => ?_
  obtain ⟨o, c, v, w, l⟩ := p
  rcases Pr.shape_cases h with ⟨h1, h9, rfl⟩ | ⟨rfl, q, rfl, hq⟩ | ⟨ho, hne, hl⟩
  · rw [Pr.push_leaf ⟨h1, h9⟩]
    have e : ∀ o c v w, (Pr.mk o c v w []).size = 1 := fun o c v w => by rw [Pr.size_mk]; rfl
    cases n
    · simp only [Bool.false_eq_true, if_false]
      split
      · rw [e, e]; omega
      · rw [e]; omega
    · simp only [if_true]
      rcases Pr.turned_cases ⟨h1, h9⟩ c v w with ⟨e', _⟩ | ⟨o', c', v', e', _⟩
      · rw [e', e, Pr.size_mk]
        simp only [List.map_cons, List.map_nil, e]; decide
      · rw [e', e, e]; omega
  · rw [Pr.push_not]
    have := ih q (by simp [Pr.l]) hq (!n)
    have := Pr.size_kid (p := .mk 10 c v w [q]) (q := q) (by simp [Pr.l])
    omega
  · rw [Pr.push_list ho, Pr.size_mk, Pr.size_mk, List.map_map]
    have key : ∀ l : List Pr, (∀ q ∈ l, (q.push n).size ≤ 3 * q.size) → (l.map (Pr.size ∘ fun q => q.push n)).sum ≤ 3 * (l.map Pr.size).sum := by
      intro l
      induction l with
      | nil => intro _; simp
      | cons q l ih =>
        intro h
        have h1 := h q (by simp)
        have h2 := ih fun q hq => h q (by simp [hq])
        simp only [List.map_cons, List.sum_cons, Function.comp] at *
        omega
    have := key l (fun q hq => ih q hq (hl q hq) n)
    omega

set_option maxHeartbeats 1000000 in
theorem normal_any {A0 : Option Addr} {t : List Bool} {ca0 : Nat} {p : Pr} {A : Option Addr} {ca : Nat} (hsz : p.size ≤ 100000000) (W : World) (ht : ColsAt W A0 t) (hat : p.At W A ca) :
    Calls Try.prog 13 #[.agg #[.slice A0 t.length ca0], p.arg A ca] W (PFresh W (p.normal t)) := by
  have HT := Lib.hid ht
  have HA := Lib.hid hat
  clear ht hat
  unfold Pr.arg
  cases hm : p.may t
  case' true => have HP := Lib.hid (Pr.may_parts hm)
  case false =>
    have HM := Lib.hid (Pr.err_not hm)
    have HN := Lib.hid (show p.normal t = (Pr.mk 2 0 Pr.zv Pr.zv []) by unfold Pr.normal; rw [hm]; rfl)
    rw [HN.out]
    go_enter Try.func13, Try.ntmps13
    go_wp2_with fail
    refine calls_here fun W1 hW1 => ?_
    have hb1 : Below W.heap.size W W1 := by rw [hW1]; exact below_then (below_then (below_alloc _) (below_alloc _)) (below_alloc _)
    have hs1 : W1.heap.size = W.heap.size + 1 + 1 + 1 := by rw [hW1]; simp
    have hr1 : OwnP W1 (W.heap.size + 1 + 1) [⟨.mk 0 0 Pr.zv Pr.zv [], none, 0⟩] := by rw [hW1]; exact OwnP.one (t := 29) ⟨.mk 0 0 Pr.zv Pr.zv [], none, 0⟩ (by simp)
    have hp1 : OwnP W1 (W.heap.size + 1) [⟨p, A, ca⟩] := by rw [hW1]; exact (OwnP.one (w := W.alloc _) (t := 29) ⟨p, A, ca⟩ (by simp)).below (below_alloc _)
    clear hW1
    refine (pcheck_any (Lt.base W1) (HT.out.below hb1) (HA.out.below hb1) (by omega)).mono ?_; rintro e w' ⟨rfl, y, rfl⟩
    have hr2 := hr1.below y.2
    have herr := HM.out
    clear hm
    obtain ⟨r0, r1, r2, r3, r4, r5, r6, r7, r8⟩ := hr2.first
    have rf := hr2.free
    simp only [Nat.zero_add, Pr.op, Pr.col, Pr.v, Pr.w] at r0 r1 r2 r3 r4 r5 r6 r7 r8
    go_wp2_with fail
    have hfin : PFresh W (Pr.mk 2 0 Pr.zv Pr.zv []) (.returned (.agg #[.int .i64 2, .int .i64 0, .bool false, .int .i64 0, .string ⟨#[]⟩, .bool false, .int .i64 0, .string ⟨#[]⟩, .slice none 0 0])) (pput y.1 (W.heap.size + 1 + 1) ⟨.mk 2 0 Pr.zv Pr.zv [], none, 0⟩) := PFresh.leaf 2 0 Pr.zv Pr.zv (fun _ => rfl) (pput_below (below_then hb1 y.2) (by omega) _)
    exact bodyPost_ret (pr_out rfl rfl (pput_own hr2 ⟨.mk 2 0 Pr.zv Pr.zv [], none, 0⟩)) rfl hfin
  case true =>
    have HM := Lib.hid (Pr.err_may hm)
    have HN := Lib.hid (show p.normal t = p.push false by unfold Pr.normal; rw [hm]; rfl)
    rw [HN.out]
    have HPB := Lib.hid (Pr.push_bare p (Pr.parts_shape p HP.out) false)
    have HPP := Lib.hid (Pr.push_parts p HP.out false)
    have HPS := Lib.hid (push_size p (Pr.parts_shape p HP.out) false)
    obtain ⟨qq, hqq⟩ : ∃ qq, p.push false = qq := ⟨_, rfl⟩
    rw [hqq] at HPB HPP HPS ⊢
    have CP := Lib.hid (show ∀ W : World, p.At W A ca → Calls Try.prog 29 #[p.arg A ca, .bool false] W (PFresh W qq) from fun W h => hqq ▸ push_all p (Pr.parts_shape p HP.out) (by omega) false W A ca h)
    clear hqq
    go_enter Try.func13, Try.ntmps13
    go_wp2_with fail
    refine calls_here fun W1 hW1 => ?_
    have hb1 : Below W.heap.size W W1 := by rw [hW1]; exact below_then (below_then (below_alloc _) (below_alloc _)) (below_alloc _)
    have hs1 : W1.heap.size = W.heap.size + 1 + 1 + 1 := by rw [hW1]; simp
    have hr1 : OwnP W1 (W.heap.size + 1 + 1) [⟨.mk 0 0 Pr.zv Pr.zv [], none, 0⟩] := by rw [hW1]; exact OwnP.one (t := 29) ⟨.mk 0 0 Pr.zv Pr.zv [], none, 0⟩ (by simp)
    have hp1 : OwnP W1 (W.heap.size + 1) [⟨p, A, ca⟩] := by rw [hW1]; exact (OwnP.one (w := W.alloc _) (t := 29) ⟨p, A, ca⟩ (by simp)).below (below_alloc _)
    clear hW1
    refine (pcheck_any (Lt.base W1) (HT.out.below hb1) (HA.out.below hb1) (by omega)).mono ?_; rintro e w' ⟨rfl, y, rfl⟩
    rw [HM.out]
    have hr2 := hr1.below y.2
    clear hm
    obtain ⟨b0, b1, b2, b3, b4, b5, b6, b7, b8⟩ := (hp1.below y.2).first
    simp only [Nat.zero_add] at b0 b1 b2 b3 b4 b5 b6 b7 b8
    go_wp2_with fail
    refine (CP.out y.1 (HA.out.below (below_then hb1 y.2))).mono ?_; rintro e w4 ⟨A4, ca4, rfl, hat4, hown4, hb4⟩
    have hr4 := hr2.below hb4
    obtain ⟨r0, r1, r2, r3, r4, r5, r6, r7, r8⟩ := hr4.first
    have rf := hr4.free
    simp only [Nat.zero_add, Pr.op, Pr.col, Pr.v, Pr.w] at r0 r1 r2 r3 r4 r5 r6 r7 r8
    go_wp2_with fail
    have hs2 := y.2.size
    exact bodyPost_ret (pr_out rfl rfl (pput_own hr4 ⟨qq, A4, ca4⟩)) rfl (put_fresh (W1 := y.1) (gr := W.heap.size + 1 + 1) (by omega) (by omega) (below_then (below_then hb1 y.2) hb4) hat4 hown4)

set_option maxHeartbeats 1000000 in
theorem span_any {A0 : Option Addr} {t : List Bool} {ca0 : Nat} {p : Pr} {A : Option Addr} {ca : Nat} (hsz : p.size ≤ 100000000) (W : World) (ht : ColsAt W A0 t) (hat : p.At W A ca) :
    Calls Try.prog 15 #[.agg #[.slice A0 t.length ca0], p.arg A ca] W fun e w' => e = .returned (p.span t).val ∧ Below W.heap.size W w' := by
  have HT := Lib.hid ht
  have HA := Lib.hid hat
  clear ht hat
  unfold Pr.arg
  cases hm : p.may t
  case' true => have HP := Lib.hid (Pr.may_parts hm)
  case false =>
    have HM := Lib.hid (Pr.err_not hm)
    have HN := Lib.hid (show p.span t = Sp.nothing by unfold Pr.span; rw [hm]; rfl)
    rw [HN.out]
    go_enter Try.func15, Try.ntmps15
    go_wp2_with fail
    refine calls_here fun W1 hW1 => ?_
    have hb1 : Below W.heap.size W W1 := by rw [hW1]; exact below_then (below_then (below_alloc _) (below_alloc _)) (below_alloc _)
    have hs1 : W1.heap.size = W.heap.size + 1 + 1 + 1 := by rw [hW1]; simp
    have hr1 : Blk W1 (W.heap.size + 1 + 1) Sp.full.cells := by rw [hW1]; exact Blk.new' (by simp)
    have hp1 : OwnP W1 (W.heap.size + 1) [⟨p, A, ca⟩] := by rw [hW1]; exact (OwnP.one (w := W.alloc _) (t := 29) ⟨p, A, ca⟩ (by simp)).below (below_alloc _)
    clear hW1
    refine (pcheck_any (Lt.base W1) (HT.out.below hb1) (HA.out.below hb1) (by omega)).mono ?_; rintro e w' ⟨rfl, y, rfl⟩
    have hr2 := hr1.below y.2
    have herr := HM.out
    clear hm
    obtain ⟨r0, r1, r2, r3, r4, r5, r6, r7, r8, r9, r10⟩ := hr2.c11
    have rf := hr2.free
    go_wp2_with fail
    clear r0 r1 r2 r3 r4 r5 r6 r7 r8 r9 r10 rf
    refine (nothing_any (W := W1) y).mono ?_; rintro e w' ⟨rfl, y2, rfl⟩
    have hr3 := hr1.below y2.2
    obtain ⟨r0, r1, r2, r3, r4, r5, r6, r7, r8, r9, r10⟩ := hr3.c11
    have rf := hr3.free
    go_wp2_with fail
    exact bodyPost_ret (span_out rfl rfl (sput_blk hr3 Sp.nothing)) rfl ⟨rfl, sput_below (below_then hb1 y2.2) (by omega) Sp.nothing⟩
  case true =>
    have HM := Lib.hid (Pr.err_may hm)
    have HN := Lib.hid (show p.span t = (p.push false).keys by unfold Pr.span; rw [hm]; rfl)
    rw [HN.out]
    have HPB := Lib.hid (Pr.push_bare p (Pr.parts_shape p HP.out) false)
    have HPP := Lib.hid (Pr.push_parts p HP.out false)
    have HPS := Lib.hid (push_size p (Pr.parts_shape p HP.out) false)
    obtain ⟨qq, hqq⟩ : ∃ qq, p.push false = qq := ⟨_, rfl⟩
    rw [hqq] at HPB HPP HPS ⊢
    have CP := Lib.hid (show ∀ W : World, p.At W A ca → Calls Try.prog 29 #[p.arg A ca, .bool false] W (PFresh W qq) from fun W h => hqq ▸ push_all p (Pr.parts_shape p HP.out) (by omega) false W A ca h)
    clear hqq
    obtain ⟨s, hs⟩ : ∃ s, qq.keys = s := ⟨_, rfl⟩
    have CK := Lib.hid (show ∀ (W : World) (A : Option Addr) (ca : Nat), qq.At W A ca → Calls Try.prog 32 #[qq.arg A ca] W fun e w' => e = .returned s.val ∧ Below W.heap.size W w' from hs ▸ keys_all qq HPB.out.1 HPB.out.2.1 (by have := HPS.out; omega))
    rw [hs]
    clear hs
    go_enter Try.func15, Try.ntmps15
    go_wp2_with fail
    refine calls_here fun W1 hW1 => ?_
    have hb1 : Below W.heap.size W W1 := by rw [hW1]; exact below_then (below_then (below_alloc _) (below_alloc _)) (below_alloc _)
    have hs1 : W1.heap.size = W.heap.size + 1 + 1 + 1 := by rw [hW1]; simp
    have hr1 : Blk W1 (W.heap.size + 1 + 1) Sp.full.cells := by rw [hW1]; exact Blk.new' (by simp)
    have hp1 : OwnP W1 (W.heap.size + 1) [⟨p, A, ca⟩] := by rw [hW1]; exact (OwnP.one (w := W.alloc _) (t := 29) ⟨p, A, ca⟩ (by simp)).below (below_alloc _)
    clear hW1
    refine (pcheck_any (Lt.base W1) (HT.out.below hb1) (HA.out.below hb1) (by omega)).mono ?_; rintro e w' ⟨rfl, y, rfl⟩
    rw [HM.out]
    have hr2 := hr1.below y.2
    clear hm
    obtain ⟨b0, b1, b2, b3, b4, b5, b6, b7, b8⟩ := (hp1.below y.2).first
    simp only [Nat.zero_add] at b0 b1 b2 b3 b4 b5 b6 b7 b8
    go_wp2_with fail
    refine (CP.out y.1 (HA.out.below (below_then hb1 y.2))).mono ?_; rintro e w4 ⟨A4, ca4, rfl, hat4, hown4, hb4⟩
    go_wp2_with fail
    refine (CK.out w4 A4 ca4 hat4).mono ?_; rintro e w5 ⟨rfl, hb5⟩
    have hr4 := (hr2.below hb4).below hb5
    obtain ⟨r0, r1, r2, r3, r4, r5, r6, r7, r8, r9, r10⟩ := hr4.c11
    have rf := hr4.free
    go_wp2_with fail
    exact bodyPost_ret (span_out rfl rfl (sput_blk hr4 s)) rfl ⟨rfl, sput_below (below_then (below_then (below_then hb1 y.2) hb4) hb5) (by omega) s⟩

set_option maxHeartbeats 1000000 in
theorem rnormal_any {A0 : Option Addr} {t : List Bool} {ca0 : Nat} {p : Pr} {A : Option Addr} {ca : Nat} (hsz : p.size ≤ 100000000) (W : World) (ht : ColsAt W A0 t) (hat : p.At W A ca) :
    Calls Try.prog 14 #[.agg #[.slice A0 t.length ca0], p.arg A ca] W (PFresh W (p.normal t)) := by
  have HT := Lib.hid ht
  have HA := Lib.hid hat
  clear ht hat
  unfold Pr.arg
  cases hm : p.may t
  case' true => have HP := Lib.hid (Pr.may_parts hm)
  case false =>
    have HN := Lib.hid (show p.normal t = (Pr.mk 2 0 Pr.zv Pr.zv []) by unfold Pr.normal; rw [hm]; rfl)
    rw [HN.out]
    go_enter Try.func14, Try.ntmps14
    go_wp2_with fail
    refine calls_here fun W1 hW1 => ?_
    have hb1 : Below W.heap.size W W1 := by rw [hW1]; exact below_then (below_then (below_alloc _) (below_alloc _)) (below_alloc _)
    have hs1 : W1.heap.size = W.heap.size + 1 + 1 + 1 := by rw [hW1]; simp
    have hr1 : OwnP W1 (W.heap.size + 1 + 1) [⟨.mk 0 0 Pr.zv Pr.zv [], none, 0⟩] := by rw [hW1]; exact OwnP.one (t := 29) ⟨.mk 0 0 Pr.zv Pr.zv [], none, 0⟩ (by simp)
    have hp1 : OwnP W1 (W.heap.size + 1) [⟨p, A, ca⟩] := by rw [hW1]; exact (OwnP.one (w := W.alloc _) (t := 29) ⟨p, A, ca⟩ (by simp)).below (below_alloc _)
    clear hW1
    refine (rmay_any (Lt.base W1) (HT.out.below hb1) (HA.out.below hb1) (by omega)).mono ?_; rintro e w' ⟨rfl, y, rfl⟩
    rw [hm]
    have hr2 := hr1.below y.2
    clear hm
    obtain ⟨r0, r1, r2, r3, r4, r5, r6, r7, r8⟩ := hr2.first
    have rf := hr2.free
    simp only [Nat.zero_add, Pr.op, Pr.col, Pr.v, Pr.w] at r0 r1 r2 r3 r4 r5 r6 r7 r8
    go_wp2_with fail
    have hfin : PFresh W (Pr.mk 2 0 Pr.zv Pr.zv []) (.returned (.agg #[.int .i64 2, .int .i64 0, .bool false, .int .i64 0, .string ⟨#[]⟩, .bool false, .int .i64 0, .string ⟨#[]⟩, .slice none 0 0])) (pput y.1 (W.heap.size + 1 + 1) ⟨.mk 2 0 Pr.zv Pr.zv [], none, 0⟩) := PFresh.leaf 2 0 Pr.zv Pr.zv (fun _ => rfl) (pput_below (below_then hb1 y.2) (by omega) _)
    exact bodyPost_ret (pr_out rfl rfl (pput_own hr2 ⟨.mk 2 0 Pr.zv Pr.zv [], none, 0⟩)) rfl hfin
  case true =>
    have HN := Lib.hid (show p.normal t = p.push false by unfold Pr.normal; rw [hm]; rfl)
    rw [HN.out]
    have HPB := Lib.hid (Pr.push_bare p (Pr.parts_shape p HP.out) false)
    have HPP := Lib.hid (Pr.push_parts p HP.out false)
    have HPS := Lib.hid (push_size p (Pr.parts_shape p HP.out) false)
    obtain ⟨qq, hqq⟩ : ∃ qq, p.push false = qq := ⟨_, rfl⟩
    rw [hqq] at HPB HPP HPS ⊢
    have CP := Lib.hid (show ∀ W : World, p.At W A ca → Calls Try.prog 30 #[p.arg A ca, .bool false] W (PFresh W qq) from fun W h => hqq ▸ rpush_all p (Pr.parts_shape p HP.out) (by omega) false W A ca h)
    clear hqq
    go_enter Try.func14, Try.ntmps14
    go_wp2_with fail
    refine calls_here fun W1 hW1 => ?_
    have hb1 : Below W.heap.size W W1 := by rw [hW1]; exact below_then (below_then (below_alloc _) (below_alloc _)) (below_alloc _)
    have hs1 : W1.heap.size = W.heap.size + 1 + 1 + 1 := by rw [hW1]; simp
    have hr1 : OwnP W1 (W.heap.size + 1 + 1) [⟨.mk 0 0 Pr.zv Pr.zv [], none, 0⟩] := by rw [hW1]; exact OwnP.one (t := 29) ⟨.mk 0 0 Pr.zv Pr.zv [], none, 0⟩ (by simp)
    have hp1 : OwnP W1 (W.heap.size + 1) [⟨p, A, ca⟩] := by rw [hW1]; exact (OwnP.one (w := W.alloc _) (t := 29) ⟨p, A, ca⟩ (by simp)).below (below_alloc _)
    clear hW1
    refine (rmay_any (Lt.base W1) (HT.out.below hb1) (HA.out.below hb1) (by omega)).mono ?_; rintro e w' ⟨rfl, y, rfl⟩
    rw [hm]
    have hr2 := hr1.below y.2
    clear hm
    obtain ⟨b0, b1, b2, b3, b4, b5, b6, b7, b8⟩ := (hp1.below y.2).first
    simp only [Nat.zero_add] at b0 b1 b2 b3 b4 b5 b6 b7 b8
    go_wp2_with fail
    refine (CP.out y.1 (HA.out.below (below_then hb1 y.2))).mono ?_; rintro e w4 ⟨A4, ca4, rfl, hat4, hown4, hb4⟩
    have hr4 := hr2.below hb4
    obtain ⟨r0, r1, r2, r3, r4, r5, r6, r7, r8⟩ := hr4.first
    have rf := hr4.free
    simp only [Nat.zero_add, Pr.op, Pr.col, Pr.v, Pr.w] at r0 r1 r2 r3 r4 r5 r6 r7 r8
    go_wp2_with fail
    have hs2 := y.2.size
    exact bodyPost_ret (pr_out rfl rfl (pput_own hr4 ⟨qq, A4, ca4⟩)) rfl (put_fresh (W1 := y.1) (gr := W.heap.size + 1 + 1) (by omega) (by omega) (below_then (below_then hb1 y.2) hb4) hat4 hown4)

set_option maxHeartbeats 1000000 in
theorem rspan_any {A0 : Option Addr} {t : List Bool} {ca0 : Nat} {p : Pr} {A : Option Addr} {ca : Nat} (hsz : p.size ≤ 100000000) (W : World) (ht : ColsAt W A0 t) (hat : p.At W A ca) :
    Calls Try.prog 16 #[.agg #[.slice A0 t.length ca0], p.arg A ca] W fun e w' => e = .returned (p.span t).val ∧ Below W.heap.size W w' := by
  have HT := Lib.hid ht
  have HA := Lib.hid hat
  clear ht hat
  unfold Pr.arg
  cases hm : p.may t
  case' true => have HP := Lib.hid (Pr.may_parts hm)
  case false =>
    have HN := Lib.hid (show p.span t = Sp.nothing by unfold Pr.span; rw [hm]; rfl)
    rw [HN.out]
    go_enter Try.func16, Try.ntmps16
    go_wp2_with fail
    refine calls_here fun W1 hW1 => ?_
    have hb1 : Below W.heap.size W W1 := by rw [hW1]; exact below_then (below_then (below_alloc _) (below_alloc _)) (below_alloc _)
    have hs1 : W1.heap.size = W.heap.size + 1 + 1 + 1 := by rw [hW1]; simp
    have hr1 : Blk W1 (W.heap.size + 1 + 1) Sp.full.cells := by rw [hW1]; exact Blk.new' (by simp)
    have hp1 : OwnP W1 (W.heap.size + 1) [⟨p, A, ca⟩] := by rw [hW1]; exact (OwnP.one (w := W.alloc _) (t := 29) ⟨p, A, ca⟩ (by simp)).below (below_alloc _)
    clear hW1
    refine (rmay_any (Lt.base W1) (HT.out.below hb1) (HA.out.below hb1) (by omega)).mono ?_; rintro e w' ⟨rfl, y, rfl⟩
    rw [hm]
    have hr2 := hr1.below y.2
    clear hm
    obtain ⟨r0, r1, r2, r3, r4, r5, r6, r7, r8, r9, r10⟩ := hr2.c11
    have rf := hr2.free
    go_wp2_with fail
    exact bodyPost_ret (span_out rfl rfl (sput_blk hr2 Sp.nothing)) rfl ⟨rfl, sput_below (below_then hb1 y.2) (by omega) Sp.nothing⟩
  case true =>
    have HN := Lib.hid (show p.span t = (p.push false).keys by unfold Pr.span; rw [hm]; rfl)
    rw [HN.out]
    have HPB := Lib.hid (Pr.push_bare p (Pr.parts_shape p HP.out) false)
    have HPP := Lib.hid (Pr.push_parts p HP.out false)
    have HPS := Lib.hid (push_size p (Pr.parts_shape p HP.out) false)
    obtain ⟨qq, hqq⟩ : ∃ qq, p.push false = qq := ⟨_, rfl⟩
    rw [hqq] at HPB HPP HPS ⊢
    have CP := Lib.hid (show ∀ W : World, p.At W A ca → Calls Try.prog 30 #[p.arg A ca, .bool false] W (PFresh W qq) from fun W h => hqq ▸ rpush_all p (Pr.parts_shape p HP.out) (by omega) false W A ca h)
    clear hqq
    obtain ⟨s, hs⟩ : ∃ s, qq.keys = s := ⟨_, rfl⟩
    have CK := Lib.hid (show ∀ (W : World) (A : Option Addr) (ca : Nat), qq.At W A ca → Calls Try.prog 33 #[qq.arg A ca] W fun e w' => e = .returned s.val ∧ Below W.heap.size W w' from hs ▸ rspan_all qq HPP.out HPB.out.2.1 (by have := HPS.out; omega))
    rw [hs]
    clear hs
    go_enter Try.func16, Try.ntmps16
    go_wp2_with fail
    refine calls_here fun W1 hW1 => ?_
    have hb1 : Below W.heap.size W W1 := by rw [hW1]; exact below_then (below_then (below_alloc _) (below_alloc _)) (below_alloc _)
    have hs1 : W1.heap.size = W.heap.size + 1 + 1 + 1 := by rw [hW1]; simp
    have hr1 : Blk W1 (W.heap.size + 1 + 1) Sp.full.cells := by rw [hW1]; exact Blk.new' (by simp)
    have hp1 : OwnP W1 (W.heap.size + 1) [⟨p, A, ca⟩] := by rw [hW1]; exact (OwnP.one (w := W.alloc _) (t := 29) ⟨p, A, ca⟩ (by simp)).below (below_alloc _)
    clear hW1
    refine (rmay_any (Lt.base W1) (HT.out.below hb1) (HA.out.below hb1) (by omega)).mono ?_; rintro e w' ⟨rfl, y, rfl⟩
    rw [hm]
    have hr2 := hr1.below y.2
    clear hm
    obtain ⟨b0, b1, b2, b3, b4, b5, b6, b7, b8⟩ := (hp1.below y.2).first
    simp only [Nat.zero_add] at b0 b1 b2 b3 b4 b5 b6 b7 b8
    go_wp2_with fail
    refine (CP.out y.1 (HA.out.below (below_then hb1 y.2))).mono ?_; rintro e w4 ⟨A4, ca4, rfl, hat4, hown4, hb4⟩
    go_wp2_with fail
    refine (CK.out w4 A4 ca4 hat4).mono ?_; rintro e w5 ⟨rfl, hb5⟩
    have hr4 := (hr2.below hb4).below hb5
    obtain ⟨r0, r1, r2, r3, r4, r5, r6, r7, r8, r9, r10⟩ := hr4.c11
    have rf := hr4.free
    go_wp2_with fail
    exact bodyPost_ret (span_out rfl rfl (sput_blk hr4 s)) rfl ⟨rfl, sput_below (below_then (below_then (below_then hb1 y.2) hb4) hb5) (by omega) s⟩
end Go.Proofs.Ytppoefbfepehpaa
