/-
  What two spans meet in, walked on the program's side. Conditions: none.
-/
import Derived.Test.YtppoefbfepehpaaSpanClean
import Derived.Deep.DeepCutAuto
import Derived.Deep.RegionLaw
namespace Go.Proofs.Ytppoefbfepehpaa
open Go.RowKit
variable {W : World}

theorem clean_from {s A : Sp} (h : s.clean = A) (w : World) : Calls Try.prog 36 #[s.val] w fun e w' => e = .returned A.val ∧ Below w.heap.size w w' :=
  (clean_any s (Lt.base w)).mono (by rintro e w' ⟨h1, y, rfl⟩; exact ⟨h ▸ h1, y.2⟩)
theorem Blk.to {w : World} {g : Nat} {l l' : List Value} (h : Blk w g l) (e : l = l') : Blk w g l' := e ▸ h
/-- Three spans, one behind the other: two arguments' boxes and the result's. -/
structure Three (W : World) (g : Nat) (A B C : Sp) (w : World) : Prop where
  below : Below W.heap.size W w
  old : W.heap.size ≤ g
  a : Blk w g A.cells
  b : Blk w (g + 1) B.cells
  c : Blk w (g + 1 + 1) C.cells
theorem Three.next {W w w' : World} {g : Nat} {A B C : Sp} (h : Three W g A B C w) (hb : Below w.heap.size w w') : Three W g A B C w' :=
  ⟨below_then h.below hb, h.old, h.a.below hb, h.b.below hb, h.c.below hb⟩
theorem Three.drew {W w : World} {g : Nat} {A B C : Sp} (h : Three W g A B C w) : Three W g A B C w.drew := ⟨h.below.drew, h.old, h.a.drew, h.b.drew, h.c.drew⟩
theorem Three.put {W w : World} {g : Nat} {A B C : Sp} (h : Three W g A B C w) {l : List Value} {w' : World} (hb : ∀ b, b ≠ g → w'.heap[b]? = w.heap[b]?) (hs : w'.heap.size = w.heap.size) (hlt : Below W.heap.size W w') (ha : Blk w' g l) {A' : Sp} (e : l = A'.cells) : Three W g A' B C w' :=
  ⟨hlt, h.old, ha.to e, h.b.other (by omega) (hb _ (by omega)), h.c.other (by omega) (hb _ (by omega))⟩
/-- One cell of the first span. -/
theorem Three.set {W w : World} {g : Nat} {A B C : Sp} (h : Three W g A B C w) {j : Nat} (hj : j < 11) (v : Value) {A' : Sp} (e : A.cells.set j v = A'.cells) : Three W g A' B C (w.setCell ⟨g, j, none⟩ v) :=
  ⟨h.below.setCell h.old v, h.old, (h.a.set1 hj v).to e, h.b.setOther (by show g + 1 ≠ g; omega) v, h.c.setOther (by show g + 1 + 1 ≠ g; omega) v⟩
/-- The three cells of the first span's lower value. -/
theorem Three.setL {W w : World} {g : Nat} {A B C : Sp} (h : Three W g A B C w) (v : Val) : Three W g { A with l := v } B C (((w.setCell ⟨g, 3, none⟩ (.bool v.t)).setCell ⟨g, 4, none⟩ (.int .i64 v.n)).setCell ⟨g, 5, none⟩ (.string v.s)) :=
  (((h.set (A' := { A with l := ⟨v.t, A.l.n, A.l.s⟩ }) (j := 3) (by omega) _ rfl).set (A' := { A with l := ⟨v.t, v.n, A.l.s⟩ }) (j := 4) (by omega) _ rfl).set (A' := { A with l := v }) (j := 5) (by omega) _ rfl)
theorem Three.setH {W w : World} {g : Nat} {A B C : Sp} (h : Three W g A B C w) (v : Val) : Three W g { A with h := v } B C (((w.setCell ⟨g, 8, none⟩ (.bool v.t)).setCell ⟨g, 9, none⟩ (.int .i64 v.n)).setCell ⟨g, 10, none⟩ (.string v.s)) :=
  (((h.set (A' := { A with h := ⟨v.t, A.h.n, A.h.s⟩ }) (j := 8) (by omega) _ rfl).set (A' := { A with h := ⟨v.t, v.n, A.h.s⟩ }) (j := 9) (by omega) _ rfl).set (A' := { A with h := v }) (j := 10) (by omega) _ rfl)
theorem Three.setLo {W w : World} {g : Nat} {A B C : Sp} (h : Three W g A B C w) (v : Bool) : Three W g { A with lo := v } B C (w.setCell ⟨g, 1, none⟩ (.bool v)) := h.set (by omega) _ rfl
theorem Three.setOlo {W w : World} {g : Nat} {A B C : Sp} (h : Three W g A B C w) (v : Bool) : Three W g { A with olo := v } B C (w.setCell ⟨g, 2, none⟩ (.bool v)) := h.set (by omega) _ rfl
theorem Three.setHi {W w : World} {g : Nat} {A B C : Sp} (h : Three W g A B C w) (v : Bool) : Three W g { A with hi := v } B C (w.setCell ⟨g, 6, none⟩ (.bool v)) := h.set (by omega) _ rfl
theorem Three.setOhi {W w : World} {g : Nat} {A B C : Sp} (h : Three W g A B C w) (v : Bool) : Three W g { A with ohi := v } B C (w.setCell ⟨g, 7, none⟩ (.bool v)) := h.set (by omega) _ rfl
theorem Three.to {W w : World} {g : Nat} {A B C A' : Sp} (h : Three W g A B C w) (e : A' = A) : Three W g A' B C w := e ▸ h
theorem Three.putA {W w : World} {g : Nat} {A B C : Sp} (h : Three W g A B C w) (s : Sp) : Three W g s B C (sput w g s) :=
  ⟨sput_below h.below h.old s, h.old, sput_blk h.a s, sput_other h.b (by omega) s, sput_other h.c (by omega) s⟩
theorem Three.putB {W w : World} {g : Nat} {A B C : Sp} (h : Three W g A B C w) (s : Sp) : Three W g A s C (sput w (g + 1) s) :=
  ⟨sput_below h.below (by have := h.old; omega) s, h.old, sput_other h.a (by omega) s, sput_blk h.b s, sput_other h.c (by omega) s⟩
theorem Three.putC {W w : World} {g : Nat} {A B C : Sp} (h : Three W g A B C w) (s : Sp) : Three W g A B s (sput w (g + 1 + 1) s) :=
  ⟨sput_below h.below (by have := h.old; omega) s, h.old, sput_other h.a (by omega) s, sput_other h.b (by omega) s, sput_blk h.c s⟩
theorem Three.lt {W w : World} {g : Nat} {A B C : Sp} (h : Three W g A B C w) : ∃ y : Lt W, w = y.1 := ⟨⟨w, h.below⟩, rfl⟩
theorem Three.new {x : Lt W} {a b : Sp} {t t' t'' : TypeId} : Three W x.1.heap.size a b Sp.full (((x.1.alloc (.cells #[.bool a.none, .bool a.lo, .bool a.olo, .bool a.l.t, .int .i64 a.l.n, .string a.l.s, .bool a.hi, .bool a.ohi, .bool a.h.t, .int .i64 a.h.n, .string a.h.s] t)).alloc
    (.cells #[.bool b.none, .bool b.lo, .bool b.olo, .bool b.l.t, .int .i64 b.l.n, .string b.l.s, .bool b.hi, .bool b.ohi, .bool b.h.t, .int .i64 b.h.n, .string b.h.s] t')).alloc (.cells #[.bool false, .bool false, .bool false, .bool false, .int .i64 0, .string ⟨#[]⟩, .bool false, .bool false, .bool false, .int .i64 0, .string ⟨#[]⟩] t'')) :=
  ⟨(x.more2 _ _).alloc (x.more2 _ _).size _, x.2.size, ((Blk.new' rfl).alloc _).alloc _, (Blk.new' (by simp)).alloc _, Blk.new' (by simp)⟩

theorem run_eql_span_t {a b : Sp} (h : a = b) (w : World) : (binOp .eql 35 a.val b.val).run Try.prog w = .ok (.bool true) w := by rw [run_eql_span, decide_eq_true h]
theorem run_eql_span_f {a b : Sp} (h : ¬ a = b) (w : World) : (binOp .eql 35 a.val b.val).run Try.prog w = .ok (.bool false) w := by rw [run_eql_span, decide_eq_false h]
theorem meet_now {K J : Act → World → Prop} {Q : Exit → Act → World → Prop} (h : ∀ (a : Act) (w : World), Met J a w → K a w) {a : Act} {w : World} (hm : Met J a w) : Exit.then K Q .normal a w := h a w hm
theorem lo_ways {a b : Bool} {i : Int} (h : i = -1 ∨ i = 0 ∨ i = 1) : b = false ∨ (b = true ∧ a = false) ∨ (b = true ∧ a = true ∧ i = 1) ∨ (b = true ∧ a = true ∧ i = 0) ∨ (b = true ∧ a = true ∧ i = -1) := by
  cases a <;> cases b <;> simp
  omega
theorem hi_ways {a b : Bool} {i : Int} (h : i = -1 ∨ i = 0 ∨ i = 1) : b = false ∨ (b = true ∧ a = false) ∨ (b = true ∧ a = true ∧ i = -1) ∨ (b = true ∧ a = true ∧ i = 0) ∨ (b = true ∧ a = true ∧ i = 1) := by
  cases a <;> cases b <;> simp
  omega

set_option maxHeartbeats 4000000 in
theorem meet_any (a b : Sp) (x : Lt W) : Calls Try.prog 19 #[a.val, b.val] x.1 fun e w' => e = .returned (a.meet b).val ∧ ∃ y : Lt W, w' = y.1 := by
  obtain ⟨A, hA⟩ : ∃ A, a.clean = A := ⟨_, rfl⟩
  obtain ⟨B, hB⟩ : ∃ B, b.clean = B := ⟨_, rfl⟩
  have hm : a.meet b = if A.none || B.none then Sp.nothing else (Sp.meetHi (Sp.meetLo A B) B).clean := by rw [← hA, ← hB]; rfl
  have hAn : A.none = true → A = Sp.nothing := fun h => by rw [← hA] at h ⊢; exact Sp.clean_nothing h
  have hBn : B.none = true → B = Sp.nothing := fun h => by rw [← hB] at h ⊢; exact Sp.clean_nothing h
  have CA := Lib.hid (fun w : World => clean_from hA w)
  have CB := Lib.hid (fun w : World => clean_from hB w)
  obtain ⟨i, hi⟩ : ∃ i, cmpV B.l A.l = i := ⟨_, rfl⟩
  have hmlo : Sp.meetLo A B = if B.lo && (!A.lo || decide (0 < i)) then { A with lo := true, l := B.l, olo := B.olo } else if B.lo && decide (i = 0) then { A with olo := A.olo || B.olo } else A := by rw [← hi]; rfl
  have hri : i = -1 ∨ i = 0 ∨ i = 1 := hi ▸ cmpV_range _ _
  obtain ⟨A2, hA2⟩ : ∃ A2, Sp.meetLo A B = A2 := ⟨_, rfl⟩
  obtain ⟨j, hj⟩ : ∃ j, cmpV B.h A2.h = j := ⟨_, rfl⟩
  have hmhi : Sp.meetHi A2 B = if B.hi && (!A2.hi || decide (j < 0)) then { A2 with hi := true, h := B.h, ohi := B.ohi } else if B.hi && decide (j = 0) then { A2 with ohi := A2.ohi || B.ohi } else A2 := by rw [← hj]; rfl
  have hrj : j = -1 ∨ j = 0 ∨ j = 1 := hj ▸ cmpV_range _ _
  obtain ⟨A3, hA3⟩ : ∃ A3, Sp.meetHi A2 B = A3 := ⟨_, rfl⟩
  have C1 := Lib.hid (fun (W : World) (z : Lt W) => compare_is hi z)
  have C2 := Lib.hid (fun (W : World) (z : Lt W) => compare_is hj z)
  have C3 := Lib.hid (fun (W : World) (z : Lt W) => clean_any A3 z)
  rw [hA2] at hm hmlo
  rw [hA3] at hm hmhi
  have HM := Lib.hid hm
  have HLO := Lib.hid hmlo
  have HHI := Lib.hid hmhi
  have HN := Lib.hid (And.intro hAn hBn)
  clear hA hB hAn hBn hm hmlo hmhi hi hj hA2 hA3
  go_enter Try.func19, Try.ntmps19
  go_wp2_with fail
  refine wp_here fun W1 hW1 => ?_
  have h3 : Three W x.1.heap.size a b Sp.full W1 := by rw [hW1]; exact Three.new
  clear hW1
  obtain ⟨g, hg⟩ : ∃ g, x.1.heap.size = g := ⟨_, rfl⟩
  rw [hg] at h3 ⊢
  clear hg
  go_cut [] from 7 to 10 (fun wx => Three W g A B Sp.full wx)
  case first =>
    obtain ⟨a0, a1, a2, a3, a4, a5, a6, a7, a8, a9, a10⟩ := h3.a.c11
    obtain ⟨b0, b1, b2, b3, b4, b5, b6, b7, b8, b9, b10⟩ := h3.b.c11
    go_region_law (first
      | (go_simp; go_at_call 36; with_reducible refine Calls.mono (CA.out _) ?_; rintro e w4 ⟨rfl, hb4⟩; have hx4 := undrew hb4; obtain ⟨p0, p1, p2, p3, p4, p5, p6, p7, p8, p9, p10⟩ := (h3.next hx4).b.c11)
      | (go_simp; go_at_call 36; with_reducible refine Calls.mono (CB.out _) ?_; rintro e w5 ⟨rfl, hb5⟩; have h5 := (h3.next hx4).next hb5; have af := h5.a.free; have bf := h5.b.free; obtain ⟨q0, q1, q2, q3, q4, q5, q6, q7, q8, q9, q10⟩ := h5.a.c11; obtain ⟨r0, r1, r2, r3, r4, r5, r6, r7, r8, r9, r10⟩ := h5.b.c11))
    all_goals
      clear a0 a1 a2 a3 a4 a5 a6 a7 a8 a9 a10 b0 b1 b2 b3 b4 b5 b6 b7 b8 b9 b10 p0 p1 p2 p3 p4 p5 p6 p7 p8 p9 p10 q0 q1 q2 q3 q4 q5 q6 q7 q8 q9 q10 r0 r1 r2 r3 r4 r5 r6 r7 r8 r9 r10 af bf
      refine meet_now (by assumption) ?_
      go_meet
      case rel => exact (h5.putA A).putB B
  case rest =>
    have h4 : Three W g A B Sp.full wc := hcut
    clear h3 hcut
    obtain ⟨a0, a1, a2, a3, a4, a5, a6, a7, a8, a9, a10⟩ := h4.a.c11
    obtain ⟨b0, b1, b2, b3, b4, b5, b6, b7, b8, b9, b10⟩ := h4.b.c11
    have pa0 := fun z : Lt wc => z.cell a0
    have pa1 := fun z : Lt wc => z.cell a1
    have pa2 := fun z : Lt wc => z.cell a2
    have pa3 := fun z : Lt wc => z.cell a3
    have pa4 := fun z : Lt wc => z.cell a4
    have pa5 := fun z : Lt wc => z.cell a5
    have pa6 := fun z : Lt wc => z.cell a6
    have pa7 := fun z : Lt wc => z.cell a7
    have pa8 := fun z : Lt wc => z.cell a8
    have pa9 := fun z : Lt wc => z.cell a9
    have pa10 := fun z : Lt wc => z.cell a10
    have pb0 := fun z : Lt wc => z.cell b0
    have pb1 := fun z : Lt wc => z.cell b1
    have pb2 := fun z : Lt wc => z.cell b2
    have pb3 := fun z : Lt wc => z.cell b3
    have pb4 := fun z : Lt wc => z.cell b4
    have pb5 := fun z : Lt wc => z.cell b5
    have pb6 := fun z : Lt wc => z.cell b6
    have pb7 := fun z : Lt wc => z.cell b7
    have pb8 := fun z : Lt wc => z.cell b8
    have pb9 := fun z : Lt wc => z.cell b9
    have pb10 := fun z : Lt wc => z.cell b10
    by_cases hn : A.none = true
    · have e1 := fun w => run_eql_span_t (HN.out.1 hn) w
      have HM2 := Lib.hid (HM.out.trans (if_pos (by simp [hn])))
      clear hn
      go_upto_region 2 with fail
      refine wp_region_here (by kernel_rfl) (by kernel_rfl) ?_
      repeat (go_big_quiet_step ((go_at_call 31; exact nothing_any _)))
      refine wpQuiet_nil ?_; intro _ hw'; obtain ⟨z, rfl⟩ := hw'
      go_wp2_with fail
      refine (nothing_any (W := wc) z).mono ?_; rintro e w' ⟨rfl, y, rfl⟩
      have h6 := h4.next y.2
      obtain ⟨r0, r1, r2, r3, r4, r5, r6, r7, r8, r9, r10⟩ := h6.c.c11
      have rf := h6.c.free
      go_wp2_with fail
      have h7 := h6.putC Sp.nothing
      exact bodyPost_ret (span_out rfl rfl h7.c) rfl ⟨ret_span HM2.out.symm, h7.lt⟩
    have e1 := fun w => run_eql_span_f (a := A) (b := Sp.nothing) (fun h => hn (by rw [h])) w
    by_cases hn' : B.none = true
    · have e2 := fun w => run_eql_span_t (HN.out.2 hn') w
      have HM2 := Lib.hid (HM.out.trans (if_pos (by simp [hn'])))
      clear hn hn'
      go_upto_region 2 with fail
      refine wp_region_here (by kernel_rfl) (by kernel_rfl) ?_
      repeat (go_big_quiet_step ((go_at_call 31; exact nothing_any _)))
      refine wpQuiet_nil ?_; intro _ hw'; obtain ⟨z, rfl⟩ := hw'
      go_wp2_with fail
      refine (nothing_any (W := wc) z).mono ?_; rintro e w' ⟨rfl, y, rfl⟩
      have h6 := h4.next y.2
      obtain ⟨r0, r1, r2, r3, r4, r5, r6, r7, r8, r9, r10⟩ := h6.c.c11
      have rf := h6.c.free
      go_wp2_with fail
      have h7 := h6.putC Sp.nothing
      exact bodyPost_ret (span_out rfl rfl h7.c) rfl ⟨ret_span HM2.out.symm, h7.lt⟩
    have e2 := fun w => run_eql_span_f (a := B) (b := Sp.nothing) (fun h => hn' (by rw [h])) w
    have HM2 := Lib.hid (HM.out.trans (if_neg (by simp [hn, hn'])))
    clear hn hn'
    go_upto_region 2 with fail
    refine wp_region_here (by kernel_rfl) (by kernel_rfl) ?_
    repeat (go_big_quiet_step ((go_at_call 31; exact nothing_any _)))
    refine wpQuiet_nil ?_; intro _ hw'; obtain ⟨z, rfl⟩ := hw'
    go_wp2_with fail
    refine (C1.out wc z).mono ?_; rintro e w' ⟨rfl, y, rfl⟩
    have h5 := h4.next y.2
    clear pa0 pa1 pa2 pa3 pa4 pa5 pa6 pa7 pa8 pa9 pa10 pb0 pb1 pb2 pb3 pb4 pb5 pb6 pb7 pb8 pb9 pb10 a0 a1 a2 a3 a4 a5 a6 a7 a8 a9 a10 b0 b1 b2 b3 b4 b5 b6 b7 b8 b9 b10
    obtain ⟨a0, a1, a2, a3, a4, a5, a6, a7, a8, a9, a10⟩ := h5.a.c11
    obtain ⟨b0, b1, b2, b3, b4, b5, b6, b7, b8, b9, b10⟩ := h5.b.c11
    have af := h5.a.free
    go_upto_region 5 with fail
    go_cut [35] from 11 to 35 (fun s wx => s = .bool (B.lo && (!A.lo || decide (0 < i))) ∧ wx = y.1)
    case first =>
      rcases lo_ways (a := A.lo) (b := B.lo) hri with q | ⟨q, q'⟩ | ⟨q, q', rfl⟩ | ⟨q, q', rfl⟩ | ⟨q, q', rfl⟩
      · go_wp2_with fail
        go_meet
        case rel => exact ⟨by simp [q], rfl⟩
      · go_wp2_with fail
        go_meet
        case rel => exact ⟨by simp [q, q'], rfl⟩
      · go_wp2_with fail
        go_meet
        case rel => exact ⟨by simp [q, q'], rfl⟩
      · go_wp2_with fail
        go_meet
        case rel => exact ⟨by simp [q, q'], rfl⟩
      · go_wp2_with fail
        go_meet
        case rel => exact ⟨by simp [q, q'], rfl⟩
    case rest =>
    obtain ⟨c, hc⟩ : ∃ c, (B.lo && (!A.lo || decide (0 < i))) = c := ⟨_, rfl⟩
    rw [hc] at hcut
    obtain ⟨rfl, rfl⟩ := hcut
    have HC := Lib.hid hc
    clear hc
    go_upto_if 35 with fail
    go_cut [] from 35 to 55 (fun wx => Three W g A2 B Sp.full wx)
    case first =>
      rcases lo_ways (a := A.lo) (b := B.lo) hri with q | ⟨q, q'⟩ | ⟨q, q', rfl⟩ | ⟨q, q', rfl⟩ | ⟨q, q', rfl⟩
      · have HE := Lib.hid (show A2 = A by rw [HLO.out, q]; rfl)
        obtain rfl : c = false := by rw [← HC.out, q]; rfl
        go_wp2_with fail
        go_meet
        case rel => exact h5.to HE.out
      · have HE := Lib.hid (show A2 = { A with lo := true, l := B.l, olo := B.olo } by rw [HLO.out, q, q']; rfl)
        obtain rfl : c = true := by rw [← HC.out, q, q']; rfl
        go_wp2_with fail
        go_region
        go_wp2_with fail
        go_meet
        case rel => exact ((((h5.setLo true).setL B.l).setOlo B.olo).drew).to HE.out
      · have HE := Lib.hid (show A2 = { A with lo := true, l := B.l, olo := B.olo } by rw [HLO.out, q, q']; rfl)
        obtain rfl : c = true := by rw [← HC.out, q, q']; rfl
        go_wp2_with fail
        go_region
        go_wp2_with fail
        go_meet
        case rel => exact ((((h5.setLo true).setL B.l).setOlo B.olo).drew).to HE.out
      · have HE := Lib.hid (show A2 = { A with olo := A.olo || B.olo } by rw [HLO.out, q, q']; rfl)
        obtain rfl : c = false := by rw [← HC.out, q, q']; rfl
        cases q'' : A.olo
        · go_wp2_with fail
          go_meet
          case rel => exact (h5.setOlo (B.olo)).to (by rw [HE.out, q'']; rfl)
        · go_wp2_with fail
          go_meet
          case rel => exact (h5.setOlo (true)).to (by rw [HE.out, q'']; rfl)
      · have HE := Lib.hid (show A2 = A by rw [HLO.out, q, q']; rfl)
        obtain rfl : c = false := by rw [← HC.out, q, q']; rfl
        go_wp2_with fail
        go_meet
        case rel => exact h5.to HE.out
    case rest =>
    have h6 := hcut
    clear hcut h5 h4 HLO HN e1 e2 af hri C1 CA CB
    clear a0 a1 a2 a3 a4 a5 a6 a7 a8 a9 a10 b0 b1 b2 b3 b4 b5 b6 b7 b8 b9 b10
    obtain ⟨a0, a1, a2, a3, a4, a5, a6, a7, a8, a9, a10⟩ := h6.a.c11
    obtain ⟨b0, b1, b2, b3, b4, b5, b6, b7, b8, b9, b10⟩ := h6.b.c11
    go_wp2_with fail
    refine (C2.out wc (Lt.base wc)).mono ?_; rintro e w' ⟨rfl, y2, rfl⟩
    have h7 := h6.next y2.2
    clear a0 a1 a2 a3 a4 a5 a6 a7 a8 a9 a10 b0 b1 b2 b3 b4 b5 b6 b7 b8 b9 b10
    obtain ⟨a0, a1, a2, a3, a4, a5, a6, a7, a8, a9, a10⟩ := h7.a.c11
    obtain ⟨b0, b1, b2, b3, b4, b5, b6, b7, b8, b9, b10⟩ := h7.b.c11
    have af := h7.a.free
    go_upto_region 10 with fail
    go_cut [71] from 56 to 71 (fun s wx => s = .bool (B.hi && (!A2.hi || decide (j < 0))) ∧ wx = y2.1)
    case first =>
      rcases hi_ways (a := A2.hi) (b := B.hi) hrj with q | ⟨q, q'⟩ | ⟨q, q', rfl⟩ | ⟨q, q', rfl⟩ | ⟨q, q', rfl⟩
      · go_wp2_with fail
        go_meet
        case rel => exact ⟨by simp [q], rfl⟩
      · go_wp2_with fail
        go_meet
        case rel => exact ⟨by simp [q, q'], rfl⟩
      · go_wp2_with fail
        go_meet
        case rel => exact ⟨by simp [q, q'], rfl⟩
      · go_wp2_with fail
        go_meet
        case rel => exact ⟨by simp [q, q'], rfl⟩
      · go_wp2_with fail
        go_meet
        case rel => exact ⟨by simp [q, q'], rfl⟩
    case rest =>
    obtain ⟨c, hc⟩ : ∃ c, (B.hi && (!A2.hi || decide (j < 0))) = c := ⟨_, rfl⟩
    rw [hc] at hcut
    obtain ⟨rfl, rfl⟩ := hcut
    have HC := Lib.hid hc
    clear hc
    go_upto_if 71 with fail
    go_cut [] from 71 to 91 (fun wx => Three W g A3 B Sp.full wx)
    case first =>
      rcases hi_ways (a := A2.hi) (b := B.hi) hrj with q | ⟨q, q'⟩ | ⟨q, q', rfl⟩ | ⟨q, q', rfl⟩ | ⟨q, q', rfl⟩
      · have HE := Lib.hid (show A3 = A2 by rw [HHI.out, q]; rfl)
        obtain rfl : c = false := by rw [← HC.out, q]; rfl
        go_wp2_with fail
        go_meet
        case rel => exact h7.to HE.out
      · have HE := Lib.hid (show A3 = { A2 with hi := true, h := B.h, ohi := B.ohi } by rw [HHI.out, q, q']; rfl)
        obtain rfl : c = true := by rw [← HC.out, q, q']; rfl
        go_wp2_with fail
        go_region
        go_wp2_with fail
        go_meet
        case rel => exact ((((h7.setHi true).setH B.h).setOhi B.ohi).drew).to HE.out
      · have HE := Lib.hid (show A3 = { A2 with hi := true, h := B.h, ohi := B.ohi } by rw [HHI.out, q, q']; rfl)
        obtain rfl : c = true := by rw [← HC.out, q, q']; rfl
        go_wp2_with fail
        go_region
        go_wp2_with fail
        go_meet
        case rel => exact ((((h7.setHi true).setH B.h).setOhi B.ohi).drew).to HE.out
      · have HE := Lib.hid (show A3 = { A2 with ohi := A2.ohi || B.ohi } by rw [HHI.out, q, q']; rfl)
        obtain rfl : c = false := by rw [← HC.out, q, q']; rfl
        cases q'' : A2.ohi
        · go_wp2_with fail
          go_meet
          case rel => exact (h7.setOhi (B.ohi)).to (by rw [HE.out, q'']; rfl)
        · go_wp2_with fail
          go_meet
          case rel => exact (h7.setOhi (true)).to (by rw [HE.out, q'']; rfl)
      · have HE := Lib.hid (show A3 = A2 by rw [HHI.out, q, q']; rfl)
        obtain rfl : c = false := by rw [← HC.out, q, q']; rfl
        go_wp2_with fail
        go_meet
        case rel => exact h7.to HE.out
    case rest =>
    have h8 := hcut
    clear hcut h7 h6 HHI af hrj C2
    clear a0 a1 a2 a3 a4 a5 a6 a7 a8 a9 a10 b0 b1 b2 b3 b4 b5 b6 b7 b8 b9 b10
    obtain ⟨a0, a1, a2, a3, a4, a5, a6, a7, a8, a9, a10⟩ := h8.a.c11
    go_wp2_with fail
    refine (C3.out wc (Lt.base wc)).mono ?_; rintro e w' ⟨rfl, y3, rfl⟩
    have h9 := h8.next y3.2
    obtain ⟨r0, r1, r2, r3, r4, r5, r6, r7, r8, r9, r10⟩ := h9.c.c11
    have rf := h9.c.free
    clear a0 a1 a2 a3 a4 a5 a6 a7 a8 a9 a10
    go_wp2_with fail
    have h10 := h9.putC A3.clean
    exact bodyPost_ret (span_out rfl rfl h10.c) rfl ⟨ret_span HM2.out.symm, h10.lt⟩
end Go.Proofs.Ytppoefbfepehpaa
