/-
  All together from the first one on: fold over keys with Meet, and with Hull, walked. Conditions: the parts lie in memory as they read; there is one at least.
-/
import Derived.Test.YtppoefbfepehpaaPushAll
import Derived.Test.YtppoefbfepehpaaSpanHull
namespace Go.Proofs.Ytppoefbfepehpaa
open Go.RowKit
variable {W : World}

theorem meet_from (a b : Sp) (w : World) : Calls Try.prog 19 #[a.val, b.val] w fun e w' => e = .returned (a.meet b).val ∧ Below w.heap.size w w' :=
  (meet_any a b (Lt.base w)).mono (by rintro e w' ⟨h1, y, rfl⟩; exact ⟨h1, y.2⟩)
theorem hull_from (a b : Sp) (w : World) : Calls Try.prog 21 #[a.val, b.val] w fun e w' => e = .returned (a.hull b).val ∧ Below w.heap.size w w' :=
  (hull_any a b (Lt.base w)).mono (by rintro e w' ⟨h1, y, rfl⟩; exact ⟨h1, y.2⟩)
/-- What the first k parts come to. -/
def acc (f : Sp → Sp → Sp) (q : Pr) (l : List Pr) (k : Nat) : Sp := ((l.take k).map Pr.keys).foldl f q.keys
theorem acc_zero (f : Sp → Sp → Sp) (q : Pr) (l : List Pr) : acc f q l 0 = q.keys := by simp [acc]
theorem acc_succ (f : Sp → Sp → Sp) (q : Pr) {l : List Pr} {k : Nat} {x : Pr} (h : l[k]? = some x) : acc f q l (k + 1) = f (acc f q l k) x.keys := by
  unfold acc
  rw [List.take_add_one, h]
  simp
theorem acc_end (f : Sp → Sp → Sp) (q : Pr) (l : List Pr) : acc f q l l.length = Pr.fold1 f ((q :: l).map Pr.keys) := by
  unfold acc
  rw [List.take_length]; rfl


set_option maxHeartbeats 2000000 in
theorem fold_meet_any {l : List Pr} (ih : ∀ q ∈ l, ∀ (w : World) (A : Option Addr) (ca : Nat), q.At w A ca → Calls Try.prog 32 #[q.arg A ca] w fun e w' => e = .returned q.keys.val ∧ Below w.heap.size w w') (hne : l ≠ []) (hlen : l.length ≤ 1000000000) {o c : Int} {v u : Val} (W : World) (A : Option Addr) (ca : Nat) (hat : (Pr.mk o c v u l).At W A ca) :
    Calls Try.prog 49 #[.slice A l.length ca, .func (.func 32) #[] #[], .func (.func 19) #[] #[]] W fun e w' => e = .returned (Pr.fold1 Sp.meet (l.map Pr.keys)).val ∧ Below W.heap.size W w' := by
  obtain ⟨q, l, rfl⟩ := List.exists_cons_of_ne_nil hne
  have hroom : (q :: l).length ≤ ca := (Pr.at_mk.1 hat).1.2
  rw [List.length_cons] at hroom hlen
  obtain ⟨b, off, hA, hkids⟩ := (Pr.at_mk.1 hat).2 (by simp)
  obtain ⟨A0, ca0, hc, hqat⟩ := hkids 0 q rfl
  subst hA
  have IHQ := Lib.hid (ih q (by simp))
  have IH := Lib.hid (show ∀ x ∈ l, ∀ (w : World) (A : Option Addr) (ca : Nat), x.At w A ca → Calls Try.prog 32 #[x.arg A ca] w fun e w' => e = .returned x.keys.val ∧ Below w.heap.size w w' from fun x hx => ih x (by simp [hx]))
  have HK := Lib.hid (show ∀ (k : Nat) (x : Pr), l[k]? = some x → ∃ A' ca', x.Cells W A' ca' b (off + 9 + k * 9) ∧ x.At W A' ca' from fun k x hx => by
    obtain ⟨A', ca', h1, h2⟩ := hkids (k + 1) x (by simpa using hx)
    exact ⟨A', ca', by rw [show off + 9 + k * 9 = off + (k + 1) * 9 by omega]; exact h1, h2⟩)
  have HE := Lib.hid (acc_end Sp.meet q l)
  obtain ⟨d0, d1, d2, d3, d4, d5, d6, d7, d8⟩ := hc
  simp only [Nat.zero_mul, Nat.add_zero] at d0 d1 d2 d3 d4 d5 d6 d7 d8
  have e0 := fun o => cell_old (o := o) d0
  have e1 := fun o => cell_old (o := o) d1
  have e2 := fun o => cell_old (o := o) d2
  have e3 := fun o => cell_old (o := o) d3
  have e4 := fun o => cell_old (o := o) d4
  have e5 := fun o => cell_old (o := o) d5
  have e6 := fun o => cell_old (o := o) d6
  have e7 := fun o => cell_old (o := o) d7
  have e8 := fun o => cell_old (o := o) d8
  clear d0 d1 d2 d3 d4 d5 d6 d7 d8 hat hkids ih hne
  simp only [List.length_cons]
  by_cases h1 : ca = 1
  · subst h1
    obtain rfl : l = [] := List.eq_nil_of_length_eq_zero (by omega)
    go_enter Try.func49, Try.ntmps49
    go_wp2_with fail
    refine calls_here fun W1 hW1 => ?_
    have hb0 : Below W.heap.size W W1 := by rw [hW1]; exact below_alloc _
    have hO1 : Blk W1 W.heap.size Sp.full.cells := by rw [hW1]; exact Blk.new' rfl
    clear hW1 e0 e1 e2 e3 e4 e5 e6 e7 e8
    refine (IHQ.out W1 A0 ca0 (hqat.below hb0)).mono ?_; rintro e w2 ⟨rfl, hb2⟩
    obtain ⟨g, hg⟩ : ∃ g, w2.heap.size = g := ⟨_, rfl⟩
    go_wp2_with fail
    refine wp_here fun w3 hw3 => ?_
    have hinv : Below W.heap.size W w3 ∧ Blk w3 W.heap.size Sp.full.cells ∧ Blk w3 g (acc Sp.meet q [] 0).cells := by
      rw [hw3, acc_zero]
      exact ⟨below_then (below_then hb0 hb2) (below_alloc _), (hO1.below hb2).alloc _, Blk.new' hg.symm⟩
    clear hw3
    have hgW : W.heap.size < g := by have := hO1.lt; have := hb2.size; omega
    clear hg
    go_loopw [18] (fun i wr => ∃ k : Nat, i = .int .i64 k ∧ k ≤ ([] : List Pr).length ∧ Below W.heap.size W wr ∧ Blk wr W.heap.size Sp.full.cells ∧ Blk wr g (acc Sp.meet q ([] : List Pr) k).cells) (fun i _ => ([] : List Pr).length - (intOf i).toNat)
    case atStart => exact ⟨0, rfl, by omega, hinv⟩
    case round =>
      rename_i wr
      obtain ⟨k, rfl, hk, hbW, hO, hG⟩ := hrel
      obtain rfl : k = 0 := by simpa using hk
      obtain ⟨a0, a1, a2, a3, a4, a5, a6, a7, a8, a9, a10⟩ := hG.c11
      obtain ⟨r0, r1, r2, r3, r4, r5, r6, r7, r8, r9, r10⟩ := hO.c11
      have rf := hO.free
      clear hk
      go_wp2_with fail
      exact bodyPost_ret (span_out rfl rfl (sput_blk hO (acc Sp.meet q [] 0))) rfl ⟨ret_span HE.out, sput_below hbW (Nat.le_refl _) _⟩
  · have h1' : ¬ 1 = ca := fun h => h1 h.symm
    go_enter Try.func49, Try.ntmps49
    go_wp2_with fail
    refine calls_here fun W1 hW1 => ?_
    have hb0 : Below W.heap.size W W1 := by rw [hW1]; exact below_alloc _
    have hO1 : Blk W1 W.heap.size Sp.full.cells := by rw [hW1]; exact Blk.new' rfl
    clear hW1 e0 e1 e2 e3 e4 e5 e6 e7 e8
    refine (IHQ.out W1 A0 ca0 (hqat.below hb0)).mono ?_; rintro e w2 ⟨rfl, hb2⟩
    obtain ⟨g, hg⟩ : ∃ g, w2.heap.size = g := ⟨_, rfl⟩
    go_wp2_with fail
    refine wp_here fun w3 hw3 => ?_
    have hinv : Below W.heap.size W w3 ∧ Blk w3 W.heap.size Sp.full.cells ∧ Blk w3 g (acc Sp.meet q l 0).cells := by
      rw [hw3, acc_zero]
      exact ⟨below_then (below_then hb0 hb2) (below_alloc _), (hO1.below hb2).alloc _, Blk.new' hg.symm⟩
    clear hw3
    have hgW : W.heap.size < g := by have := hO1.lt; have := hb2.size; omega
    clear hg
    go_loopw [18] (fun i wr => ∃ k : Nat, i = .int .i64 k ∧ k ≤ l.length ∧ Below W.heap.size W wr ∧ Blk wr W.heap.size Sp.full.cells ∧ Blk wr g (acc Sp.meet q l k).cells) (fun i _ => l.length - (intOf i).toNat)
    case atStart => exact ⟨0, rfl, by omega, hinv⟩
    case round =>
      rename_i wr
      obtain ⟨k, rfl, hk, hbW, hO, hG⟩ := hrel
      by_cases hlt : k < l.length
      · obtain ⟨x, hx⟩ : ∃ x, l[k]? = some x := ⟨_, List.getElem?_eq_getElem hlt⟩
        have hxl : x ∈ l := List.mem_of_getElem? hx
        obtain ⟨A', ca', hc, hxat0⟩ := HK.out k x hx
        have hxat := hxat0.below hbW
        obtain ⟨c0, c1, c2, c3, c4, c5, c6, c7, c8⟩ := hc.below hbW
        obtain ⟨a, ha⟩ : ∃ a, acc Sp.meet q l k = a := ⟨_, rfl⟩
        obtain ⟨s, hs⟩ : ∃ s, x.keys = s := ⟨_, rfl⟩
        have HX := Lib.hid (show acc Sp.meet q l (k + 1) = a.meet s by rw [acc_succ _ _ hx, ha, hs])
        rw [ha] at hG
        obtain ⟨a0, a1, a2, a3, a4, a5, a6, a7, a8, a9, a10⟩ := hG.c11
        have t0 := fun o => cell_old (o := o) a0
        have t1 := fun o => cell_old (o := o) a1
        have t2 := fun o => cell_old (o := o) a2
        have t3 := fun o => cell_old (o := o) a3
        have t4 := fun o => cell_old (o := o) a4
        have t5 := fun o => cell_old (o := o) a5
        have t6 := fun o => cell_old (o := o) a6
        have t7 := fun o => cell_old (o := o) a7
        have t8 := fun o => cell_old (o := o) a8
        have t9 := fun o => cell_old (o := o) a9
        have t10 := fun o => cell_old (o := o) a10
        have IHX := Lib.hid (show ∀ (w : World) (A : Option Addr) (ca : Nat), x.At w A ca → Calls Try.prog 32 #[.agg #[.int .i64 x.op, .int .i64 x.col, .bool x.v.t, .int .i64 x.v.n, .string x.v.s, .bool x.w.t, .int .i64 x.w.n, .string x.w.s, .slice A x.l.length ca]] w fun e w' => e = .returned s.val ∧ Below w.heap.size w w' from hs ▸ IH.out x hxl)
        have CM := Lib.hid (meet_from a s)
        have i1 : (0 : Int) ≤ (k : Int) := by omega
        have i2 : (k : Int) < (l.length : Int) := by omega
        clear hx hc hxat0 ha hs
        go_wp2_with fail
        go_region_law (first
          | (go_simp; go_at_call 32; with_reducible refine Calls.mono (IHX.out _ _ _ (hxat.below (below_alloc _).drew)) ?_; rintro e w4 ⟨rfl, hb4⟩; have hb4' := below_then (below_alloc _) (undrewp hb4); have hG4 := hG.below hb4'; obtain ⟨p0, p1, p2, p3, p4, p5, p6, p7, p8, p9, p10⟩ := hG4.c11)
          | (go_simp; go_at_call 19; with_reducible refine Calls.mono (CM.out _) ?_; rintro e w5 ⟨rfl, hb5⟩; have hG5 := hG4.below hb5; obtain ⟨r0, r1, r2, r3, r4, r5, r6, r7, r8, r9, r10⟩ := hG5.c11; have rf := hG5.free))
        all_goals
          go_wp2_with fail
          go_roundw
          case rel => exact ⟨k + 1, by go_num, by omega, sput_below (below_then (below_then hbW hb4') hb5) (by omega) _, sput_other ((hO.below hb4').below hb5) (by omega) _, HX.out ▸ sput_blk hG5 _⟩
          case measure => simp [intOf]; omega
      · obtain rfl : k = l.length := by omega
        obtain ⟨a0, a1, a2, a3, a4, a5, a6, a7, a8, a9, a10⟩ := hG.c11
        obtain ⟨r0, r1, r2, r3, r4, r5, r6, r7, r8, r9, r10⟩ := hO.c11
        have rf := hO.free
        clear hk hlt
        go_wp2_with fail
        exact bodyPost_ret (span_out rfl rfl (sput_blk hO (acc Sp.meet q l l.length))) rfl ⟨ret_span HE.out, sput_below hbW (Nat.le_refl _) _⟩

set_option maxHeartbeats 2000000 in
theorem fold_hull_any {l : List Pr} (ih : ∀ q ∈ l, ∀ (w : World) (A : Option Addr) (ca : Nat), q.At w A ca → Calls Try.prog 32 #[q.arg A ca] w fun e w' => e = .returned q.keys.val ∧ Below w.heap.size w w') (hne : l ≠ []) (hlen : l.length ≤ 1000000000) {o c : Int} {v u : Val} (W : World) (A : Option Addr) (ca : Nat) (hat : (Pr.mk o c v u l).At W A ca) :
    Calls Try.prog 49 #[.slice A l.length ca, .func (.func 32) #[] #[], .func (.func 21) #[] #[]] W fun e w' => e = .returned (Pr.fold1 Sp.hull (l.map Pr.keys)).val ∧ Below W.heap.size W w' := by
  obtain ⟨q, l, rfl⟩ := List.exists_cons_of_ne_nil hne
  have hroom : (q :: l).length ≤ ca := (Pr.at_mk.1 hat).1.2
  rw [List.length_cons] at hroom hlen
  obtain ⟨b, off, hA, hkids⟩ := (Pr.at_mk.1 hat).2 (by simp)
  obtain ⟨A0, ca0, hc, hqat⟩ := hkids 0 q rfl
  subst hA
  have IHQ := Lib.hid (ih q (by simp))
  have IH := Lib.hid (show ∀ x ∈ l, ∀ (w : World) (A : Option Addr) (ca : Nat), x.At w A ca → Calls Try.prog 32 #[x.arg A ca] w fun e w' => e = .returned x.keys.val ∧ Below w.heap.size w w' from fun x hx => ih x (by simp [hx]))
  have HK := Lib.hid (show ∀ (k : Nat) (x : Pr), l[k]? = some x → ∃ A' ca', x.Cells W A' ca' b (off + 9 + k * 9) ∧ x.At W A' ca' from fun k x hx => by
    obtain ⟨A', ca', h1, h2⟩ := hkids (k + 1) x (by simpa using hx)
    exact ⟨A', ca', by rw [show off + 9 + k * 9 = off + (k + 1) * 9 by omega]; exact h1, h2⟩)
  have HE := Lib.hid (acc_end Sp.hull q l)
  obtain ⟨d0, d1, d2, d3, d4, d5, d6, d7, d8⟩ := hc
  simp only [Nat.zero_mul, Nat.add_zero] at d0 d1 d2 d3 d4 d5 d6 d7 d8
  have e0 := fun o => cell_old (o := o) d0
  have e1 := fun o => cell_old (o := o) d1
  have e2 := fun o => cell_old (o := o) d2
  have e3 := fun o => cell_old (o := o) d3
  have e4 := fun o => cell_old (o := o) d4
  have e5 := fun o => cell_old (o := o) d5
  have e6 := fun o => cell_old (o := o) d6
  have e7 := fun o => cell_old (o := o) d7
  have e8 := fun o => cell_old (o := o) d8
  clear d0 d1 d2 d3 d4 d5 d6 d7 d8 hat hkids ih hne
  simp only [List.length_cons]
  by_cases h1 : ca = 1
  · subst h1
    obtain rfl : l = [] := List.eq_nil_of_length_eq_zero (by omega)
    go_enter Try.func49, Try.ntmps49
    go_wp2_with fail
    refine calls_here fun W1 hW1 => ?_
    have hb0 : Below W.heap.size W W1 := by rw [hW1]; exact below_alloc _
    have hO1 : Blk W1 W.heap.size Sp.full.cells := by rw [hW1]; exact Blk.new' rfl
    clear hW1 e0 e1 e2 e3 e4 e5 e6 e7 e8
    refine (IHQ.out W1 A0 ca0 (hqat.below hb0)).mono ?_; rintro e w2 ⟨rfl, hb2⟩
    obtain ⟨g, hg⟩ : ∃ g, w2.heap.size = g := ⟨_, rfl⟩
    go_wp2_with fail
    refine wp_here fun w3 hw3 => ?_
    have hinv : Below W.heap.size W w3 ∧ Blk w3 W.heap.size Sp.full.cells ∧ Blk w3 g (acc Sp.hull q [] 0).cells := by
      rw [hw3, acc_zero]
      exact ⟨below_then (below_then hb0 hb2) (below_alloc _), (hO1.below hb2).alloc _, Blk.new' hg.symm⟩
    clear hw3
    have hgW : W.heap.size < g := by have := hO1.lt; have := hb2.size; omega
    clear hg
    go_loopw [18] (fun i wr => ∃ k : Nat, i = .int .i64 k ∧ k ≤ ([] : List Pr).length ∧ Below W.heap.size W wr ∧ Blk wr W.heap.size Sp.full.cells ∧ Blk wr g (acc Sp.hull q ([] : List Pr) k).cells) (fun i _ => ([] : List Pr).length - (intOf i).toNat)
    case atStart => exact ⟨0, rfl, by omega, hinv⟩
    case round =>
      rename_i wr
      obtain ⟨k, rfl, hk, hbW, hO, hG⟩ := hrel
      obtain rfl : k = 0 := by simpa using hk
      obtain ⟨a0, a1, a2, a3, a4, a5, a6, a7, a8, a9, a10⟩ := hG.c11
      obtain ⟨r0, r1, r2, r3, r4, r5, r6, r7, r8, r9, r10⟩ := hO.c11
      have rf := hO.free
      clear hk
      go_wp2_with fail
      exact bodyPost_ret (span_out rfl rfl (sput_blk hO (acc Sp.hull q [] 0))) rfl ⟨ret_span HE.out, sput_below hbW (Nat.le_refl _) _⟩
  · have h1' : ¬ 1 = ca := fun h => h1 h.symm
    go_enter Try.func49, Try.ntmps49
    go_wp2_with fail
    refine calls_here fun W1 hW1 => ?_
    have hb0 : Below W.heap.size W W1 := by rw [hW1]; exact below_alloc _
    have hO1 : Blk W1 W.heap.size Sp.full.cells := by rw [hW1]; exact Blk.new' rfl
    clear hW1 e0 e1 e2 e3 e4 e5 e6 e7 e8
    refine (IHQ.out W1 A0 ca0 (hqat.below hb0)).mono ?_; rintro e w2 ⟨rfl, hb2⟩
    obtain ⟨g, hg⟩ : ∃ g, w2.heap.size = g := ⟨_, rfl⟩
    go_wp2_with fail
    refine wp_here fun w3 hw3 => ?_
    have hinv : Below W.heap.size W w3 ∧ Blk w3 W.heap.size Sp.full.cells ∧ Blk w3 g (acc Sp.hull q l 0).cells := by
      rw [hw3, acc_zero]
      exact ⟨below_then (below_then hb0 hb2) (below_alloc _), (hO1.below hb2).alloc _, Blk.new' hg.symm⟩
    clear hw3
    have hgW : W.heap.size < g := by have := hO1.lt; have := hb2.size; omega
    clear hg
    go_loopw [18] (fun i wr => ∃ k : Nat, i = .int .i64 k ∧ k ≤ l.length ∧ Below W.heap.size W wr ∧ Blk wr W.heap.size Sp.full.cells ∧ Blk wr g (acc Sp.hull q l k).cells) (fun i _ => l.length - (intOf i).toNat)
    case atStart => exact ⟨0, rfl, by omega, hinv⟩
    case round =>
      rename_i wr
      obtain ⟨k, rfl, hk, hbW, hO, hG⟩ := hrel
      by_cases hlt : k < l.length
      · obtain ⟨x, hx⟩ : ∃ x, l[k]? = some x := ⟨_, List.getElem?_eq_getElem hlt⟩
        have hxl : x ∈ l := List.mem_of_getElem? hx
        obtain ⟨A', ca', hc, hxat0⟩ := HK.out k x hx
        have hxat := hxat0.below hbW
        obtain ⟨c0, c1, c2, c3, c4, c5, c6, c7, c8⟩ := hc.below hbW
        obtain ⟨a, ha⟩ : ∃ a, acc Sp.hull q l k = a := ⟨_, rfl⟩
        obtain ⟨s, hs⟩ : ∃ s, x.keys = s := ⟨_, rfl⟩
        have HX := Lib.hid (show acc Sp.hull q l (k + 1) = a.hull s by rw [acc_succ _ _ hx, ha, hs])
        rw [ha] at hG
        obtain ⟨a0, a1, a2, a3, a4, a5, a6, a7, a8, a9, a10⟩ := hG.c11
        have t0 := fun o => cell_old (o := o) a0
        have t1 := fun o => cell_old (o := o) a1
        have t2 := fun o => cell_old (o := o) a2
        have t3 := fun o => cell_old (o := o) a3
        have t4 := fun o => cell_old (o := o) a4
        have t5 := fun o => cell_old (o := o) a5
        have t6 := fun o => cell_old (o := o) a6
        have t7 := fun o => cell_old (o := o) a7
        have t8 := fun o => cell_old (o := o) a8
        have t9 := fun o => cell_old (o := o) a9
        have t10 := fun o => cell_old (o := o) a10
        have IHX := Lib.hid (show ∀ (w : World) (A : Option Addr) (ca : Nat), x.At w A ca → Calls Try.prog 32 #[.agg #[.int .i64 x.op, .int .i64 x.col, .bool x.v.t, .int .i64 x.v.n, .string x.v.s, .bool x.w.t, .int .i64 x.w.n, .string x.w.s, .slice A x.l.length ca]] w fun e w' => e = .returned s.val ∧ Below w.heap.size w w' from hs ▸ IH.out x hxl)
        have CM := Lib.hid (hull_from a s)
        have i1 : (0 : Int) ≤ (k : Int) := by omega
        have i2 : (k : Int) < (l.length : Int) := by omega
        clear hx hc hxat0 ha hs
        go_wp2_with fail
        go_region_law (first
          | (go_simp; go_at_call 32; with_reducible refine Calls.mono (IHX.out _ _ _ (hxat.below (below_alloc _).drew)) ?_; rintro e w4 ⟨rfl, hb4⟩; have hb4' := below_then (below_alloc _) (undrewp hb4); have hG4 := hG.below hb4'; obtain ⟨p0, p1, p2, p3, p4, p5, p6, p7, p8, p9, p10⟩ := hG4.c11)
          | (go_simp; go_at_call 21; with_reducible refine Calls.mono (CM.out _) ?_; rintro e w5 ⟨rfl, hb5⟩; have hG5 := hG4.below hb5; obtain ⟨r0, r1, r2, r3, r4, r5, r6, r7, r8, r9, r10⟩ := hG5.c11; have rf := hG5.free))
        all_goals
          go_wp2_with fail
          go_roundw
          case rel => exact ⟨k + 1, by go_num, by omega, sput_below (below_then (below_then hbW hb4') hb5) (by omega) _, sput_other ((hO.below hb4').below hb5) (by omega) _, HX.out ▸ sput_blk hG5 _⟩
          case measure => simp [intOf]; omega
      · obtain rfl : k = l.length := by omega
        obtain ⟨a0, a1, a2, a3, a4, a5, a6, a7, a8, a9, a10⟩ := hG.c11
        obtain ⟨r0, r1, r2, r3, r4, r5, r6, r7, r8, r9, r10⟩ := hO.c11
        have rf := hO.free
        clear hk hlt
        go_wp2_with fail
        exact bodyPost_ret (span_out rfl rfl (sput_blk hO (acc Sp.hull q l l.length))) rfl ⟨ret_span HE.out, sput_below hbW (Nat.le_refl _) _⟩
end Go.Proofs.Ytppoefbfepehpaa
