/-
  A predicate without PNot, walked on the program's side: push. Conditions: its parts are of the right numbers; it lies in memory as it reads; at most a billion parts.
-/
import Derived.Test.YtppoefbfepehpaaPushFn
namespace Go.Proofs.Ytppoefbfepehpaa
open Go.RowKit

/-- A predicate with parts of its own, stored into a result's block that was there ahead of them. -/
theorem put_fresh {W W1 w4 : World} {q : Pr} {A' : Option Addr} {ca' gr : Nat} (hlow : W.heap.size ≤ gr) (hr : gr < W1.heap.size) (hb : Below W.heap.size W w4) (hat : q.At w4 A' ca') (hown : q.Own (fun b => W1.heap.size ≤ b) w4 A') :
    PFresh W q (.returned (.agg #[.int .i64 q.op, .int .i64 q.col, .bool q.v.t, .int .i64 q.v.n, .string q.v.s, .bool q.w.t, .int .i64 q.w.n, .string q.w.s, .slice A' q.l.length ca'])) (pput w4 gr ⟨q, A', ca'⟩) := by
  have hk : ∀ b, W1.heap.size ≤ b → b < w4.heap.size → (pput w4 gr ⟨q, A', ca'⟩).heap[b]? = w4.heap[b]? := fun b hb1 _ => pput_other _ _ (by omega)
  exact ⟨A', ca', rfl, hat.keep hk hown, hown.keep (fun b h => by omega) (by rw [pput_size]; exact Nat.le_refl _) hk, pput_below hb hlow _⟩

set_option maxHeartbeats 2000000 in
theorem push_all : ∀ p : Pr, p.shape = true → p.size ≤ 1000000000 → ∀ (not : Bool) (W : World) (A : Option Addr) (ca : Nat), p.At W A ca → Calls Try.prog 29 #[p.arg A ca, .bool not] W (PFresh W (p.push not)) := by
  refine Pr.ind fun p ih hs hsz not W A ca hat => ?_
  obtain ⟨o, c, v, w, l⟩ := p
  have IH := Lib.hid (show ∀ q ∈ l, q.shape = true → ∀ (not : Bool) (W : World) (A : Option Addr) (ca : Nat), q.At W A ca → Calls Try.prog 29 #[q.arg A ca, .bool not] W (PFresh W (q.push not)) from fun q hq hs => ih q hq hs (by have := Pr.size_kid (p := .mk o c v w l) hq; omega))
  have hlen : l.length ≤ 1000000000 := by have h1 := Pr.len_le l; have h2 := Pr.size_mk o c v w l; omega
  have hn : A = none → ca = 0 := (Pr.at_mk.1 hat).1.1
  clear ih hsz
  show Calls Try.prog 29 #[.agg #[.int .i64 o, .int .i64 c, .bool v.t, .int .i64 v.n, .string v.s, .bool w.t, .int .i64 w.n, .string w.s, .slice A l.length ca], .bool not] W _
  have HAT := Lib.hid hat
  clear hat
  rcases Pr.shape_cases hs with ⟨h1, h9, rfl⟩ | ⟨rfl, q, rfl, hq⟩ | ⟨ho, hne, hl⟩
  · have HT := Lib.hid (fun (W : World) => turned_any o c v w W A ca ⟨h1, h9⟩)
    have HP := Lib.hid (Pr.push_leaf (c := c) (v := v) (w := w) ⟨h1, h9⟩ not)
    have o10 : (o == 10) = false := by rw [beq_eq_false_iff_ne]; omega
    have o11 : (o == 11) = false := by rw [beq_eq_false_iff_ne]; omega
    have o12 : (o == 12) = false := by rw [beq_eq_false_iff_ne]; omega
    clear hs hlen IH
    have W1F : ∀ W1 : World, W1 = ((W.alloc (.cells #[.int .i64 o, .int .i64 c, .bool v.t, .int .i64 v.n, .string v.s, .bool w.t, .int .i64 w.n, .string w.s, .slice A 0 ca] 29)).alloc (.cells #[.bool not] 4)).alloc (.cells #[.int .i64 0, .int .i64 0, .bool false, .int .i64 0, .string ⟨#[]⟩, .bool false, .int .i64 0, .string ⟨#[]⟩, .slice none 0 0] 29) → Below W.heap.size W W1 ∧ W1.heap.size = W.heap.size + 1 + 1 + 1 ∧ OwnP W1 (W.heap.size + 1 + 1) [⟨.mk 0 0 Pr.zv Pr.zv [], none, 0⟩] := fun W1 h => by
      rw [h]
      exact ⟨below_then (below_then (below_alloc _) (below_alloc _)) (below_alloc _), by simp, OwnP.one (t := 29) ⟨.mk 0 0 Pr.zv Pr.zv [], none, 0⟩ (by simp)⟩
    cases not
    · by_cases h2 : o ≤ 2
      · have HP2 := Lib.hid (show (Pr.mk o c v w []).push false = Pr.mk o 0 Pr.zv Pr.zv [] by rw [HP.out, if_neg (by simp), if_pos h2])
        obtain rfl | rfl : o = 1 ∨ o = 2 := by omega
        all_goals
          rw [HP2.out]
          go_enter Try.func29, Try.ntmps29
          go_wp2_with fail
        · refine bodyPost_ret (v := .agg #[.int .i64 1, .int .i64 0, .bool false, .int .i64 0, .string ⟨#[]⟩, .bool false, .int .i64 0, .string ⟨#[]⟩, .slice none 0 0]) ?_ rfl (PFresh.leaf 1 0 Pr.zv Pr.zv (fun _ => rfl) ?_)
          · simp [results, Try.results29, go_sem]
          · repeat (first | with_reducible exact Below.refl _ _ | refine below_then ?_ (below_alloc _) | refine Below.drew ?_)
        · refine bodyPost_ret (v := .agg #[.int .i64 2, .int .i64 0, .bool false, .int .i64 0, .string ⟨#[]⟩, .bool false, .int .i64 0, .string ⟨#[]⟩, .slice none 0 0]) ?_ rfl (PFresh.leaf 2 0 Pr.zv Pr.zv (fun _ => rfl) ?_)
          · simp [results, Try.results29, go_sem]
          · repeat (first | with_reducible exact Below.refl _ _ | refine below_then ?_ (below_alloc _) | refine Below.drew ?_)
      · have HP2 := Lib.hid (show (Pr.mk o c v w []).push false = Pr.mk o c v w [] by rw [HP.out, if_neg (by simp), if_neg h2])
        have o1 : (o == 1) = false := by rw [beq_eq_false_iff_ne]; omega
        have o2 : (o == 2) = false := by rw [beq_eq_false_iff_ne]; omega
        clear h1 h9 h2
        rw [HP2.out]
        go_enter Try.func29, Try.ntmps29
        go_wp2_with fail
        refine bodyPost_ret (v := .agg #[.int .i64 o, .int .i64 c, .bool v.t, .int .i64 v.n, .string v.s, .bool w.t, .int .i64 w.n, .string w.s, .slice A 0 ca]) ?_ rfl (PFresh.leaf o c v w hn ?_)
        · simp [results, Try.results29, go_sem]
        · repeat (first | with_reducible exact Below.refl _ _ | refine below_then ?_ (below_alloc _) | refine Below.drew ?_)
    · have HP2 := Lib.hid (show (Pr.mk o c v w []).push true = Pr.turned o c v w by rw [HP.out, if_pos rfl])
      clear h1 h9
      rw [HP2.out]
      obtain ⟨qq, hqq⟩ : ∃ qq, Pr.turned o c v w = qq := ⟨_, rfl⟩
      rw [hqq] at HT ⊢
      clear hqq HP HP2
      go_enter Try.func29, Try.ntmps29
      go_wp2_with fail
      refine calls_here fun W1 hW1 => ?_
      obtain ⟨hb1, hs1, hr1⟩ := W1F W1 hW1
      clear hW1
      refine (HT.out W1).mono ?_; rintro e w4 ⟨A', ca', rfl, hat4, hown4, hb4⟩
      have hr4 := hr1.below hb4
      obtain ⟨r0, r1, r2, r3, r4, r5, r6, r7, r8⟩ := hr4.first
      have rf := hr4.free
      simp only [Nat.zero_add, Pr.op, Pr.col, Pr.v, Pr.w] at r0 r1 r2 r3 r4 r5 r6 r7 r8
      go_wp2_with fail
      exact bodyPost_ret (pr_out rfl rfl (pput_own hr4 ⟨qq, A', ca'⟩)) rfl (put_fresh (W1 := W1) (gr := W.heap.size + 1 + 1) (by omega) (by omega) (below_then hb1 hb4) hat4 hown4)
  · obtain ⟨b, off, q', A', ca', hq', _, hA, hc, hqat⟩ := HAT.out.kid (k := 0) (by simp)
    obtain rfl : q = q' := by simpa using hq'
    subst hA
    obtain ⟨qq, hqq⟩ : ∃ qq, q.push (!not) = qq := ⟨_, rfl⟩
    have IHQ := Lib.hid (show ∀ (W : World) (A : Option Addr) (ca : Nat), q.At W A ca → Calls Try.prog 29 #[q.arg A ca, .bool (!not)] W (PFresh W qq) from hqq ▸ IH.out q (by simp) hq (!not))
    rw [Pr.push_not, hqq]
    clear hq' hqq IH hs hlen hn hq HAT
    have W1F : ∀ W1 : World, W1 = ((W.alloc (.cells #[.int .i64 10, .int .i64 c, .bool v.t, .int .i64 v.n, .string v.s, .bool w.t, .int .i64 w.n, .string w.s, .slice (some ⟨b, off, none⟩) 1 ca] 29)).alloc (.cells #[.bool not] 4)).alloc (.cells #[.int .i64 0, .int .i64 0, .bool false, .int .i64 0, .string ⟨#[]⟩, .bool false, .int .i64 0, .string ⟨#[]⟩, .slice none 0 0] 29) → Below W.heap.size W W1 ∧ W1.heap.size = W.heap.size + 1 + 1 + 1 ∧ OwnP W1 (W.heap.size + 1 + 1) [⟨.mk 0 0 Pr.zv Pr.zv [], none, 0⟩] ∧ W1.cell? ⟨W.heap.size, 8, none⟩ = some (.slice (some ⟨b, off, none⟩) 1 ca) ∧ W1.cell? ⟨W.heap.size + 1, 0, none⟩ = some (.bool not) := fun W1 h => by
      rw [h]
      exact ⟨below_then (below_then (below_alloc _) (below_alloc _)) (below_alloc _), by simp, OwnP.one (t := 29) ⟨.mk 0 0 Pr.zv Pr.zv [], none, 0⟩ (by simp), cell_old (cell_old (by rw [cell_new rfl]; rfl)), cell_old (by rw [cell_new (by simp)]; rfl)⟩
    simp only [List.length_cons, List.length_nil, Nat.zero_add]
    go_enter Try.func29, Try.ntmps29
    go_wp2_with fail
    refine wp_here fun W1 hW1 => ?_
    obtain ⟨hb1, hs1, hr1, hp1, hn1⟩ := W1F W1 hW1
    clear hW1 W1F
    obtain ⟨c0, c1, c2, c3, c4, c5, c6, c7, c8⟩ := hc.below hb1
    have hqat1 := hqat.below hb1
    simp only [Nat.zero_mul, Nat.add_zero] at c0 c1 c2 c3 c4 c5 c6 c7 c8
    clear hc hqat
    go_region_law (go_simp; go_at_call 29; refine (IHQ.out _ _ _ (hqat1.below (Below.refl _ _).drew)).mono ?_; rintro e w4 ⟨A4, ca4, rfl, hat4, hown4, hb4⟩; have hbx4 := undrewp hb4; have hr4 := hr1.below hbx4; obtain ⟨r0, r1, r2, r3, r4, r5, r6, r7, r8⟩ := hr4.first; have rf := hr4.free; simp only [Nat.zero_add, Pr.op, Pr.col, Pr.v, Pr.w] at r0 r1 r2 r3 r4 r5 r6 r7 r8)
    all_goals
      go_wp2_with fail
      exact bodyPost_ret (pr_out rfl rfl (pput_own hr4 ⟨qq, A4, ca4⟩)) rfl (put_fresh (W1 := W1) (gr := W.heap.size + 1 + 1) (by omega) (by omega) (below_then hb1 hbx4) hat4 hown4)
  · have HA := Lib.hid (fun (op : Int) (W : World) (hat : (Pr.mk o c v w l).At W A ca) => all_any (fun q hq => IH.out q hq (hl q hq) not) hlen op W A ca hat)
    rw [Pr.push_list ho]
    obtain ⟨L, hL⟩ : ∃ L, (l.map fun q => q.push not) = L := ⟨_, rfl⟩
    rw [hL] at HA ⊢
    clear hL hs hl hne IH hlen hn
    rcases ho with rfl | rfl <;> cases not
    · have W1F : ∀ W1 : World, W1 = ((W.alloc (.cells #[.int .i64 11, .int .i64 c, .bool v.t, .int .i64 v.n, .string v.s, .bool w.t, .int .i64 w.n, .string w.s, .slice A l.length ca] 29)).alloc (.cells #[.bool false] 4)).alloc (.cells #[.int .i64 0, .int .i64 0, .bool false, .int .i64 0, .string ⟨#[]⟩, .bool false, .int .i64 0, .string ⟨#[]⟩, .slice none 0 0] 29) → Below W.heap.size W W1 ∧ W1.heap.size = W.heap.size + 1 + 1 + 1 ∧ OwnP W1 (W.heap.size + 1 + 1) [⟨.mk 0 0 Pr.zv Pr.zv [], none, 0⟩] ∧ W1.cell? ⟨W.heap.size, 8, none⟩ = some (.slice A l.length ca) ∧ W1.cell? ⟨W.heap.size + 1, 0, none⟩ = some (.bool false) := fun W1 h => by
        rw [h]
        exact ⟨below_then (below_then (below_alloc _) (below_alloc _)) (below_alloc _), by simp, OwnP.one (t := 29) ⟨.mk 0 0 Pr.zv Pr.zv [], none, 0⟩ (by simp), cell_old (cell_old (by rw [cell_new rfl]; rfl)), cell_old (by rw [cell_new (by simp)]; rfl)⟩
      go_enter Try.func29, Try.ntmps29
      go_wp2_with fail
      refine calls_here fun W1 hW1 => ?_
      obtain ⟨hb1, hs1, hr1, hp1, hn1⟩ := W1F W1 hW1
      clear hW1 W1F
      refine (HA.out 11 W1 (HAT.out.below hb1) W.heap.size (W.heap.size + 1) hp1 hn1).mono ?_; rintro e w4 ⟨A4, ca4, rfl, hat4, hown4, hb4⟩
      have hr4 := hr1.below hb4
      obtain ⟨r0, r1, r2, r3, r4, r5, r6, r7, r8⟩ := hr4.first
      have rf := hr4.free
      simp only [Nat.zero_add, Pr.op, Pr.col, Pr.v, Pr.w] at r0 r1 r2 r3 r4 r5 r6 r7 r8
      go_wp2_with fail
      exact bodyPost_ret (pr_out rfl rfl (pput_own hr4 ⟨.mk 11 0 Pr.zv Pr.zv L, A4, ca4⟩)) rfl (put_fresh (W1 := W1) (gr := W.heap.size + 1 + 1) (by omega) (by omega) (below_then hb1 hb4) hat4 hown4)
    · have W1F : ∀ W1 : World, W1 = ((W.alloc (.cells #[.int .i64 11, .int .i64 c, .bool v.t, .int .i64 v.n, .string v.s, .bool w.t, .int .i64 w.n, .string w.s, .slice A l.length ca] 29)).alloc (.cells #[.bool true] 4)).alloc (.cells #[.int .i64 0, .int .i64 0, .bool false, .int .i64 0, .string ⟨#[]⟩, .bool false, .int .i64 0, .string ⟨#[]⟩, .slice none 0 0] 29) → Below W.heap.size W W1 ∧ W1.heap.size = W.heap.size + 1 + 1 + 1 ∧ OwnP W1 (W.heap.size + 1 + 1) [⟨.mk 0 0 Pr.zv Pr.zv [], none, 0⟩] ∧ W1.cell? ⟨W.heap.size, 8, none⟩ = some (.slice A l.length ca) ∧ W1.cell? ⟨W.heap.size + 1, 0, none⟩ = some (.bool true) := fun W1 h => by
        rw [h]
        exact ⟨below_then (below_then (below_alloc _) (below_alloc _)) (below_alloc _), by simp, OwnP.one (t := 29) ⟨.mk 0 0 Pr.zv Pr.zv [], none, 0⟩ (by simp), cell_old (cell_old (by rw [cell_new rfl]; rfl)), cell_old (by rw [cell_new (by simp)]; rfl)⟩
      go_enter Try.func29, Try.ntmps29
      go_wp2_with fail
      refine calls_here fun W1 hW1 => ?_
      obtain ⟨hb1, hs1, hr1, hp1, hn1⟩ := W1F W1 hW1
      clear hW1 W1F
      refine (HA.out 12 W1 (HAT.out.below hb1) W.heap.size (W.heap.size + 1) hp1 hn1).mono ?_; rintro e w4 ⟨A4, ca4, rfl, hat4, hown4, hb4⟩
      have hr4 := hr1.below hb4
      obtain ⟨r0, r1, r2, r3, r4, r5, r6, r7, r8⟩ := hr4.first
      have rf := hr4.free
      simp only [Nat.zero_add, Pr.op, Pr.col, Pr.v, Pr.w] at r0 r1 r2 r3 r4 r5 r6 r7 r8
      go_wp2_with fail
      exact bodyPost_ret (pr_out rfl rfl (pput_own hr4 ⟨.mk 12 0 Pr.zv Pr.zv L, A4, ca4⟩)) rfl (put_fresh (W1 := W1) (gr := W.heap.size + 1 + 1) (by omega) (by omega) (below_then hb1 hb4) hat4 hown4)
    · have W1F : ∀ W1 : World, W1 = ((W.alloc (.cells #[.int .i64 12, .int .i64 c, .bool v.t, .int .i64 v.n, .string v.s, .bool w.t, .int .i64 w.n, .string w.s, .slice A l.length ca] 29)).alloc (.cells #[.bool false] 4)).alloc (.cells #[.int .i64 0, .int .i64 0, .bool false, .int .i64 0, .string ⟨#[]⟩, .bool false, .int .i64 0, .string ⟨#[]⟩, .slice none 0 0] 29) → Below W.heap.size W W1 ∧ W1.heap.size = W.heap.size + 1 + 1 + 1 ∧ OwnP W1 (W.heap.size + 1 + 1) [⟨.mk 0 0 Pr.zv Pr.zv [], none, 0⟩] ∧ W1.cell? ⟨W.heap.size, 8, none⟩ = some (.slice A l.length ca) ∧ W1.cell? ⟨W.heap.size + 1, 0, none⟩ = some (.bool false) := fun W1 h => by
        rw [h]
        exact ⟨below_then (below_then (below_alloc _) (below_alloc _)) (below_alloc _), by simp, OwnP.one (t := 29) ⟨.mk 0 0 Pr.zv Pr.zv [], none, 0⟩ (by simp), cell_old (cell_old (by rw [cell_new rfl]; rfl)), cell_old (by rw [cell_new (by simp)]; rfl)⟩
      go_enter Try.func29, Try.ntmps29
      go_wp2_with fail
      refine calls_here fun W1 hW1 => ?_
      obtain ⟨hb1, hs1, hr1, hp1, hn1⟩ := W1F W1 hW1
      clear hW1 W1F
      refine (HA.out 12 W1 (HAT.out.below hb1) W.heap.size (W.heap.size + 1) hp1 hn1).mono ?_; rintro e w4 ⟨A4, ca4, rfl, hat4, hown4, hb4⟩
      have hr4 := hr1.below hb4
      obtain ⟨r0, r1, r2, r3, r4, r5, r6, r7, r8⟩ := hr4.first
      have rf := hr4.free
      simp only [Nat.zero_add, Pr.op, Pr.col, Pr.v, Pr.w] at r0 r1 r2 r3 r4 r5 r6 r7 r8
      go_wp2_with fail
      exact bodyPost_ret (pr_out rfl rfl (pput_own hr4 ⟨.mk 12 0 Pr.zv Pr.zv L, A4, ca4⟩)) rfl (put_fresh (W1 := W1) (gr := W.heap.size + 1 + 1) (by omega) (by omega) (below_then hb1 hb4) hat4 hown4)
    · have W1F : ∀ W1 : World, W1 = ((W.alloc (.cells #[.int .i64 12, .int .i64 c, .bool v.t, .int .i64 v.n, .string v.s, .bool w.t, .int .i64 w.n, .string w.s, .slice A l.length ca] 29)).alloc (.cells #[.bool true] 4)).alloc (.cells #[.int .i64 0, .int .i64 0, .bool false, .int .i64 0, .string ⟨#[]⟩, .bool false, .int .i64 0, .string ⟨#[]⟩, .slice none 0 0] 29) → Below W.heap.size W W1 ∧ W1.heap.size = W.heap.size + 1 + 1 + 1 ∧ OwnP W1 (W.heap.size + 1 + 1) [⟨.mk 0 0 Pr.zv Pr.zv [], none, 0⟩] ∧ W1.cell? ⟨W.heap.size, 8, none⟩ = some (.slice A l.length ca) ∧ W1.cell? ⟨W.heap.size + 1, 0, none⟩ = some (.bool true) := fun W1 h => by
        rw [h]
        exact ⟨below_then (below_then (below_alloc _) (below_alloc _)) (below_alloc _), by simp, OwnP.one (t := 29) ⟨.mk 0 0 Pr.zv Pr.zv [], none, 0⟩ (by simp), cell_old (cell_old (by rw [cell_new rfl]; rfl)), cell_old (by rw [cell_new (by simp)]; rfl)⟩
      go_enter Try.func29, Try.ntmps29
      go_wp2_with fail
      refine calls_here fun W1 hW1 => ?_
      obtain ⟨hb1, hs1, hr1, hp1, hn1⟩ := W1F W1 hW1
      clear hW1 W1F
      refine (HA.out 11 W1 (HAT.out.below hb1) W.heap.size (W.heap.size + 1) hp1 hn1).mono ?_; rintro e w4 ⟨A4, ca4, rfl, hat4, hown4, hb4⟩
      have hr4 := hr1.below hb4
      obtain ⟨r0, r1, r2, r3, r4, r5, r6, r7, r8⟩ := hr4.first
      have rf := hr4.free
      simp only [Nat.zero_add, Pr.op, Pr.col, Pr.v, Pr.w] at r0 r1 r2 r3 r4 r5 r6 r7 r8
      go_wp2_with fail
      exact bodyPost_ret (pr_out rfl rfl (pput_own hr4 ⟨.mk 11 0 Pr.zv Pr.zv L, A4, ca4⟩)) rfl (put_fresh (W1 := W1) (gr := W.heap.size + 1 + 1) (by omega) (by omega) (below_then hb1 hb4) hat4 hown4)
end Go.Proofs.Ytppoefbfepehpaa
