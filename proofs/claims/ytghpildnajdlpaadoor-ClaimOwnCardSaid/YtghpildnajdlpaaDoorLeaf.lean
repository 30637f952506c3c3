/-
  Whether a predicate on a column holds, walked: the program's leaf and the document's. Conditions: the row lies in memory as it reads.
-/
import Derived.Test.YtghpildnajdlpaaDoorPrSize
import Derived.Test.YtghpildnajdlpaaDoorCmpFn
import Derived.Test.YtghpildnajdlpaaDoorRCmp
import Derived.Test.YtghpildnajdlpaaDoorRowAt
namespace Go.Proofs.YtghpildnajdlpaaDoor
open Go.RowKit
variable {W : World}

theorem beq_dec (k : Int) : (k == 0) = decide (k = 0) := by rw [Bool.eq_iff_iff]; simp
theorem bne_dec (k : Int) : (k != 0) = decide (k ≠ 0) := by rw [Bool.eq_iff_iff]; simp
theorem Pr.leaf_val {o c : Int} {v w u : Val} {r : List Val} {k : Int} (h0 : 0 ≤ c) (h1 : c < r.length) (hu : r[c.toNat]? = some u) (hk : cmpV u v = k) :
    Pr.leaf o c v w r = if o = 3 then decide (k = 0) else if o = 4 then decide (k ≠ 0) else if o = 5 then decide (k < 0) else if o = 6 then decide (k ≤ 0) else if o = 7 then decide (0 < k) else if o = 8 then decide (0 ≤ k) else decide (0 ≤ k) && decide (cmpV u w ≤ 0) := by
  have hn : Pr.nth r c = u := by simp [Pr.nth, hu]
  unfold Pr.leaf
  rw [hn, hk, decide_eq_true h0, decide_eq_true h1]
  rfl
theorem Pr.leaf_no {o c : Int} {v w : Val} {r : List Val} (h : c < 0 ∨ (r.length : Int) ≤ c) : Pr.leaf o c v w r = false := by
  unfold Pr.leaf
  rcases h with h | h
  · rw [decide_eq_false (by omega : ¬ 0 ≤ c)]; rfl
  · rw [decide_eq_false (by omega : ¬ c < r.length), Bool.and_false]; rfl
theorem Pr.op_cases (o : Int) : o = 3 ∨ o = 4 ∨ o = 5 ∨ o = 6 ∨ o = 7 ∨ o = 8 ∨ ((o == 3) = false ∧ (o == 4) = false ∧ (o == 5) = false ∧ (o == 6) = false ∧ (o == 7) = false ∧ (o == 8) = false) := by
  simp only [beq_eq_false_iff_ne]; omega
/-- The value at a column. -/
theorem RowAt.col {B : Option Addr} {r : List Val} (h : RowAt W B r) {c : Int} (h0 : 0 ≤ c) (h1 : c < r.length) : ∃ (u : Val) (b o : Nat), r[c.toNat]? = some u ∧ B = some ⟨b, o, none⟩ ∧
    W.cell? ⟨b, o + c.toNat * 3, none⟩ = some (.bool u.t) ∧ W.cell? ⟨b, o + c.toNat * 3 + 1, none⟩ = some (.int .i64 u.n) ∧ W.cell? ⟨b, o + c.toNat * 3 + 2, none⟩ = some (.string u.s) := by
  have hk : c.toNat < r.length := by omega
  obtain ⟨b, o, hB, hc⟩ := h (fun e => by subst e; simp at hk)
  exact ⟨r[c.toNat], b, o, List.getElem?_eq_getElem hk, hB, hc _ _ (List.getElem?_eq_getElem hk)⟩

set_option maxHeartbeats 2000000 in
theorem leaf_any {A B : Option Addr} {o c : Int} {v w : Val} {m ca cb : Nat} {r : List Val} (hr : RowAt W B r)  (x : Lt W) :
    Calls Tryd.prog 78 #[.agg #[.int .i64 o, .int .i64 c, .bool v.t, .int .i64 v.n, .string v.s, .bool w.t, .int .i64 w.n, .string w.s, .slice A m ca], .slice B r.length cb] x.1 fun e w' => e = .returned (.bool (Pr.leaf o c v w r)) ∧ ∃ y : Lt W, w' = y.1 := by
  by_cases h0 : 0 ≤ c
  case neg =>
    have HF := Lib.hid (Pr.leaf_no (o := o) (v := v) (w := w) (r := r) (.inl (by omega : c < 0)))
    have hd : decide (c < 0) = true := decide_eq_true (by omega)
    have hd' : c < 0 := by omega
    clear h0
    go_enter Tryd.func78, Tryd.ntmps78
    go_wp2_with fail
    go_ret
    exact ⟨ret_bool HF.out.symm, x.end_ (below_alloc _)⟩
  have hd : decide (c < 0) = false := decide_eq_false (by omega)
  by_cases h1 : c < r.length
  case neg =>
    have HF := Lib.hid (Pr.leaf_no (o := o) (v := v) (w := w) (r := r) (.inr (by omega : (r.length : Int) ≤ c)))
    have hd2 : decide ((r.length : Int) ≤ c) = true := decide_eq_true (by omega)
    have hd' : (r.length : Int) ≤ c := by omega
    clear h1
    go_enter Tryd.func78, Tryd.ntmps78
    go_wp2_with fail
    go_ret
    exact ⟨ret_bool HF.out.symm, x.end_ (below_alloc _)⟩
  have hd2 : decide ((r.length : Int) ≤ c) = false := decide_eq_false (by omega)
  obtain ⟨u, b, off, hu, rfl, d0, d1, d2⟩ := hr.col h0 h1
  clear hr
  obtain ⟨k, hk⟩ : ∃ k, cmpV u v = k := ⟨_, rfl⟩
  have HL := Lib.hid (Pr.leaf_val (o := o) (w := w) h0 h1 hu hk)
  have HK := Lib.hid hk
  clear hk hu

  rcases Pr.op_cases o with rfl | rfl | rfl | rfl | rfl | rfl | ⟨o3, o4, o5, o6, o7, o8⟩
  · have HV := Lib.hid (HL.out.trans (by simp : _ = decide (k = 0)))
    go_enter Tryd.func78, Tryd.ntmps78
    go_wp2_with fail
    refine wp_here fun W1 hW1 => ?_
    have hb0 : Below W.heap.size W W1 := hW1 ▸ x.more _
    have f0' : W1.cell? ⟨x.1.heap.size, 0, none⟩ = some (.int .i64 3) := by rw [hW1]; simp
    have f1' : W1.cell? ⟨x.1.heap.size, 1, none⟩ = some (.int .i64 c) := by rw [hW1]; simp
    have f2' : W1.cell? ⟨x.1.heap.size, 2, none⟩ = some (.bool v.t) := by rw [hW1]; simp
    have f3' : W1.cell? ⟨x.1.heap.size, 3, none⟩ = some (.int .i64 v.n) := by rw [hW1]; simp
    have f4' : W1.cell? ⟨x.1.heap.size, 4, none⟩ = some (.string v.s) := by rw [hW1]; simp
    have f5' : W1.cell? ⟨x.1.heap.size, 5, none⟩ = some (.bool w.t) := by rw [hW1]; simp
    have f6' : W1.cell? ⟨x.1.heap.size, 6, none⟩ = some (.int .i64 w.n) := by rw [hW1]; simp
    have f7' : W1.cell? ⟨x.1.heap.size, 7, none⟩ = some (.string w.s) := by rw [hW1]; simp
    have f0 := fun z : Lt W1 => z.cell f0'
    have f1 := fun z : Lt W1 => z.cell f1'
    have f2 := fun z : Lt W1 => z.cell f2'
    have f3 := fun z : Lt W1 => z.cell f3'
    have f4 := fun z : Lt W1 => z.cell f4'
    have f5 := fun z : Lt W1 => z.cell f5'
    have f6 := fun z : Lt W1 => z.cell f6'
    have f7 := fun z : Lt W1 => z.cell f7'
    have u0 := fun z : Lt W1 => z.old hb0 d0
    have u1 := fun z : Lt W1 => z.old hb0 d1
    have u2 := fun z : Lt W1 => z.old hb0 d2
    clear hW1 f0' f1' f2' f3' f4' f5' f6' f7' d0 d1 d2
    refine wp_region_here (by kernel_rfl) (by kernel_rfl) ?_
    repeat (go_big_quiet_step ((go_at_call 84; exact compare_is HK.out _)))
    refine wpQuiet_nil ?_; intro _ hw'; obtain ⟨y, rfl⟩ := hw'
    go_wp2_with fail
    go_ret
    exact ⟨ret_bool (by rw [HV.out]; first | done | rfl | exact beq_dec _ | exact bne_dec _), y.via hb0, rfl⟩
  · have HV := Lib.hid (HL.out.trans (by simp : _ = decide (k ≠ 0)))
    go_enter Tryd.func78, Tryd.ntmps78
    go_wp2_with fail
    refine wp_here fun W1 hW1 => ?_
    have hb0 : Below W.heap.size W W1 := hW1 ▸ x.more _
    have f0' : W1.cell? ⟨x.1.heap.size, 0, none⟩ = some (.int .i64 4) := by rw [hW1]; simp
    have f1' : W1.cell? ⟨x.1.heap.size, 1, none⟩ = some (.int .i64 c) := by rw [hW1]; simp
    have f2' : W1.cell? ⟨x.1.heap.size, 2, none⟩ = some (.bool v.t) := by rw [hW1]; simp
    have f3' : W1.cell? ⟨x.1.heap.size, 3, none⟩ = some (.int .i64 v.n) := by rw [hW1]; simp
    have f4' : W1.cell? ⟨x.1.heap.size, 4, none⟩ = some (.string v.s) := by rw [hW1]; simp
    have f5' : W1.cell? ⟨x.1.heap.size, 5, none⟩ = some (.bool w.t) := by rw [hW1]; simp
    have f6' : W1.cell? ⟨x.1.heap.size, 6, none⟩ = some (.int .i64 w.n) := by rw [hW1]; simp
    have f7' : W1.cell? ⟨x.1.heap.size, 7, none⟩ = some (.string w.s) := by rw [hW1]; simp
    have f0 := fun z : Lt W1 => z.cell f0'
    have f1 := fun z : Lt W1 => z.cell f1'
    have f2 := fun z : Lt W1 => z.cell f2'
    have f3 := fun z : Lt W1 => z.cell f3'
    have f4 := fun z : Lt W1 => z.cell f4'
    have f5 := fun z : Lt W1 => z.cell f5'
    have f6 := fun z : Lt W1 => z.cell f6'
    have f7 := fun z : Lt W1 => z.cell f7'
    have u0 := fun z : Lt W1 => z.old hb0 d0
    have u1 := fun z : Lt W1 => z.old hb0 d1
    have u2 := fun z : Lt W1 => z.old hb0 d2
    clear hW1 f0' f1' f2' f3' f4' f5' f6' f7' d0 d1 d2
    refine wp_region_here (by kernel_rfl) (by kernel_rfl) ?_
    repeat (go_big_quiet_step ((go_at_call 84; exact compare_is HK.out _)))
    refine wpQuiet_nil ?_; intro _ hw'; obtain ⟨y, rfl⟩ := hw'
    go_wp2_with fail
    go_ret
    exact ⟨ret_bool (by rw [HV.out]; first | done | rfl | exact beq_dec _ | exact bne_dec _), y.via hb0, rfl⟩
  · have HV := Lib.hid (HL.out.trans (by simp : _ = decide (k < 0)))
    go_enter Tryd.func78, Tryd.ntmps78
    go_wp2_with fail
    refine wp_here fun W1 hW1 => ?_
    have hb0 : Below W.heap.size W W1 := hW1 ▸ x.more _
    have f0' : W1.cell? ⟨x.1.heap.size, 0, none⟩ = some (.int .i64 5) := by rw [hW1]; simp
    have f1' : W1.cell? ⟨x.1.heap.size, 1, none⟩ = some (.int .i64 c) := by rw [hW1]; simp
    have f2' : W1.cell? ⟨x.1.heap.size, 2, none⟩ = some (.bool v.t) := by rw [hW1]; simp
    have f3' : W1.cell? ⟨x.1.heap.size, 3, none⟩ = some (.int .i64 v.n) := by rw [hW1]; simp
    have f4' : W1.cell? ⟨x.1.heap.size, 4, none⟩ = some (.string v.s) := by rw [hW1]; simp
    have f5' : W1.cell? ⟨x.1.heap.size, 5, none⟩ = some (.bool w.t) := by rw [hW1]; simp
    have f6' : W1.cell? ⟨x.1.heap.size, 6, none⟩ = some (.int .i64 w.n) := by rw [hW1]; simp
    have f7' : W1.cell? ⟨x.1.heap.size, 7, none⟩ = some (.string w.s) := by rw [hW1]; simp
    have f0 := fun z : Lt W1 => z.cell f0'
    have f1 := fun z : Lt W1 => z.cell f1'
    have f2 := fun z : Lt W1 => z.cell f2'
    have f3 := fun z : Lt W1 => z.cell f3'
    have f4 := fun z : Lt W1 => z.cell f4'
    have f5 := fun z : Lt W1 => z.cell f5'
    have f6 := fun z : Lt W1 => z.cell f6'
    have f7 := fun z : Lt W1 => z.cell f7'
    have u0 := fun z : Lt W1 => z.old hb0 d0
    have u1 := fun z : Lt W1 => z.old hb0 d1
    have u2 := fun z : Lt W1 => z.old hb0 d2
    clear hW1 f0' f1' f2' f3' f4' f5' f6' f7' d0 d1 d2
    refine wp_region_here (by kernel_rfl) (by kernel_rfl) ?_
    repeat (go_big_quiet_step ((go_at_call 84; exact compare_is HK.out _)))
    refine wpQuiet_nil ?_; intro _ hw'; obtain ⟨y, rfl⟩ := hw'
    go_wp2_with fail
    go_ret
    exact ⟨ret_bool (by rw [HV.out]; first | done | rfl | exact beq_dec _ | exact bne_dec _), y.via hb0, rfl⟩
  · have HV := Lib.hid (HL.out.trans (by simp : _ = decide (k ≤ 0)))
    go_enter Tryd.func78, Tryd.ntmps78
    go_wp2_with fail
    refine wp_here fun W1 hW1 => ?_
    have hb0 : Below W.heap.size W W1 := hW1 ▸ x.more _
    have f0' : W1.cell? ⟨x.1.heap.size, 0, none⟩ = some (.int .i64 6) := by rw [hW1]; simp
    have f1' : W1.cell? ⟨x.1.heap.size, 1, none⟩ = some (.int .i64 c) := by rw [hW1]; simp
    have f2' : W1.cell? ⟨x.1.heap.size, 2, none⟩ = some (.bool v.t) := by rw [hW1]; simp
    have f3' : W1.cell? ⟨x.1.heap.size, 3, none⟩ = some (.int .i64 v.n) := by rw [hW1]; simp
    have f4' : W1.cell? ⟨x.1.heap.size, 4, none⟩ = some (.string v.s) := by rw [hW1]; simp
    have f5' : W1.cell? ⟨x.1.heap.size, 5, none⟩ = some (.bool w.t) := by rw [hW1]; simp
    have f6' : W1.cell? ⟨x.1.heap.size, 6, none⟩ = some (.int .i64 w.n) := by rw [hW1]; simp
    have f7' : W1.cell? ⟨x.1.heap.size, 7, none⟩ = some (.string w.s) := by rw [hW1]; simp
    have f0 := fun z : Lt W1 => z.cell f0'
    have f1 := fun z : Lt W1 => z.cell f1'
    have f2 := fun z : Lt W1 => z.cell f2'
    have f3 := fun z : Lt W1 => z.cell f3'
    have f4 := fun z : Lt W1 => z.cell f4'
    have f5 := fun z : Lt W1 => z.cell f5'
    have f6 := fun z : Lt W1 => z.cell f6'
    have f7 := fun z : Lt W1 => z.cell f7'
    have u0 := fun z : Lt W1 => z.old hb0 d0
    have u1 := fun z : Lt W1 => z.old hb0 d1
    have u2 := fun z : Lt W1 => z.old hb0 d2
    clear hW1 f0' f1' f2' f3' f4' f5' f6' f7' d0 d1 d2
    refine wp_region_here (by kernel_rfl) (by kernel_rfl) ?_
    repeat (go_big_quiet_step ((go_at_call 84; exact compare_is HK.out _)))
    refine wpQuiet_nil ?_; intro _ hw'; obtain ⟨y, rfl⟩ := hw'
    go_wp2_with fail
    go_ret
    exact ⟨ret_bool (by rw [HV.out]; first | done | rfl | exact beq_dec _ | exact bne_dec _), y.via hb0, rfl⟩
  · have HV := Lib.hid (HL.out.trans (by simp : _ = decide (0 < k)))
    go_enter Tryd.func78, Tryd.ntmps78
    go_wp2_with fail
    refine wp_here fun W1 hW1 => ?_
    have hb0 : Below W.heap.size W W1 := hW1 ▸ x.more _
    have f0' : W1.cell? ⟨x.1.heap.size, 0, none⟩ = some (.int .i64 7) := by rw [hW1]; simp
    have f1' : W1.cell? ⟨x.1.heap.size, 1, none⟩ = some (.int .i64 c) := by rw [hW1]; simp
    have f2' : W1.cell? ⟨x.1.heap.size, 2, none⟩ = some (.bool v.t) := by rw [hW1]; simp
    have f3' : W1.cell? ⟨x.1.heap.size, 3, none⟩ = some (.int .i64 v.n) := by rw [hW1]; simp
    have f4' : W1.cell? ⟨x.1.heap.size, 4, none⟩ = some (.string v.s) := by rw [hW1]; simp
    have f5' : W1.cell? ⟨x.1.heap.size, 5, none⟩ = some (.bool w.t) := by rw [hW1]; simp
    have f6' : W1.cell? ⟨x.1.heap.size, 6, none⟩ = some (.int .i64 w.n) := by rw [hW1]; simp
    have f7' : W1.cell? ⟨x.1.heap.size, 7, none⟩ = some (.string w.s) := by rw [hW1]; simp
    have f0 := fun z : Lt W1 => z.cell f0'
    have f1 := fun z : Lt W1 => z.cell f1'
    have f2 := fun z : Lt W1 => z.cell f2'
    have f3 := fun z : Lt W1 => z.cell f3'
    have f4 := fun z : Lt W1 => z.cell f4'
    have f5 := fun z : Lt W1 => z.cell f5'
    have f6 := fun z : Lt W1 => z.cell f6'
    have f7 := fun z : Lt W1 => z.cell f7'
    have u0 := fun z : Lt W1 => z.old hb0 d0
    have u1 := fun z : Lt W1 => z.old hb0 d1
    have u2 := fun z : Lt W1 => z.old hb0 d2
    clear hW1 f0' f1' f2' f3' f4' f5' f6' f7' d0 d1 d2
    refine wp_region_here (by kernel_rfl) (by kernel_rfl) ?_
    repeat (go_big_quiet_step ((go_at_call 84; exact compare_is HK.out _)))
    refine wpQuiet_nil ?_; intro _ hw'; obtain ⟨y, rfl⟩ := hw'
    go_wp2_with fail
    go_ret
    exact ⟨ret_bool (by rw [HV.out]; first | done | rfl | exact beq_dec _ | exact bne_dec _), y.via hb0, rfl⟩
  · have HV := Lib.hid (HL.out.trans (by simp : _ = decide (0 ≤ k)))
    go_enter Tryd.func78, Tryd.ntmps78
    go_wp2_with fail
    refine wp_here fun W1 hW1 => ?_
    have hb0 : Below W.heap.size W W1 := hW1 ▸ x.more _
    have f0' : W1.cell? ⟨x.1.heap.size, 0, none⟩ = some (.int .i64 8) := by rw [hW1]; simp
    have f1' : W1.cell? ⟨x.1.heap.size, 1, none⟩ = some (.int .i64 c) := by rw [hW1]; simp
    have f2' : W1.cell? ⟨x.1.heap.size, 2, none⟩ = some (.bool v.t) := by rw [hW1]; simp
    have f3' : W1.cell? ⟨x.1.heap.size, 3, none⟩ = some (.int .i64 v.n) := by rw [hW1]; simp
    have f4' : W1.cell? ⟨x.1.heap.size, 4, none⟩ = some (.string v.s) := by rw [hW1]; simp
    have f5' : W1.cell? ⟨x.1.heap.size, 5, none⟩ = some (.bool w.t) := by rw [hW1]; simp
    have f6' : W1.cell? ⟨x.1.heap.size, 6, none⟩ = some (.int .i64 w.n) := by rw [hW1]; simp
    have f7' : W1.cell? ⟨x.1.heap.size, 7, none⟩ = some (.string w.s) := by rw [hW1]; simp
    have f0 := fun z : Lt W1 => z.cell f0'
    have f1 := fun z : Lt W1 => z.cell f1'
    have f2 := fun z : Lt W1 => z.cell f2'
    have f3 := fun z : Lt W1 => z.cell f3'
    have f4 := fun z : Lt W1 => z.cell f4'
    have f5 := fun z : Lt W1 => z.cell f5'
    have f6 := fun z : Lt W1 => z.cell f6'
    have f7 := fun z : Lt W1 => z.cell f7'
    have u0 := fun z : Lt W1 => z.old hb0 d0
    have u1 := fun z : Lt W1 => z.old hb0 d1
    have u2 := fun z : Lt W1 => z.old hb0 d2
    clear hW1 f0' f1' f2' f3' f4' f5' f6' f7' d0 d1 d2
    refine wp_region_here (by kernel_rfl) (by kernel_rfl) ?_
    repeat (go_big_quiet_step ((go_at_call 84; exact compare_is HK.out _)))
    refine wpQuiet_nil ?_; intro _ hw'; obtain ⟨y, rfl⟩ := hw'
    go_wp2_with fail
    go_ret
    exact ⟨ret_bool (by rw [HV.out]; first | done | rfl | exact beq_dec _ | exact bne_dec _), y.via hb0, rfl⟩
  · have o3' := beq_eq_false_iff_ne.1 o3
    have o4' := beq_eq_false_iff_ne.1 o4
    have o5' := beq_eq_false_iff_ne.1 o5
    have o6' := beq_eq_false_iff_ne.1 o6
    have o7' := beq_eq_false_iff_ne.1 o7
    have o8' := beq_eq_false_iff_ne.1 o8
    have HV := Lib.hid (HL.out.trans (by simp only [o3', o4', o5', o6', o7', o8', if_false] : _ = (decide (0 ≤ k) && decide (cmpV u w ≤ 0))))
    clear o3' o4' o5' o6' o7' o8'
    by_cases hk0 : 0 ≤ k
    · have hdk := decide_eq_true hk0
      obtain ⟨k2, hk2⟩ : ∃ k2, cmpV u w = k2 := ⟨_, rfl⟩
      have HK2 := Lib.hid hk2
      clear hk2
      go_enter Tryd.func78, Tryd.ntmps78
      go_wp2_with fail
      refine wp_here fun W1 hW1 => ?_
      have hb0 : Below W.heap.size W W1 := hW1 ▸ x.more _
      have f0' : W1.cell? ⟨x.1.heap.size, 0, none⟩ = some (.int .i64 o) := by rw [hW1]; simp
      have f1' : W1.cell? ⟨x.1.heap.size, 1, none⟩ = some (.int .i64 c) := by rw [hW1]; simp
      have f2' : W1.cell? ⟨x.1.heap.size, 2, none⟩ = some (.bool v.t) := by rw [hW1]; simp
      have f3' : W1.cell? ⟨x.1.heap.size, 3, none⟩ = some (.int .i64 v.n) := by rw [hW1]; simp
      have f4' : W1.cell? ⟨x.1.heap.size, 4, none⟩ = some (.string v.s) := by rw [hW1]; simp
      have f5' : W1.cell? ⟨x.1.heap.size, 5, none⟩ = some (.bool w.t) := by rw [hW1]; simp
      have f6' : W1.cell? ⟨x.1.heap.size, 6, none⟩ = some (.int .i64 w.n) := by rw [hW1]; simp
      have f7' : W1.cell? ⟨x.1.heap.size, 7, none⟩ = some (.string w.s) := by rw [hW1]; simp
      have f0 := fun z : Lt W1 => z.cell f0'
      have f1 := fun z : Lt W1 => z.cell f1'
      have f2 := fun z : Lt W1 => z.cell f2'
      have f3 := fun z : Lt W1 => z.cell f3'
      have f4 := fun z : Lt W1 => z.cell f4'
      have f5 := fun z : Lt W1 => z.cell f5'
      have f6 := fun z : Lt W1 => z.cell f6'
      have f7 := fun z : Lt W1 => z.cell f7'
      have u0 := fun z : Lt W1 => z.old hb0 d0
      have u1 := fun z : Lt W1 => z.old hb0 d1
      have u2 := fun z : Lt W1 => z.old hb0 d2
      clear hW1 f0' f1' f2' f3' f4' f5' f6' f7' d0 d1 d2
      refine wp_region_here (by kernel_rfl) (by kernel_rfl) ?_
      repeat (go_big_quiet_step ((go_at_call 84; exact compare_is HK.out _)))
      refine wpQuiet_nil ?_; intro _ hw'; obtain ⟨y, rfl⟩ := hw'
      go_wp2_with fail
      refine wp_region_pure _ (by kernel_rfl) (by kernel_rfl) ?_
      repeat (go_big_quiet_step ((go_at_call 84; exact compare_is HK2.out _)))
      refine wpQuiet_nil ?_; intro _ hw'; obtain ⟨y2, rfl⟩ := hw'
      go_wp2_with fail
      go_ret
      exact ⟨ret_bool (by rw [HV.out, HK2.out, decide_eq_true hk0]; simp), y2.via hb0, rfl⟩
    · have hdk : decide (0 ≤ k) = false := decide_eq_false hk0
      have hk0' : k < 0 := by omega
      clear hk0
      have HV2 := Lib.hid (HV.out.trans (by rw [hdk]; rfl : _ = false))
      go_enter Tryd.func78, Tryd.ntmps78
      go_wp2_with fail
      refine wp_here fun W1 hW1 => ?_
      have hb0 : Below W.heap.size W W1 := hW1 ▸ x.more _
      have f0' : W1.cell? ⟨x.1.heap.size, 0, none⟩ = some (.int .i64 o) := by rw [hW1]; simp
      have f1' : W1.cell? ⟨x.1.heap.size, 1, none⟩ = some (.int .i64 c) := by rw [hW1]; simp
      have f2' : W1.cell? ⟨x.1.heap.size, 2, none⟩ = some (.bool v.t) := by rw [hW1]; simp
      have f3' : W1.cell? ⟨x.1.heap.size, 3, none⟩ = some (.int .i64 v.n) := by rw [hW1]; simp
      have f4' : W1.cell? ⟨x.1.heap.size, 4, none⟩ = some (.string v.s) := by rw [hW1]; simp
      have f5' : W1.cell? ⟨x.1.heap.size, 5, none⟩ = some (.bool w.t) := by rw [hW1]; simp
      have f6' : W1.cell? ⟨x.1.heap.size, 6, none⟩ = some (.int .i64 w.n) := by rw [hW1]; simp
      have f7' : W1.cell? ⟨x.1.heap.size, 7, none⟩ = some (.string w.s) := by rw [hW1]; simp
      have f0 := fun z : Lt W1 => z.cell f0'
      have f1 := fun z : Lt W1 => z.cell f1'
      have f2 := fun z : Lt W1 => z.cell f2'
      have f3 := fun z : Lt W1 => z.cell f3'
      have f4 := fun z : Lt W1 => z.cell f4'
      have f5 := fun z : Lt W1 => z.cell f5'
      have f6 := fun z : Lt W1 => z.cell f6'
      have f7 := fun z : Lt W1 => z.cell f7'
      have u0 := fun z : Lt W1 => z.old hb0 d0
      have u1 := fun z : Lt W1 => z.old hb0 d1
      have u2 := fun z : Lt W1 => z.old hb0 d2
      clear hW1 f0' f1' f2' f3' f4' f5' f6' f7' d0 d1 d2
      refine wp_region_here (by kernel_rfl) (by kernel_rfl) ?_
      repeat (go_big_quiet_step ((go_at_call 84; exact compare_is HK.out _)))
      refine wpQuiet_nil ?_; intro _ hw'; obtain ⟨y, rfl⟩ := hw'
      go_wp2_with fail
      refine wp_region_pure _ (by kernel_rfl) (by kernel_rfl) ?_
      repeat (go_big_quiet_step (fail))
      refine wpQuiet_nil ?_; intro _ hw'; obtain ⟨y2, rfl⟩ := hw'
      go_wp2_with fail
      go_ret
      exact ⟨ret_bool HV2.out.symm, y2.via hb0, rfl⟩

set_option maxHeartbeats 2000000 in
theorem rleaf_any {A B : Option Addr} {o c : Int} {v w : Val} {m ca cb : Nat} {r : List Val} (hr : RowAt W B r)  (hfit : ∀ u ∈ r, u.s.size ≤ maxLen) (x : Lt W) :
    Calls Tryd.prog 81 #[.agg #[.int .i64 o, .int .i64 c, .bool v.t, .int .i64 v.n, .string v.s, .bool w.t, .int .i64 w.n, .string w.s, .slice A m ca], .slice B r.length cb] x.1 fun e w' => e = .returned (.bool (Pr.leaf o c v w r)) ∧ ∃ y : Lt W, w' = y.1 := by
  by_cases h0 : 0 ≤ c
  case neg =>
    have HF := Lib.hid (Pr.leaf_no (o := o) (v := v) (w := w) (r := r) (.inl (by omega : c < 0)))
    have hd : decide (c < 0) = true := decide_eq_true (by omega)
    have hd' : c < 0 := by omega
    clear h0
    go_enter Tryd.func81, Tryd.ntmps81
    go_wp2_with fail
    go_ret
    exact ⟨ret_bool HF.out.symm, x.end_ (below_alloc _)⟩
  have hd : decide (c < 0) = false := decide_eq_false (by omega)
  by_cases h1 : c < r.length
  case neg =>
    have HF := Lib.hid (Pr.leaf_no (o := o) (v := v) (w := w) (r := r) (.inr (by omega : (r.length : Int) ≤ c)))
    have hd2 : decide ((r.length : Int) ≤ c) = true := decide_eq_true (by omega)
    have hd' : (r.length : Int) ≤ c := by omega
    clear h1
    go_enter Tryd.func81, Tryd.ntmps81
    go_wp2_with fail
    go_ret
    exact ⟨ret_bool HF.out.symm, x.end_ (below_alloc _)⟩
  have hd2 : decide ((r.length : Int) ≤ c) = false := decide_eq_false (by omega)
  obtain ⟨u, b, off, hu, rfl, d0, d1, d2⟩ := hr.col h0 h1
  clear hr
  obtain ⟨k, hk⟩ : ∃ k, cmpV u v = k := ⟨_, rfl⟩
  have HL := Lib.hid (Pr.leaf_val (o := o) (w := w) h0 h1 hu hk)
  have HK := Lib.hid hk
  have q0 := fun o : Obj => cell_old (o := o) (x.cell d0)
  have q1 := fun o : Obj => cell_old (o := o) (x.cell d1)
  have q2 := fun o : Obj => cell_old (o := o) (x.cell d2)
  have HU := Lib.hid (hfit u (List.mem_of_getElem? hu))
  clear hfit
  clear hk hu

  rcases Pr.op_cases o with rfl | rfl | rfl | rfl | rfl | rfl | ⟨o3, o4, o5, o6, o7, o8⟩
  · have HV := Lib.hid (HL.out.trans (by simp : _ = decide (k = 0)))
    go_enter Tryd.func81, Tryd.ntmps81
    go_wp2_with fail
    refine calls_here fun W1 hW1 => ?_
    have hb0 : Below W.heap.size W W1 := hW1 ▸ x.more2 _ _
    have f0' : W1.cell? ⟨x.1.heap.size, 0, none⟩ = some (.int .i64 3) := by rw [hW1]; exact cell_old (by rw [cell_new rfl]; rfl)
    have f5' : W1.cell? ⟨x.1.heap.size, 5, none⟩ = some (.bool w.t) := by rw [hW1]; exact cell_old (by rw [cell_new rfl]; rfl)
    have f6' : W1.cell? ⟨x.1.heap.size, 6, none⟩ = some (.int .i64 w.n) := by rw [hW1]; exact cell_old (by rw [cell_new rfl]; rfl)
    have f7' : W1.cell? ⟨x.1.heap.size, 7, none⟩ = some (.string w.s) := by rw [hW1]; exact cell_old (by rw [cell_new rfl]; rfl)
    have u0' : W1.cell? ⟨x.1.heap.size + 1, 0, none⟩ = some (.bool u.t) := by rw [hW1, cell_new (by simp)]; rfl
    have u1' : W1.cell? ⟨x.1.heap.size + 1, 1, none⟩ = some (.int .i64 u.n) := by rw [hW1, cell_new (by simp)]; rfl
    have u2' : W1.cell? ⟨x.1.heap.size + 1, 2, none⟩ = some (.string u.s) := by rw [hW1, cell_new (by simp)]; rfl
    have f0 := fun z : Lt W1 => z.cell f0'
    have f5 := fun z : Lt W1 => z.cell f5'
    have f6 := fun z : Lt W1 => z.cell f6'
    have f7 := fun z : Lt W1 => z.cell f7'
    have u0 := fun z : Lt W1 => z.cell u0'
    have u1 := fun z : Lt W1 => z.cell u1'
    have u2 := fun z : Lt W1 => z.cell u2'
    clear hW1 f0' f5' f6' f7' u0' u1' u2' d0 d1 d2 q0 q1 q2
    refine (rcompare_is HK.out HU.out (Lt.base W1)).mono ?_; rintro e w' ⟨rfl, y, rfl⟩
    go_wp2_with fail
    go_ret
    exact ⟨ret_bool (by rw [HV.out]; first | done | rfl | exact beq_dec _ | exact bne_dec _), y.via hb0, rfl⟩
  · have HV := Lib.hid (HL.out.trans (by simp : _ = decide (k ≠ 0)))
    go_enter Tryd.func81, Tryd.ntmps81
    go_wp2_with fail
    refine calls_here fun W1 hW1 => ?_
    have hb0 : Below W.heap.size W W1 := hW1 ▸ x.more2 _ _
    have f0' : W1.cell? ⟨x.1.heap.size, 0, none⟩ = some (.int .i64 4) := by rw [hW1]; exact cell_old (by rw [cell_new rfl]; rfl)
    have f5' : W1.cell? ⟨x.1.heap.size, 5, none⟩ = some (.bool w.t) := by rw [hW1]; exact cell_old (by rw [cell_new rfl]; rfl)
    have f6' : W1.cell? ⟨x.1.heap.size, 6, none⟩ = some (.int .i64 w.n) := by rw [hW1]; exact cell_old (by rw [cell_new rfl]; rfl)
    have f7' : W1.cell? ⟨x.1.heap.size, 7, none⟩ = some (.string w.s) := by rw [hW1]; exact cell_old (by rw [cell_new rfl]; rfl)
    have u0' : W1.cell? ⟨x.1.heap.size + 1, 0, none⟩ = some (.bool u.t) := by rw [hW1, cell_new (by simp)]; rfl
    have u1' : W1.cell? ⟨x.1.heap.size + 1, 1, none⟩ = some (.int .i64 u.n) := by rw [hW1, cell_new (by simp)]; rfl
    have u2' : W1.cell? ⟨x.1.heap.size + 1, 2, none⟩ = some (.string u.s) := by rw [hW1, cell_new (by simp)]; rfl
    have f0 := fun z : Lt W1 => z.cell f0'
    have f5 := fun z : Lt W1 => z.cell f5'
    have f6 := fun z : Lt W1 => z.cell f6'
    have f7 := fun z : Lt W1 => z.cell f7'
    have u0 := fun z : Lt W1 => z.cell u0'
    have u1 := fun z : Lt W1 => z.cell u1'
    have u2 := fun z : Lt W1 => z.cell u2'
    clear hW1 f0' f5' f6' f7' u0' u1' u2' d0 d1 d2 q0 q1 q2
    refine (rcompare_is HK.out HU.out (Lt.base W1)).mono ?_; rintro e w' ⟨rfl, y, rfl⟩
    go_wp2_with fail
    go_ret
    exact ⟨ret_bool (by rw [HV.out]; first | done | rfl | exact beq_dec _ | exact bne_dec _), y.via hb0, rfl⟩
  · have HV := Lib.hid (HL.out.trans (by simp : _ = decide (k < 0)))
    go_enter Tryd.func81, Tryd.ntmps81
    go_wp2_with fail
    refine calls_here fun W1 hW1 => ?_
    have hb0 : Below W.heap.size W W1 := hW1 ▸ x.more2 _ _
    have f0' : W1.cell? ⟨x.1.heap.size, 0, none⟩ = some (.int .i64 5) := by rw [hW1]; exact cell_old (by rw [cell_new rfl]; rfl)
    have f5' : W1.cell? ⟨x.1.heap.size, 5, none⟩ = some (.bool w.t) := by rw [hW1]; exact cell_old (by rw [cell_new rfl]; rfl)
    have f6' : W1.cell? ⟨x.1.heap.size, 6, none⟩ = some (.int .i64 w.n) := by rw [hW1]; exact cell_old (by rw [cell_new rfl]; rfl)
    have f7' : W1.cell? ⟨x.1.heap.size, 7, none⟩ = some (.string w.s) := by rw [hW1]; exact cell_old (by rw [cell_new rfl]; rfl)
    have u0' : W1.cell? ⟨x.1.heap.size + 1, 0, none⟩ = some (.bool u.t) := by rw [hW1, cell_new (by simp)]; rfl
    have u1' : W1.cell? ⟨x.1.heap.size + 1, 1, none⟩ = some (.int .i64 u.n) := by rw [hW1, cell_new (by simp)]; rfl
    have u2' : W1.cell? ⟨x.1.heap.size + 1, 2, none⟩ = some (.string u.s) := by rw [hW1, cell_new (by simp)]; rfl
    have f0 := fun z : Lt W1 => z.cell f0'
    have f5 := fun z : Lt W1 => z.cell f5'
    have f6 := fun z : Lt W1 => z.cell f6'
    have f7 := fun z : Lt W1 => z.cell f7'
    have u0 := fun z : Lt W1 => z.cell u0'
    have u1 := fun z : Lt W1 => z.cell u1'
    have u2 := fun z : Lt W1 => z.cell u2'
    clear hW1 f0' f5' f6' f7' u0' u1' u2' d0 d1 d2 q0 q1 q2
    refine (rcompare_is HK.out HU.out (Lt.base W1)).mono ?_; rintro e w' ⟨rfl, y, rfl⟩
    go_wp2_with fail
    go_ret
    exact ⟨ret_bool (by rw [HV.out]; first | done | rfl | exact beq_dec _ | exact bne_dec _), y.via hb0, rfl⟩
  · have HV := Lib.hid (HL.out.trans (by simp : _ = decide (k ≤ 0)))
    go_enter Tryd.func81, Tryd.ntmps81
    go_wp2_with fail
    refine calls_here fun W1 hW1 => ?_
    have hb0 : Below W.heap.size W W1 := hW1 ▸ x.more2 _ _
    have f0' : W1.cell? ⟨x.1.heap.size, 0, none⟩ = some (.int .i64 6) := by rw [hW1]; exact cell_old (by rw [cell_new rfl]; rfl)
    have f5' : W1.cell? ⟨x.1.heap.size, 5, none⟩ = some (.bool w.t) := by rw [hW1]; exact cell_old (by rw [cell_new rfl]; rfl)
    have f6' : W1.cell? ⟨x.1.heap.size, 6, none⟩ = some (.int .i64 w.n) := by rw [hW1]; exact cell_old (by rw [cell_new rfl]; rfl)
    have f7' : W1.cell? ⟨x.1.heap.size, 7, none⟩ = some (.string w.s) := by rw [hW1]; exact cell_old (by rw [cell_new rfl]; rfl)
    have u0' : W1.cell? ⟨x.1.heap.size + 1, 0, none⟩ = some (.bool u.t) := by rw [hW1, cell_new (by simp)]; rfl
    have u1' : W1.cell? ⟨x.1.heap.size + 1, 1, none⟩ = some (.int .i64 u.n) := by rw [hW1, cell_new (by simp)]; rfl
    have u2' : W1.cell? ⟨x.1.heap.size + 1, 2, none⟩ = some (.string u.s) := by rw [hW1, cell_new (by simp)]; rfl
    have f0 := fun z : Lt W1 => z.cell f0'
    have f5 := fun z : Lt W1 => z.cell f5'
    have f6 := fun z : Lt W1 => z.cell f6'
    have f7 := fun z : Lt W1 => z.cell f7'
    have u0 := fun z : Lt W1 => z.cell u0'
    have u1 := fun z : Lt W1 => z.cell u1'
    have u2 := fun z : Lt W1 => z.cell u2'
    clear hW1 f0' f5' f6' f7' u0' u1' u2' d0 d1 d2 q0 q1 q2
    refine (rcompare_is HK.out HU.out (Lt.base W1)).mono ?_; rintro e w' ⟨rfl, y, rfl⟩
    go_wp2_with fail
    go_ret
    exact ⟨ret_bool (by rw [HV.out]; first | done | rfl | exact beq_dec _ | exact bne_dec _), y.via hb0, rfl⟩
  · have HV := Lib.hid (HL.out.trans (by simp : _ = decide (0 < k)))
    go_enter Tryd.func81, Tryd.ntmps81
    go_wp2_with fail
    refine calls_here fun W1 hW1 => ?_
    have hb0 : Below W.heap.size W W1 := hW1 ▸ x.more2 _ _
    have f0' : W1.cell? ⟨x.1.heap.size, 0, none⟩ = some (.int .i64 7) := by rw [hW1]; exact cell_old (by rw [cell_new rfl]; rfl)
    have f5' : W1.cell? ⟨x.1.heap.size, 5, none⟩ = some (.bool w.t) := by rw [hW1]; exact cell_old (by rw [cell_new rfl]; rfl)
    have f6' : W1.cell? ⟨x.1.heap.size, 6, none⟩ = some (.int .i64 w.n) := by rw [hW1]; exact cell_old (by rw [cell_new rfl]; rfl)
    have f7' : W1.cell? ⟨x.1.heap.size, 7, none⟩ = some (.string w.s) := by rw [hW1]; exact cell_old (by rw [cell_new rfl]; rfl)
    have u0' : W1.cell? ⟨x.1.heap.size + 1, 0, none⟩ = some (.bool u.t) := by rw [hW1, cell_new (by simp)]; rfl
    have u1' : W1.cell? ⟨x.1.heap.size + 1, 1, none⟩ = some (.int .i64 u.n) := by rw [hW1, cell_new (by simp)]; rfl
    have u2' : W1.cell? ⟨x.1.heap.size + 1, 2, none⟩ = some (.string u.s) := by rw [hW1, cell_new (by simp)]; rfl
    have f0 := fun z : Lt W1 => z.cell f0'
    have f5 := fun z : Lt W1 => z.cell f5'
    have f6 := fun z : Lt W1 => z.cell f6'
    have f7 := fun z : Lt W1 => z.cell f7'
    have u0 := fun z : Lt W1 => z.cell u0'
    have u1 := fun z : Lt W1 => z.cell u1'
    have u2 := fun z : Lt W1 => z.cell u2'
    clear hW1 f0' f5' f6' f7' u0' u1' u2' d0 d1 d2 q0 q1 q2
    refine (rcompare_is HK.out HU.out (Lt.base W1)).mono ?_; rintro e w' ⟨rfl, y, rfl⟩
    go_wp2_with fail
    go_ret
    exact ⟨ret_bool (by rw [HV.out]; first | done | rfl | exact beq_dec _ | exact bne_dec _), y.via hb0, rfl⟩
  · have HV := Lib.hid (HL.out.trans (by simp : _ = decide (0 ≤ k)))
    go_enter Tryd.func81, Tryd.ntmps81
    go_wp2_with fail
    refine calls_here fun W1 hW1 => ?_
    have hb0 : Below W.heap.size W W1 := hW1 ▸ x.more2 _ _
    have f0' : W1.cell? ⟨x.1.heap.size, 0, none⟩ = some (.int .i64 8) := by rw [hW1]; exact cell_old (by rw [cell_new rfl]; rfl)
    have f5' : W1.cell? ⟨x.1.heap.size, 5, none⟩ = some (.bool w.t) := by rw [hW1]; exact cell_old (by rw [cell_new rfl]; rfl)
    have f6' : W1.cell? ⟨x.1.heap.size, 6, none⟩ = some (.int .i64 w.n) := by rw [hW1]; exact cell_old (by rw [cell_new rfl]; rfl)
    have f7' : W1.cell? ⟨x.1.heap.size, 7, none⟩ = some (.string w.s) := by rw [hW1]; exact cell_old (by rw [cell_new rfl]; rfl)
    have u0' : W1.cell? ⟨x.1.heap.size + 1, 0, none⟩ = some (.bool u.t) := by rw [hW1, cell_new (by simp)]; rfl
    have u1' : W1.cell? ⟨x.1.heap.size + 1, 1, none⟩ = some (.int .i64 u.n) := by rw [hW1, cell_new (by simp)]; rfl
    have u2' : W1.cell? ⟨x.1.heap.size + 1, 2, none⟩ = some (.string u.s) := by rw [hW1, cell_new (by simp)]; rfl
    have f0 := fun z : Lt W1 => z.cell f0'
    have f5 := fun z : Lt W1 => z.cell f5'
    have f6 := fun z : Lt W1 => z.cell f6'
    have f7 := fun z : Lt W1 => z.cell f7'
    have u0 := fun z : Lt W1 => z.cell u0'
    have u1 := fun z : Lt W1 => z.cell u1'
    have u2 := fun z : Lt W1 => z.cell u2'
    clear hW1 f0' f5' f6' f7' u0' u1' u2' d0 d1 d2 q0 q1 q2
    refine (rcompare_is HK.out HU.out (Lt.base W1)).mono ?_; rintro e w' ⟨rfl, y, rfl⟩
    go_wp2_with fail
    go_ret
    exact ⟨ret_bool (by rw [HV.out]; first | done | rfl | exact beq_dec _ | exact bne_dec _), y.via hb0, rfl⟩
  · have o3' := beq_eq_false_iff_ne.1 o3
    have o4' := beq_eq_false_iff_ne.1 o4
    have o5' := beq_eq_false_iff_ne.1 o5
    have o6' := beq_eq_false_iff_ne.1 o6
    have o7' := beq_eq_false_iff_ne.1 o7
    have o8' := beq_eq_false_iff_ne.1 o8
    have HV := Lib.hid (HL.out.trans (by simp only [o3', o4', o5', o6', o7', o8', if_false] : _ = (decide (0 ≤ k) && decide (cmpV u w ≤ 0))))
    clear o3' o4' o5' o6' o7' o8'
    by_cases hk0 : 0 ≤ k
    · have hdk := decide_eq_true hk0
      obtain ⟨k2, hk2⟩ : ∃ k2, cmpV u w = k2 := ⟨_, rfl⟩
      have HK2 := Lib.hid hk2
      clear hk2
      go_enter Tryd.func81, Tryd.ntmps81
      go_wp2_with fail
      refine calls_here fun W1 hW1 => ?_
      have hb0 : Below W.heap.size W W1 := hW1 ▸ x.more2 _ _
      have f0' : W1.cell? ⟨x.1.heap.size, 0, none⟩ = some (.int .i64 o) := by rw [hW1]; exact cell_old (by rw [cell_new rfl]; rfl)
      have f5' : W1.cell? ⟨x.1.heap.size, 5, none⟩ = some (.bool w.t) := by rw [hW1]; exact cell_old (by rw [cell_new rfl]; rfl)
      have f6' : W1.cell? ⟨x.1.heap.size, 6, none⟩ = some (.int .i64 w.n) := by rw [hW1]; exact cell_old (by rw [cell_new rfl]; rfl)
      have f7' : W1.cell? ⟨x.1.heap.size, 7, none⟩ = some (.string w.s) := by rw [hW1]; exact cell_old (by rw [cell_new rfl]; rfl)
      have u0' : W1.cell? ⟨x.1.heap.size + 1, 0, none⟩ = some (.bool u.t) := by rw [hW1, cell_new (by simp)]; rfl
      have u1' : W1.cell? ⟨x.1.heap.size + 1, 1, none⟩ = some (.int .i64 u.n) := by rw [hW1, cell_new (by simp)]; rfl
      have u2' : W1.cell? ⟨x.1.heap.size + 1, 2, none⟩ = some (.string u.s) := by rw [hW1, cell_new (by simp)]; rfl
      have f0 := fun z : Lt W1 => z.cell f0'
      have f5 := fun z : Lt W1 => z.cell f5'
      have f6 := fun z : Lt W1 => z.cell f6'
      have f7 := fun z : Lt W1 => z.cell f7'
      have u0 := fun z : Lt W1 => z.cell u0'
      have u1 := fun z : Lt W1 => z.cell u1'
      have u2 := fun z : Lt W1 => z.cell u2'
      clear hW1 f0' f5' f6' f7' u0' u1' u2' d0 d1 d2 q0 q1 q2
      refine (rcompare_is HK.out HU.out (Lt.base W1)).mono ?_; rintro e w' ⟨rfl, y, rfl⟩
      go_wp2_with fail
      refine (rcompare_is HK2.out HU.out y).mono ?_; rintro e w' ⟨rfl, y2, rfl⟩
      go_wp2_with fail
      go_ret
      exact ⟨ret_bool (by rw [HV.out, HK2.out, decide_eq_true hk0]; simp), y2.via hb0, rfl⟩
    · have hdk : decide (0 ≤ k) = false := decide_eq_false hk0
      have hk0' : k < 0 := by omega
      clear hk0
      have HV2 := Lib.hid (HV.out.trans (by rw [hdk]; rfl : _ = false))
      go_enter Tryd.func81, Tryd.ntmps81
      go_wp2_with fail
      refine calls_here fun W1 hW1 => ?_
      have hb0 : Below W.heap.size W W1 := hW1 ▸ x.more2 _ _
      have f0' : W1.cell? ⟨x.1.heap.size, 0, none⟩ = some (.int .i64 o) := by rw [hW1]; exact cell_old (by rw [cell_new rfl]; rfl)
      have f5' : W1.cell? ⟨x.1.heap.size, 5, none⟩ = some (.bool w.t) := by rw [hW1]; exact cell_old (by rw [cell_new rfl]; rfl)
      have f6' : W1.cell? ⟨x.1.heap.size, 6, none⟩ = some (.int .i64 w.n) := by rw [hW1]; exact cell_old (by rw [cell_new rfl]; rfl)
      have f7' : W1.cell? ⟨x.1.heap.size, 7, none⟩ = some (.string w.s) := by rw [hW1]; exact cell_old (by rw [cell_new rfl]; rfl)
      have u0' : W1.cell? ⟨x.1.heap.size + 1, 0, none⟩ = some (.bool u.t) := by rw [hW1, cell_new (by simp)]; rfl
      have u1' : W1.cell? ⟨x.1.heap.size + 1, 1, none⟩ = some (.int .i64 u.n) := by rw [hW1, cell_new (by simp)]; rfl
      have u2' : W1.cell? ⟨x.1.heap.size + 1, 2, none⟩ = some (.string u.s) := by rw [hW1, cell_new (by simp)]; rfl
      have f0 := fun z : Lt W1 => z.cell f0'
      have f5 := fun z : Lt W1 => z.cell f5'
      have f6 := fun z : Lt W1 => z.cell f6'
      have f7 := fun z : Lt W1 => z.cell f7'
      have u0 := fun z : Lt W1 => z.cell u0'
      have u1 := fun z : Lt W1 => z.cell u1'
      have u2 := fun z : Lt W1 => z.cell u2'
      clear hW1 f0' f5' f6' f7' u0' u1' u2' d0 d1 d2 q0 q1 q2
      refine (rcompare_is HK.out HU.out (Lt.base W1)).mono ?_; rintro e w' ⟨rfl, y, rfl⟩
      go_wp2_with fail
      go_ret
      exact ⟨ret_bool HV2.out.symm, y.via hb0, rfl⟩
end Go.Proofs.YtghpildnajdlpaaDoor
