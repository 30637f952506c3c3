/-
  Whether a predicate may be a table's, walked: the document's part and May. Conditions: table and predicate lie in memory as they read; at most a billion parts.
-/
import Derived.Test.YtghpildnajdlpaaDoorPrPlain
namespace Go.Proofs.YtghpildnajdlpaaDoor
open Go.RowKit

set_option maxHeartbeats 2000000 in
theorem rcol_any {W : World} {A : Option Addr} {t : List Bool} {ca : Nat} {c : Int} {v : Val} (ht : ColsAt W A t) (x : Lt W) :
    Calls Tryd.prog 74 #[.agg #[.slice A t.length ca], .int .i64 c, .agg #[.bool v.t, .int .i64 v.n, .string v.s]] x.1 fun e w' => e = .returned (.bool (Pr.inCol t c v)) ∧ ∃ y : Lt W, w' = y.1 := by
  obtain ⟨ri, hri⟩ : ∃ ri, v.right = ri := ⟨_, rfl⟩
  have HRI := Lib.hid hri
  by_cases h0 : 0 ≤ c
  case neg =>
    have HF := Lib.hid (Pr.inCol_low (t := t) (v := v) (by omega : c < 0))
    have hd : decide (0 ≤ c) = false := decide_eq_false h0
    have hc0 : c < 0 := by omega
    clear h0 hri
    go_enter Tryd.func74, Tryd.ntmps74
    go_wp2_with fail
    refine calls_here fun W1 hW1 => ?_
    have hb0 : Below W.heap.size W W1 := hW1 ▸ x.more2 _ _
    have k0 : W1.cell? ⟨x.1.heap.size, 0, none⟩ = some (.slice A t.length ca) := by rw [hW1]; exact cell_old (by rw [cell_new rfl]; rfl)
    have k1 : W1.cell? ⟨x.1.heap.size + 1, 0, none⟩ = some (.bool v.t) := by rw [hW1, cell_new (by simp)]; rfl
    have z0 := fun z : Lt W1 => z.cell k0
    have z1 := fun z : Lt W1 => z.cell k1
    clear hW1 k0 k1
    refine (rvright_is HRI.out (Lt.base W1)).mono ?_; rintro e w' ⟨rfl, y, rfl⟩
    go_wp2_with fail
    refine wp_region_pure _ (by kernel_rfl) (by kernel_rfl) ?_
    repeat (go_big_quiet_step (fail))
    refine wpQuiet_nil ?_; intro _ hw'; obtain ⟨z, rfl⟩ := hw'
    go_wp2_with fail
    go_ret
    exact ⟨ret_bool HF.out.symm, z.via hb0, rfl⟩
  have hd0 : decide (0 ≤ c) = true := decide_eq_true h0
  by_cases h1 : c < t.length
  case neg =>
    have HF := Lib.hid (Pr.inCol_high (v := v) h0 (by omega : (t.length : Int) ≤ c))
    have hd : decide (c < (t.length : Int)) = false := decide_eq_false h1
    have hc0 : (t.length : Int) ≤ c := by omega
    clear h1 hri
    go_enter Tryd.func74, Tryd.ntmps74
    go_wp2_with fail
    refine calls_here fun W1 hW1 => ?_
    have hb0 : Below W.heap.size W W1 := hW1 ▸ x.more2 _ _
    have k0 : W1.cell? ⟨x.1.heap.size, 0, none⟩ = some (.slice A t.length ca) := by rw [hW1]; exact cell_old (by rw [cell_new rfl]; rfl)
    have k1 : W1.cell? ⟨x.1.heap.size + 1, 0, none⟩ = some (.bool v.t) := by rw [hW1, cell_new (by simp)]; rfl
    have z0 := fun z : Lt W1 => z.cell k0
    have z1 := fun z : Lt W1 => z.cell k1
    clear hW1 k0 k1
    refine (rvright_is HRI.out (Lt.base W1)).mono ?_; rintro e w' ⟨rfl, y, rfl⟩
    go_wp2_with fail
    refine wp_region_pure _ (by kernel_rfl) (by kernel_rfl) ?_
    repeat (go_big_quiet_step (fail))
    refine wpQuiet_nil ?_; intro _ hw'; obtain ⟨z, rfl⟩ := hw'
    go_wp2_with fail
    go_ret
    exact ⟨ret_bool HF.out.symm, z.via hb0, rfl⟩
  have hd1 : decide (c < (t.length : Int)) = true := decide_eq_true h1
  obtain ⟨u, b, off, hu, rfl, d0⟩ := ht.col h0 h1
  have HF := Lib.hid (Pr.inCol_at (v := v) h0 hu)
  clear hu
  by_cases hk : v.t = u
  · have hn : (v.t == u) = true := by simpa using hk
    have HV := Lib.hid (show Pr.inCol t c v = ri by rw [HF.out, decide_eq_true hk, hri]; rfl)
    clear hk hri
    cases ri
    · go_enter Tryd.func74, Tryd.ntmps74
      go_wp2_with fail
      refine calls_here fun W1 hW1 => ?_
      have hb0 : Below W.heap.size W W1 := hW1 ▸ x.more2 _ _
      have k0 : W1.cell? ⟨x.1.heap.size, 0, none⟩ = some (.slice (some ⟨b, off, none⟩) t.length ca) := by rw [hW1]; exact cell_old (by rw [cell_new rfl]; rfl)
      have k1 : W1.cell? ⟨x.1.heap.size + 1, 0, none⟩ = some (.bool v.t) := by rw [hW1, cell_new (by simp)]; rfl
      have z0 := fun z : Lt W1 => z.cell k0
      have z1 := fun z : Lt W1 => z.cell k1
      have d1 := fun z : Lt W1 => z.old hb0 d0
      clear d0
      clear hW1 k0 k1
      refine (rvright_is HRI.out (Lt.base W1)).mono ?_; rintro e w' ⟨rfl, y, rfl⟩
      go_wp2_with fail
      refine wp_region_pure _ (by kernel_rfl) (by kernel_rfl) ?_
      repeat (go_big_quiet_step (fail))
      refine wpQuiet_nil ?_; intro _ hw'; obtain ⟨z, rfl⟩ := hw'
      go_wp2_with fail
      go_ret
      exact ⟨ret_bool HV.out.symm, z.via hb0, rfl⟩
    · go_enter Tryd.func74, Tryd.ntmps74
      go_wp2_with fail
      refine calls_here fun W1 hW1 => ?_
      have hb0 : Below W.heap.size W W1 := hW1 ▸ x.more2 _ _
      have k0 : W1.cell? ⟨x.1.heap.size, 0, none⟩ = some (.slice (some ⟨b, off, none⟩) t.length ca) := by rw [hW1]; exact cell_old (by rw [cell_new rfl]; rfl)
      have k1 : W1.cell? ⟨x.1.heap.size + 1, 0, none⟩ = some (.bool v.t) := by rw [hW1, cell_new (by simp)]; rfl
      have z0 := fun z : Lt W1 => z.cell k0
      have z1 := fun z : Lt W1 => z.cell k1
      have d1 := fun z : Lt W1 => z.old hb0 d0
      clear d0
      clear hW1 k0 k1
      refine (rvright_is HRI.out (Lt.base W1)).mono ?_; rintro e w' ⟨rfl, y, rfl⟩
      go_wp2_with fail
      refine wp_region_pure _ (by kernel_rfl) (by kernel_rfl) ?_
      repeat (go_big_quiet_step (fail))
      refine wpQuiet_nil ?_; intro _ hw'; obtain ⟨z, rfl⟩ := hw'
      go_wp2_with fail
      go_ret
      exact ⟨ret_bool HV.out.symm, z.via hb0, rfl⟩
  · have hn : (v.t == u) = false := by simpa using hk
    have HV := Lib.hid (show Pr.inCol t c v = false by rw [HF.out, decide_eq_false hk]; rfl)
    clear hk hri
    cases ri
    · go_enter Tryd.func74, Tryd.ntmps74
      go_wp2_with fail
      refine calls_here fun W1 hW1 => ?_
      have hb0 : Below W.heap.size W W1 := hW1 ▸ x.more2 _ _
      have k0 : W1.cell? ⟨x.1.heap.size, 0, none⟩ = some (.slice (some ⟨b, off, none⟩) t.length ca) := by rw [hW1]; exact cell_old (by rw [cell_new rfl]; rfl)
      have k1 : W1.cell? ⟨x.1.heap.size + 1, 0, none⟩ = some (.bool v.t) := by rw [hW1, cell_new (by simp)]; rfl
      have z0 := fun z : Lt W1 => z.cell k0
      have z1 := fun z : Lt W1 => z.cell k1
      have d1 := fun z : Lt W1 => z.old hb0 d0
      clear d0
      clear hW1 k0 k1
      refine (rvright_is HRI.out (Lt.base W1)).mono ?_; rintro e w' ⟨rfl, y, rfl⟩
      go_wp2_with fail
      refine wp_region_pure _ (by kernel_rfl) (by kernel_rfl) ?_
      repeat (go_big_quiet_step (fail))
      refine wpQuiet_nil ?_; intro _ hw'; obtain ⟨z, rfl⟩ := hw'
      go_wp2_with fail
      go_ret
      exact ⟨ret_bool HV.out.symm, z.via hb0, rfl⟩
    · go_enter Tryd.func74, Tryd.ntmps74
      go_wp2_with fail
      refine calls_here fun W1 hW1 => ?_
      have hb0 : Below W.heap.size W W1 := hW1 ▸ x.more2 _ _
      have k0 : W1.cell? ⟨x.1.heap.size, 0, none⟩ = some (.slice (some ⟨b, off, none⟩) t.length ca) := by rw [hW1]; exact cell_old (by rw [cell_new rfl]; rfl)
      have k1 : W1.cell? ⟨x.1.heap.size + 1, 0, none⟩ = some (.bool v.t) := by rw [hW1, cell_new (by simp)]; rfl
      have z0 := fun z : Lt W1 => z.cell k0
      have z1 := fun z : Lt W1 => z.cell k1
      have d1 := fun z : Lt W1 => z.old hb0 d0
      clear d0
      clear hW1 k0 k1
      refine (rvright_is HRI.out (Lt.base W1)).mono ?_; rintro e w' ⟨rfl, y, rfl⟩
      go_wp2_with fail
      refine wp_region_pure _ (by kernel_rfl) (by kernel_rfl) ?_
      repeat (go_big_quiet_step (fail))
      refine wpQuiet_nil ?_; intro _ hw'; obtain ⟨z, rfl⟩ := hw'
      go_wp2_with fail
      go_ret
      exact ⟨ret_bool HV.out.symm, z.via hb0, rfl⟩

theorem Pr.parts_kid {t : List Bool} {o c : Int} {v w : Val} {l : List Pr} {k : Nat} {q : Pr} (hq : l[k]? = some q) (h : q.parts t = false) : (Pr.mk o c v w l).parts t = false := by
  rw [Pr.parts_mk]
  have : l.all (Pr.parts t) = false := by
    rw [← Bool.not_eq_true, List.all_eq_true]
    intro ha
    have := ha q (List.mem_of_getElem? hq)
    rw [h] at this; cases this
  rw [this, Bool.and_false]
theorem Pr.parts_end {t : List Bool} {o c : Int} {v w : Val} {l : List Pr} (h : ∀ (i : Nat) (q : Pr), i < l.length → l[i]? = some q → q.parts t = true) : (Pr.mk o c v w l).parts t = Pr.partOk t o c v w l.length := by
  rw [Pr.parts_mk]
  have : l.all (Pr.parts t) = true := by
    rw [List.all_eq_true]
    intro q hq
    obtain ⟨i, hi⟩ := List.mem_iff_getElem?.1 hq
    exact h i q (List.getElem?_eq_some_iff.1 hi).1 hi
  rw [this, Bool.and_true]

set_option maxHeartbeats 4000000 in
theorem rpart_any {A0 : Option Addr} {t : List Bool} {ca0 : Nat} (p : Pr) : ∀ {W : World} (x : Lt W) {A : Option Addr} {ca : Nat}, ColsAt W A0 t → p.At W A ca → p.size ≤ 1000000000 →
    Calls Tryd.prog 56 #[.agg #[.slice A0 t.length ca0], p.arg A ca] x.1 fun e w' => e = .returned (.bool (p.parts t)) ∧ ∃ y : Lt W, w' = y.1 := by
  refine Pr.ind (P := fun p => ∀ {W : World} (x : Lt W) {A : Option Addr} {ca : Nat}, ColsAt W A0 t → p.At W A ca → p.size ≤ 1000000000 →
    Calls Tryd.prog 56 #[.agg #[.slice A0 t.length ca0], p.arg A ca] x.1 fun e w' => e = .returned (.bool (p.parts t)) ∧ ∃ y : Lt W, w' = y.1) ?_ p
  rintro ⟨o, c, v, w, l⟩ ih W x A ca ht hat hsz
  have IH := Lib.hid ih
  have hlen : l.length ≤ 1000000000 := by have h1 := Pr.len_le l; have h2 := Pr.size_mk o c v w l; omega
  clear ih
  show Calls Tryd.prog 56 #[.agg #[.slice A0 t.length ca0], .agg #[.int .i64 o, .int .i64 c, .bool v.t, .int .i64 v.n, .string v.s, .bool w.t, .int .i64 w.n, .string w.s, .slice A l.length ca]] x.1 _
  go_enter Tryd.func56, Tryd.ntmps56
  go_wp2_with fail
  refine wp_here fun W1 hW1 => ?_
  have hb0 : Below W.heap.size W W1 := hW1 ▸ x.more2 _ _
  have k0 : W1.cell? ⟨x.1.heap.size, 0, none⟩ = some (.slice A0 t.length ca0) := by rw [hW1]; exact cell_old (by rw [cell_new rfl]; rfl)
  have g0 : W1.cell? ⟨x.1.heap.size + 1, 0, none⟩ = some (.int .i64 o) := by rw [hW1, cell_new (by simp)]; rfl
  have g1 : W1.cell? ⟨x.1.heap.size + 1, 1, none⟩ = some (.int .i64 c) := by rw [hW1, cell_new (by simp)]; rfl
  have g2 : W1.cell? ⟨x.1.heap.size + 1, 2, none⟩ = some (.bool v.t) := by rw [hW1, cell_new (by simp)]; rfl
  have g3 : W1.cell? ⟨x.1.heap.size + 1, 3, none⟩ = some (.int .i64 v.n) := by rw [hW1, cell_new (by simp)]; rfl
  have g4 : W1.cell? ⟨x.1.heap.size + 1, 4, none⟩ = some (.string v.s) := by rw [hW1, cell_new (by simp)]; rfl
  have g5 : W1.cell? ⟨x.1.heap.size + 1, 5, none⟩ = some (.bool w.t) := by rw [hW1, cell_new (by simp)]; rfl
  have g6 : W1.cell? ⟨x.1.heap.size + 1, 6, none⟩ = some (.int .i64 w.n) := by rw [hW1, cell_new (by simp)]; rfl
  have g7 : W1.cell? ⟨x.1.heap.size + 1, 7, none⟩ = some (.string w.s) := by rw [hW1, cell_new (by simp)]; rfl
  have g8 : W1.cell? ⟨x.1.heap.size + 1, 8, none⟩ = some (.slice A l.length ca) := by rw [hW1, cell_new (by simp)]; rfl
  have h0 := fun z : Lt W1 => z.cell k0
  have h8 := fun z : Lt W1 => z.cell g8
  clear hW1
  go_loopw [5, 6] (fun i _ wr => ∃ (k : Nat) (y : Lt W1), wr = y.1 ∧ i = .int .i64 k ∧ k ≤ l.length ∧ ∀ (i : Nat) (q : Pr), i < k → l[i]? = some q → q.parts t = true) (fun i _ _ => l.length - (intOf i).toNat)
  case atStart => exact ⟨0, Lt.base W1, rfl, rfl, by omega, fun i q hi => absurd hi (by omega)⟩
  case round =>
    obtain ⟨k, y, rfl, rfl, hk, hall⟩ := hrel
    have HA := Lib.hid hall
    clear hall
    by_cases hlt : k < l.length
    · obtain ⟨b, off, q, A', ca', hq, hmem, rfl, hcells, hqat⟩ := hat.kid hlt
      have hqs : q.size ≤ 1000000000 := by have := Pr.size_kid (p := .mk o c v w l) hmem; omega
      have HQ := Lib.hid hq
      obtain ⟨d0, d1, d2, d3, d4, d5, d6, d7, d8⟩ := hcells.below hb0
      obtain ⟨bs, hbs⟩ : ∃ bs, bs = q.parts t := ⟨_, rfl⟩
      have hcall : ∀ z : Lt W1, Calls Tryd.prog 56 #[.agg #[.slice A0 t.length ca0], q.arg A' ca'] z.1 fun e w' => e = .returned (.bool bs) ∧ ∃ y : Lt W1, w' = y.1 := fun z => hbs ▸ IH.out q hmem z (ht.below hb0) (hqat.below hb0) hqs
      have HC := Lib.hid hcall
      have HB := Lib.hid hbs
      have z0 := fun z : Lt W1 => z.cell d0
      have z1 := fun z : Lt W1 => z.cell d1
      have z2 := fun z : Lt W1 => z.cell d2
      have z3 := fun z : Lt W1 => z.cell d3
      have z4 := fun z : Lt W1 => z.cell d4
      have z5 := fun z : Lt W1 => z.cell d5
      have z6 := fun z : Lt W1 => z.cell d6
      have z7 := fun z : Lt W1 => z.cell d7
      have z8 := fun z : Lt W1 => z.cell d8
      clear hq hcall hbs hcells d0 d1 d2 d3 d4 d5 d6 d7 d8 g0 g1 g2 g3 g4 g5 g6 g7
      cases bs
      · have HF := Lib.hid (Pr.parts_kid (o := o) (c := c) (v := v) (w := w) HQ.out HB.out.symm)
        go_wp2_with fail
        refine wp_region_pure _ (by kernel_rfl) (by kernel_rfl) ?_
        repeat (go_big_quiet_step ((go_at_call 56; exact HC.out _)))
        refine wpQuiet_nil ?_; intro _ hw'; obtain ⟨z, rfl⟩ := hw'
        go_wp2_with fail
        go_ret
        exact ⟨ret_bool HF.out.symm, z.via hb0, rfl⟩
      · go_wp2_with fail
        refine wp_region_pure _ (by kernel_rfl) (by kernel_rfl) ?_
        repeat (go_big_quiet_step ((go_at_call 56; exact HC.out _)))
        refine wpQuiet_nil ?_; intro _ hw'; obtain ⟨z, rfl⟩ := hw'
        go_wp2_with fail
        go_roundw
        case rel => exact ⟨k + 1, z, rfl, by go_num, by omega, fun i q' hi hq' => by
          by_cases he : i = k
          · subst he
            rw [HQ.out] at hq'
            injection hq' with hq'
            exact hq' ▸ HB.out.symm
          · exact HA.out i q' (by omega) hq'⟩
        case measure => simp [intOf]; omega
    · obtain rfl : k = l.length := by omega
      have HF := Lib.hid (Pr.parts_end (o := o) (c := c) (v := v) (w := w) HA.out)
      have e0 := y.cell g0
      have e1 := y.cell g1
      have e2 := y.cell g2
      have e3 := y.cell g3
      have e4 := y.cell g4
      have e5 := y.cell g5
      have e6 := y.cell g6
      have e7 := y.cell g7
      have e8 := y.cell g8
      clear g0 g1 g2 g3 g4 g5 g6 g7 g8 h0 h8
      have hc1 := Lib.hid ((ht.below hb0).below y.2)
      have e9 := y.cell k0
      rcases Pr.ops o with rfl | rfl | rfl | rfl | rfl | rfl | rfl | rfl | rfl | rfl | rfl | rfl | hn
      · go_wp2_with fail
        go_ret
        exact ⟨ret_bool (by rw [HF.out]; rw [len_zero]; rfl), y.via hb0, rfl⟩
      · go_wp2_with fail
        go_ret
        exact ⟨ret_bool (by rw [HF.out]; rw [len_zero]; rfl), y.via hb0, rfl⟩
      · have HP := Lib.hid (show Pr.partOk t 3 c v w l.length = (decide (l.length = 0) && Pr.inCol t c v) from rfl)
        cases hl : ((l.length : Int) == 0)
        · have HE := Lib.hid (show decide (l.length = 0) = false by rw [← len_zero]; exact hl)
          go_wp2_with fail
          go_ret
          exact ⟨ret_bool (by rw [HF.out]; rw [HP.out, HE.out]; rfl), y.via hb0, rfl⟩
        · have HE := Lib.hid (show decide (l.length = 0) = true by rw [← len_zero]; exact hl)
          go_wp2_with fail
          refine (rcol_any hc1.out (Lt.base y.1)).mono ?_; rintro e w' ⟨rfl, z, rfl⟩
          go_wp2_with fail
          go_ret
          exact ⟨ret_bool (by rw [HF.out]; rw [HP.out, HE.out]; rfl), (z.via y.2).via hb0, rfl⟩
      · have HP := Lib.hid (show Pr.partOk t 4 c v w l.length = (decide (l.length = 0) && Pr.inCol t c v) from rfl)
        cases hl : ((l.length : Int) == 0)
        · have HE := Lib.hid (show decide (l.length = 0) = false by rw [← len_zero]; exact hl)
          go_wp2_with fail
          go_ret
          exact ⟨ret_bool (by rw [HF.out]; rw [HP.out, HE.out]; rfl), y.via hb0, rfl⟩
        · have HE := Lib.hid (show decide (l.length = 0) = true by rw [← len_zero]; exact hl)
          go_wp2_with fail
          refine (rcol_any hc1.out (Lt.base y.1)).mono ?_; rintro e w' ⟨rfl, z, rfl⟩
          go_wp2_with fail
          go_ret
          exact ⟨ret_bool (by rw [HF.out]; rw [HP.out, HE.out]; rfl), (z.via y.2).via hb0, rfl⟩
      · have HP := Lib.hid (show Pr.partOk t 5 c v w l.length = (decide (l.length = 0) && Pr.inCol t c v) from rfl)
        cases hl : ((l.length : Int) == 0)
        · have HE := Lib.hid (show decide (l.length = 0) = false by rw [← len_zero]; exact hl)
          go_wp2_with fail
          go_ret
          exact ⟨ret_bool (by rw [HF.out]; rw [HP.out, HE.out]; rfl), y.via hb0, rfl⟩
        · have HE := Lib.hid (show decide (l.length = 0) = true by rw [← len_zero]; exact hl)
          go_wp2_with fail
          refine (rcol_any hc1.out (Lt.base y.1)).mono ?_; rintro e w' ⟨rfl, z, rfl⟩
          go_wp2_with fail
          go_ret
          exact ⟨ret_bool (by rw [HF.out]; rw [HP.out, HE.out]; rfl), (z.via y.2).via hb0, rfl⟩
      · have HP := Lib.hid (show Pr.partOk t 6 c v w l.length = (decide (l.length = 0) && Pr.inCol t c v) from rfl)
        cases hl : ((l.length : Int) == 0)
        · have HE := Lib.hid (show decide (l.length = 0) = false by rw [← len_zero]; exact hl)
          go_wp2_with fail
          go_ret
          exact ⟨ret_bool (by rw [HF.out]; rw [HP.out, HE.out]; rfl), y.via hb0, rfl⟩
        · have HE := Lib.hid (show decide (l.length = 0) = true by rw [← len_zero]; exact hl)
          go_wp2_with fail
          refine (rcol_any hc1.out (Lt.base y.1)).mono ?_; rintro e w' ⟨rfl, z, rfl⟩
          go_wp2_with fail
          go_ret
          exact ⟨ret_bool (by rw [HF.out]; rw [HP.out, HE.out]; rfl), (z.via y.2).via hb0, rfl⟩
      · have HP := Lib.hid (show Pr.partOk t 7 c v w l.length = (decide (l.length = 0) && Pr.inCol t c v) from rfl)
        cases hl : ((l.length : Int) == 0)
        · have HE := Lib.hid (show decide (l.length = 0) = false by rw [← len_zero]; exact hl)
          go_wp2_with fail
          go_ret
          exact ⟨ret_bool (by rw [HF.out]; rw [HP.out, HE.out]; rfl), y.via hb0, rfl⟩
        · have HE := Lib.hid (show decide (l.length = 0) = true by rw [← len_zero]; exact hl)
          go_wp2_with fail
          refine (rcol_any hc1.out (Lt.base y.1)).mono ?_; rintro e w' ⟨rfl, z, rfl⟩
          go_wp2_with fail
          go_ret
          exact ⟨ret_bool (by rw [HF.out]; rw [HP.out, HE.out]; rfl), (z.via y.2).via hb0, rfl⟩
      · have HP := Lib.hid (show Pr.partOk t 8 c v w l.length = (decide (l.length = 0) && Pr.inCol t c v) from rfl)
        cases hl : ((l.length : Int) == 0)
        · have HE := Lib.hid (show decide (l.length = 0) = false by rw [← len_zero]; exact hl)
          go_wp2_with fail
          go_ret
          exact ⟨ret_bool (by rw [HF.out]; rw [HP.out, HE.out]; rfl), y.via hb0, rfl⟩
        · have HE := Lib.hid (show decide (l.length = 0) = true by rw [← len_zero]; exact hl)
          go_wp2_with fail
          refine (rcol_any hc1.out (Lt.base y.1)).mono ?_; rintro e w' ⟨rfl, z, rfl⟩
          go_wp2_with fail
          go_ret
          exact ⟨ret_bool (by rw [HF.out]; rw [HP.out, HE.out]; rfl), (z.via y.2).via hb0, rfl⟩
      · have HP := Lib.hid (show Pr.partOk t 9 c v w l.length = (decide (l.length = 0) && Pr.inCol t c v && Pr.inCol t c w) from rfl)
        cases hl : ((l.length : Int) == 0)
        · have HE := Lib.hid (show decide (l.length = 0) = false by rw [← len_zero]; exact hl)
          go_wp2_with fail
          go_ret
          exact ⟨ret_bool (by rw [HF.out]; rw [HP.out, HE.out]; rfl), y.via hb0, rfl⟩
        · have HE := Lib.hid (show decide (l.length = 0) = true by rw [← len_zero]; exact hl)
          cases hv : Pr.inCol t c v
          · have HV := Lib.hid hv
            clear hv
            go_wp2_with fail
            refine (rcol_any hc1.out (Lt.base y.1)).mono ?_; rintro e w' ⟨rfl, z, rfl⟩
            rw [HV.out]
            go_wp2_with fail
            go_ret
            exact ⟨ret_bool (by rw [HF.out]; rw [HP.out, HE.out, HV.out]; rfl), (z.via y.2).via hb0, rfl⟩
          · have HV := Lib.hid hv
            clear hv
            go_wp2_with fail
            refine (rcol_any hc1.out (Lt.base y.1)).mono ?_; rintro e w' ⟨rfl, z, rfl⟩
            rw [HV.out]
            have f9 := z.cell e9
            have f1 := z.cell e1
            have f5 := z.cell e5
            have f6 := z.cell e6
            have f7 := z.cell e7
            go_wp2_with fail
            refine (rcol_any (hc1.out.below z.2) (Lt.base z.1)).mono ?_; rintro e w' ⟨rfl, z2, rfl⟩
            go_wp2_with fail
            go_ret
            exact ⟨ret_bool (by rw [HF.out]; rw [HP.out, HE.out, HV.out]; rfl), ((z2.via z.2).via y.2).via hb0, rfl⟩
      · go_wp2_with fail
        go_ret
        exact ⟨ret_bool (by rw [HF.out]; rw [len_one]; rfl), y.via hb0, rfl⟩
      · go_wp2_with fail
        go_ret
        exact ⟨ret_bool (by rw [HF.out]; rfl), y.via hb0, rfl⟩
      · go_wp2_with fail
        go_ret
        exact ⟨ret_bool (by rw [HF.out]; rfl), y.via hb0, rfl⟩
      · have HN := Lib.hid (Pr.partOk_none (t := t) (c := c) (v := v) (w := w) (n := l.length) hn)
        obtain ⟨n1, n2, n3, n4, n5, n6, n7, n8, n9, n10, n11, n12⟩ := hn
        go_wp2_with fail
        go_ret
        exact ⟨ret_bool (by rw [HF.out]; exact HN.out.symm), y.via hb0, rfl⟩

set_option maxHeartbeats 2000000 in
theorem rmay_any {W : World} (x : Lt W) {A0 : Option Addr} {t : List Bool} {ca0 : Nat} {p : Pr} {A : Option Addr} {ca : Nat} (ht : ColsAt W A0 t) (hat : p.At W A ca) (hsz : p.size ≤ 1000000000) :
    Calls Tryd.prog 31 #[.agg #[.slice A0 t.length ca0], p.arg A ca] x.1 fun e w' => e = .returned (.bool (p.may t)) ∧ ∃ y : Lt W, w' = y.1 := by
  have HA := Lib.hid hat
  have HT := Lib.hid ht
  have HSZ := Lib.hid hsz
  have HP := Lib.hid (show p.may t = (R.may t.length && (decide (p.size ≤ 15) && p.parts t)) by
    unfold Pr.may R.may
    rw [Bool.and_assoc, Bool.and_assoc])
  clear hat ht
  obtain ⟨m, hm⟩ : ∃ m, R.may t.length = m := ⟨_, rfl⟩
  have HM := Lib.hid hm
  clear hm
  unfold Pr.arg
  go_enter Tryd.func31, Tryd.ntmps31
  go_wp2_with fail
  refine calls_here fun W1 hW1 => ?_
  have hb0 : Below W.heap.size W W1 := hW1 ▸ x.more2 _ _
  have k0 : W1.cell? ⟨x.1.heap.size, 0, none⟩ = some (.slice A0 t.length ca0) := by rw [hW1]; exact cell_old (by rw [cell_new rfl]; rfl)
  have e0 : W1.cell? ⟨x.1.heap.size + 1, 0, none⟩ = some (.int .i64 p.op) := by rw [hW1, cell_new (by simp)]; rfl
  have e1 : W1.cell? ⟨x.1.heap.size + 1, 1, none⟩ = some (.int .i64 p.col) := by rw [hW1, cell_new (by simp)]; rfl
  have e2 : W1.cell? ⟨x.1.heap.size + 1, 2, none⟩ = some (.bool p.v.t) := by rw [hW1, cell_new (by simp)]; rfl
  have e3 : W1.cell? ⟨x.1.heap.size + 1, 3, none⟩ = some (.int .i64 p.v.n) := by rw [hW1, cell_new (by simp)]; rfl
  have e4 : W1.cell? ⟨x.1.heap.size + 1, 4, none⟩ = some (.string p.v.s) := by rw [hW1, cell_new (by simp)]; rfl
  have e5 : W1.cell? ⟨x.1.heap.size + 1, 5, none⟩ = some (.bool p.w.t) := by rw [hW1, cell_new (by simp)]; rfl
  have e6 : W1.cell? ⟨x.1.heap.size + 1, 6, none⟩ = some (.int .i64 p.w.n) := by rw [hW1, cell_new (by simp)]; rfl
  have e7 : W1.cell? ⟨x.1.heap.size + 1, 7, none⟩ = some (.string p.w.s) := by rw [hW1, cell_new (by simp)]; rfl
  have e8 : W1.cell? ⟨x.1.heap.size + 1, 8, none⟩ = some (.slice A p.l.length ca) := by rw [hW1, cell_new (by simp)]; rfl
  clear hW1
  have h0 := fun z : Lt W1 => z.cell k0
  have f0 := fun z : Lt W1 => z.cell e0
  have f1 := fun z : Lt W1 => z.cell e1
  have f2 := fun z : Lt W1 => z.cell e2
  have f3 := fun z : Lt W1 => z.cell e3
  have f4 := fun z : Lt W1 => z.cell e4
  have f5 := fun z : Lt W1 => z.cell e5
  have f6 := fun z : Lt W1 => z.cell e6
  have f7 := fun z : Lt W1 => z.cell e7
  have f8 := fun z : Lt W1 => z.cell e8
  refine (rmay_is HM.out (Lt.base W1)).mono ?_; rintro e w' ⟨rfl, y, rfl⟩
  cases m
  · go_wp2_with fail
    go_ret
    exact ⟨ret_bool (by rw [HP.out, HM.out]; rfl), y.via hb0, rfl⟩
  · go_wp2_with fail
    refine (rsize_any p y (HA.out.below hb0) HSZ.out).mono ?_; rintro e w' ⟨rfl, z, rfl⟩
    by_cases h15 : p.size ≤ 15
    · have hd : decide ((p.size : Int) ≤ 15) = true := decide_eq_true (by omega)
      have hd2 : (p.size : Int) ≤ 15 := by omega
      have HE := Lib.hid (decide_eq_true h15)
      clear h15
      go_wp2_with fail
      refine (rpart_any p z (HT.out.below hb0) (HA.out.below hb0) HSZ.out).mono ?_; rintro e w' ⟨rfl, z2, rfl⟩
      go_wp2_with fail
      go_ret
      exact ⟨ret_bool (by rw [HP.out, HM.out, HE.out]; rfl), z2.via hb0, rfl⟩
    · have hd : decide ((p.size : Int) ≤ 15) = false := decide_eq_false (by omega)
      have hd2 : (15 : Int) < p.size := by omega
      have HE := Lib.hid (decide_eq_false h15)
      clear h15
      go_wp2_with fail
      go_ret
      exact ⟨ret_bool (by rw [HP.out, HM.out, HE.out]; rfl), z.via hb0, rfl⟩
end Go.Proofs.YtghpildnajdlpaaDoor
