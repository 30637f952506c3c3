/-
  Whether a predicate may be a table's, walked: the program's Check. Conditions: table and predicate lie in memory as they read; at most a billion parts.
-/
import Derived.Test.YtghpildnajdlpaaDoorPrPlain
import Derived.Test.YtghpildnajdlpaaDoorPrEach
namespace Go.Proofs.YtghpildnajdlpaaDoor
open Go.RowKit

set_option maxHeartbeats 2000000 in
theorem of_any {W : World} {A : Option Addr} {t : List Bool} {ca g : Nat} {c : Int} {v : Val} (ht : ColsAt W A t) (hg : W.cell? ⟨g, 0, none⟩ = some (.slice A t.length ca)) (x : Lt W) :
    Calls Tryd.prog 75 #[.pointer (some ⟨g, 0, none⟩), .int .i64 c, .agg #[.bool v.t, .int .i64 v.n, .string v.s]] x.1 fun e w' => e = .returned (.bool (Pr.inCol t c v)) ∧ ∃ y : Lt W, w' = y.1 := by
  obtain ⟨ri, hri⟩ : ∃ ri, v.right = ri := ⟨_, rfl⟩
  have HRI := Lib.hid hri
  by_cases h0 : 0 ≤ c
  case neg =>
    have HF := Lib.hid (Pr.inCol_low (t := t) (v := v) (by omega : c < 0))
    have hd : decide (0 ≤ c) = false := decide_eq_false h0
    have hc0 : c < 0 := by omega
    clear h0 hri
    go_enter Tryd.func75, Tryd.ntmps75
    go_wp2_with fail
    refine wp_here fun W1 hW1 => ?_
    have hb0 : Below W.heap.size W W1 := hW1 ▸ x.more _
    have k0 : W1.cell? ⟨x.1.heap.size, 0, none⟩ = some (.bool v.t) := by rw [hW1, cell_new rfl]; rfl
    have k1 : W1.cell? ⟨x.1.heap.size, 1, none⟩ = some (.int .i64 v.n) := by rw [hW1, cell_new rfl]; rfl
    have k2 : W1.cell? ⟨x.1.heap.size, 2, none⟩ = some (.string v.s) := by rw [hW1, cell_new rfl]; rfl
    have z0 := fun z : Lt W1 => z.cell k0
    have z1 := fun z : Lt W1 => z.cell k1
    have z2 := fun z : Lt W1 => z.cell k2
    have z3 := fun z : Lt W1 => z.old hb0 hg
    clear hW1 k0 k1 k2 hg
    refine wp_region_here (by kernel_rfl) (by kernel_rfl) ?_
    repeat (go_big_quiet_step ((go_at_call 57; exact vright_is HRI.out _)))
    refine wpQuiet_nil ?_; intro _ hw'; obtain ⟨z, rfl⟩ := hw'
    go_wp2_with fail
    go_ret
    exact ⟨ret_bool HF.out.symm, z.via hb0, rfl⟩
  have hd0 : decide (0 ≤ c) = true := decide_eq_true h0
  by_cases h1 : c < t.length
  case neg =>
    have HF := Lib.hid (Pr.inCol_high (v := v) h0 (by omega : (t.length : Int) ≤ c))
    have hd : decide (c < (t.length : Int)) = false := decide_eq_false h1
    have hc0 : (t.length : Int) ≤ c := by omega
    clear h1 hri
    go_enter Tryd.func75, Tryd.ntmps75
    go_wp2_with fail
    refine wp_here fun W1 hW1 => ?_
    have hb0 : Below W.heap.size W W1 := hW1 ▸ x.more _
    have k0 : W1.cell? ⟨x.1.heap.size, 0, none⟩ = some (.bool v.t) := by rw [hW1, cell_new rfl]; rfl
    have k1 : W1.cell? ⟨x.1.heap.size, 1, none⟩ = some (.int .i64 v.n) := by rw [hW1, cell_new rfl]; rfl
    have k2 : W1.cell? ⟨x.1.heap.size, 2, none⟩ = some (.string v.s) := by rw [hW1, cell_new rfl]; rfl
    have z0 := fun z : Lt W1 => z.cell k0
    have z1 := fun z : Lt W1 => z.cell k1
    have z2 := fun z : Lt W1 => z.cell k2
    have z3 := fun z : Lt W1 => z.old hb0 hg
    clear hW1 k0 k1 k2 hg
    refine wp_region_here (by kernel_rfl) (by kernel_rfl) ?_
    repeat (go_big_quiet_step ((go_at_call 57; exact vright_is HRI.out _)))
    refine wpQuiet_nil ?_; intro _ hw'; obtain ⟨z, rfl⟩ := hw'
    go_wp2_with fail
    go_ret
    exact ⟨ret_bool HF.out.symm, z.via hb0, rfl⟩
  have hd1 : decide (c < (t.length : Int)) = true := decide_eq_true h1
  obtain ⟨u, b, off, hu, rfl, d0⟩ := ht.col h0 h1
  have HF := Lib.hid (Pr.inCol_at (v := v) h0 hu)
  clear hu
  by_cases hk : v.t = u
  · have hn : (v.t == u) = true := by simpa using hk
    have HV := Lib.hid (show Pr.inCol t c v = ri by rw [HF.out, decide_eq_true hk, hri]; rfl)
    clear hk hri
    cases ri
    · go_enter Tryd.func75, Tryd.ntmps75
      go_wp2_with fail
      refine wp_here fun W1 hW1 => ?_
      have hb0 : Below W.heap.size W W1 := hW1 ▸ x.more _
      have k0 : W1.cell? ⟨x.1.heap.size, 0, none⟩ = some (.bool v.t) := by rw [hW1, cell_new rfl]; rfl
      have k1 : W1.cell? ⟨x.1.heap.size, 1, none⟩ = some (.int .i64 v.n) := by rw [hW1, cell_new rfl]; rfl
      have k2 : W1.cell? ⟨x.1.heap.size, 2, none⟩ = some (.string v.s) := by rw [hW1, cell_new rfl]; rfl
      have z0 := fun z : Lt W1 => z.cell k0
      have z1 := fun z : Lt W1 => z.cell k1
      have z2 := fun z : Lt W1 => z.cell k2
      have z3 := fun z : Lt W1 => z.old hb0 hg
      have d1 := fun z : Lt W1 => z.old hb0 d0
      clear d0
      clear hW1 k0 k1 k2 hg
      refine wp_region_here (by kernel_rfl) (by kernel_rfl) ?_
      repeat (go_big_quiet_step ((go_at_call 57; exact vright_is HRI.out _)))
      refine wpQuiet_nil ?_; intro _ hw'; obtain ⟨z, rfl⟩ := hw'
      go_wp2_with fail
      go_ret
      exact ⟨ret_bool HV.out.symm, z.via hb0, rfl⟩
    · go_enter Tryd.func75, Tryd.ntmps75
      go_wp2_with fail
      refine wp_here fun W1 hW1 => ?_
      have hb0 : Below W.heap.size W W1 := hW1 ▸ x.more _
      have k0 : W1.cell? ⟨x.1.heap.size, 0, none⟩ = some (.bool v.t) := by rw [hW1, cell_new rfl]; rfl
      have k1 : W1.cell? ⟨x.1.heap.size, 1, none⟩ = some (.int .i64 v.n) := by rw [hW1, cell_new rfl]; rfl
      have k2 : W1.cell? ⟨x.1.heap.size, 2, none⟩ = some (.string v.s) := by rw [hW1, cell_new rfl]; rfl
      have z0 := fun z : Lt W1 => z.cell k0
      have z1 := fun z : Lt W1 => z.cell k1
      have z2 := fun z : Lt W1 => z.cell k2
      have z3 := fun z : Lt W1 => z.old hb0 hg
      have d1 := fun z : Lt W1 => z.old hb0 d0
      clear d0
      clear hW1 k0 k1 k2 hg
      refine wp_region_here (by kernel_rfl) (by kernel_rfl) ?_
      repeat (go_big_quiet_step ((go_at_call 57; exact vright_is HRI.out _)))
      refine wpQuiet_nil ?_; intro _ hw'; obtain ⟨z, rfl⟩ := hw'
      go_wp2_with fail
      go_ret
      exact ⟨ret_bool HV.out.symm, z.via hb0, rfl⟩
  · have hn : (v.t == u) = false := by simpa using hk
    have HV := Lib.hid (show Pr.inCol t c v = false by rw [HF.out, decide_eq_false hk]; rfl)
    clear hk hri
    cases ri
    · go_enter Tryd.func75, Tryd.ntmps75
      go_wp2_with fail
      refine wp_here fun W1 hW1 => ?_
      have hb0 : Below W.heap.size W W1 := hW1 ▸ x.more _
      have k0 : W1.cell? ⟨x.1.heap.size, 0, none⟩ = some (.bool v.t) := by rw [hW1, cell_new rfl]; rfl
      have k1 : W1.cell? ⟨x.1.heap.size, 1, none⟩ = some (.int .i64 v.n) := by rw [hW1, cell_new rfl]; rfl
      have k2 : W1.cell? ⟨x.1.heap.size, 2, none⟩ = some (.string v.s) := by rw [hW1, cell_new rfl]; rfl
      have z0 := fun z : Lt W1 => z.cell k0
      have z1 := fun z : Lt W1 => z.cell k1
      have z2 := fun z : Lt W1 => z.cell k2
      have z3 := fun z : Lt W1 => z.old hb0 hg
      have d1 := fun z : Lt W1 => z.old hb0 d0
      clear d0
      clear hW1 k0 k1 k2 hg
      refine wp_region_here (by kernel_rfl) (by kernel_rfl) ?_
      repeat (go_big_quiet_step ((go_at_call 57; exact vright_is HRI.out _)))
      refine wpQuiet_nil ?_; intro _ hw'; obtain ⟨z, rfl⟩ := hw'
      go_wp2_with fail
      go_ret
      exact ⟨ret_bool HV.out.symm, z.via hb0, rfl⟩
    · go_enter Tryd.func75, Tryd.ntmps75
      go_wp2_with fail
      refine wp_here fun W1 hW1 => ?_
      have hb0 : Below W.heap.size W W1 := hW1 ▸ x.more _
      have k0 : W1.cell? ⟨x.1.heap.size, 0, none⟩ = some (.bool v.t) := by rw [hW1, cell_new rfl]; rfl
      have k1 : W1.cell? ⟨x.1.heap.size, 1, none⟩ = some (.int .i64 v.n) := by rw [hW1, cell_new rfl]; rfl
      have k2 : W1.cell? ⟨x.1.heap.size, 2, none⟩ = some (.string v.s) := by rw [hW1, cell_new rfl]; rfl
      have z0 := fun z : Lt W1 => z.cell k0
      have z1 := fun z : Lt W1 => z.cell k1
      have z2 := fun z : Lt W1 => z.cell k2
      have z3 := fun z : Lt W1 => z.old hb0 hg
      have d1 := fun z : Lt W1 => z.old hb0 d0
      clear d0
      clear hW1 k0 k1 k2 hg
      refine wp_region_here (by kernel_rfl) (by kernel_rfl) ?_
      repeat (go_big_quiet_step ((go_at_call 57; exact vright_is HRI.out _)))
      refine wpQuiet_nil ?_; intro _ hw'; obtain ⟨z, rfl⟩ := hw'
      go_wp2_with fail
      go_ret
      exact ⟨ret_bool HV.out.symm, z.via hb0, rfl⟩


/-- A checker at block g: its table, whether it has met what may not be. -/
structure Chk (W : World) (g : Nat) (A : Option Addr) (n ca : Nat) (s : Bool) (w : World) : Prop where
  below : Below W.heap.size W w
  lt : g < w.heap.size
  tab : w.cell? ⟨g, 0, none⟩ = some (.slice A n ca)
  cell : w.cell? ⟨g, 1, none⟩ = some (.bool s)
  free : w.frozen? ⟨g, 1, none⟩ = false
theorem Chk.more {W : World} {g : Nat} {A : Option Addr} {n ca : Nat} {s : Bool} {w w' : World} (h : Chk W g A n ca s w) (hb : Below w.heap.size w w') : Chk W g A n ca s w' :=
  ⟨below_then h.below hb, Nat.lt_of_lt_of_le h.lt hb.size, (hb.cell h.lt).trans h.tab, (hb.cell h.lt).trans h.cell, (hb.frozen h.lt).trans h.free⟩
theorem Chk.set {W : World} {g : Nat} {A : Option Addr} {n ca : Nat} {s : Bool} {w : World} (h : Chk W g A n ca s w) (hg : W.heap.size ≤ g) (s' : Bool) : Chk W g A n ca s' (w.setCell ⟨g, 1, none⟩ (.bool s')) :=
  ⟨h.below.setCell hg _, by have := h.lt; simpa [World.setCell] using this, by rw [World.cell?_setCell_other _ _ _ _ (by intro e; injection e with _ e; cases e)]; exact h.tab, World.cell?_setCell_same _ _ _ h.cell, by rw [World.frozen?_setCell]; exact h.free⟩

section
variable {W : World} {g : Nat} {A0 : Option Addr} {t : List Bool} {ca0 : Nat} {s : Bool} {w0 : World} {c : Int} {v w : Val} {l : List Pr} {A : Option Addr} {ca : Nat}

theorem chk_end {s s' b : Bool} {w : World} (h : Chk W g A0 t.length ca0 s w) (hg : W.heap.size ≤ g) (hs : s' = b) : Chk W g A0 t.length ca0 b (w.setCell ⟨g, 1, none⟩ (.bool s')) := hs ▸ h.set hg s'

set_option maxHeartbeats 2000000 in
theorem part_1 (hg : W.heap.size ≤ g) (h : Chk W g A0 t.length ca0 s w0) :
    Calls Tryd.prog 60 #[.pointer (some ⟨g, 0, none⟩), .agg #[.int .i64 1, .int .i64 c, .bool v.t, .int .i64 v.n, .string v.s, .bool w.t, .int .i64 w.n, .string w.s, .slice A l.length ca]] w0 fun e w' => e = .returned (.tuple #[]) ∧ Chk W g A0 t.length ca0 (s || !(decide (l.length = 0))) w' ∧ w0.grownBy w' (some g) := by
  have h0 := h.more (below_alloc (w := w0) (.cells #[.int .i64 1, .int .i64 c, .bool v.t, .int .i64 v.n, .string v.s, .bool w.t, .int .i64 w.n, .string w.s, .slice A l.length ca] 29))
  have q1 := fun o : Obj => cell_old (o := o) h.cell
  have qf : ∀ o : Obj, (w0.alloc o).frozen? ⟨g, 1, none⟩ = false := fun o => ((below_alloc (w := w0) o).frozen h.lt).trans h.free
  have HH := Lib.hid h0
  clear h h0
  cases s
  all_goals
    go_enter Tryd.func60, Tryd.ntmps60
    go_wp2_with fail
    go_end0
    exact ⟨rfl, chk_end HH.out hg (by rw [← len_zero]; simp), grown_trans (grown_below (below_alloc _) _) (grown_set _ _ _ _)⟩

set_option maxHeartbeats 2000000 in
theorem part_2 (hg : W.heap.size ≤ g) (h : Chk W g A0 t.length ca0 s w0) :
    Calls Tryd.prog 60 #[.pointer (some ⟨g, 0, none⟩), .agg #[.int .i64 2, .int .i64 c, .bool v.t, .int .i64 v.n, .string v.s, .bool w.t, .int .i64 w.n, .string w.s, .slice A l.length ca]] w0 fun e w' => e = .returned (.tuple #[]) ∧ Chk W g A0 t.length ca0 (s || !(decide (l.length = 0))) w' ∧ w0.grownBy w' (some g) := by
  have h0 := h.more (below_alloc (w := w0) (.cells #[.int .i64 2, .int .i64 c, .bool v.t, .int .i64 v.n, .string v.s, .bool w.t, .int .i64 w.n, .string w.s, .slice A l.length ca] 29))
  have q1 := fun o : Obj => cell_old (o := o) h.cell
  have qf : ∀ o : Obj, (w0.alloc o).frozen? ⟨g, 1, none⟩ = false := fun o => ((below_alloc (w := w0) o).frozen h.lt).trans h.free
  have HH := Lib.hid h0
  clear h h0
  cases s
  all_goals
    go_enter Tryd.func60, Tryd.ntmps60
    go_wp2_with fail
    go_end0
    exact ⟨rfl, chk_end HH.out hg (by rw [← len_zero]; simp), grown_trans (grown_below (below_alloc _) _) (grown_set _ _ _ _)⟩

set_option maxHeartbeats 2000000 in
theorem part_10 (hg : W.heap.size ≤ g) (h : Chk W g A0 t.length ca0 s w0) :
    Calls Tryd.prog 60 #[.pointer (some ⟨g, 0, none⟩), .agg #[.int .i64 10, .int .i64 c, .bool v.t, .int .i64 v.n, .string v.s, .bool w.t, .int .i64 w.n, .string w.s, .slice A l.length ca]] w0 fun e w' => e = .returned (.tuple #[]) ∧ Chk W g A0 t.length ca0 (s || !(decide (l.length = 1))) w' ∧ w0.grownBy w' (some g) := by
  have h0 := h.more (below_alloc (w := w0) (.cells #[.int .i64 10, .int .i64 c, .bool v.t, .int .i64 v.n, .string v.s, .bool w.t, .int .i64 w.n, .string w.s, .slice A l.length ca] 29))
  have q1 := fun o : Obj => cell_old (o := o) h.cell
  have qf : ∀ o : Obj, (w0.alloc o).frozen? ⟨g, 1, none⟩ = false := fun o => ((below_alloc (w := w0) o).frozen h.lt).trans h.free
  have HH := Lib.hid h0
  clear h h0
  cases s
  all_goals
    go_enter Tryd.func60, Tryd.ntmps60
    go_wp2_with fail
    go_end0
    exact ⟨rfl, chk_end HH.out hg (by rw [← len_one]; simp), grown_trans (grown_below (below_alloc _) _) (grown_set _ _ _ _)⟩

set_option maxHeartbeats 2000000 in
theorem part_11 (hg : W.heap.size ≤ g) (h : Chk W g A0 t.length ca0 s w0) :
    Calls Tryd.prog 60 #[.pointer (some ⟨g, 0, none⟩), .agg #[.int .i64 11, .int .i64 c, .bool v.t, .int .i64 v.n, .string v.s, .bool w.t, .int .i64 w.n, .string w.s, .slice A l.length ca]] w0 fun e w' => e = .returned (.tuple #[]) ∧ Chk W g A0 t.length ca0 (s || !(decide (0 < l.length))) w' ∧ w0.grownBy w' (some g) := by
  have h0 := h.more (below_alloc (w := w0) (.cells #[.int .i64 11, .int .i64 c, .bool v.t, .int .i64 v.n, .string v.s, .bool w.t, .int .i64 w.n, .string w.s, .slice A l.length ca] 29))
  have q1 := fun o : Obj => cell_old (o := o) h.cell
  have qf : ∀ o : Obj, (w0.alloc o).frozen? ⟨g, 1, none⟩ = false := fun o => ((below_alloc (w := w0) o).frozen h.lt).trans h.free
  have HH := Lib.hid h0
  clear h h0
  cases s
  all_goals
    go_enter Tryd.func60, Tryd.ntmps60
    go_wp2_with fail
    go_end0
    exact ⟨rfl, chk_end HH.out hg (by rw [← len_pos]; simp), grown_trans (grown_below (below_alloc _) _) (grown_set _ _ _ _)⟩

set_option maxHeartbeats 2000000 in
theorem part_12 (hg : W.heap.size ≤ g) (h : Chk W g A0 t.length ca0 s w0) :
    Calls Tryd.prog 60 #[.pointer (some ⟨g, 0, none⟩), .agg #[.int .i64 12, .int .i64 c, .bool v.t, .int .i64 v.n, .string v.s, .bool w.t, .int .i64 w.n, .string w.s, .slice A l.length ca]] w0 fun e w' => e = .returned (.tuple #[]) ∧ Chk W g A0 t.length ca0 (s || !(decide (0 < l.length))) w' ∧ w0.grownBy w' (some g) := by
  have h0 := h.more (below_alloc (w := w0) (.cells #[.int .i64 12, .int .i64 c, .bool v.t, .int .i64 v.n, .string v.s, .bool w.t, .int .i64 w.n, .string w.s, .slice A l.length ca] 29))
  have q1 := fun o : Obj => cell_old (o := o) h.cell
  have qf : ∀ o : Obj, (w0.alloc o).frozen? ⟨g, 1, none⟩ = false := fun o => ((below_alloc (w := w0) o).frozen h.lt).trans h.free
  have HH := Lib.hid h0
  clear h h0
  cases s
  all_goals
    go_enter Tryd.func60, Tryd.ntmps60
    go_wp2_with fail
    go_end0
    exact ⟨rfl, chk_end HH.out hg (by rw [← len_pos]; simp), grown_trans (grown_below (below_alloc _) _) (grown_set _ _ _ _)⟩

set_option maxHeartbeats 2000000 in
theorem part_no (hg : W.heap.size ≤ g) (h : Chk W g A0 t.length ca0 s w0) {o : Int} (hn : (o == 1) = false ∧ (o == 2) = false ∧ (o == 3) = false ∧ (o == 4) = false ∧ (o == 5) = false ∧ (o == 6) = false ∧ (o == 7) = false ∧ (o == 8) = false ∧ (o == 9) = false ∧ (o == 10) = false ∧ (o == 11) = false ∧ (o == 12) = false) :
    Calls Tryd.prog 60 #[.pointer (some ⟨g, 0, none⟩), .agg #[.int .i64 o, .int .i64 c, .bool v.t, .int .i64 v.n, .string v.s, .bool w.t, .int .i64 w.n, .string w.s, .slice A l.length ca]] w0 fun e w' => e = .returned (.tuple #[]) ∧ Chk W g A0 t.length ca0 (s || !(false)) w' ∧ w0.grownBy w' (some g) := by
  obtain ⟨n1, n2, n3, n4, n5, n6, n7, n8, n9, n10, n11, n12⟩ := hn
  have h0 := h.more (below_alloc (w := w0) (.cells #[.int .i64 o, .int .i64 c, .bool v.t, .int .i64 v.n, .string v.s, .bool w.t, .int .i64 w.n, .string w.s, .slice A l.length ca] 29))
  have q1 := fun o : Obj => cell_old (o := o) h.cell
  have qf : ∀ o : Obj, (w0.alloc o).frozen? ⟨g, 1, none⟩ = false := fun o => ((below_alloc (w := w0) o).frozen h.lt).trans h.free
  have HH := Lib.hid h0
  clear h h0
  cases s
  all_goals
    go_enter Tryd.func60, Tryd.ntmps60
    go_wp2_with fail
    go_end0
    exact ⟨rfl, chk_end HH.out hg (by simp), grown_trans (grown_below (below_alloc _) _) (grown_set _ _ _ _)⟩

set_option maxHeartbeats 2000000 in
theorem part_3z (hg : W.heap.size ≤ g) (h : Chk W g A0 t.length ca0 s w0) (ht : ColsAt W A0 t) (hl : ((l.length : Int) == 0) = true) :
    Calls Tryd.prog 60 #[.pointer (some ⟨g, 0, none⟩), .agg #[.int .i64 3, .int .i64 c, .bool v.t, .int .i64 v.n, .string v.s, .bool w.t, .int .i64 w.n, .string w.s, .slice A l.length ca]] w0 fun e w' => e = .returned (.tuple #[]) ∧ Chk W g A0 t.length ca0 (s || !(Pr.inCol t c v)) w' ∧ w0.grownBy w' (some g) := by
  have h0 := h.more (below_alloc (w := w0) (.cells #[.int .i64 3, .int .i64 c, .bool v.t, .int .i64 v.n, .string v.s, .bool w.t, .int .i64 w.n, .string w.s, .slice A l.length ca] 29))
  have HH := Lib.hid h0
  clear h h0
  cases s
  all_goals
    go_enter Tryd.func60, Tryd.ntmps60
    go_wp2_with fail
    refine calls_here fun W1 hW1 => ?_
    have hb0 : Below w0.heap.size w0 W1 := hW1 ▸ below_alloc _
    have k1 := (hW1 ▸ HH.out : Chk W g A0 t.length ca0 _ W1)
    have hsz : W1.heap.size = w0.heap.size + 1 := by rw [hW1]; simp
    have e1 : W1.cell? ⟨w0.heap.size, 1, none⟩ = some (.int .i64 c) := by rw [hW1, cell_new rfl]; rfl
    have e5 : W1.cell? ⟨w0.heap.size, 5, none⟩ = some (.bool w.t) := by rw [hW1, cell_new rfl]; rfl
    have e6 : W1.cell? ⟨w0.heap.size, 6, none⟩ = some (.int .i64 w.n) := by rw [hW1, cell_new rfl]; rfl
    have e7 : W1.cell? ⟨w0.heap.size, 7, none⟩ = some (.string w.s) := by rw [hW1, cell_new rfl]; rfl
    clear hW1
    have k1t := k1.tab
    refine (of_any (ht.below k1.below) k1t (Lt.base W1)).mono ?_; rintro e w' ⟨rfl, y, rfl⟩
    have k2 := k1.more y.2
    have p1 := k2.cell
    have pf := k2.free
    have q1 := y.cell e1
    have q5 := y.cell e5
    have q6 := y.cell e6
    have q7 := y.cell e7
    go_wp2_with fail
    go_end0
    exact ⟨rfl, chk_end k2 hg (by simp), grown_trans (grown_trans (grown_below hb0 _) (grown_below y.2 _)) (grown_set _ _ _ _)⟩

set_option maxHeartbeats 2000000 in
theorem part_3n (hg : W.heap.size ≤ g) (h : Chk W g A0 t.length ca0 s w0) (hl : ((l.length : Int) == 0) = false) :
    Calls Tryd.prog 60 #[.pointer (some ⟨g, 0, none⟩), .agg #[.int .i64 3, .int .i64 c, .bool v.t, .int .i64 v.n, .string v.s, .bool w.t, .int .i64 w.n, .string w.s, .slice A l.length ca]] w0 fun e w' => e = .returned (.tuple #[]) ∧ Chk W g A0 t.length ca0 (s || !(false)) w' ∧ w0.grownBy w' (some g) := by
  have h0 := h.more (below_alloc (w := w0) (.cells #[.int .i64 3, .int .i64 c, .bool v.t, .int .i64 v.n, .string v.s, .bool w.t, .int .i64 w.n, .string w.s, .slice A l.length ca] 29))
  have q1 := fun o : Obj => cell_old (o := o) h.cell
  have qf : ∀ o : Obj, (w0.alloc o).frozen? ⟨g, 1, none⟩ = false := fun o => ((below_alloc (w := w0) o).frozen h.lt).trans h.free
  have HH := Lib.hid h0
  clear h h0
  cases s
  all_goals
    go_enter Tryd.func60, Tryd.ntmps60
    go_wp2_with fail
    go_end0
    exact ⟨rfl, chk_end HH.out hg (by simp), grown_trans (grown_below (below_alloc _) _) (grown_set _ _ _ _)⟩

set_option maxHeartbeats 2000000 in
theorem part_4z (hg : W.heap.size ≤ g) (h : Chk W g A0 t.length ca0 s w0) (ht : ColsAt W A0 t) (hl : ((l.length : Int) == 0) = true) :
    Calls Tryd.prog 60 #[.pointer (some ⟨g, 0, none⟩), .agg #[.int .i64 4, .int .i64 c, .bool v.t, .int .i64 v.n, .string v.s, .bool w.t, .int .i64 w.n, .string w.s, .slice A l.length ca]] w0 fun e w' => e = .returned (.tuple #[]) ∧ Chk W g A0 t.length ca0 (s || !(Pr.inCol t c v)) w' ∧ w0.grownBy w' (some g) := by
  have h0 := h.more (below_alloc (w := w0) (.cells #[.int .i64 4, .int .i64 c, .bool v.t, .int .i64 v.n, .string v.s, .bool w.t, .int .i64 w.n, .string w.s, .slice A l.length ca] 29))
  have HH := Lib.hid h0
  clear h h0
  cases s
  all_goals
    go_enter Tryd.func60, Tryd.ntmps60
    go_wp2_with fail
    refine calls_here fun W1 hW1 => ?_
    have hb0 : Below w0.heap.size w0 W1 := hW1 ▸ below_alloc _
    have k1 := (hW1 ▸ HH.out : Chk W g A0 t.length ca0 _ W1)
    have hsz : W1.heap.size = w0.heap.size + 1 := by rw [hW1]; simp
    have e1 : W1.cell? ⟨w0.heap.size, 1, none⟩ = some (.int .i64 c) := by rw [hW1, cell_new rfl]; rfl
    have e5 : W1.cell? ⟨w0.heap.size, 5, none⟩ = some (.bool w.t) := by rw [hW1, cell_new rfl]; rfl
    have e6 : W1.cell? ⟨w0.heap.size, 6, none⟩ = some (.int .i64 w.n) := by rw [hW1, cell_new rfl]; rfl
    have e7 : W1.cell? ⟨w0.heap.size, 7, none⟩ = some (.string w.s) := by rw [hW1, cell_new rfl]; rfl
    clear hW1
    have k1t := k1.tab
    refine (of_any (ht.below k1.below) k1t (Lt.base W1)).mono ?_; rintro e w' ⟨rfl, y, rfl⟩
    have k2 := k1.more y.2
    have p1 := k2.cell
    have pf := k2.free
    have q1 := y.cell e1
    have q5 := y.cell e5
    have q6 := y.cell e6
    have q7 := y.cell e7
    go_wp2_with fail
    go_end0
    exact ⟨rfl, chk_end k2 hg (by simp), grown_trans (grown_trans (grown_below hb0 _) (grown_below y.2 _)) (grown_set _ _ _ _)⟩

set_option maxHeartbeats 2000000 in
theorem part_4n (hg : W.heap.size ≤ g) (h : Chk W g A0 t.length ca0 s w0) (hl : ((l.length : Int) == 0) = false) :
    Calls Tryd.prog 60 #[.pointer (some ⟨g, 0, none⟩), .agg #[.int .i64 4, .int .i64 c, .bool v.t, .int .i64 v.n, .string v.s, .bool w.t, .int .i64 w.n, .string w.s, .slice A l.length ca]] w0 fun e w' => e = .returned (.tuple #[]) ∧ Chk W g A0 t.length ca0 (s || !(false)) w' ∧ w0.grownBy w' (some g) := by
  have h0 := h.more (below_alloc (w := w0) (.cells #[.int .i64 4, .int .i64 c, .bool v.t, .int .i64 v.n, .string v.s, .bool w.t, .int .i64 w.n, .string w.s, .slice A l.length ca] 29))
  have q1 := fun o : Obj => cell_old (o := o) h.cell
  have qf : ∀ o : Obj, (w0.alloc o).frozen? ⟨g, 1, none⟩ = false := fun o => ((below_alloc (w := w0) o).frozen h.lt).trans h.free
  have HH := Lib.hid h0
  clear h h0
  cases s
  all_goals
    go_enter Tryd.func60, Tryd.ntmps60
    go_wp2_with fail
    go_end0
    exact ⟨rfl, chk_end HH.out hg (by simp), grown_trans (grown_below (below_alloc _) _) (grown_set _ _ _ _)⟩

set_option maxHeartbeats 2000000 in
theorem part_5z (hg : W.heap.size ≤ g) (h : Chk W g A0 t.length ca0 s w0) (ht : ColsAt W A0 t) (hl : ((l.length : Int) == 0) = true) :
    Calls Tryd.prog 60 #[.pointer (some ⟨g, 0, none⟩), .agg #[.int .i64 5, .int .i64 c, .bool v.t, .int .i64 v.n, .string v.s, .bool w.t, .int .i64 w.n, .string w.s, .slice A l.length ca]] w0 fun e w' => e = .returned (.tuple #[]) ∧ Chk W g A0 t.length ca0 (s || !(Pr.inCol t c v)) w' ∧ w0.grownBy w' (some g) := by
  have h0 := h.more (below_alloc (w := w0) (.cells #[.int .i64 5, .int .i64 c, .bool v.t, .int .i64 v.n, .string v.s, .bool w.t, .int .i64 w.n, .string w.s, .slice A l.length ca] 29))
  have HH := Lib.hid h0
  clear h h0
  cases s
  all_goals
    go_enter Tryd.func60, Tryd.ntmps60
    go_wp2_with fail
    refine calls_here fun W1 hW1 => ?_
    have hb0 : Below w0.heap.size w0 W1 := hW1 ▸ below_alloc _
    have k1 := (hW1 ▸ HH.out : Chk W g A0 t.length ca0 _ W1)
    have hsz : W1.heap.size = w0.heap.size + 1 := by rw [hW1]; simp
    have e1 : W1.cell? ⟨w0.heap.size, 1, none⟩ = some (.int .i64 c) := by rw [hW1, cell_new rfl]; rfl
    have e5 : W1.cell? ⟨w0.heap.size, 5, none⟩ = some (.bool w.t) := by rw [hW1, cell_new rfl]; rfl
    have e6 : W1.cell? ⟨w0.heap.size, 6, none⟩ = some (.int .i64 w.n) := by rw [hW1, cell_new rfl]; rfl
    have e7 : W1.cell? ⟨w0.heap.size, 7, none⟩ = some (.string w.s) := by rw [hW1, cell_new rfl]; rfl
    clear hW1
    have k1t := k1.tab
    refine (of_any (ht.below k1.below) k1t (Lt.base W1)).mono ?_; rintro e w' ⟨rfl, y, rfl⟩
    have k2 := k1.more y.2
    have p1 := k2.cell
    have pf := k2.free
    have q1 := y.cell e1
    have q5 := y.cell e5
    have q6 := y.cell e6
    have q7 := y.cell e7
    go_wp2_with fail
    go_end0
    exact ⟨rfl, chk_end k2 hg (by simp), grown_trans (grown_trans (grown_below hb0 _) (grown_below y.2 _)) (grown_set _ _ _ _)⟩

set_option maxHeartbeats 2000000 in
theorem part_5n (hg : W.heap.size ≤ g) (h : Chk W g A0 t.length ca0 s w0) (hl : ((l.length : Int) == 0) = false) :
    Calls Tryd.prog 60 #[.pointer (some ⟨g, 0, none⟩), .agg #[.int .i64 5, .int .i64 c, .bool v.t, .int .i64 v.n, .string v.s, .bool w.t, .int .i64 w.n, .string w.s, .slice A l.length ca]] w0 fun e w' => e = .returned (.tuple #[]) ∧ Chk W g A0 t.length ca0 (s || !(false)) w' ∧ w0.grownBy w' (some g) := by
  have h0 := h.more (below_alloc (w := w0) (.cells #[.int .i64 5, .int .i64 c, .bool v.t, .int .i64 v.n, .string v.s, .bool w.t, .int .i64 w.n, .string w.s, .slice A l.length ca] 29))
  have q1 := fun o : Obj => cell_old (o := o) h.cell
  have qf : ∀ o : Obj, (w0.alloc o).frozen? ⟨g, 1, none⟩ = false := fun o => ((below_alloc (w := w0) o).frozen h.lt).trans h.free
  have HH := Lib.hid h0
  clear h h0
  cases s
  all_goals
    go_enter Tryd.func60, Tryd.ntmps60
    go_wp2_with fail
    go_end0
    exact ⟨rfl, chk_end HH.out hg (by simp), grown_trans (grown_below (below_alloc _) _) (grown_set _ _ _ _)⟩

set_option maxHeartbeats 2000000 in
theorem part_6z (hg : W.heap.size ≤ g) (h : Chk W g A0 t.length ca0 s w0) (ht : ColsAt W A0 t) (hl : ((l.length : Int) == 0) = true) :
    Calls Tryd.prog 60 #[.pointer (some ⟨g, 0, none⟩), .agg #[.int .i64 6, .int .i64 c, .bool v.t, .int .i64 v.n, .string v.s, .bool w.t, .int .i64 w.n, .string w.s, .slice A l.length ca]] w0 fun e w' => e = .returned (.tuple #[]) ∧ Chk W g A0 t.length ca0 (s || !(Pr.inCol t c v)) w' ∧ w0.grownBy w' (some g) := by
  have h0 := h.more (below_alloc (w := w0) (.cells #[.int .i64 6, .int .i64 c, .bool v.t, .int .i64 v.n, .string v.s, .bool w.t, .int .i64 w.n, .string w.s, .slice A l.length ca] 29))
  have HH := Lib.hid h0
  clear h h0
  cases s
  all_goals
    go_enter Tryd.func60, Tryd.ntmps60
    go_wp2_with fail
    refine calls_here fun W1 hW1 => ?_
    have hb0 : Below w0.heap.size w0 W1 := hW1 ▸ below_alloc _
    have k1 := (hW1 ▸ HH.out : Chk W g A0 t.length ca0 _ W1)
    have hsz : W1.heap.size = w0.heap.size + 1 := by rw [hW1]; simp
    have e1 : W1.cell? ⟨w0.heap.size, 1, none⟩ = some (.int .i64 c) := by rw [hW1, cell_new rfl]; rfl
    have e5 : W1.cell? ⟨w0.heap.size, 5, none⟩ = some (.bool w.t) := by rw [hW1, cell_new rfl]; rfl
    have e6 : W1.cell? ⟨w0.heap.size, 6, none⟩ = some (.int .i64 w.n) := by rw [hW1, cell_new rfl]; rfl
    have e7 : W1.cell? ⟨w0.heap.size, 7, none⟩ = some (.string w.s) := by rw [hW1, cell_new rfl]; rfl
    clear hW1
    have k1t := k1.tab
    refine (of_any (ht.below k1.below) k1t (Lt.base W1)).mono ?_; rintro e w' ⟨rfl, y, rfl⟩
    have k2 := k1.more y.2
    have p1 := k2.cell
    have pf := k2.free
    have q1 := y.cell e1
    have q5 := y.cell e5
    have q6 := y.cell e6
    have q7 := y.cell e7
    go_wp2_with fail
    go_end0
    exact ⟨rfl, chk_end k2 hg (by simp), grown_trans (grown_trans (grown_below hb0 _) (grown_below y.2 _)) (grown_set _ _ _ _)⟩

set_option maxHeartbeats 2000000 in
theorem part_6n (hg : W.heap.size ≤ g) (h : Chk W g A0 t.length ca0 s w0) (hl : ((l.length : Int) == 0) = false) :
    Calls Tryd.prog 60 #[.pointer (some ⟨g, 0, none⟩), .agg #[.int .i64 6, .int .i64 c, .bool v.t, .int .i64 v.n, .string v.s, .bool w.t, .int .i64 w.n, .string w.s, .slice A l.length ca]] w0 fun e w' => e = .returned (.tuple #[]) ∧ Chk W g A0 t.length ca0 (s || !(false)) w' ∧ w0.grownBy w' (some g) := by
  have h0 := h.more (below_alloc (w := w0) (.cells #[.int .i64 6, .int .i64 c, .bool v.t, .int .i64 v.n, .string v.s, .bool w.t, .int .i64 w.n, .string w.s, .slice A l.length ca] 29))
  have q1 := fun o : Obj => cell_old (o := o) h.cell
  have qf : ∀ o : Obj, (w0.alloc o).frozen? ⟨g, 1, none⟩ = false := fun o => ((below_alloc (w := w0) o).frozen h.lt).trans h.free
  have HH := Lib.hid h0
  clear h h0
  cases s
  all_goals
    go_enter Tryd.func60, Tryd.ntmps60
    go_wp2_with fail
    go_end0
    exact ⟨rfl, chk_end HH.out hg (by simp), grown_trans (grown_below (below_alloc _) _) (grown_set _ _ _ _)⟩

set_option maxHeartbeats 2000000 in
theorem part_7z (hg : W.heap.size ≤ g) (h : Chk W g A0 t.length ca0 s w0) (ht : ColsAt W A0 t) (hl : ((l.length : Int) == 0) = true) :
    Calls Tryd.prog 60 #[.pointer (some ⟨g, 0, none⟩), .agg #[.int .i64 7, .int .i64 c, .bool v.t, .int .i64 v.n, .string v.s, .bool w.t, .int .i64 w.n, .string w.s, .slice A l.length ca]] w0 fun e w' => e = .returned (.tuple #[]) ∧ Chk W g A0 t.length ca0 (s || !(Pr.inCol t c v)) w' ∧ w0.grownBy w' (some g) := by
  have h0 := h.more (below_alloc (w := w0) (.cells #[.int .i64 7, .int .i64 c, .bool v.t, .int .i64 v.n, .string v.s, .bool w.t, .int .i64 w.n, .string w.s, .slice A l.length ca] 29))
  have HH := Lib.hid h0
  clear h h0
  cases s
  all_goals
    go_enter Tryd.func60, Tryd.ntmps60
    go_wp2_with fail
    refine calls_here fun W1 hW1 => ?_
    have hb0 : Below w0.heap.size w0 W1 := hW1 ▸ below_alloc _
    have k1 := (hW1 ▸ HH.out : Chk W g A0 t.length ca0 _ W1)
    have hsz : W1.heap.size = w0.heap.size + 1 := by rw [hW1]; simp
    have e1 : W1.cell? ⟨w0.heap.size, 1, none⟩ = some (.int .i64 c) := by rw [hW1, cell_new rfl]; rfl
    have e5 : W1.cell? ⟨w0.heap.size, 5, none⟩ = some (.bool w.t) := by rw [hW1, cell_new rfl]; rfl
    have e6 : W1.cell? ⟨w0.heap.size, 6, none⟩ = some (.int .i64 w.n) := by rw [hW1, cell_new rfl]; rfl
    have e7 : W1.cell? ⟨w0.heap.size, 7, none⟩ = some (.string w.s) := by rw [hW1, cell_new rfl]; rfl
    clear hW1
    have k1t := k1.tab
    refine (of_any (ht.below k1.below) k1t (Lt.base W1)).mono ?_; rintro e w' ⟨rfl, y, rfl⟩
    have k2 := k1.more y.2
    have p1 := k2.cell
    have pf := k2.free
    have q1 := y.cell e1
    have q5 := y.cell e5
    have q6 := y.cell e6
    have q7 := y.cell e7
    go_wp2_with fail
    go_end0
    exact ⟨rfl, chk_end k2 hg (by simp), grown_trans (grown_trans (grown_below hb0 _) (grown_below y.2 _)) (grown_set _ _ _ _)⟩

set_option maxHeartbeats 2000000 in
theorem part_7n (hg : W.heap.size ≤ g) (h : Chk W g A0 t.length ca0 s w0) (hl : ((l.length : Int) == 0) = false) :
    Calls Tryd.prog 60 #[.pointer (some ⟨g, 0, none⟩), .agg #[.int .i64 7, .int .i64 c, .bool v.t, .int .i64 v.n, .string v.s, .bool w.t, .int .i64 w.n, .string w.s, .slice A l.length ca]] w0 fun e w' => e = .returned (.tuple #[]) ∧ Chk W g A0 t.length ca0 (s || !(false)) w' ∧ w0.grownBy w' (some g) := by
  have h0 := h.more (below_alloc (w := w0) (.cells #[.int .i64 7, .int .i64 c, .bool v.t, .int .i64 v.n, .string v.s, .bool w.t, .int .i64 w.n, .string w.s, .slice A l.length ca] 29))
  have q1 := fun o : Obj => cell_old (o := o) h.cell
  have qf : ∀ o : Obj, (w0.alloc o).frozen? ⟨g, 1, none⟩ = false := fun o => ((below_alloc (w := w0) o).frozen h.lt).trans h.free
  have HH := Lib.hid h0
  clear h h0
  cases s
  all_goals
    go_enter Tryd.func60, Tryd.ntmps60
    go_wp2_with fail
    go_end0
    exact ⟨rfl, chk_end HH.out hg (by simp), grown_trans (grown_below (below_alloc _) _) (grown_set _ _ _ _)⟩

set_option maxHeartbeats 2000000 in
theorem part_8z (hg : W.heap.size ≤ g) (h : Chk W g A0 t.length ca0 s w0) (ht : ColsAt W A0 t) (hl : ((l.length : Int) == 0) = true) :
    Calls Tryd.prog 60 #[.pointer (some ⟨g, 0, none⟩), .agg #[.int .i64 8, .int .i64 c, .bool v.t, .int .i64 v.n, .string v.s, .bool w.t, .int .i64 w.n, .string w.s, .slice A l.length ca]] w0 fun e w' => e = .returned (.tuple #[]) ∧ Chk W g A0 t.length ca0 (s || !(Pr.inCol t c v)) w' ∧ w0.grownBy w' (some g) := by
  have h0 := h.more (below_alloc (w := w0) (.cells #[.int .i64 8, .int .i64 c, .bool v.t, .int .i64 v.n, .string v.s, .bool w.t, .int .i64 w.n, .string w.s, .slice A l.length ca] 29))
  have HH := Lib.hid h0
  clear h h0
  cases s
  all_goals
    go_enter Tryd.func60, Tryd.ntmps60
    go_wp2_with fail
    refine calls_here fun W1 hW1 => ?_
    have hb0 : Below w0.heap.size w0 W1 := hW1 ▸ below_alloc _
    have k1 := (hW1 ▸ HH.out : Chk W g A0 t.length ca0 _ W1)
    have hsz : W1.heap.size = w0.heap.size + 1 := by rw [hW1]; simp
    have e1 : W1.cell? ⟨w0.heap.size, 1, none⟩ = some (.int .i64 c) := by rw [hW1, cell_new rfl]; rfl
    have e5 : W1.cell? ⟨w0.heap.size, 5, none⟩ = some (.bool w.t) := by rw [hW1, cell_new rfl]; rfl
    have e6 : W1.cell? ⟨w0.heap.size, 6, none⟩ = some (.int .i64 w.n) := by rw [hW1, cell_new rfl]; rfl
    have e7 : W1.cell? ⟨w0.heap.size, 7, none⟩ = some (.string w.s) := by rw [hW1, cell_new rfl]; rfl
    clear hW1
    have k1t := k1.tab
    refine (of_any (ht.below k1.below) k1t (Lt.base W1)).mono ?_; rintro e w' ⟨rfl, y, rfl⟩
    have k2 := k1.more y.2
    have p1 := k2.cell
    have pf := k2.free
    have q1 := y.cell e1
    have q5 := y.cell e5
    have q6 := y.cell e6
    have q7 := y.cell e7
    go_wp2_with fail
    go_end0
    exact ⟨rfl, chk_end k2 hg (by simp), grown_trans (grown_trans (grown_below hb0 _) (grown_below y.2 _)) (grown_set _ _ _ _)⟩

set_option maxHeartbeats 2000000 in
theorem part_8n (hg : W.heap.size ≤ g) (h : Chk W g A0 t.length ca0 s w0) (hl : ((l.length : Int) == 0) = false) :
    Calls Tryd.prog 60 #[.pointer (some ⟨g, 0, none⟩), .agg #[.int .i64 8, .int .i64 c, .bool v.t, .int .i64 v.n, .string v.s, .bool w.t, .int .i64 w.n, .string w.s, .slice A l.length ca]] w0 fun e w' => e = .returned (.tuple #[]) ∧ Chk W g A0 t.length ca0 (s || !(false)) w' ∧ w0.grownBy w' (some g) := by
  have h0 := h.more (below_alloc (w := w0) (.cells #[.int .i64 8, .int .i64 c, .bool v.t, .int .i64 v.n, .string v.s, .bool w.t, .int .i64 w.n, .string w.s, .slice A l.length ca] 29))
  have q1 := fun o : Obj => cell_old (o := o) h.cell
  have qf : ∀ o : Obj, (w0.alloc o).frozen? ⟨g, 1, none⟩ = false := fun o => ((below_alloc (w := w0) o).frozen h.lt).trans h.free
  have HH := Lib.hid h0
  clear h h0
  cases s
  all_goals
    go_enter Tryd.func60, Tryd.ntmps60
    go_wp2_with fail
    go_end0
    exact ⟨rfl, chk_end HH.out hg (by simp), grown_trans (grown_below (below_alloc _) _) (grown_set _ _ _ _)⟩

set_option maxHeartbeats 2000000 in
theorem part_9n (hg : W.heap.size ≤ g) (h : Chk W g A0 t.length ca0 s w0) (hl : ((l.length : Int) == 0) = false) :
    Calls Tryd.prog 60 #[.pointer (some ⟨g, 0, none⟩), .agg #[.int .i64 9, .int .i64 c, .bool v.t, .int .i64 v.n, .string v.s, .bool w.t, .int .i64 w.n, .string w.s, .slice A l.length ca]] w0 fun e w' => e = .returned (.tuple #[]) ∧ Chk W g A0 t.length ca0 (s || !(false)) w' ∧ w0.grownBy w' (some g) := by
  have h0 := h.more (below_alloc (w := w0) (.cells #[.int .i64 9, .int .i64 c, .bool v.t, .int .i64 v.n, .string v.s, .bool w.t, .int .i64 w.n, .string w.s, .slice A l.length ca] 29))
  have q1 := fun o : Obj => cell_old (o := o) h.cell
  have qf : ∀ o : Obj, (w0.alloc o).frozen? ⟨g, 1, none⟩ = false := fun o => ((below_alloc (w := w0) o).frozen h.lt).trans h.free
  have HH := Lib.hid h0
  clear h h0
  cases s
  all_goals
    go_enter Tryd.func60, Tryd.ntmps60
    go_wp2_with fail
    go_end0
    exact ⟨rfl, chk_end HH.out hg (by simp), grown_trans (grown_below (below_alloc _) _) (grown_set _ _ _ _)⟩

set_option maxHeartbeats 2000000 in
theorem part_9f (hg : W.heap.size ≤ g) (h : Chk W g A0 t.length ca0 s w0) (ht : ColsAt W A0 t) (hl : ((l.length : Int) == 0) = true) (hv : Pr.inCol t c v = false) :
    Calls Tryd.prog 60 #[.pointer (some ⟨g, 0, none⟩), .agg #[.int .i64 9, .int .i64 c, .bool v.t, .int .i64 v.n, .string v.s, .bool w.t, .int .i64 w.n, .string w.s, .slice A l.length ca]] w0 fun e w' => e = .returned (.tuple #[]) ∧ Chk W g A0 t.length ca0 (s || !(false)) w' ∧ w0.grownBy w' (some g) := by
  have HV := Lib.hid hv
  clear hv
  have h0 := h.more (below_alloc (w := w0) (.cells #[.int .i64 9, .int .i64 c, .bool v.t, .int .i64 v.n, .string v.s, .bool w.t, .int .i64 w.n, .string w.s, .slice A l.length ca] 29))
  have HH := Lib.hid h0
  clear h h0
  cases s
  all_goals
    go_enter Tryd.func60, Tryd.ntmps60
    go_wp2_with fail
    refine calls_here fun W1 hW1 => ?_
    have hb0 : Below w0.heap.size w0 W1 := hW1 ▸ below_alloc _
    have k1 := (hW1 ▸ HH.out : Chk W g A0 t.length ca0 _ W1)
    have hsz : W1.heap.size = w0.heap.size + 1 := by rw [hW1]; simp
    have e1 : W1.cell? ⟨w0.heap.size, 1, none⟩ = some (.int .i64 c) := by rw [hW1, cell_new rfl]; rfl
    have e5 : W1.cell? ⟨w0.heap.size, 5, none⟩ = some (.bool w.t) := by rw [hW1, cell_new rfl]; rfl
    have e6 : W1.cell? ⟨w0.heap.size, 6, none⟩ = some (.int .i64 w.n) := by rw [hW1, cell_new rfl]; rfl
    have e7 : W1.cell? ⟨w0.heap.size, 7, none⟩ = some (.string w.s) := by rw [hW1, cell_new rfl]; rfl
    clear hW1
    have k1t := k1.tab
    refine (of_any (ht.below k1.below) k1t (Lt.base W1)).mono ?_; rintro e w' ⟨rfl, y, rfl⟩
    rw [HV.out]
    have k2 := k1.more y.2
    have p1 := k2.cell
    have pf := k2.free
    have q1 := y.cell e1
    have q5 := y.cell e5
    have q6 := y.cell e6
    have q7 := y.cell e7
    go_wp2_with fail
    go_end0
    exact ⟨rfl, chk_end k2 hg (by simp), grown_trans (grown_trans (grown_below hb0 _) (grown_below y.2 _)) (grown_set _ _ _ _)⟩

set_option maxHeartbeats 2000000 in
theorem part_9t (hg : W.heap.size ≤ g) (h : Chk W g A0 t.length ca0 s w0) (ht : ColsAt W A0 t) (hl : ((l.length : Int) == 0) = true) (hv : Pr.inCol t c v = true) :
    Calls Tryd.prog 60 #[.pointer (some ⟨g, 0, none⟩), .agg #[.int .i64 9, .int .i64 c, .bool v.t, .int .i64 v.n, .string v.s, .bool w.t, .int .i64 w.n, .string w.s, .slice A l.length ca]] w0 fun e w' => e = .returned (.tuple #[]) ∧ Chk W g A0 t.length ca0 (s || !(Pr.inCol t c w)) w' ∧ w0.grownBy w' (some g) := by
  have HV := Lib.hid hv
  clear hv
  have h0 := h.more (below_alloc (w := w0) (.cells #[.int .i64 9, .int .i64 c, .bool v.t, .int .i64 v.n, .string v.s, .bool w.t, .int .i64 w.n, .string w.s, .slice A l.length ca] 29))
  have HH := Lib.hid h0
  clear h h0
  cases s
  all_goals
    go_enter Tryd.func60, Tryd.ntmps60
    go_wp2_with fail
    refine calls_here fun W1 hW1 => ?_
    have hb0 : Below w0.heap.size w0 W1 := hW1 ▸ below_alloc _
    have k1 := (hW1 ▸ HH.out : Chk W g A0 t.length ca0 _ W1)
    have hsz : W1.heap.size = w0.heap.size + 1 := by rw [hW1]; simp
    have e1 : W1.cell? ⟨w0.heap.size, 1, none⟩ = some (.int .i64 c) := by rw [hW1, cell_new rfl]; rfl
    have e5 : W1.cell? ⟨w0.heap.size, 5, none⟩ = some (.bool w.t) := by rw [hW1, cell_new rfl]; rfl
    have e6 : W1.cell? ⟨w0.heap.size, 6, none⟩ = some (.int .i64 w.n) := by rw [hW1, cell_new rfl]; rfl
    have e7 : W1.cell? ⟨w0.heap.size, 7, none⟩ = some (.string w.s) := by rw [hW1, cell_new rfl]; rfl
    clear hW1
    have k1t := k1.tab
    refine (of_any (ht.below k1.below) k1t (Lt.base W1)).mono ?_; rintro e w' ⟨rfl, y, rfl⟩
    rw [HV.out]
    have k2 := k1.more y.2
    have p1 := k2.cell
    have pf := k2.free
    have q1 := y.cell e1
    have q5 := y.cell e5
    have q6 := y.cell e6
    have q7 := y.cell e7
    go_wp2_with fail
    refine (of_any (ht.below k1.below) k1t y).mono ?_; rintro e w' ⟨rfl, y, rfl⟩
    have k2 := k1.more y.2
    have p1 := k2.cell
    have pf := k2.free
    have q1 := y.cell e1
    have q5 := y.cell e5
    have q6 := y.cell e6
    have q7 := y.cell e7
    go_wp2_with fail
    go_end0
    exact ⟨rfl, chk_end k2 hg (by simp), grown_trans (grown_trans (grown_below hb0 _) (grown_below y.2 _)) (grown_set _ _ _ _)⟩

theorem part_any {o : Int} (hg : W.heap.size ≤ g) (h : Chk W g A0 t.length ca0 s w0) (ht : ColsAt W A0 t) :
    Calls Tryd.prog 60 #[.pointer (some ⟨g, 0, none⟩), .agg #[.int .i64 o, .int .i64 c, .bool v.t, .int .i64 v.n, .string v.s, .bool w.t, .int .i64 w.n, .string w.s, .slice A l.length ca]] w0 fun e w' => e = .returned (.tuple #[]) ∧ Chk W g A0 t.length ca0 (s || !(Pr.partOk t o c v w l.length)) w' ∧ w0.grownBy w' (some g) := by
  rcases Pr.ops o with rfl | rfl | rfl | rfl | rfl | rfl | rfl | rfl | rfl | rfl | rfl | rfl | hn
  · exact part_1 hg h
  · exact part_2 hg h
  · rw [show Pr.partOk t 3 c v w l.length = (decide (l.length = 0) && Pr.inCol t c v) from rfl, ← len_zero]
    cases hl : ((l.length : Int) == 0)
    · exact part_3n hg h hl
    · rw [Bool.true_and]; exact part_3z hg h ht hl
  · rw [show Pr.partOk t 4 c v w l.length = (decide (l.length = 0) && Pr.inCol t c v) from rfl, ← len_zero]
    cases hl : ((l.length : Int) == 0)
    · exact part_4n hg h hl
    · rw [Bool.true_and]; exact part_4z hg h ht hl
  · rw [show Pr.partOk t 5 c v w l.length = (decide (l.length = 0) && Pr.inCol t c v) from rfl, ← len_zero]
    cases hl : ((l.length : Int) == 0)
    · exact part_5n hg h hl
    · rw [Bool.true_and]; exact part_5z hg h ht hl
  · rw [show Pr.partOk t 6 c v w l.length = (decide (l.length = 0) && Pr.inCol t c v) from rfl, ← len_zero]
    cases hl : ((l.length : Int) == 0)
    · exact part_6n hg h hl
    · rw [Bool.true_and]; exact part_6z hg h ht hl
  · rw [show Pr.partOk t 7 c v w l.length = (decide (l.length = 0) && Pr.inCol t c v) from rfl, ← len_zero]
    cases hl : ((l.length : Int) == 0)
    · exact part_7n hg h hl
    · rw [Bool.true_and]; exact part_7z hg h ht hl
  · rw [show Pr.partOk t 8 c v w l.length = (decide (l.length = 0) && Pr.inCol t c v) from rfl, ← len_zero]
    cases hl : ((l.length : Int) == 0)
    · exact part_8n hg h hl
    · rw [Bool.true_and]; exact part_8z hg h ht hl
  · rw [show Pr.partOk t 9 c v w l.length = (decide (l.length = 0) && Pr.inCol t c v && Pr.inCol t c w) from rfl, ← len_zero]
    cases hl : ((l.length : Int) == 0)
    · exact part_9n hg h hl
    · rw [Bool.true_and]
      cases hv : Pr.inCol t c v
      · exact part_9f hg h ht hl hv
      · rw [Bool.true_and]; exact part_9t hg h ht hl hv
  · exact part_10 hg h
  · exact part_11 hg h
  · exact part_12 hg h
  · rw [Pr.partOk_none hn]; exact part_no hg h hn
end

theorem enters_part (args : Array Value) (w : World) : (callFunc 60 args).run Tryd.prog w = .ok (.enter 60 args) w := enters Tryd.func60 (by kernel_rfl) (by kernel_rfl) args w

theorem Pr.visit_parts (t : List Bool) (p : Pr) : ∀ s : Bool, p.visit (fun (s : Bool) q => s || !(Pr.partOk t q.op q.col q.v q.w q.l.length)) s = (s || !(p.parts t)) := by
  refine Pr.ind (P := fun p => ∀ s : Bool, p.visit (fun (s : Bool) q => s || !(Pr.partOk t q.op q.col q.v q.w q.l.length)) s = (s || !(p.parts t))) ?_ p
  rintro ⟨o, c, v, w, l⟩ ih s
  rw [Pr.visit_mk, Pr.parts_mk]
  have key : ∀ l' : List Pr, (∀ q ∈ l', q ∈ l) → ∀ s : Bool, l'.foldl (fun s q => q.visit (fun (s : Bool) q => s || !(Pr.partOk t q.op q.col q.v q.w q.l.length)) s) s = (s || !(l'.all (Pr.parts t))) := by
    intro l'
    induction l' with
    | nil => intro _ s; simp
    | cons q l' ihl =>
      intro hm s
      rw [List.foldl_cons, ih q (hm q (by simp)) s, ihl (fun x hx => hm x (by simp [hx])) _, List.all_cons]
      cases s <;> cases Pr.parts t q <;> simp
  rw [key l (fun _ h => h)]
  show ((s || !(Pr.partOk t o c v w l.length)) || !(l.all (Pr.parts t))) = _
  cases s <;> cases Pr.partOk t o c v w l.length <;> simp

set_option maxHeartbeats 2000000 in
theorem pcheck_any {W : World} (x : Lt W) {A0 : Option Addr} {t : List Bool} {ca0 : Nat} {p : Pr} {A : Option Addr} {ca : Nat} (ht : ColsAt W A0 t) (hat : p.At W A ca) (hsz : p.size ≤ 1000000000) :
    Calls Tryd.prog 35 #[.agg #[.slice A0 t.length ca0], p.arg A ca] x.1 fun e w' => e = .returned (.int .i64 (p.err t)) ∧ ∃ y : Lt W, w' = y.1 := by
  have HA := Lib.hid hat
  have HV := Lib.hid (Pr.visit_parts t p false)
  have HP := Lib.hid (show R.may t.length = true → p.may t = (decide (p.size ≤ 15) && p.parts t) by
    intro h
    unfold R.may at h
    unfold Pr.may
    rw [h]; rfl)
  cases hm : R.may t.length
  · have HM := Lib.hid hm
    clear hm hat
    unfold Pr.arg
    go_enter Tryd.func35, Tryd.ntmps35
    go_wp2_with fail
    refine calls_here fun W1 hW1 => ?_
    have hb0 : Below W.heap.size W W1 := hW1 ▸ x.more2 _ _
    clear hW1
    refine (check_no HM.out (Lt.base W1)).mono ?_; rintro e w' ⟨rfl, y, rfl⟩
    go_wp2_with fail
    go_ret
    exact ⟨ret_int (Pr.err_no HM.out).symm, y.via hb0, rfl⟩
  · have HM := Lib.hid hm
    have HSZ := Lib.hid hsz
    clear hm hat
    unfold Pr.arg
    go_enter Tryd.func35, Tryd.ntmps35
    go_wp2_with fail
    refine calls_here fun W1 hW1 => ?_
    have hb0 : Below W.heap.size W W1 := hW1 ▸ x.more2 _ _
    have k0 : W1.cell? ⟨x.1.heap.size, 0, none⟩ = some (.slice A0 t.length ca0) := by rw [hW1]; exact cell_old (by rw [cell_new rfl]; rfl)
    have e0 : W1.cell? ⟨x.1.heap.size + 1, 0, none⟩ = some (.int .i64 p.op) := by rw [hW1, cell_new (by simp)]; rfl
    have e1 : W1.cell? ⟨x.1.heap.size + 1, 1, none⟩ = some (.int .i64 p.col) := by rw [hW1, cell_new (by simp)]; rfl
    have e2 : W1.cell? ⟨x.1.heap.size + 1, 2, none⟩ = some (.bool p.v.t) := by rw [hW1, cell_new (by simp)]; rfl
    have e3 : W1.cell? ⟨x.1.heap.size + 1, 3, none⟩ = some (.int .i64 p.v.n) := by rw [hW1, cell_new (by simp)]; rfl
    have e4 : W1.cell? ⟨x.1.heap.size + 1, 4, none⟩ = some (.string p.v.s) := by rw [hW1, cell_new (by simp)]; rfl
    have e5 : W1.cell? ⟨x.1.heap.size + 1, 5, none⟩ = some (.bool p.w.t) := by rw [hW1, cell_new (by simp)]; rfl
    have e6 : W1.cell? ⟨x.1.heap.size + 1, 6, none⟩ = some (.int .i64 p.w.n) := by rw [hW1, cell_new (by simp)]; rfl
    have e7 : W1.cell? ⟨x.1.heap.size + 1, 7, none⟩ = some (.string p.w.s) := by rw [hW1, cell_new (by simp)]; rfl
    have e8 : W1.cell? ⟨x.1.heap.size + 1, 8, none⟩ = some (.slice A p.l.length ca) := by rw [hW1, cell_new (by simp)]; rfl
    have h0 := fun z : Lt W1 => z.cell k0
    clear hW1
    refine (check_yes HM.out (Lt.base W1)).mono ?_; rintro e w' ⟨rfl, y, rfl⟩
    have y0 := fun o : Obj => cell_old (o := o) (y.cell e0)
    have y1 := fun o : Obj => cell_old (o := o) (y.cell e1)
    have y2 := fun o : Obj => cell_old (o := o) (y.cell e2)
    have y3 := fun o : Obj => cell_old (o := o) (y.cell e3)
    have y4 := fun o : Obj => cell_old (o := o) (y.cell e4)
    have y5 := fun o : Obj => cell_old (o := o) (y.cell e5)
    have y6 := fun o : Obj => cell_old (o := o) (y.cell e6)
    have y7 := fun o : Obj => cell_old (o := o) (y.cell e7)
    have y8 := fun o : Obj => cell_old (o := o) (y.cell e8)
    go_wp2_with fail
    refine calls_here fun W2 hW2 => ?_
    have hb2 : Below y.1.heap.size y.1 W2 := hW2 ▸ below_alloc _
    have hbw2 : Below W.heap.size W W2 := below_then hb0 (below_then y.2 hb2)
    have hc : Chk W y.1.heap.size A0 t.length ca0 false W2 := by
      refine ⟨hbw2, by rw [hW2]; simp, by rw [hW2, cell_new rfl]; rfl, by rw [hW2, cell_new rfl]; rfl, ?_⟩
      rw [hW2]; simp
    have hyW : W.heap.size ≤ y.1.heap.size := (below_then hb0 y.2).size
    have hxy : x.1.heap.size + 1 < y.1.heap.size := Nat.lt_of_lt_of_le (cell_lt e0) y.2.size
    have f0 : W2.cell? ⟨x.1.heap.size + 1, 0, none⟩ = _ := (hb2.cell (cell_lt (y.cell e0))).trans (y.cell e0)
    have f1 : W2.cell? ⟨x.1.heap.size + 1, 1, none⟩ = _ := (hb2.cell (cell_lt (y.cell e1))).trans (y.cell e1)
    have f2 : W2.cell? ⟨x.1.heap.size + 1, 2, none⟩ = _ := (hb2.cell (cell_lt (y.cell e2))).trans (y.cell e2)
    have f3 : W2.cell? ⟨x.1.heap.size + 1, 3, none⟩ = _ := (hb2.cell (cell_lt (y.cell e3))).trans (y.cell e3)
    have f4 : W2.cell? ⟨x.1.heap.size + 1, 4, none⟩ = _ := (hb2.cell (cell_lt (y.cell e4))).trans (y.cell e4)
    have f5 : W2.cell? ⟨x.1.heap.size + 1, 5, none⟩ = _ := (hb2.cell (cell_lt (y.cell e5))).trans (y.cell e5)
    have f6 : W2.cell? ⟨x.1.heap.size + 1, 6, none⟩ = _ := (hb2.cell (cell_lt (y.cell e6))).trans (y.cell e6)
    have f7 : W2.cell? ⟨x.1.heap.size + 1, 7, none⟩ = _ := (hb2.cell (cell_lt (y.cell e7))).trans (y.cell e7)
    have f8 : W2.cell? ⟨x.1.heap.size + 1, 8, none⟩ = _ := (hb2.cell (cell_lt (y.cell e8))).trans (y.cell e8)
    clear hW2
    have key := each_any (W := W) (Chk W y.1.heap.size A0 t.length ca0) (fun (s : Bool) q => s || !(Pr.partOk t q.op q.col q.v q.w q.l.length)) (g := y.1.heap.size) (F := 60) (first := #[.pointer (some ⟨y.1.heap.size, 0, none⟩)]) (caps := #[]) enters_part
      (fun s w h => ⟨h.below, h.lt⟩) (fun s w w' h hb => h.more hb) (fun s w q A ca h => part_any hyW h ht) p false W2 A ca HA.out HSZ.out hc
    refine key.mono ?_
    rintro e w3 ⟨rfl, hc3, hg3⟩
    clear key
    rw [HV.out] at hc3
    have c3 := hc3.cell
    have g0 := grown_cell hg3 f0 (by show x.1.heap.size + 1 ≠ y.1.heap.size; omega)
    have g1 := grown_cell hg3 f1 (by show x.1.heap.size + 1 ≠ y.1.heap.size; omega)
    have g2 := grown_cell hg3 f2 (by show x.1.heap.size + 1 ≠ y.1.heap.size; omega)
    have g3 := grown_cell hg3 f3 (by show x.1.heap.size + 1 ≠ y.1.heap.size; omega)
    have g4 := grown_cell hg3 f4 (by show x.1.heap.size + 1 ≠ y.1.heap.size; omega)
    have g5 := grown_cell hg3 f5 (by show x.1.heap.size + 1 ≠ y.1.heap.size; omega)
    have g6 := grown_cell hg3 f6 (by show x.1.heap.size + 1 ≠ y.1.heap.size; omega)
    have g7 := grown_cell hg3 f7 (by show x.1.heap.size + 1 ≠ y.1.heap.size; omega)
    have g8 := grown_cell hg3 f8 (by show x.1.heap.size + 1 ≠ y.1.heap.size; omega)
    cases hpp : p.parts t
    · rw [hpp] at c3
      have HR := Lib.hid (show p.may t = false by rw [HP.out HM.out, hpp]; simp)
      clear hpp
      go_wp2_with fail
      go_ret
      exact ⟨ret_int (Pr.err_bad HM.out HR.out).symm, ⟨w3, hc3.below⟩, rfl⟩
    · rw [hpp] at c3
      have HR := Lib.hid (show p.may t = decide (p.size ≤ 15) by rw [HP.out HM.out, hpp]; simp)
      clear hpp
      go_wp2_with fail
      refine (psize_any (Lt.base w3) (HA.out.below hc3.below) HSZ.out).mono ?_; rintro e w' ⟨rfl, z, rfl⟩
      by_cases h15 : p.size ≤ 15
      · have hd : decide ((15 : Int) < p.size) = false := decide_eq_false (by omega)
        have hd2 : (p.size : Int) ≤ 15 := by omega
        have HE := Lib.hid (show p.may t = true by rw [HR.out]; exact decide_eq_true h15)
        clear h15
        go_wp2_with fail
        go_ret
        exact ⟨ret_int (Pr.err_ok HM.out HE.out).symm, z.via hc3.below, rfl⟩
      · have hd : decide ((15 : Int) < p.size) = true := decide_eq_true (by omega)
        have hd2 : (15 : Int) < p.size := by omega
        have HE := Lib.hid (show p.may t = false by rw [HR.out]; exact decide_eq_false h15)
        clear h15
        go_wp2_with fail
        go_ret
        exact ⟨ret_int (Pr.err_bad HM.out HE.out).symm, z.via hc3.below, rfl⟩
end Go.Proofs.YtghpildnajdlpaaDoor
