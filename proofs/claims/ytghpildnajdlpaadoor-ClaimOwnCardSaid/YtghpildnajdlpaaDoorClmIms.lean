/-
  A row's images, walked: whether they may be (the program's inner function and the document's), and whether a claim is small. Conditions: table and claim lie in memory as they read.
-/
import Derived.Test.YtghpildnajdlpaaDoorClmRef
import Derived.Test.YtghpildnajdlpaaDoorFew09
import Derived.Test.YtghpildnajdlpaaDoorTable
namespace Go.Proofs.YtghpildnajdlpaaDoor
open Go.RowKit
variable {W : World}

theorem Cl.okIm_nil {t : List Bool} {k : Val} {r : List Val} (h : r.length = 0) : Cl.okIm t k r = true := by unfold Cl.okIm; rw [decide_eq_true h]; rfl
theorem Cl.okIm_not {t : List Bool} {k : Val} {r : List Val} (h : r.length ≠ 0) (hf : R.fits t r = false) : Cl.okIm t k r = false := by unfold Cl.okIm; rw [decide_eq_false h, hf]; rfl
theorem Cl.okIm_fit {t : List Bool} {k u : Val} {r : List Val} (h : r.length ≠ 0) (hf : R.fits t r = true) (hu : r[0]? = some u) : Cl.okIm t k r = decide (u = k) := by
  unfold Cl.okIm
  rw [decide_eq_false h, hf]
  have : r.head? = some u := by rw [List.head?_eq_getElem?]; exact hu
  rw [this]
  simp
/-- A row's first value. -/
theorem RowAt.first {W : World} {A : Option Addr} {r : List Val} (h : RowAt W A r) (hn : r.length ≠ 0) : ∃ (u : Val) (b o : Nat), r[0]? = some u ∧ A = some ⟨b, o, none⟩ ∧ W.cell? ⟨b, o, none⟩ = some (.bool u.t) ∧ W.cell? ⟨b, o + 1, none⟩ = some (.int .i64 u.n) ∧ W.cell? ⟨b, o + 2, none⟩ = some (.string u.s) := by
  obtain ⟨b, o, hA, hc⟩ := h (fun e => hn (by rw [e]; rfl))
  have hu : r[0]? = some (r[0]'(by omega)) := List.getElem?_eq_getElem (by omega)
  have := hc 0 _ hu
  simp only [Nat.zero_mul, Nat.add_zero] at this
  exact ⟨_, b, o, hu, hA, this⟩
theorem enters_row1 (args : Array Value) (w : World) : (callFunc 58 args).run Tryd.prog w = .ok (.enter 58 args) w := enters Tryd.func58 (by kernel_rfl) (by kernel_rfl) args w
set_option maxHeartbeats 1000000 in
theorem row1_any {c : Cl} {A : Option Addr} {ca : Nat} {P : Option Addr} {pa : Nat} {g h : Nat} {T : Option Addr} {t : List Bool} {ct : Nat} (hg : W.cell? ⟨g, 0, none⟩ = some (.slice T t.length ct)) (ht : ColsAt W T t) (hc : Blk W h [.int .i64 c.kind, .int .i64 c.table, .int .i64 c.mode, .bool c.key.t, .int .i64 c.key.n, .string c.key.s, .slice A c.im.length ca, .int .i64 c.p.op, .int .i64 c.p.col, .bool c.p.v.t, .int .i64 c.p.v.n, .string c.p.v.s, .bool c.p.w.t, .int .i64 c.p.w.n, .string c.p.w.s, .slice P c.p.l.length pa]) (r : List Val) : Says W 58 #[.pointer (some ⟨g, 0, none⟩), .pointer (some ⟨h, 0, none⟩)] (Cl.okIm t c.key) r := by
  intro w A' ca' hw hr hn
  show Calls Tryd.prog 58 #[.slice A' r.length ca', .pointer (some ⟨g, 0, none⟩), .pointer (some ⟨h, 0, none⟩)] w _
  have q0 := fun z : Lt w => z.cell ((hw.cell (cell_lt hg)).trans hg)
  have q3 := fun z : Lt w => z.cell ((hc.below hw).cell 3 _ rfl)
  have q4 := fun z : Lt w => z.cell ((hc.below hw).cell 4 _ rfl)
  have q5 := fun z : Lt w => z.cell ((hc.below hw).cell 5 _ rfl)
  by_cases hl : r.length = 0
  · have hd := len_eq0 _ hl
    have HR := Lib.hid (Cl.okIm_nil (t := t) (k := c.key) hl)
    clear hl hc hr hn hw hg ht
    go_enter Tryd.func58, Tryd.ntmps58
    go_wp2_with fail
    refine wp_region_here (by kernel_rfl) (by kernel_rfl) ?_
    repeat (go_big_quiet_step (fail))
    refine wpQuiet_nil ?_; intro _ hw'; obtain ⟨z, rfl⟩ := hw'
    go_wp2_with fail
    go_ret
    exact ⟨ret_bool HR.out.symm, z.2⟩
  · have hd := len_ne0 _ hl
    have hl0 : 0 < r.length := by omega
    obtain ⟨u, b, o, hu, rfl, c0, c1, c2⟩ := hr.first hl
    have HC := Lib.hid (fun z : Lt w => fits_any (ca := ct) (cb := ca') (ht.below hw) hr z)
    have d0 := fun z : Lt w => z.cell c0
    have d1 := fun z : Lt w => z.cell c1
    have d2 := fun z : Lt w => z.cell c2
    cases hf : R.fits t r
    · have HR := Lib.hid (Cl.okIm_not (k := c.key) hl hf)
      rw [hf] at HC
      clear hl hc hr hn hw hg ht hf hu c0 c1 c2
      go_enter Tryd.func58, Tryd.ntmps58
      go_wp2_with fail
      refine wp_region_here (by kernel_rfl) (by kernel_rfl) ?_
      repeat (go_big_quiet_step ((go_at_call 59; with_reducible exact HC.out _)))
      refine wpQuiet_nil ?_; intro _ hw'; obtain ⟨z, rfl⟩ := hw'
      go_wp2_with fail
      go_ret
      exact ⟨ret_bool HR.out.symm, z.2⟩
    · have HR := Lib.hid (Cl.okIm_fit (k := c.key) hl hf hu)
      rw [hf] at HC
      have ek := fun w => run_eql_val u c.key w
      clear hl hc hr hn hw hg ht hf hu c0 c1 c2
      go_enter Tryd.func58, Tryd.ntmps58
      go_wp2_with fail
      refine wp_region_here (by kernel_rfl) (by kernel_rfl) ?_
      repeat (go_big_quiet_step ((go_at_call 59; with_reducible exact HC.out _)))
      refine wpQuiet_nil ?_; intro _ hw'; obtain ⟨z, rfl⟩ := hw'
      go_wp2_with fail
      go_ret
      exact ⟨ret_bool HR.out.symm, z.2⟩
/-- May these be a row's images? -/
def Cl.rims (t : List Bool) (c : Cl) : Bool := if c.mode = 6 then c.im.all (Cl.okIm t c.key) else decide (c.im.length = 0)
theorem len_zero' (n : Nat) : ((n : Int) == 0) = decide (n = 0) := by rw [Bool.eq_iff_iff]; simp
set_option maxHeartbeats 4000000 in
theorem rimages_any {t : List Bool} {a : Cl} {T A P : Option Addr} {ct ca pa : Nat} (ht : ColsAt W T t) (ha : ImgsAt W A ca a.im) (fa : a.Fits) (x : Lt W) : Calls Tryd.prog 30 #[.agg #[.slice T t.length ct], a.arg A ca P pa] x.1 fun e w' => e = .returned (.bool (Cl.rims t a)) ∧ ∃ y : Lt W, w' = y.1 := by
  have HT0 := Lib.hid ht
  have HA := Lib.hid ha
  have FA := Lib.hid fa
  clear ht ha fa
  unfold Cl.arg
  go_enter Tryd.func30, Tryd.ntmps30
  go_upto_region 1 with fail
  refine wp_here fun W1 hW1 => ?_
  have B1 : Below W.heap.size W W1 := by rw [hW1]; exact below_then (x.more _) (below_alloc _)
  have kt : Blk W1 (x.1.heap.size) [.slice T t.length ct] := by rw [hW1]; refine Blk.alloc ?_ _; exact Blk.new' (l := #[.slice T t.length ct]) (by simp)
  have ka : Blk W1 (x.1.heap.size + 1) [.int .i64 a.kind, .int .i64 a.table, .int .i64 a.mode, .bool a.key.t, .int .i64 a.key.n, .string a.key.s, .slice A a.im.length ca, .int .i64 a.p.op, .int .i64 a.p.col, .bool a.p.v.t, .int .i64 a.p.v.n, .string a.p.v.s, .bool a.p.w.t, .int .i64 a.p.w.n, .string a.p.w.s, .slice P a.p.l.length pa] := by rw [hW1]; exact Blk.new' (l := #[.int .i64 a.kind, .int .i64 a.table, .int .i64 a.mode, .bool a.key.t, .int .i64 a.key.n, .string a.key.s, .slice A a.im.length ca, .int .i64 a.p.op, .int .i64 a.p.col, .bool a.p.v.t, .int .i64 a.p.v.n, .string a.p.v.s, .bool a.p.w.t, .int .i64 a.p.w.n, .string a.p.w.s, .slice P a.p.l.length pa]) (by simp)
  clear hW1
  have tw0 := kt.cell 0 _ rfl
  have tz0 := fun z : Lt W1 => z.cell tw0
  have aw0 := ka.cell 0 _ rfl
  have az0 := fun z : Lt W1 => z.cell aw0
  have aw1 := ka.cell 1 _ rfl
  have az1 := fun z : Lt W1 => z.cell aw1
  have aw2 := ka.cell 2 _ rfl
  have az2 := fun z : Lt W1 => z.cell aw2
  have aw3 := ka.cell 3 _ rfl
  have az3 := fun z : Lt W1 => z.cell aw3
  have aw4 := ka.cell 4 _ rfl
  have az4 := fun z : Lt W1 => z.cell aw4
  have aw5 := ka.cell 5 _ rfl
  have az5 := fun z : Lt W1 => z.cell aw5
  have aw6 := ka.cell 6 _ rfl
  have az6 := fun z : Lt W1 => z.cell aw6
  have aw7 := ka.cell 7 _ rfl
  have az7 := fun z : Lt W1 => z.cell aw7
  have aw8 := ka.cell 8 _ rfl
  have az8 := fun z : Lt W1 => z.cell aw8
  have aw9 := ka.cell 9 _ rfl
  have az9 := fun z : Lt W1 => z.cell aw9
  have aw10 := ka.cell 10 _ rfl
  have az10 := fun z : Lt W1 => z.cell aw10
  have aw11 := ka.cell 11 _ rfl
  have az11 := fun z : Lt W1 => z.cell aw11
  have aw12 := ka.cell 12 _ rfl
  have az12 := fun z : Lt W1 => z.cell aw12
  have aw13 := ka.cell 13 _ rfl
  have az13 := fun z : Lt W1 => z.cell aw13
  have aw14 := ka.cell 14 _ rfl
  have az14 := fun z : Lt W1 => z.cell aw14
  have aw15 := ka.cell 15 _ rfl
  have az15 := fun z : Lt W1 => z.cell aw15
  by_cases hm : a.mode = 6
  · have hd : (a.mode != 6) = false := by simp [hm]
    have HR := Lib.hid (show Cl.rims t a = a.im.all (Cl.okIm t a.key) by unfold Cl.rims; rw [if_pos hm])
    clear hm
    go_wp2_with fail
    go_loopw [5, 6, 7] (fun i _ _ wr => ∃ (k : Nat) (y : Lt W1), wr = y.1 ∧ i = .int .i64 k ∧ k ≤ a.im.length ∧ ∀ (j : Nat) (q : List Val), j < k → a.im[j]? = some q → Cl.okIm t a.key q = true) (fun i _ _ _ => a.im.length - (intOf i).toNat)
    case atStart => exact ⟨0, Lt.base W1, rfl, rfl, by omega, fun j q hj => absurd hj (by omega)⟩
    case round =>
      obtain ⟨k, y, rfl, rfl, hk, hall⟩ := hrel
      have HI := Lib.hid hall
      clear hall
      have hk9 : k ≤ 1000000000 := by have := FA.out.im; omega
      by_cases hlt : k < a.im.length
      · obtain ⟨bb, off, q, A2, ca2, hq, hmem, rfl, hcell, hqat, hqn⟩ := (HA.out.below B1).at_ hlt
        have HQ := Lib.hid hq
        have c0 := fun z : Lt W1 => z.cell hcell
        have HC := Lib.hid (fun z : Lt W1 => rfits_row (ca := ct) (cb := ca2) (HT0.out.below B1) hqat z)
        obtain ⟨f, hf⟩ : ∃ f, R.fits t q = f := ⟨_, rfl⟩
        rw [hf] at HC
        have HF := Lib.hid hf
        by_cases hl : q.length = 0
        · have g0 := len_ngt0 _ hl
          have g1 : decide (0 < q.length) = false := decide_eq_false (by omega)
          have g2 : ¬ 0 < q.length := by omega
          have HT := Lib.hid (Cl.okIm_nil (t := t) (k := a.key) hl)
          clear hcell hqn hq hqat hl hf
          go_wp2_with fail
          refine (HC.out y).mono ?_; rintro e w' ⟨rfl, z, rfl⟩
          go_wp2_with fail
          refine wp_region_pure _ (by kernel_rfl) (by kernel_rfl) ?_
          repeat (go_big_quiet_step (fail))
          refine wpQuiet_nil ?_; intro _ hw'; obtain ⟨z, rfl⟩ := hw'
          cases f
          all_goals
            go_wp2_with fail
            go_roundw
            case rel => exact ⟨k + 1, z, rfl, by go_num, by omega, step_all HI.out HQ.out HT.out⟩
            case measure => simp [intOf]; omega
        · have g0 := len_gt0 _ hl
          have g1 : 0 < q.length := by omega
          obtain ⟨u, b, o, hu, rfl, e0, e1, e2⟩ := hqat.first hl
          have d0 := fun z : Lt W1 => z.cell e0
          have d1 := fun z : Lt W1 => z.cell e1
          have d2 := fun z : Lt W1 => z.cell e2
          cases f
          · have HT := Lib.hid (Cl.okIm_not (k := a.key) hl hf)
            clear hcell hqn hq hqat hl hf hu e0 e1 e2
            go_wp2_with fail
            refine (HC.out y).mono ?_; rintro e w' ⟨rfl, z, rfl⟩
            go_wp2_with fail
            refine wp_region_pure _ (by kernel_rfl) (by kernel_rfl) ?_
            repeat (go_big_quiet_step (fail))
            refine wpQuiet_nil ?_; intro _ hw'; obtain ⟨z, rfl⟩ := hw'
            go_wp2_with fail
            go_ret
            exact ⟨ret_bool (by rw [HR.out, all_at HQ.out HT.out]), z.via B1, rfl⟩
          · obtain ⟨v, hv⟩ : ∃ v, decide (u = a.key) = v := ⟨_, rfl⟩
            have HT := Lib.hid (show Cl.okIm t a.key q = v by rw [Cl.okIm_fit (k := a.key) hl hf hu, hv])
            have ek := fun w => (run_neq_val u a.key w).trans (by rw [hv])
            clear hcell hqn hq hqat hl hf hu e0 e1 e2 hv
            cases v
            · go_wp2_with fail
              refine (HC.out y).mono ?_; rintro e w' ⟨rfl, z, rfl⟩
              go_wp2_with fail
              refine wp_region_pure _ (by kernel_rfl) (by kernel_rfl) ?_
              repeat (go_big_quiet_step (fail))
              refine wpQuiet_nil ?_; intro _ hw'; obtain ⟨z, rfl⟩ := hw'
              go_wp2_with fail
              go_ret
              exact ⟨ret_bool (by rw [HR.out, all_at HQ.out HT.out]), z.via B1, rfl⟩
            · go_wp2_with fail
              refine (HC.out y).mono ?_; rintro e w' ⟨rfl, z, rfl⟩
              go_wp2_with fail
              refine wp_region_pure _ (by kernel_rfl) (by kernel_rfl) ?_
              repeat (go_big_quiet_step (fail))
              refine wpQuiet_nil ?_; intro _ hw'; obtain ⟨z, rfl⟩ := hw'
              go_wp2_with fail
              go_roundw
              case rel => exact ⟨k + 1, z, rfl, by go_num, by omega, step_all HI.out HQ.out HT.out⟩
              case measure => simp [intOf]; omega
      · obtain rfl : k = a.im.length := by omega
        go_wp2_with fail
        go_ret
        exact ⟨ret_bool (by rw [HR.out, all_done HI.out]), y.via B1, rfl⟩
  · have hd : (a.mode != 6) = true := by simpa using hm
    have HR := Lib.hid (show Cl.rims t a = decide (a.im.length = 0) by unfold Cl.rims; rw [if_neg hm])
    clear hm
    by_cases hl : a.im.length = 0
    · have h0 := len_eq0 _ hl
      rw [decide_eq_true hl] at HR
      clear hl
      go_wp2_with fail
      go_ret
      exact ⟨ret_bool HR.out.symm, (Lt.base W1).via B1, rfl⟩
    · have h0 := len_ne0 _ hl
      rw [decide_eq_false hl] at HR
      clear hl
      go_wp2_with fail
      go_ret
      exact ⟨ret_bool HR.out.symm, (Lt.base W1).via B1, rfl⟩
/-- Has a claim few images, and a predicate with few parts? -/
def Cl.few (c : Cl) : Bool := decide (c.im.length ≤ 20) && c.im.all (fun r => decide (r.length ≤ 20)) && c.p.few 20 20 100 0
theorem Cl.few_fits {c : Cl} (h : c.few = true) (hf : ∀ r ∈ c.im, ∀ u ∈ r, u.s.size ≤ maxLen) : c.Fits := by
  unfold Cl.few at h
  simp only [Bool.and_eq_true, decide_eq_true_eq, List.all_eq_true] at h
  exact ⟨by omega, fun r hr => by have := h.1.2 r hr; omega, hf, by have := Pr.few_size h.2; omega⟩
theorem Cl.few_len {c : Cl} (h : c.few = true) : c.im.length ≤ 20 := by
  unfold Cl.few at h
  simp only [Bool.and_eq_true, decide_eq_true_eq] at h
  exact h.1.1
set_option maxHeartbeats 2000000 in
theorem cfew_any {a : Cl} {A P : Option Addr} {ca pa : Nat} (ha : a.At W A ca P pa) (x : Lt W) : Calls Tryd.prog 12 #[a.arg A ca P pa] x.1 fun e w' => e = .returned (.bool a.few) ∧ ∃ y : Lt W, w' = y.1 := by
  have HA := Lib.hid ha
  clear ha
  unfold Cl.arg
  go_enter Tryd.func12, Tryd.ntmps12
  go_upto_region 1 with fail
  refine wp_here fun W1 hW1 => ?_
  have B1 : Below W.heap.size W W1 := by rw [hW1]; exact x.more _
  have ka : Blk W1 (x.1.heap.size) [.int .i64 a.kind, .int .i64 a.table, .int .i64 a.mode, .bool a.key.t, .int .i64 a.key.n, .string a.key.s, .slice A a.im.length ca, .int .i64 a.p.op, .int .i64 a.p.col, .bool a.p.v.t, .int .i64 a.p.v.n, .string a.p.v.s, .bool a.p.w.t, .int .i64 a.p.w.n, .string a.p.w.s, .slice P a.p.l.length pa] := by rw [hW1]; exact Blk.new' (l := #[.int .i64 a.kind, .int .i64 a.table, .int .i64 a.mode, .bool a.key.t, .int .i64 a.key.n, .string a.key.s, .slice A a.im.length ca, .int .i64 a.p.op, .int .i64 a.p.col, .bool a.p.v.t, .int .i64 a.p.v.n, .string a.p.v.s, .bool a.p.w.t, .int .i64 a.p.w.n, .string a.p.w.s, .slice P a.p.l.length pa]) (by simp)
  clear hW1
  have aw0 := ka.cell 0 _ rfl
  have az0 := fun z : Lt W1 => z.cell aw0
  have aw1 := ka.cell 1 _ rfl
  have az1 := fun z : Lt W1 => z.cell aw1
  have aw2 := ka.cell 2 _ rfl
  have az2 := fun z : Lt W1 => z.cell aw2
  have aw3 := ka.cell 3 _ rfl
  have az3 := fun z : Lt W1 => z.cell aw3
  have aw4 := ka.cell 4 _ rfl
  have az4 := fun z : Lt W1 => z.cell aw4
  have aw5 := ka.cell 5 _ rfl
  have az5 := fun z : Lt W1 => z.cell aw5
  have aw6 := ka.cell 6 _ rfl
  have az6 := fun z : Lt W1 => z.cell aw6
  have aw7 := ka.cell 7 _ rfl
  have az7 := fun z : Lt W1 => z.cell aw7
  have aw8 := ka.cell 8 _ rfl
  have az8 := fun z : Lt W1 => z.cell aw8
  have aw9 := ka.cell 9 _ rfl
  have az9 := fun z : Lt W1 => z.cell aw9
  have aw10 := ka.cell 10 _ rfl
  have az10 := fun z : Lt W1 => z.cell aw10
  have aw11 := ka.cell 11 _ rfl
  have az11 := fun z : Lt W1 => z.cell aw11
  have aw12 := ka.cell 12 _ rfl
  have az12 := fun z : Lt W1 => z.cell aw12
  have aw13 := ka.cell 13 _ rfl
  have az13 := fun z : Lt W1 => z.cell aw13
  have aw14 := ka.cell 14 _ rfl
  have az14 := fun z : Lt W1 => z.cell aw14
  have aw15 := ka.cell 15 _ rfl
  have az15 := fun z : Lt W1 => z.cell aw15
  by_cases hl : a.im.length ≤ 20
  · have hd : decide ((20 : Int) < a.im.length) = false := decide_eq_false (by omega)
    obtain ⟨f, hf⟩ : ∃ f, a.p.few 20 20 100 0 = f := ⟨_, rfl⟩
    have key := Lib.hid (fun z : Lt W1 => few_is hf z (HA.out.p.below B1))
    have HR := Lib.hid (show a.few = (a.im.all (fun r => decide (r.length ≤ 20)) && f) by unfold Cl.few; rw [decide_eq_true hl, hf]; rfl)
    clear hf
    go_wp2_with fail
    go_loopw [3] (fun i wr => ∃ (k : Nat), W1 = wr ∧ i = .int .i64 k ∧ k ≤ a.im.length ∧ ∀ (j : Nat) (q : List Val), j < k → a.im[j]? = some q → decide (q.length ≤ 20) = true) (fun i _ => a.im.length - (intOf i).toNat)
    case atStart => exact ⟨0, rfl, rfl, by omega, fun j q hj => absurd hj (by omega)⟩
    case round =>
      obtain ⟨k, rfl, rfl, hk, hall⟩ := hrel
      have HI := Lib.hid hall
      clear hall
      by_cases hlt : k < a.im.length
      · obtain ⟨bb, off, q, A2, ca2, hq, hmem, rfl, c0, hqat, hqn⟩ := (HA.out.im.below B1).at_ hlt
        have HQ := Lib.hid hq
        clear hq hqat hqn
        by_cases hl2 : q.length ≤ 20
        · have hd2 : decide ((20 : Int) < q.length) = false := decide_eq_false (by omega)
          have HT := Lib.hid (show decide (q.length ≤ 20) = true from decide_eq_true hl2)
          go_wp2_with fail
          go_roundw
          case rel => exact ⟨k + 1, trivial, by go_num, by omega, step_all (P := fun q : List Val => decide (q.length ≤ 20) = true) HI.out HQ.out HT.out⟩
          case measure => simp [intOf]; omega
        · have hd2 : decide ((20 : Int) < q.length) = true := decide_eq_true (by omega)
          have hd3 : (20 : Int) < q.length := by omega
          have HT := Lib.hid (show decide (q.length ≤ 20) = false from decide_eq_false hl2)
          clear hl2
          go_wp2_with fail
          go_ret
          exact ⟨ret_bool (by rw [HR.out, all_at (f := fun r : List Val => decide (r.length ≤ 20)) HQ.out HT.out]; rfl), (Lt.base W1).via B1, rfl⟩
      · obtain rfl : k = a.im.length := by omega
        go_wp2_with fail
        refine (key.out (Lt.base W1)).mono ?_; rintro e w' ⟨rfl, y, rfl⟩
        go_wp2_with fail
        go_ret
        exact ⟨ret_bool (by rw [HR.out, all_done HI.out]; rfl), y.via B1, rfl⟩
  · have hd : decide ((20 : Int) < a.im.length) = true := decide_eq_true (by omega)
    have hd3 : (20 : Int) < a.im.length := by omega
    have HR := Lib.hid (show a.few = false by unfold Cl.few; rw [decide_eq_false hl]; rfl)
    clear hl
    go_wp2_with fail
    go_ret
    exact ⟨ret_bool HR.out.symm, (Lt.base W1).via B1, rfl⟩
end Go.Proofs.YtghpildnajdlpaaDoor
