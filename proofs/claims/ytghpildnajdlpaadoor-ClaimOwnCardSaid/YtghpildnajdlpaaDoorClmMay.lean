/-
  Whether a claim may be, walked: the program's onRow and Check, the document's May. Conditions: tables and claim lie in memory as they read.
-/
import Derived.Test.YtghpildnajdlpaaDoorClmIms
import Derived.Test.YtghpildnajdlpaaDoorPrCheck
import Derived.Test.YtghpildnajdlpaaDoorRPart
import Derived.IntWalk
namespace Go.Proofs.YtghpildnajdlpaaDoor
open Go.RowKit
variable {W : World}

/-- Tables lie behind an address, a slice of columns each. -/
def TabsAt (W : World) (A : Option Addr) (ts : List (List Bool)) : Prop := ts ≠ [] → ∃ b o, A = some ⟨b, o, none⟩ ∧ ∀ (i : Nat) (t : List Bool), ts[i]? = some t → ∃ A' ca', W.cell? ⟨b, o + i, none⟩ = some (.slice A' t.length ca') ∧ ColsAt W A' t
theorem TabsAt.below {W w : World} {A : Option Addr} {ts : List (List Bool)} (h : TabsAt W A ts) (hb : Below W.heap.size W w) : TabsAt w A ts := fun hn => by
  obtain ⟨b, o, hA, hc⟩ := h hn
  refine ⟨b, o, hA, fun i t ht => ?_⟩
  obtain ⟨A', ca', h1, h2⟩ := hc i t ht
  exact ⟨A', ca', (hb.cell (cell_lt h1)).trans h1, h2.below hb⟩
theorem TabsAt.at_ {W : World} {A : Option Addr} {ts : List (List Bool)} (h : TabsAt W A ts) {k : Int} (h0 : 0 ≤ k) (h1 : k < ts.length) : ∃ (t : List Bool) (b o : Nat) (A' : Option Addr) (ca' : Nat), ts[k.toNat]? = some t ∧ A = some ⟨b, o, none⟩ ∧ W.cell? ⟨b, o + k.toNat, none⟩ = some (.slice A' t.length ca') ∧ ColsAt W A' t := by
  have hk : k.toNat < ts.length := by omega
  obtain ⟨b, o, hA, hc⟩ := h (fun e => by subst e; simp at hk)
  have ht : ts[k.toNat]? = some ts[k.toNat] := List.getElem?_eq_getElem hk
  obtain ⟨A', ca', h2, h3⟩ := hc _ _ ht
  exact ⟨_, b, o, A', ca', ht, hA, h2, h3⟩
theorem Cl.may_lo {ts : List (List Bool)} {c : Cl} (h : c.table < 0) : Cl.may ts c = false := by unfold Cl.may; rw [decide_eq_false (by omega)]; rfl
theorem Cl.may_hi {ts : List (List Bool)} {c : Cl} (h0 : 0 ≤ c.table) (h : (ts.length : Int) ≤ c.table) : Cl.may ts c = false := by
  unfold Cl.may
  rw [List.getElem?_eq_none (by omega), Bool.and_false]
theorem Cl.may_at {ts : List (List Bool)} {c : Cl} {t : List Bool} (h0 : 0 ≤ c.table) (ht : ts[c.table.toNat]? = some t) : Cl.may ts c = (R.may t.length && Cl.ok t c) := by
  unfold Cl.may
  rw [decide_eq_true h0, ht]; rfl
theorem Cl.ok_1 {t : List Bool} {c : Cl} (h : c.kind = 1) : Cl.ok t c = (M.right c.mode && !decide (c.mode = 0)) := by unfold Cl.ok; rw [if_pos h]
theorem Cl.ok_2 {t : List Bool} {c : Cl} (h : c.kind = 2) : Cl.ok t c = Cl.okRow t c := by unfold Cl.ok; rw [if_neg (by omega), if_pos h]
theorem Cl.ok_3 {t : List Bool} {c : Cl} (h : c.kind = 3) : Cl.ok t c = (decide (c.mode = 3) && c.p.may t) := by unfold Cl.ok; rw [if_neg (by omega), if_neg (by omega), if_pos h]
theorem Cl.ok_0 {t : List Bool} {c : Cl} (h1 : c.kind ≠ 1) (h2 : c.kind ≠ 2) (h3 : c.kind ≠ 3) : Cl.ok t c = false := by unfold Cl.ok; rw [if_neg h1, if_neg h2, if_neg h3]
/-- A table's first column. -/
theorem ColsAt.first {W : World} {A : Option Addr} {t : List Bool} (h : ColsAt W A t) (hn : R.may t.length = true) : ∃ (u : Bool) (b o : Nat), t.head? = some u ∧ 0 < t.length ∧ A = some ⟨b, o, none⟩ ∧ W.cell? ⟨b, o, none⟩ = some (.bool u) := by
  have hl := (R.may_iff.1 hn).1
  obtain ⟨b, o, hA, hc⟩ := h (fun e => by rw [e] at hl; simp at hl)
  have hu : t[0]? = some (t[0]'(by omega)) := List.getElem?_eq_getElem (by omega)
  have := hc 0 _ hu
  simp only [Nat.add_zero] at this
  exact ⟨_, b, o, by rw [List.head?_eq_getElem?]; exact hu, by omega, hA, this⟩
theorem Cl.okRow_no {t : List Bool} {c : Cl} (h : c.key.right = false) : Cl.okRow t c = false := by unfold Cl.okRow; rw [h]; rfl
theorem Cl.okRow_t {t : List Bool} {c : Cl} {u : Bool} (hu : t.head? = some u) (h : ¬ c.key.t = u) : Cl.okRow t c = false := by
  unfold Cl.okRow
  rw [hu, decide_eq_false (fun e => h (by injection e with e; exact e.symm)), Bool.and_false]; rfl
theorem Cl.okRow_35 {t : List Bool} {c : Cl} {u : Bool} (hr : c.key.right = true) (hu : t.head? = some u) (h : c.key.t = u) (hm : c.mode = 3 ∨ c.mode = 5) : Cl.okRow t c = decide (c.im.length = 0) := by
  unfold Cl.okRow
  rw [hr, hu, h, decide_eq_true rfl, if_pos hm]; rfl
theorem Cl.okRow_6 {t : List Bool} {c : Cl} {u : Bool} (hr : c.key.right = true) (hu : t.head? = some u) (h : c.key.t = u) (hm : c.mode = 6) : Cl.okRow t c = c.im.all (Cl.okIm t c.key) := by
  unfold Cl.okRow
  rw [hr, hu, h, decide_eq_true rfl, if_neg (by omega), if_pos hm]; rfl
theorem Cl.okRow_0 {t : List Bool} {c : Cl} (h3 : c.mode ≠ 3) (h5 : c.mode ≠ 5) (h6 : c.mode ≠ 6) : Cl.okRow t c = false := by
  unfold Cl.okRow
  rw [if_neg (by omega), if_neg h6, Bool.and_false]
set_option maxHeartbeats 4000000 in
theorem onRow_any {t : List Bool} {a : Cl} {T A P : Option Addr} {ct ca pa : Nat} (hm : R.may t.length = true) (ht : ColsAt W T t) (ha : a.At W A ca P pa) (fa : a.Fits) (x : Lt W) : Calls Tryd.prog 34 #[.agg #[.slice T t.length ct], a.arg A ca P pa] x.1 fun e w' => e = .returned (.bool (Cl.okRow t a)) ∧ ∃ y : Lt W, w' = y.1 := by
  have HT0 := Lib.hid ht
  have HA := Lib.hid ha
  have FA := Lib.hid fa
  obtain ⟨u, tb, tof, hu, h0, hTe, hc⟩ := ht.first hm
  have HTE := Lib.hid hTe
  have HC0 := Lib.hid hc
  have HU := Lib.hid hu
  clear ht ha fa hm hc hu hTe
  unfold Cl.arg
  go_enter Tryd.func34, Tryd.ntmps34
  go_upto_region 1 with fail
  refine wp_here fun W1 hW1 => ?_
  have B1 : Below W.heap.size W W1 := by rw [hW1]; exact below_then (x.more _) (below_alloc _)
  have kt : Blk W1 (x.1.heap.size) [.slice T t.length ct] := by rw [hW1]; refine Blk.alloc ?_ _; exact Blk.new' (l := #[.slice T t.length ct]) (by simp)
  have ka : Blk W1 (x.1.heap.size + 1) [.int .i64 a.kind, .int .i64 a.table, .int .i64 a.mode, .bool a.key.t, .int .i64 a.key.n, .string a.key.s, .slice A a.im.length ca, .int .i64 a.p.op, .int .i64 a.p.col, .bool a.p.v.t, .int .i64 a.p.v.n, .string a.p.v.s, .bool a.p.w.t, .int .i64 a.p.w.n, .string a.p.w.s, .slice P a.p.l.length pa] := by rw [hW1]; exact Blk.new' (l := #[.int .i64 a.kind, .int .i64 a.table, .int .i64 a.mode, .bool a.key.t, .int .i64 a.key.n, .string a.key.s, .slice A a.im.length ca, .int .i64 a.p.op, .int .i64 a.p.col, .bool a.p.v.t, .int .i64 a.p.v.n, .string a.p.v.s, .bool a.p.w.t, .int .i64 a.p.w.n, .string a.p.w.s, .slice P a.p.l.length pa]) (by simp)
  clear hW1
  have tw0 := kt.cell 0 _ rfl
  have tz0 := fun z : Lt W1 => z.cell tw0
  have aw0 := ka.cell 0 _ rfl
  have az0 := fun z : Lt W1 => z.cell aw0
  have aw1 := ka.cell 1 _ rfl
  have az1 := fun z : Lt W1 => z.cell aw1
  have aw2 := ka.cell 2 _ rfl
  have az2 := fun z : Lt W1 => z.cell aw2
  have aw3 := ka.cell 3 _ rfl
  have az3 := fun z : Lt W1 => z.cell aw3
  have aw4 := ka.cell 4 _ rfl
  have az4 := fun z : Lt W1 => z.cell aw4
  have aw5 := ka.cell 5 _ rfl
  have az5 := fun z : Lt W1 => z.cell aw5
  have aw6 := ka.cell 6 _ rfl
  have az6 := fun z : Lt W1 => z.cell aw6
  have aw7 := ka.cell 7 _ rfl
  have az7 := fun z : Lt W1 => z.cell aw7
  have aw8 := ka.cell 8 _ rfl
  have az8 := fun z : Lt W1 => z.cell aw8
  have aw9 := ka.cell 9 _ rfl
  have az9 := fun z : Lt W1 => z.cell aw9
  have aw10 := ka.cell 10 _ rfl
  have az10 := fun z : Lt W1 => z.cell aw10
  have aw11 := ka.cell 11 _ rfl
  have az11 := fun z : Lt W1 => z.cell aw11
  have aw12 := ka.cell 12 _ rfl
  have az12 := fun z : Lt W1 => z.cell aw12
  have aw13 := ka.cell 13 _ rfl
  have az13 := fun z : Lt W1 => z.cell aw13
  have aw14 := ka.cell 14 _ rfl
  have az14 := fun z : Lt W1 => z.cell aw14
  have aw15 := ka.cell 15 _ rfl
  have az15 := fun z : Lt W1 => z.cell aw15
  obtain rfl := HTE.out
  have e0 := fun z : Lt W1 => z.old B1 HC0.out
  obtain ⟨r, hr⟩ : ∃ r, a.key.right = r := ⟨_, rfl⟩
  have HC := Lib.hid (fun z : Lt W1 => vright_is hr z)
  have HR0 := Lib.hid hr
  clear hr
  cases r
  · have HR := Lib.hid (Cl.okRow_no (t := t) HR0.out)
    refine wp_region_here (by kernel_rfl) (by kernel_rfl) ?_
    repeat (go_big_quiet_step ((go_at_call 57; with_reducible exact HC.out _)))
    refine wpQuiet_nil ?_; intro _ hw'; obtain ⟨z, rfl⟩ := hw'
    go_wp2_with fail
    go_ret
    exact ⟨ret_bool HR.out.symm, z.via B1, rfl⟩
  by_cases hk : a.key.t = u
  · have hk1 : (a.key.t == u) = true := by simp [hk]
    have HK := Lib.hid hk
    clear hk
    by_cases h3 : a.mode = 3
    · have d3 : (a.mode == 3) = true := by simp [h3]
      have HR := Lib.hid (Cl.okRow_35 HR0.out HU.out HK.out (.inl h3))
      clear h3
      by_cases hl : a.im.length = 0
      all_goals
        first | (have hd := len_eq0 _ hl; rw [decide_eq_true hl] at HR; clear hl) | (have hd := len_ne0 _ hl; rw [decide_eq_false hl] at HR; clear hl)
        refine wp_region_here (by kernel_rfl) (by kernel_rfl) ?_
        repeat (go_big_quiet_step ((go_at_call 57; with_reducible exact HC.out _)))
        refine wpQuiet_nil ?_; intro _ hw'; obtain ⟨z, rfl⟩ := hw'
        go_wp2_with fail
        go_ret
        exact ⟨ret_bool HR.out.symm, z.via B1, rfl⟩
    have d3 : (a.mode == 3) = false := by simpa using h3
    by_cases h5 : a.mode = 5
    · have d5 : (a.mode == 5) = true := by simp [h5]
      have HR := Lib.hid (Cl.okRow_35 HR0.out HU.out HK.out (.inr h5))
      clear h3 h5
      by_cases hl : a.im.length = 0
      all_goals
        first | (have hd := len_eq0 _ hl; rw [decide_eq_true hl] at HR; clear hl) | (have hd := len_ne0 _ hl; rw [decide_eq_false hl] at HR; clear hl)
        refine wp_region_here (by kernel_rfl) (by kernel_rfl) ?_
        repeat (go_big_quiet_step ((go_at_call 57; with_reducible exact HC.out _)))
        refine wpQuiet_nil ?_; intro _ hw'; obtain ⟨z, rfl⟩ := hw'
        go_wp2_with fail
        go_ret
        exact ⟨ret_bool HR.out.symm, z.via B1, rfl⟩
    have d5 : (a.mode == 5) = false := by simpa using h5
    by_cases h6 : a.mode = 6
    · have d6 : (a.mode == 6) = true := by simp [h6]
      have HR := Lib.hid (Cl.okRow_6 HR0.out HU.out HK.out h6)
      clear h3 h5 h6
      refine wp_region_here (by kernel_rfl) (by kernel_rfl) ?_
      repeat (go_big_quiet_step ((go_at_call 57; with_reducible exact HC.out _)))
      refine wpQuiet_nil ?_; intro _ hw'; obtain ⟨z, rfl⟩ := hw'
      go_wp2_with fail
      refine (all_any_rows enters_row1 (Cl.okIm t a.key) (by have := FA.out.im; omega) (HA.out.im.below B1) (fun r _ => row1_any tw0 (HT0.out.below B1) ka r) z).mono ?_; rintro e w' ⟨rfl, y, rfl⟩
      go_wp2_with fail
      go_ret
      exact ⟨ret_bool HR.out.symm, y.via B1, rfl⟩
    · have d6 : (a.mode == 6) = false := by simpa using h6
      have HR := Lib.hid (Cl.okRow_0 (t := t) h3 h5 h6)
      clear h3 h5 h6
      refine wp_region_here (by kernel_rfl) (by kernel_rfl) ?_
      repeat (go_big_quiet_step ((go_at_call 57; with_reducible exact HC.out _)))
      refine wpQuiet_nil ?_; intro _ hw'; obtain ⟨z, rfl⟩ := hw'
      go_wp2_with fail
      go_ret
      exact ⟨ret_bool HR.out.symm, z.via B1, rfl⟩
  · have hk1 : (a.key.t == u) = false := by simpa using hk
    have HR := Lib.hid (Cl.okRow_t HU.out hk)
    clear hk
    refine wp_region_here (by kernel_rfl) (by kernel_rfl) ?_
    repeat (go_big_quiet_step ((go_at_call 57; with_reducible exact HC.out _)))
    refine wpQuiet_nil ?_; intro _ hw'; obtain ⟨z, rfl⟩ := hw'
    go_wp2_with fail
    go_ret
    exact ⟨ret_bool HR.out.symm, z.via B1, rfl⟩
def Cl.err (ts : List (List Bool)) (c : Cl) : Int := if Cl.may ts c then 0 else 111
theorem Cl.err_no {ts : List (List Bool)} {c : Cl} (h : Cl.may ts c = false) : Cl.err ts c = 111 := by unfold Cl.err; rw [h]; rfl
theorem Cl.err_ok {ts : List (List Bool)} {c : Cl} (h : Cl.may ts c = true) : Cl.err ts c = 0 := by unfold Cl.err; rw [h]; rfl
theorem mright_kind {m : Int} : (M.right m && !decide (m = 0)) = (decide (1 ≤ m) && decide (m ≤ 6)) := by
  unfold M.right
  rw [Bool.eq_iff_iff]
  simp only [Bool.and_eq_true, Bool.not_eq_true', decide_eq_true_eq, decide_eq_false_iff_not]
  omega
set_option maxHeartbeats 4000000 in
theorem ccheck_any {ts : List (List Bool)} {a : Cl} {A0 A P : Option Addr} {ca0 ca pa : Nat} (hts : TabsAt W A0 ts) (ha : a.At W A ca P pa) (fa : a.Fits) (x : Lt W) : Calls Tryd.prog 14 #[.slice A0 ts.length ca0, a.arg A ca P pa] x.1 fun e w' => e = .returned (.int .i64 (Cl.err ts a)) ∧ ∃ y : Lt W, w' = y.1 := by
  have HTS := Lib.hid hts
  have HA := Lib.hid ha
  have FA := Lib.hid fa
  clear hts ha fa
  unfold Cl.arg
  go_enter Tryd.func14, Tryd.ntmps14
  go_upto_region 1 with fail
  refine wp_here fun W1 hW1 => ?_
  have B1 : Below W.heap.size W W1 := by rw [hW1]; exact x.more _
  have ka : Blk W1 (x.1.heap.size) [.int .i64 a.kind, .int .i64 a.table, .int .i64 a.mode, .bool a.key.t, .int .i64 a.key.n, .string a.key.s, .slice A a.im.length ca, .int .i64 a.p.op, .int .i64 a.p.col, .bool a.p.v.t, .int .i64 a.p.v.n, .string a.p.v.s, .bool a.p.w.t, .int .i64 a.p.w.n, .string a.p.w.s, .slice P a.p.l.length pa] := by rw [hW1]; exact Blk.new' (l := #[.int .i64 a.kind, .int .i64 a.table, .int .i64 a.mode, .bool a.key.t, .int .i64 a.key.n, .string a.key.s, .slice A a.im.length ca, .int .i64 a.p.op, .int .i64 a.p.col, .bool a.p.v.t, .int .i64 a.p.v.n, .string a.p.v.s, .bool a.p.w.t, .int .i64 a.p.w.n, .string a.p.w.s, .slice P a.p.l.length pa]) (by simp)
  clear hW1
  have aw0 := ka.cell 0 _ rfl
  have az0 := fun z : Lt W1 => z.cell aw0
  have aw1 := ka.cell 1 _ rfl
  have az1 := fun z : Lt W1 => z.cell aw1
  have aw2 := ka.cell 2 _ rfl
  have az2 := fun z : Lt W1 => z.cell aw2
  have aw3 := ka.cell 3 _ rfl
  have az3 := fun z : Lt W1 => z.cell aw3
  have aw4 := ka.cell 4 _ rfl
  have az4 := fun z : Lt W1 => z.cell aw4
  have aw5 := ka.cell 5 _ rfl
  have az5 := fun z : Lt W1 => z.cell aw5
  have aw6 := ka.cell 6 _ rfl
  have az6 := fun z : Lt W1 => z.cell aw6
  have aw7 := ka.cell 7 _ rfl
  have az7 := fun z : Lt W1 => z.cell aw7
  have aw8 := ka.cell 8 _ rfl
  have az8 := fun z : Lt W1 => z.cell aw8
  have aw9 := ka.cell 9 _ rfl
  have az9 := fun z : Lt W1 => z.cell aw9
  have aw10 := ka.cell 10 _ rfl
  have az10 := fun z : Lt W1 => z.cell aw10
  have aw11 := ka.cell 11 _ rfl
  have az11 := fun z : Lt W1 => z.cell aw11
  have aw12 := ka.cell 12 _ rfl
  have az12 := fun z : Lt W1 => z.cell aw12
  have aw13 := ka.cell 13 _ rfl
  have az13 := fun z : Lt W1 => z.cell aw13
  have aw14 := ka.cell 14 _ rfl
  have az14 := fun z : Lt W1 => z.cell aw14
  have aw15 := ka.cell 15 _ rfl
  have az15 := fun z : Lt W1 => z.cell aw15
  by_cases h0 : a.table < 0
  · have d0 : decide (a.table < 0) = true := decide_eq_true h0
    have HR := Lib.hid (Cl.err_no (Cl.may_lo (ts := ts) h0))
    go_wp2_with fail
    go_ret
    exact ⟨ret_int HR.out.symm, (Lt.base W1).via B1, rfl⟩
  have d0 : decide (a.table < 0) = false := decide_eq_false h0
  by_cases h1 : (ts.length : Int) ≤ a.table
  · have d1 : decide ((ts.length : Int) ≤ a.table) = true := decide_eq_true h1
    have HR := Lib.hid (Cl.err_no (Cl.may_hi (ts := ts) (by omega) h1))
    go_wp2_with fail
    go_ret
    exact ⟨ret_int HR.out.symm, (Lt.base W1).via B1, rfl⟩
  have d1 : decide ((ts.length : Int) ≤ a.table) = false := decide_eq_false h1
  have i0 : (0 : Int) ≤ a.table := by omega
  have i1 : a.table < (ts.length : Int) := by omega
  obtain ⟨t, b, off, T, ct, ht, rfl, hc, hcols⟩ := HTS.out.at_ i0 i1
  have HM := Lib.hid (Cl.may_at i0 ht)
  have HC0 := Lib.hid hc
  have HCOLS := Lib.hid hcols
  have e0 := fun z : Lt W1 => z.old B1 hc
  have e0' : W1.cell? ⟨b, off + a.table.toNat, none⟩ = some (.slice T t.length ct) := e0 (Lt.base W1)
  clear ht hc hcols
  cases hmay : R.may t.length
  · have HR := Lib.hid (Cl.err_no (show Cl.may ts a = false by rw [HM.out, hmay]; rfl))
    have HMAY := Lib.hid hmay
    clear hmay
    go_wp2_with fail
    refine (check_no HMAY.out (Lt.base W1)).mono ?_; rintro e w' ⟨rfl, y, rfl⟩
    go_wp2_with fail
    go_ret
    exact ⟨ret_int HR.out.symm, y.via B1, rfl⟩
  have HMAY := Lib.hid hmay
  have HE := Lib.hid (show Cl.may ts a = Cl.ok t a by rw [HM.out, hmay]; rfl)
  clear hmay HM
  go_wp2_with fail
  refine (check_yes HMAY.out (Lt.base W1)).mono ?_; rintro e w' ⟨rfl, y, rfl⟩
  obtain ⟨g, hg⟩ : ∃ g, y.1.heap.size = g := ⟨_, rfl⟩
  have e1 := e0 y
  go_upto_region 5 with fail
  refine wp_here fun V1 hV1 => ?_
  have bV1 : Below W1.heap.size W1 V1 := by rw [hV1]; exact y.more _
  clear aw0 az0 aw1 az1 aw2 az2 aw3 az3 aw4 az4 aw5 az5 aw6 az6 aw7 az7 aw8 az8 aw9 az9 aw10 az10 aw11 az11 aw12 az12 aw13 az13 aw14 az14 aw15 az15
  replace ka := ka.below bV1
  have kt : Blk V1 g [.slice T t.length ct] := by rw [hV1]; exact Blk.new' (l := #[.slice T t.length ct]) hg.symm
  have BV1 : Below W.heap.size W V1 := below_then B1 bV1
  clear hV1
  have aw0 := ka.cell 0 _ rfl
  have az0 := fun z : Lt V1 => z.cell aw0
  have aw1 := ka.cell 1 _ rfl
  have az1 := fun z : Lt V1 => z.cell aw1
  have aw2 := ka.cell 2 _ rfl
  have az2 := fun z : Lt V1 => z.cell aw2
  have aw3 := ka.cell 3 _ rfl
  have az3 := fun z : Lt V1 => z.cell aw3
  have aw4 := ka.cell 4 _ rfl
  have az4 := fun z : Lt V1 => z.cell aw4
  have aw5 := ka.cell 5 _ rfl
  have az5 := fun z : Lt V1 => z.cell aw5
  have aw6 := ka.cell 6 _ rfl
  have az6 := fun z : Lt V1 => z.cell aw6
  have aw7 := ka.cell 7 _ rfl
  have az7 := fun z : Lt V1 => z.cell aw7
  have aw8 := ka.cell 8 _ rfl
  have az8 := fun z : Lt V1 => z.cell aw8
  have aw9 := ka.cell 9 _ rfl
  have az9 := fun z : Lt V1 => z.cell aw9
  have aw10 := ka.cell 10 _ rfl
  have az10 := fun z : Lt V1 => z.cell aw10
  have aw11 := ka.cell 11 _ rfl
  have az11 := fun z : Lt V1 => z.cell aw11
  have aw12 := ka.cell 12 _ rfl
  have az12 := fun z : Lt V1 => z.cell aw12
  have aw13 := ka.cell 13 _ rfl
  have az13 := fun z : Lt V1 => z.cell aw13
  have aw14 := ka.cell 14 _ rfl
  have az14 := fun z : Lt V1 => z.cell aw14
  have aw15 := ka.cell 15 _ rfl
  have az15 := fun z : Lt V1 => z.cell aw15
  have tw0 := kt.cell 0 _ rfl
  have tz0 := fun z : Lt V1 => z.cell tw0
  clear hg e0 e0' e1
  by_cases h1k : a.kind = 1
  · have HR := Lib.hid (HE.out.trans (Cl.ok_1 h1k))
    have k1 : (a.kind == 1) = true := by simp [h1k]
    clear h1k
    obtain ⟨r, hr⟩ : ∃ r, M.right a.mode = r := ⟨_, rfl⟩
    have HC := Lib.hid (fun z : Lt V1 => mright_is hr z)
    rw [hr] at HR
    clear hr
    cases r
    · have HF := Lib.hid (Cl.err_no HR.out)
      go_wp2_with fail
      refine (HC.out (Lt.base V1)).mono ?_; rintro e w' ⟨rfl, z, rfl⟩
      go_wp2_with fail
      go_ret
      exact ⟨ret_int HF.out.symm, z.via BV1, rfl⟩
    by_cases hm0 : a.mode = 0
    · have dm : (a.mode != 0) = false := by simp [hm0]
      have HF := Lib.hid (Cl.err_no (show Cl.may ts a = false by rw [HR.out, decide_eq_true hm0]; rfl))
      clear hm0
      go_wp2_with fail
      refine (HC.out (Lt.base V1)).mono ?_; rintro e w' ⟨rfl, z, rfl⟩
      go_wp2_with fail
      go_ret
      exact ⟨ret_int HF.out.symm, z.via BV1, rfl⟩
    · have dm : (a.mode != 0) = true := by simpa using hm0
      have HF := Lib.hid (Cl.err_ok (show Cl.may ts a = true by rw [HR.out, decide_eq_false hm0]; rfl))
      clear hm0
      go_wp2_with fail
      refine (HC.out (Lt.base V1)).mono ?_; rintro e w' ⟨rfl, z, rfl⟩
      go_wp2_with fail
      go_ret
      exact ⟨ret_int HF.out.symm, z.via BV1, rfl⟩
  by_cases h2k : a.kind = 2
  · have HR := Lib.hid (HE.out.trans (Cl.ok_2 h2k))
    have k1 : (a.kind == 1) = false := by simp [h2k]
    have k2 : (a.kind == 2) = true := by simp [h2k]
    clear h2k h1k
    go_wp2_with fail
    obtain ⟨r, hr⟩ : ∃ r, Cl.okRow t a = r := ⟨_, rfl⟩
    have key := onRow_any (ct := ct) HMAY.out ((HCOLS.out.below B1).below bV1) (HA.out.below BV1) FA.out (Lt.base V1)
    rw [hr] at HR key
    clear hr
    refine key.mono ?_; rintro e w' ⟨rfl, z, rfl⟩
    clear key
    cases r
    · have HF := Lib.hid (Cl.err_no HR.out)
      go_wp2_with fail
      go_ret
      exact ⟨ret_int HF.out.symm, z.via BV1, rfl⟩
    · have HF := Lib.hid (Cl.err_ok HR.out)
      go_wp2_with fail
      go_ret
      exact ⟨ret_int HF.out.symm, z.via BV1, rfl⟩
  by_cases h3k : a.kind = 3
  · have HR := Lib.hid (HE.out.trans (Cl.ok_3 h3k))
    have k1 : (a.kind == 1) = false := by simp [h3k]
    have k2 : (a.kind == 2) = false := by simp [h3k]
    have k3 : (a.kind == 3) = true := by simp [h3k]
    clear h3k h2k h1k
    by_cases hm : a.mode = 3
    · have dm : (a.mode == 3) = true := by simp [hm]
      rw [decide_eq_true hm] at HR
      clear hm
      go_wp2_with fail
      have key := pcheck_any (ca0 := ct) (Lt.base V1) ((HCOLS.out.below B1).below bV1) (HA.out.p.below BV1) (by have := FA.out.p; omega)
      cases hp : a.p.may t
      · rw [Pr.err_bad HMAY.out hp] at key
        have HF := Lib.hid (Cl.err_no (show Cl.may ts a = false by rw [HR.out, hp]; rfl))
        clear hp
        refine key.mono ?_; rintro e w' ⟨rfl, z, rfl⟩
        clear key
        go_wp2_with fail
        go_ret
        exact ⟨ret_int HF.out.symm, z.via BV1, rfl⟩
      · rw [Pr.err_ok HMAY.out hp] at key
        have HF := Lib.hid (Cl.err_ok (show Cl.may ts a = true by rw [HR.out, hp]; rfl))
        clear hp
        refine key.mono ?_; rintro e w' ⟨rfl, z, rfl⟩
        clear key
        go_wp2_with fail
        go_ret
        exact ⟨ret_int HF.out.symm, z.via BV1, rfl⟩
    · have dm : (a.mode == 3) = false := by simpa using hm
      have HF := Lib.hid (Cl.err_no (show Cl.may ts a = false by rw [HR.out, decide_eq_false hm]; rfl))
      clear hm
      go_wp2_with fail
      go_ret
      exact ⟨ret_int HF.out.symm, (Lt.base V1).via BV1, rfl⟩
  have k1 : (a.kind == 1) = false := by simpa using h1k
  have k2 : (a.kind == 2) = false := by simpa using h2k
  have k3 : (a.kind == 3) = false := by simpa using h3k
  have HF := Lib.hid (Cl.err_no (HE.out.trans (Cl.ok_0 h1k h2k h3k)))
  clear h1k h2k h3k
  go_wp2_with fail
  go_ret
  exact ⟨ret_int HF.out.symm, (Lt.base V1).via BV1, rfl⟩
end Go.Proofs.YtghpildnajdlpaaDoor
