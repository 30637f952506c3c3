/-
  Whether a claim may be, walked: the document's May. Conditions: tables and claim lie in memory as they read.
-/
import Derived.Test.YtghpildnajdlpaaDoorClmMay
namespace Go.Proofs.YtghpildnajdlpaaDoor
open Go.RowKit
variable {W : World}

/-- What the document asks of a row's claim. -/
theorem Cl.okRow_ref {t : List Bool} {c : Cl} {u : Bool} (hu : t.head? = some u) : Cl.okRow t c = ((decide (c.mode = 3) || decide (c.mode = 5) || decide (c.mode = 6)) && c.key.right && decide (c.key.t = u) && Cl.rims t c) := by
  have e : decide (t.head? = some c.key.t) = decide (c.key.t = u) := by
    rw [hu]
    exact decide_eq_decide.2 ⟨fun h => by injection h with h; exact h.symm, fun h => by rw [h]⟩
  unfold Cl.okRow Cl.rims
  rw [e]
  by_cases h6 : c.mode = 6
  · rw [if_neg (by omega), if_pos h6, if_pos h6, decide_eq_true h6]; simp
  · rw [if_neg h6, if_neg h6, decide_eq_false h6]
    by_cases h : c.mode = 3 ∨ c.mode = 5
    · rw [if_pos h]
      rcases h with h | h <;> rw [decide_eq_true h] <;> simp
    · rw [if_neg h, decide_eq_false (fun e => h (.inl e)), decide_eq_false (fun e => h (.inr e))]; simp
set_option maxHeartbeats 4000000 in
theorem rcmay_any {ts : List (List Bool)} {a : Cl} {A0 A P : Option Addr} {ca0 ca pa : Nat} (hts : TabsAt W A0 ts) (ha : a.At W A ca P pa) (fa : a.Fits) (x : Lt W) : Calls Tryd.prog 13 #[.slice A0 ts.length ca0, a.arg A ca P pa] x.1 fun e w' => e = .returned (.bool (Cl.may ts a)) ∧ ∃ y : Lt W, w' = y.1 := by
  have HTS := Lib.hid hts
  have HA := Lib.hid ha
  have FA := Lib.hid fa
  clear hts ha fa
  unfold Cl.arg
  go_enter Tryd.func13, Tryd.ntmps13
  go_upto_region 1 with fail
  refine wp_here fun W1 hW1 => ?_
  have B1 : Below W.heap.size W W1 := by rw [hW1]; exact x.more _
  have ka : Blk W1 (x.1.heap.size) [.int .i64 a.kind, .int .i64 a.table, .int .i64 a.mode, .bool a.key.t, .int .i64 a.key.n, .string a.key.s, .slice A a.im.length ca, .int .i64 a.p.op, .int .i64 a.p.col, .bool a.p.v.t, .int .i64 a.p.v.n, .string a.p.v.s, .bool a.p.w.t, .int .i64 a.p.w.n, .string a.p.w.s, .slice P a.p.l.length pa] := by rw [hW1]; exact Blk.new' (l := #[.int .i64 a.kind, .int .i64 a.table, .int .i64 a.mode, .bool a.key.t, .int .i64 a.key.n, .string a.key.s, .slice A a.im.length ca, .int .i64 a.p.op, .int .i64 a.p.col, .bool a.p.v.t, .int .i64 a.p.v.n, .string a.p.v.s, .bool a.p.w.t, .int .i64 a.p.w.n, .string a.p.w.s, .slice P a.p.l.length pa]) (by simp)
  clear hW1
  have aw0 := ka.cell 0 _ rfl
  have az0 := fun z : Lt W1 => z.cell aw0
  have aw1 := ka.cell 1 _ rfl
  have az1 := fun z : Lt W1 => z.cell aw1
  have aw2 := ka.cell 2 _ rfl
  have az2 := fun z : Lt W1 => z.cell aw2
  have aw3 := ka.cell 3 _ rfl
  have az3 := fun z : Lt W1 => z.cell aw3
  have aw4 := ka.cell 4 _ rfl
  have az4 := fun z : Lt W1 => z.cell aw4
  have aw5 := ka.cell 5 _ rfl
  have az5 := fun z : Lt W1 => z.cell aw5
  have aw6 := ka.cell 6 _ rfl
  have az6 := fun z : Lt W1 => z.cell aw6
  have aw7 := ka.cell 7 _ rfl
  have az7 := fun z : Lt W1 => z.cell aw7
  have aw8 := ka.cell 8 _ rfl
  have az8 := fun z : Lt W1 => z.cell aw8
  have aw9 := ka.cell 9 _ rfl
  have az9 := fun z : Lt W1 => z.cell aw9
  have aw10 := ka.cell 10 _ rfl
  have az10 := fun z : Lt W1 => z.cell aw10
  have aw11 := ka.cell 11 _ rfl
  have az11 := fun z : Lt W1 => z.cell aw11
  have aw12 := ka.cell 12 _ rfl
  have az12 := fun z : Lt W1 => z.cell aw12
  have aw13 := ka.cell 13 _ rfl
  have az13 := fun z : Lt W1 => z.cell aw13
  have aw14 := ka.cell 14 _ rfl
  have az14 := fun z : Lt W1 => z.cell aw14
  have aw15 := ka.cell 15 _ rfl
  have az15 := fun z : Lt W1 => z.cell aw15
  by_cases h0 : a.table < 0
  · have d0 : decide (a.table < 0) = true := decide_eq_true h0
    have HR := Lib.hid (Cl.may_lo (ts := ts) h0)
    go_wp2_with fail
    go_ret
    exact ⟨ret_bool HR.out.symm, (Lt.base W1).via B1, rfl⟩
  have d0 : decide (a.table < 0) = false := decide_eq_false h0
  by_cases h1 : (ts.length : Int) ≤ a.table
  · have d1 : decide ((ts.length : Int) ≤ a.table) = true := decide_eq_true h1
    have HR := Lib.hid (Cl.may_hi (ts := ts) (by omega) h1)
    go_wp2_with fail
    go_ret
    exact ⟨ret_bool HR.out.symm, (Lt.base W1).via B1, rfl⟩
  have d1 : decide ((ts.length : Int) ≤ a.table) = false := decide_eq_false h1
  have i0 : (0 : Int) ≤ a.table := by omega
  have i1 : a.table < (ts.length : Int) := by omega
  obtain ⟨t, b, off, T, ct, ht, rfl, hc, hcols⟩ := HTS.out.at_ i0 i1
  have HM := Lib.hid (Cl.may_at i0 ht)
  have HCOLS := Lib.hid hcols
  have e0' : W1.cell? ⟨b, off + a.table.toNat, none⟩ = some (.slice T t.length ct) := (Lt.base W1).old B1 hc
  clear ht hc hcols
  go_upto_region 4 with fail
  refine wp_here fun V1 hV1 => ?_
  have bV1 : Below W1.heap.size W1 V1 := by rw [hV1]; exact (Lt.base W1).more _
  clear aw0 az0 aw1 az1 aw2 az2 aw3 az3 aw4 az4 aw5 az5 aw6 az6 aw7 az7 aw8 az8 aw9 az9 aw10 az10 aw11 az11 aw12 az12 aw13 az13 aw14 az14 aw15 az15
  replace ka := ka.below bV1
  have kt : Blk V1 W1.heap.size [.slice T t.length ct] := by rw [hV1]; exact Blk.new' (l := #[.slice T t.length ct]) rfl
  have BV1 : Below W.heap.size W V1 := below_then B1 bV1
  clear hV1
  have aw0 := ka.cell 0 _ rfl
  have az0 := fun z : Lt V1 => z.cell aw0
  have aw1 := ka.cell 1 _ rfl
  have az1 := fun z : Lt V1 => z.cell aw1
  have aw2 := ka.cell 2 _ rfl
  have az2 := fun z : Lt V1 => z.cell aw2
  have aw3 := ka.cell 3 _ rfl
  have az3 := fun z : Lt V1 => z.cell aw3
  have aw4 := ka.cell 4 _ rfl
  have az4 := fun z : Lt V1 => z.cell aw4
  have aw5 := ka.cell 5 _ rfl
  have az5 := fun z : Lt V1 => z.cell aw5
  have aw6 := ka.cell 6 _ rfl
  have az6 := fun z : Lt V1 => z.cell aw6
  have aw7 := ka.cell 7 _ rfl
  have az7 := fun z : Lt V1 => z.cell aw7
  have aw8 := ka.cell 8 _ rfl
  have az8 := fun z : Lt V1 => z.cell aw8
  have aw9 := ka.cell 9 _ rfl
  have az9 := fun z : Lt V1 => z.cell aw9
  have aw10 := ka.cell 10 _ rfl
  have az10 := fun z : Lt V1 => z.cell aw10
  have aw11 := ka.cell 11 _ rfl
  have az11 := fun z : Lt V1 => z.cell aw11
  have aw12 := ka.cell 12 _ rfl
  have az12 := fun z : Lt V1 => z.cell aw12
  have aw13 := ka.cell 13 _ rfl
  have az13 := fun z : Lt V1 => z.cell aw13
  have aw14 := ka.cell 14 _ rfl
  have az14 := fun z : Lt V1 => z.cell aw14
  have aw15 := ka.cell 15 _ rfl
  have az15 := fun z : Lt V1 => z.cell aw15
  have tw0 := kt.cell 0 _ rfl
  have tz0 := fun z : Lt V1 => z.cell tw0
  clear e0'
  cases hmay : R.may t.length
  · have HR := Lib.hid (show Cl.may ts a = false by rw [HM.out, hmay]; rfl)
    have HMAY := Lib.hid hmay
    clear hmay
    go_wp2_with fail
    refine (rmay_is HMAY.out (Lt.base V1)).mono ?_; rintro e w' ⟨rfl, y, rfl⟩
    go_wp2_with fail
    go_ret
    exact ⟨ret_bool HR.out.symm, y.via BV1, rfl⟩
  have HMAY := Lib.hid hmay
  have HE := Lib.hid (show Cl.may ts a = Cl.ok t a by rw [HM.out, hmay]; rfl)
  clear hmay HM
  go_wp2_with fail
  refine (rmay_is HMAY.out (Lt.base V1)).mono ?_; rintro e w' ⟨rfl, y, rfl⟩
  by_cases h1k : a.kind = 1
  · have HR := Lib.hid (HE.out.trans ((Cl.ok_1 h1k).trans mright_kind))
    have k1 : (a.kind == 1) = true := by simp [h1k]
    clear h1k
    by_cases hm1 : 1 ≤ a.mode
    · have dm1 : decide (1 ≤ a.mode) = true := decide_eq_true hm1
      by_cases hm6 : a.mode ≤ 6
      all_goals
        first | (have dm6 : decide (a.mode ≤ 6) = true := decide_eq_true hm6; rw [dm1, dm6] at HR) | (have dm6 : decide (a.mode ≤ 6) = false := decide_eq_false hm6; rw [dm1, dm6] at HR)
        go_wp2_with fail
        go_ret
        exact ⟨ret_bool HR.out.symm, y.via BV1, rfl⟩
    · have dm1 : decide (1 ≤ a.mode) = false := decide_eq_false hm1
      rw [dm1] at HR
      go_wp2_with fail
      go_ret
      exact ⟨ret_bool HR.out.symm, y.via BV1, rfl⟩
  by_cases h2k : a.kind = 2
  · obtain ⟨u, tb, tof, hu, h0t, hTe, hct⟩ := HCOLS.out.first HMAY.out
    have HR := Lib.hid (HE.out.trans ((Cl.ok_2 h2k).trans (Cl.okRow_ref hu)))
    have k1 : (a.kind == 1) = false := by simp [h2k]
    have k2 : (a.kind == 2) = true := by simp [h2k]
    clear h2k h1k hu
    obtain ⟨r, hr⟩ : ∃ r, a.key.right = r := ⟨_, rfl⟩
    obtain ⟨i, hi⟩ : ∃ i, Cl.rims t a = i := ⟨_, rfl⟩
    obtain rfl := hTe
    have f0 := fun z : Lt V1 => z.old BV1 hct
    have C1 := Lib.hid (fun z : Lt V1 => rvright_is hr z)
    have C2 := Lib.hid (fun z : Lt V1 => rimages_any (ct := ct) (P := P) (pa := pa) ((HCOLS.out.below B1).below bV1) (HA.out.im.below BV1) FA.out z)
    rw [hr, hi] at HR
    rw [hi] at C2
    clear hr hi hct
    go_wp2_with fail
    refine (C1.out y).mono ?_; rintro e w' ⟨rfl, y2, rfl⟩
    go_wp2_with fail
    refine (C2.out y2).mono ?_; rintro e w' ⟨rfl, y3, rfl⟩
    clear C1 C2
    by_cases hm : a.mode = 3
    · have m3 : (a.mode == 3) = true := by simp [hm]
      rw [decide_eq_true hm] at HR
      clear hm
      cases r
      · go_wp2_with fail
        refine wp_region_pure _ (by kernel_rfl) (by kernel_rfl) ?_
        repeat (go_big_quiet_step (fail))
        refine wpQuiet_nil ?_; intro _ hw'; obtain ⟨z, rfl⟩ := hw'
        go_wp2_with fail
        go_ret
        exact ⟨ret_bool (by rw [HR.out]; rfl), z.via BV1, rfl⟩
      by_cases hk : a.key.t = u
      · have hk1 : (a.key.t == u) = true := by simp [hk]
        rw [decide_eq_true hk] at HR
        clear hk
        cases i
        all_goals
          go_wp2_with fail
          refine wp_region_pure _ (by kernel_rfl) (by kernel_rfl) ?_
          repeat (go_big_quiet_step (fail))
          refine wpQuiet_nil ?_; intro _ hw'; obtain ⟨z, rfl⟩ := hw'
          go_wp2_with fail
          go_ret
          exact ⟨ret_bool (by rw [HR.out]; rfl), z.via BV1, rfl⟩
      · have hk1 : (a.key.t == u) = false := by simpa using hk
        rw [decide_eq_false hk] at HR
        clear hk
        go_wp2_with fail
        refine wp_region_pure _ (by kernel_rfl) (by kernel_rfl) ?_
        repeat (go_big_quiet_step (fail))
        refine wpQuiet_nil ?_; intro _ hw'; obtain ⟨z, rfl⟩ := hw'
        go_wp2_with fail
        go_ret
        exact ⟨ret_bool (by rw [HR.out]; rfl), z.via BV1, rfl⟩
    have n3 : (a.mode == 3) = false := by simpa using hm
    have HN3 := Lib.hid hm
    clear hm
    by_cases hm : a.mode = 5
    · have m3 : (a.mode == 3) = false := by simp [hm]
      have m5 : (a.mode == 5) = true := by simp [hm]
      rw [decide_eq_false (show ¬ a.mode = 3 by omega), decide_eq_true hm] at HR
      clear hm
      cases r
      · go_wp2_with fail
        refine wp_region_pure _ (by kernel_rfl) (by kernel_rfl) ?_
        repeat (go_big_quiet_step (fail))
        refine wpQuiet_nil ?_; intro _ hw'; obtain ⟨z, rfl⟩ := hw'
        go_wp2_with fail
        go_ret
        exact ⟨ret_bool (by rw [HR.out]; rfl), z.via BV1, rfl⟩
      by_cases hk : a.key.t = u
      · have hk1 : (a.key.t == u) = true := by simp [hk]
        rw [decide_eq_true hk] at HR
        clear hk
        cases i
        all_goals
          go_wp2_with fail
          refine wp_region_pure _ (by kernel_rfl) (by kernel_rfl) ?_
          repeat (go_big_quiet_step (fail))
          refine wpQuiet_nil ?_; intro _ hw'; obtain ⟨z, rfl⟩ := hw'
          go_wp2_with fail
          go_ret
          exact ⟨ret_bool (by rw [HR.out]; rfl), z.via BV1, rfl⟩
      · have hk1 : (a.key.t == u) = false := by simpa using hk
        rw [decide_eq_false hk] at HR
        clear hk
        go_wp2_with fail
        refine wp_region_pure _ (by kernel_rfl) (by kernel_rfl) ?_
        repeat (go_big_quiet_step (fail))
        refine wpQuiet_nil ?_; intro _ hw'; obtain ⟨z, rfl⟩ := hw'
        go_wp2_with fail
        go_ret
        exact ⟨ret_bool (by rw [HR.out]; rfl), z.via BV1, rfl⟩
    have n5 : (a.mode == 5) = false := by simpa using hm
    have HN5 := Lib.hid hm
    clear hm
    by_cases hm : a.mode = 6
    · have m3 : (a.mode == 3) = false := by simp [hm]
      have m5 : (a.mode == 5) = false := by simp [hm]
      have m6 : (a.mode == 6) = true := by simp [hm]
      rw [decide_eq_false (show ¬ a.mode = 3 by omega), decide_eq_false (show ¬ a.mode = 5 by omega), decide_eq_true hm] at HR
      clear hm
      cases r
      · go_wp2_with fail
        refine wp_region_pure _ (by kernel_rfl) (by kernel_rfl) ?_
        repeat (go_big_quiet_step (fail))
        refine wpQuiet_nil ?_; intro _ hw'; obtain ⟨z, rfl⟩ := hw'
        go_wp2_with fail
        go_ret
        exact ⟨ret_bool (by rw [HR.out]; rfl), z.via BV1, rfl⟩
      by_cases hk : a.key.t = u
      · have hk1 : (a.key.t == u) = true := by simp [hk]
        rw [decide_eq_true hk] at HR
        clear hk
        cases i
        all_goals
          go_wp2_with fail
          refine wp_region_pure _ (by kernel_rfl) (by kernel_rfl) ?_
          repeat (go_big_quiet_step (fail))
          refine wpQuiet_nil ?_; intro _ hw'; obtain ⟨z, rfl⟩ := hw'
          go_wp2_with fail
          go_ret
          exact ⟨ret_bool (by rw [HR.out]; rfl), z.via BV1, rfl⟩
      · have hk1 : (a.key.t == u) = false := by simpa using hk
        rw [decide_eq_false hk] at HR
        clear hk
        go_wp2_with fail
        refine wp_region_pure _ (by kernel_rfl) (by kernel_rfl) ?_
        repeat (go_big_quiet_step (fail))
        refine wpQuiet_nil ?_; intro _ hw'; obtain ⟨z, rfl⟩ := hw'
        go_wp2_with fail
        go_ret
        exact ⟨ret_bool (by rw [HR.out]; rfl), z.via BV1, rfl⟩
    have n6 : (a.mode == 6) = false := by simpa using hm
    have HN6 := Lib.hid hm
    clear hm
    rw [decide_eq_false HN3.out, decide_eq_false HN5.out, decide_eq_false HN6.out] at HR
    cases r
    all_goals
      go_wp2_with fail
      refine wp_region_pure _ (by kernel_rfl) (by kernel_rfl) ?_
      repeat (go_big_quiet_step (fail))
      refine wpQuiet_nil ?_; intro _ hw'; obtain ⟨z, rfl⟩ := hw'
      go_wp2_with fail
      go_ret
      exact ⟨ret_bool (by rw [HR.out]; rfl), z.via BV1, rfl⟩
  by_cases h3k : a.kind = 3
  · have HR := Lib.hid (HE.out.trans (Cl.ok_3 h3k))
    have k1 : (a.kind == 1) = false := by simp [h3k]
    have k2 : (a.kind == 2) = false := by simp [h3k]
    have k3 : (a.kind == 3) = true := by simp [h3k]
    clear h3k h2k h1k
    obtain ⟨p, hp⟩ : ∃ p, a.p.may t = p := ⟨_, rfl⟩
    have C1 := Lib.hid (fun z : Lt V1 => rmay_any (ca0 := ct) z ((HCOLS.out.below B1).below bV1) (HA.out.p.below BV1) (by have := FA.out.p; omega))
    rw [hp] at HR C1
    clear hp
    go_wp2_with fail
    refine (C1.out y).mono ?_; rintro e w' ⟨rfl, z, rfl⟩
    clear C1
    by_cases hm : a.mode = 3
    · have dm : (a.mode == 3) = true := by simp [hm]
      rw [decide_eq_true hm] at HR
      clear hm
      cases p
      all_goals
        go_wp2_with fail
        go_ret
        exact ⟨ret_bool (by rw [HR.out]; rfl), z.via BV1, rfl⟩
    · have dm : (a.mode == 3) = false := by simpa using hm
      rw [decide_eq_false hm] at HR
      clear hm
      go_wp2_with fail
      go_ret
      exact ⟨ret_bool (by rw [HR.out]; rfl), z.via BV1, rfl⟩
  have k1 : (a.kind == 1) = false := by simpa using h1k
  have k2 : (a.kind == 2) = false := by simpa using h2k
  have k3 : (a.kind == 3) = false := by simpa using h3k
  have HF := Lib.hid (HE.out.trans (Cl.ok_0 h1k h2k h3k))
  clear h1k h2k h3k
  go_wp2_with fail
  go_ret
  exact ⟨ret_bool HF.out.symm, y.via BV1, rfl⟩
end Go.Proofs.YtghpildnajdlpaaDoor
