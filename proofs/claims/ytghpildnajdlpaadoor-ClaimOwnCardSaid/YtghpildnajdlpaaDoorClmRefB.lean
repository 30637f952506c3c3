/-
  Claims, walked: the document's Conflict, Covers, Equal. Conditions: as for the program's.
-/
import Derived.Test.YtghpildnajdlpaaDoorClmRef
namespace Go.Proofs.YtghpildnajdlpaaDoor
open Go.RowKit
variable {W : World}

theorem Cl.conf_22k {a b : Cl} (ht : a.table = b.table) (h : a.kind = 2 ∧ b.kind = 2) : a.conf b = (decide (a.key = b.key) && !M.fits a.mode b.mode) := by rw [Cl.conf_22 ht h, Cl.same_2 ht h]
theorem Cl.conf_11k {a b : Cl} (ht : a.table = b.table) (h : a.kind = 1 ∧ b.kind = 1) : a.conf b = !M.fits a.mode b.mode := by rw [Cl.conf_11 ht h, Cl.same_1 ht h]; rfl
set_option maxHeartbeats 4000000 in
theorem rconf_any (hT : Tabs W) {a b : Cl} {A P A' P' : Option Addr} {ca pa ca' pa' : Nat} (ha : a.At W A ca P pa) (hb : b.At W A' ca' P' pa') (fa : a.Fits) (fb : b.Fits) (x : Lt W) : Calls Tryd.prog 18 #[a.arg A ca P pa, b.arg A' ca' P' pa'] x.1 fun e w' => e = .returned (.bool (a.conf b)) ∧ ∃ y : Lt W, w' = y.1 := by
  have HT := Lib.hid hT
  have HA := Lib.hid ha
  have HB := Lib.hid hb
  have FA := Lib.hid fa
  have FB := Lib.hid fb
  clear hT ha hb fa fb
  unfold Cl.arg
  obtain ⟨r, hr⟩ : ∃ r, a.conf b = r := ⟨_, rfl⟩
  rw [hr]
  have HRR := Lib.hid hr
  clear hr
  go_enter Tryd.func18, Tryd.ntmps18
  go_upto_region 1 with fail
  refine wp_here fun W1 hW1 => ?_
  have B1 : Below W.heap.size W W1 := by rw [hW1]; exact below_then (x.more _) (below_alloc _)
  have ka : Blk W1 (x.1.heap.size) [.int .i64 a.kind, .int .i64 a.table, .int .i64 a.mode, .bool a.key.t, .int .i64 a.key.n, .string a.key.s, .slice A a.im.length ca, .int .i64 a.p.op, .int .i64 a.p.col, .bool a.p.v.t, .int .i64 a.p.v.n, .string a.p.v.s, .bool a.p.w.t, .int .i64 a.p.w.n, .string a.p.w.s, .slice P a.p.l.length pa] := by rw [hW1]; refine Blk.alloc ?_ _; exact Blk.new' (l := #[.int .i64 a.kind, .int .i64 a.table, .int .i64 a.mode, .bool a.key.t, .int .i64 a.key.n, .string a.key.s, .slice A a.im.length ca, .int .i64 a.p.op, .int .i64 a.p.col, .bool a.p.v.t, .int .i64 a.p.v.n, .string a.p.v.s, .bool a.p.w.t, .int .i64 a.p.w.n, .string a.p.w.s, .slice P a.p.l.length pa]) (by simp)
  have kb : Blk W1 (x.1.heap.size + 1) [.int .i64 b.kind, .int .i64 b.table, .int .i64 b.mode, .bool b.key.t, .int .i64 b.key.n, .string b.key.s, .slice A' b.im.length ca', .int .i64 b.p.op, .int .i64 b.p.col, .bool b.p.v.t, .int .i64 b.p.v.n, .string b.p.v.s, .bool b.p.w.t, .int .i64 b.p.w.n, .string b.p.w.s, .slice P' b.p.l.length pa'] := by rw [hW1]; exact Blk.new' (l := #[.int .i64 b.kind, .int .i64 b.table, .int .i64 b.mode, .bool b.key.t, .int .i64 b.key.n, .string b.key.s, .slice A' b.im.length ca', .int .i64 b.p.op, .int .i64 b.p.col, .bool b.p.v.t, .int .i64 b.p.v.n, .string b.p.v.s, .bool b.p.w.t, .int .i64 b.p.w.n, .string b.p.w.s, .slice P' b.p.l.length pa']) (by simp)
  clear hW1
  have aw0 := ka.cell 0 _ rfl
  have az0 := fun z : Lt W1 => z.cell aw0
  have aw1 := ka.cell 1 _ rfl
  have az1 := fun z : Lt W1 => z.cell aw1
  have aw2 := ka.cell 2 _ rfl
  have az2 := fun z : Lt W1 => z.cell aw2
  have aw3 := ka.cell 3 _ rfl
  have az3 := fun z : Lt W1 => z.cell aw3
  have aw4 := ka.cell 4 _ rfl
  have az4 := fun z : Lt W1 => z.cell aw4
  have aw5 := ka.cell 5 _ rfl
  have az5 := fun z : Lt W1 => z.cell aw5
  have aw6 := ka.cell 6 _ rfl
  have az6 := fun z : Lt W1 => z.cell aw6
  have aw7 := ka.cell 7 _ rfl
  have az7 := fun z : Lt W1 => z.cell aw7
  have aw8 := ka.cell 8 _ rfl
  have az8 := fun z : Lt W1 => z.cell aw8
  have aw9 := ka.cell 9 _ rfl
  have az9 := fun z : Lt W1 => z.cell aw9
  have aw10 := ka.cell 10 _ rfl
  have az10 := fun z : Lt W1 => z.cell aw10
  have aw11 := ka.cell 11 _ rfl
  have az11 := fun z : Lt W1 => z.cell aw11
  have aw12 := ka.cell 12 _ rfl
  have az12 := fun z : Lt W1 => z.cell aw12
  have aw13 := ka.cell 13 _ rfl
  have az13 := fun z : Lt W1 => z.cell aw13
  have aw14 := ka.cell 14 _ rfl
  have az14 := fun z : Lt W1 => z.cell aw14
  have aw15 := ka.cell 15 _ rfl
  have az15 := fun z : Lt W1 => z.cell aw15
  have bw0 := kb.cell 0 _ rfl
  have bz0 := fun z : Lt W1 => z.cell bw0
  have bw1 := kb.cell 1 _ rfl
  have bz1 := fun z : Lt W1 => z.cell bw1
  have bw2 := kb.cell 2 _ rfl
  have bz2 := fun z : Lt W1 => z.cell bw2
  have bw3 := kb.cell 3 _ rfl
  have bz3 := fun z : Lt W1 => z.cell bw3
  have bw4 := kb.cell 4 _ rfl
  have bz4 := fun z : Lt W1 => z.cell bw4
  have bw5 := kb.cell 5 _ rfl
  have bz5 := fun z : Lt W1 => z.cell bw5
  have bw6 := kb.cell 6 _ rfl
  have bz6 := fun z : Lt W1 => z.cell bw6
  have bw7 := kb.cell 7 _ rfl
  have bz7 := fun z : Lt W1 => z.cell bw7
  have bw8 := kb.cell 8 _ rfl
  have bz8 := fun z : Lt W1 => z.cell bw8
  have bw9 := kb.cell 9 _ rfl
  have bz9 := fun z : Lt W1 => z.cell bw9
  have bw10 := kb.cell 10 _ rfl
  have bz10 := fun z : Lt W1 => z.cell bw10
  have bw11 := kb.cell 11 _ rfl
  have bz11 := fun z : Lt W1 => z.cell bw11
  have bw12 := kb.cell 12 _ rfl
  have bz12 := fun z : Lt W1 => z.cell bw12
  have bw13 := kb.cell 13 _ rfl
  have bz13 := fun z : Lt W1 => z.cell bw13
  have bw14 := kb.cell 14 _ rfl
  have bz14 := fun z : Lt W1 => z.cell bw14
  have bw15 := kb.cell 15 _ rfl
  have bz15 := fun z : Lt W1 => z.cell bw15
  by_cases ht : a.table = b.table
  · have ht1 : (a.table != b.table) = false := by simp [ht]
    have HE := Lib.hid ht
    clear ht
    obtain ⟨f, hf⟩ : ∃ f, M.fits a.mode b.mode = f := ⟨_, rfl⟩
    have HF := Lib.hid hf
    have key := mrfits_is hf (Lt.base W1)
    clear hf
    go_wp2_with fail
    refine key.mono ?_; rintro e w' ⟨rfl, y, rfl⟩
    clear key
    have hka : a.kind = 1 ∨ a.kind = 2 ∨ a.kind = 3 ∨ (a.kind ≠ 1 ∧ a.kind ≠ 2 ∧ a.kind ≠ 3) := by omega
    have hkb : b.kind = 1 ∨ b.kind = 2 ∨ b.kind = 3 ∨ (b.kind ≠ 1 ∧ b.kind ≠ 2 ∧ b.kind ≠ 3) := by omega
    rcases hka with h1a | h2a | h3a | ⟨na1, na2, na3⟩ <;> rcases hkb with h1b | h2b | h3b | ⟨nb1, nb2, nb3⟩
    · have ka1 : (a.kind == 1) = true := by simp [h1a]
      have ka2 : (a.kind == 2) = false := by simp [h1a]
      have ka3 : (a.kind == 3) = false := by simp [h1a]
      have kb1 : (b.kind == 1) = true := by simp [h1b]
      have kb2 : (b.kind == 2) = false := by simp [h1b]
      have kb3 : (b.kind == 3) = false := by simp [h1b]
      have HR := Lib.hid (HRR.out.symm.trans (Cl.conf_11k HE.out ⟨h1a, h1b⟩))
      clear h1a h1b
      rw [HF.out] at HR
      go_wp2_with fail
      go_ret
      exact ⟨ret_bool HR.out.symm, y.via B1, rfl⟩
    · have ka1 : (a.kind == 1) = true := by simp [h1a]
      have ka2 : (a.kind == 2) = false := by simp [h1a]
      have ka3 : (a.kind == 3) = false := by simp [h1a]
      have kb1 : (b.kind == 1) = false := by simp [h2b]
      have kb2 : (b.kind == 2) = true := by simp [h2b]
      have kb3 : (b.kind == 3) = false := by simp [h2b]
      have HR := Lib.hid (HRR.out.symm.trans (Cl.conf_0 (by omega) (by omega) (by omega) (by omega)))
      clear h1a h2b
      go_wp2_with fail
      go_ret
      exact ⟨ret_bool HR.out.symm, y.via B1, rfl⟩
    · have ka1 : (a.kind == 1) = true := by simp [h1a]
      have ka2 : (a.kind == 2) = false := by simp [h1a]
      have ka3 : (a.kind == 3) = false := by simp [h1a]
      have kb1 : (b.kind == 1) = false := by simp [h3b]
      have kb2 : (b.kind == 2) = false := by simp [h3b]
      have kb3 : (b.kind == 3) = true := by simp [h3b]
      have HR := Lib.hid (HRR.out.symm.trans (Cl.conf_0 (by omega) (by omega) (by omega) (by omega)))
      clear h1a h3b
      go_wp2_with fail
      go_ret
      exact ⟨ret_bool HR.out.symm, y.via B1, rfl⟩
    · have ka1 : (a.kind == 1) = true := by simp [h1a]
      have ka2 : (a.kind == 2) = false := by simp [h1a]
      have ka3 : (a.kind == 3) = false := by simp [h1a]
      have kb1 : (b.kind == 1) = false := by simpa using nb1
      have kb2 : (b.kind == 2) = false := by simpa using nb2
      have kb3 : (b.kind == 3) = false := by simpa using nb3
      have HR := Lib.hid (HRR.out.symm.trans (Cl.conf_0 (by omega) (by omega) (by omega) (by omega)))
      clear h1a nb1 nb2 nb3
      go_wp2_with fail
      go_ret
      exact ⟨ret_bool HR.out.symm, y.via B1, rfl⟩
    · have ka1 : (a.kind == 1) = false := by simp [h2a]
      have ka2 : (a.kind == 2) = true := by simp [h2a]
      have ka3 : (a.kind == 3) = false := by simp [h2a]
      have kb1 : (b.kind == 1) = true := by simp [h1b]
      have kb2 : (b.kind == 2) = false := by simp [h1b]
      have kb3 : (b.kind == 3) = false := by simp [h1b]
      have HR := Lib.hid (HRR.out.symm.trans (Cl.conf_0 (by omega) (by omega) (by omega) (by omega)))
      clear h2a h1b
      go_wp2_with fail
      go_ret
      exact ⟨ret_bool HR.out.symm, y.via B1, rfl⟩
    · have ka1 : (a.kind == 1) = false := by simp [h2a]
      have ka2 : (a.kind == 2) = true := by simp [h2a]
      have ka3 : (a.kind == 3) = false := by simp [h2a]
      have kb1 : (b.kind == 1) = false := by simp [h2b]
      have kb2 : (b.kind == 2) = true := by simp [h2b]
      have kb3 : (b.kind == 3) = false := by simp [h2b]
      have HR := Lib.hid (HRR.out.symm.trans (Cl.conf_22k HE.out ⟨h2a, h2b⟩))
      clear h2a h2b
      obtain ⟨q, hq⟩ : ∃ q, decide (a.key = b.key) = q := ⟨_, rfl⟩
      have ek := fun w => (run_eql_val a.key b.key w).trans (by rw [hq])
      rw [hq, HF.out] at HR
      clear hq
      cases q
      all_goals
        go_wp2_with fail
        go_ret
        exact ⟨ret_bool HR.out.symm, y.via B1, rfl⟩
    · have ka1 : (a.kind == 1) = false := by simp [h2a]
      have ka2 : (a.kind == 2) = true := by simp [h2a]
      have ka3 : (a.kind == 3) = false := by simp [h2a]
      have kb1 : (b.kind == 1) = false := by simp [h3b]
      have kb2 : (b.kind == 2) = false := by simp [h3b]
      have kb3 : (b.kind == 3) = true := by simp [h3b]
      have HR := Lib.hid (HRR.out.symm.trans (Cl.conf_23 HE.out ⟨h2a, h3b⟩))
      clear h2a h3b
      go_wp2_with fail
      refine (rmeets_any (HB.out.below B1) (HA.out.below B1) FB.out FA.out y).mono ?_; rintro e w' ⟨rfl, z, rfl⟩
      go_wp2_with fail
      go_ret
      exact ⟨ret_bool HR.out.symm, z.via B1, rfl⟩
    · have ka1 : (a.kind == 1) = false := by simp [h2a]
      have ka2 : (a.kind == 2) = true := by simp [h2a]
      have ka3 : (a.kind == 3) = false := by simp [h2a]
      have kb1 : (b.kind == 1) = false := by simpa using nb1
      have kb2 : (b.kind == 2) = false := by simpa using nb2
      have kb3 : (b.kind == 3) = false := by simpa using nb3
      have HR := Lib.hid (HRR.out.symm.trans (Cl.conf_0 (by omega) (by omega) (by omega) (by omega)))
      clear h2a nb1 nb2 nb3
      go_wp2_with fail
      go_ret
      exact ⟨ret_bool HR.out.symm, y.via B1, rfl⟩
    · have ka1 : (a.kind == 1) = false := by simp [h3a]
      have ka2 : (a.kind == 2) = false := by simp [h3a]
      have ka3 : (a.kind == 3) = true := by simp [h3a]
      have kb1 : (b.kind == 1) = true := by simp [h1b]
      have kb2 : (b.kind == 2) = false := by simp [h1b]
      have kb3 : (b.kind == 3) = false := by simp [h1b]
      have HR := Lib.hid (HRR.out.symm.trans (Cl.conf_0 (by omega) (by omega) (by omega) (by omega)))
      clear h3a h1b
      go_wp2_with fail
      go_ret
      exact ⟨ret_bool HR.out.symm, y.via B1, rfl⟩
    · have ka1 : (a.kind == 1) = false := by simp [h3a]
      have ka2 : (a.kind == 2) = false := by simp [h3a]
      have ka3 : (a.kind == 3) = true := by simp [h3a]
      have kb1 : (b.kind == 1) = false := by simp [h2b]
      have kb2 : (b.kind == 2) = true := by simp [h2b]
      have kb3 : (b.kind == 3) = false := by simp [h2b]
      have HR := Lib.hid (HRR.out.symm.trans (Cl.conf_32 HE.out ⟨h3a, h2b⟩))
      clear h3a h2b
      go_wp2_with fail
      refine (rmeets_any (HA.out.below B1) (HB.out.below B1) FA.out FB.out y).mono ?_; rintro e w' ⟨rfl, z, rfl⟩
      go_wp2_with fail
      go_ret
      exact ⟨ret_bool HR.out.symm, z.via B1, rfl⟩
    · have ka1 : (a.kind == 1) = false := by simp [h3a]
      have ka2 : (a.kind == 2) = false := by simp [h3a]
      have ka3 : (a.kind == 3) = true := by simp [h3a]
      have kb1 : (b.kind == 1) = false := by simp [h3b]
      have kb2 : (b.kind == 2) = false := by simp [h3b]
      have kb3 : (b.kind == 3) = true := by simp [h3b]
      have HR := Lib.hid (HRR.out.symm.trans (Cl.conf_0 (by omega) (by omega) (by omega) (by omega)))
      clear h3a h3b
      go_wp2_with fail
      go_ret
      exact ⟨ret_bool HR.out.symm, y.via B1, rfl⟩
    · have ka1 : (a.kind == 1) = false := by simp [h3a]
      have ka2 : (a.kind == 2) = false := by simp [h3a]
      have ka3 : (a.kind == 3) = true := by simp [h3a]
      have kb1 : (b.kind == 1) = false := by simpa using nb1
      have kb2 : (b.kind == 2) = false := by simpa using nb2
      have kb3 : (b.kind == 3) = false := by simpa using nb3
      have HR := Lib.hid (HRR.out.symm.trans (Cl.conf_0 (by omega) (by omega) (by omega) (by omega)))
      clear h3a nb1 nb2 nb3
      go_wp2_with fail
      go_ret
      exact ⟨ret_bool HR.out.symm, y.via B1, rfl⟩
    · have ka1 : (a.kind == 1) = false := by simpa using na1
      have ka2 : (a.kind == 2) = false := by simpa using na2
      have ka3 : (a.kind == 3) = false := by simpa using na3
      have kb1 : (b.kind == 1) = true := by simp [h1b]
      have kb2 : (b.kind == 2) = false := by simp [h1b]
      have kb3 : (b.kind == 3) = false := by simp [h1b]
      have HR := Lib.hid (HRR.out.symm.trans (Cl.conf_0 (by omega) (by omega) (by omega) (by omega)))
      clear na1 na2 na3 h1b
      go_wp2_with fail
      go_ret
      exact ⟨ret_bool HR.out.symm, y.via B1, rfl⟩
    · have ka1 : (a.kind == 1) = false := by simpa using na1
      have ka2 : (a.kind == 2) = false := by simpa using na2
      have ka3 : (a.kind == 3) = false := by simpa using na3
      have kb1 : (b.kind == 1) = false := by simp [h2b]
      have kb2 : (b.kind == 2) = true := by simp [h2b]
      have kb3 : (b.kind == 3) = false := by simp [h2b]
      have HR := Lib.hid (HRR.out.symm.trans (Cl.conf_0 (by omega) (by omega) (by omega) (by omega)))
      clear na1 na2 na3 h2b
      go_wp2_with fail
      go_ret
      exact ⟨ret_bool HR.out.symm, y.via B1, rfl⟩
    · have ka1 : (a.kind == 1) = false := by simpa using na1
      have ka2 : (a.kind == 2) = false := by simpa using na2
      have ka3 : (a.kind == 3) = false := by simpa using na3
      have kb1 : (b.kind == 1) = false := by simp [h3b]
      have kb2 : (b.kind == 2) = false := by simp [h3b]
      have kb3 : (b.kind == 3) = true := by simp [h3b]
      have HR := Lib.hid (HRR.out.symm.trans (Cl.conf_0 (by omega) (by omega) (by omega) (by omega)))
      clear na1 na2 na3 h3b
      go_wp2_with fail
      go_ret
      exact ⟨ret_bool HR.out.symm, y.via B1, rfl⟩
    · have ka1 : (a.kind == 1) = false := by simpa using na1
      have ka2 : (a.kind == 2) = false := by simpa using na2
      have ka3 : (a.kind == 3) = false := by simpa using na3
      have kb1 : (b.kind == 1) = false := by simpa using nb1
      have kb2 : (b.kind == 2) = false := by simpa using nb2
      have kb3 : (b.kind == 3) = false := by simpa using nb3
      have HR := Lib.hid (HRR.out.symm.trans (Cl.conf_0 (by omega) (by omega) (by omega) (by omega)))
      clear na1 na2 na3 nb1 nb2 nb3
      go_wp2_with fail
      go_ret
      exact ⟨ret_bool HR.out.symm, y.via B1, rfl⟩
  · have ht1 : (a.table != b.table) = true := by simpa using ht
    have HR := Lib.hid (HRR.out.symm.trans (Cl.conf_t ht))
    clear ht
    go_wp2_with fail
    go_ret
    exact ⟨ret_bool HR.out.symm, (Lt.base W1).via B1, rfl⟩
theorem Cl.eq_iff {a b : Cl} : a = b ↔ a.p = b.p ∧ a.im = b.im ∧ a.kind = b.kind ∧ a.table = b.table ∧ a.mode = b.mode ∧ a.key = b.key := by
  cases a; cases b; simp only [Cl.mk.injEq]
  constructor
  · rintro ⟨h1, h2, h3, h4, h5, h6⟩; exact ⟨h6, h5, h1, h2, h3, h4⟩
  · rintro ⟨h6, h5, h1, h2, h3, h4⟩; exact ⟨h1, h2, h3, h4, h5, h6⟩
set_option maxHeartbeats 4000000 in
/-- Two claims that are the same in all fields: the document's Equal says so. -/
theorem requal_self {a : Cl} {A P A' P' : Option Addr} {ca pa ca' pa' : Nat} (ha : a.At W A ca P pa) (hb : a.At W A' ca' P' pa') (fa : a.Fits) (x : Lt W) : Calls Tryd.prog 21 #[a.arg A ca P pa, a.arg A' ca' P' pa'] x.1 fun e w' => e = .returned (.bool true) ∧ ∃ y : Lt W, w' = y.1 := by
  have HA := Lib.hid ha
  have HB := Lib.hid hb
  have FA := Lib.hid fa
  clear ha hb fa
  unfold Cl.arg
  go_enter Tryd.func21, Tryd.ntmps21
  go_upto_region 1 with fail
  refine wp_here fun W1 hW1 => ?_
  have B1 : Below W.heap.size W W1 := by rw [hW1]; exact below_then (x.more _) (below_alloc _)
  have ka : Blk W1 (x.1.heap.size) [.int .i64 a.kind, .int .i64 a.table, .int .i64 a.mode, .bool a.key.t, .int .i64 a.key.n, .string a.key.s, .slice A a.im.length ca, .int .i64 a.p.op, .int .i64 a.p.col, .bool a.p.v.t, .int .i64 a.p.v.n, .string a.p.v.s, .bool a.p.w.t, .int .i64 a.p.w.n, .string a.p.w.s, .slice P a.p.l.length pa] := by rw [hW1]; refine Blk.alloc ?_ _; exact Blk.new' (l := #[.int .i64 a.kind, .int .i64 a.table, .int .i64 a.mode, .bool a.key.t, .int .i64 a.key.n, .string a.key.s, .slice A a.im.length ca, .int .i64 a.p.op, .int .i64 a.p.col, .bool a.p.v.t, .int .i64 a.p.v.n, .string a.p.v.s, .bool a.p.w.t, .int .i64 a.p.w.n, .string a.p.w.s, .slice P a.p.l.length pa]) (by simp)
  have kb : Blk W1 (x.1.heap.size + 1) [.int .i64 a.kind, .int .i64 a.table, .int .i64 a.mode, .bool a.key.t, .int .i64 a.key.n, .string a.key.s, .slice A' a.im.length ca', .int .i64 a.p.op, .int .i64 a.p.col, .bool a.p.v.t, .int .i64 a.p.v.n, .string a.p.v.s, .bool a.p.w.t, .int .i64 a.p.w.n, .string a.p.w.s, .slice P' a.p.l.length pa'] := by rw [hW1]; exact Blk.new' (l := #[.int .i64 a.kind, .int .i64 a.table, .int .i64 a.mode, .bool a.key.t, .int .i64 a.key.n, .string a.key.s, .slice A' a.im.length ca', .int .i64 a.p.op, .int .i64 a.p.col, .bool a.p.v.t, .int .i64 a.p.v.n, .string a.p.v.s, .bool a.p.w.t, .int .i64 a.p.w.n, .string a.p.w.s, .slice P' a.p.l.length pa']) (by simp)
  clear hW1
  have aw0 := ka.cell 0 _ rfl
  have az0 := fun z : Lt W1 => z.cell aw0
  have aw1 := ka.cell 1 _ rfl
  have az1 := fun z : Lt W1 => z.cell aw1
  have aw2 := ka.cell 2 _ rfl
  have az2 := fun z : Lt W1 => z.cell aw2
  have aw3 := ka.cell 3 _ rfl
  have az3 := fun z : Lt W1 => z.cell aw3
  have aw4 := ka.cell 4 _ rfl
  have az4 := fun z : Lt W1 => z.cell aw4
  have aw5 := ka.cell 5 _ rfl
  have az5 := fun z : Lt W1 => z.cell aw5
  have aw6 := ka.cell 6 _ rfl
  have az6 := fun z : Lt W1 => z.cell aw6
  have aw7 := ka.cell 7 _ rfl
  have az7 := fun z : Lt W1 => z.cell aw7
  have aw8 := ka.cell 8 _ rfl
  have az8 := fun z : Lt W1 => z.cell aw8
  have aw9 := ka.cell 9 _ rfl
  have az9 := fun z : Lt W1 => z.cell aw9
  have aw10 := ka.cell 10 _ rfl
  have az10 := fun z : Lt W1 => z.cell aw10
  have aw11 := ka.cell 11 _ rfl
  have az11 := fun z : Lt W1 => z.cell aw11
  have aw12 := ka.cell 12 _ rfl
  have az12 := fun z : Lt W1 => z.cell aw12
  have aw13 := ka.cell 13 _ rfl
  have az13 := fun z : Lt W1 => z.cell aw13
  have aw14 := ka.cell 14 _ rfl
  have az14 := fun z : Lt W1 => z.cell aw14
  have aw15 := ka.cell 15 _ rfl
  have az15 := fun z : Lt W1 => z.cell aw15
  have bw0 := kb.cell 0 _ rfl
  have bz0 := fun z : Lt W1 => z.cell bw0
  have bw1 := kb.cell 1 _ rfl
  have bz1 := fun z : Lt W1 => z.cell bw1
  have bw2 := kb.cell 2 _ rfl
  have bz2 := fun z : Lt W1 => z.cell bw2
  have bw3 := kb.cell 3 _ rfl
  have bz3 := fun z : Lt W1 => z.cell bw3
  have bw4 := kb.cell 4 _ rfl
  have bz4 := fun z : Lt W1 => z.cell bw4
  have bw5 := kb.cell 5 _ rfl
  have bz5 := fun z : Lt W1 => z.cell bw5
  have bw6 := kb.cell 6 _ rfl
  have bz6 := fun z : Lt W1 => z.cell bw6
  have bw7 := kb.cell 7 _ rfl
  have bz7 := fun z : Lt W1 => z.cell bw7
  have bw8 := kb.cell 8 _ rfl
  have bz8 := fun z : Lt W1 => z.cell bw8
  have bw9 := kb.cell 9 _ rfl
  have bz9 := fun z : Lt W1 => z.cell bw9
  have bw10 := kb.cell 10 _ rfl
  have bz10 := fun z : Lt W1 => z.cell bw10
  have bw11 := kb.cell 11 _ rfl
  have bz11 := fun z : Lt W1 => z.cell bw11
  have bw12 := kb.cell 12 _ rfl
  have bz12 := fun z : Lt W1 => z.cell bw12
  have bw13 := kb.cell 13 _ rfl
  have bz13 := fun z : Lt W1 => z.cell bw13
  have bw14 := kb.cell 14 _ rfl
  have bz14 := fun z : Lt W1 => z.cell bw14
  have bw15 := kb.cell 15 _ rfl
  have bz15 := fun z : Lt W1 => z.cell bw15
  go_wp2_with fail
  have key := rpsame_any a.p (Lt.base W1) a.p (HA.out.p.below B1) (HB.out.p.below B1) (by have := FA.out.p; omega)
  rw [Pr.same_self] at key
  refine key.mono ?_; rintro e w' ⟨rfl, y, rfl⟩
  clear key
  go_wp2_with fail
  have key := rrows_any (by have := FA.out.im; omega) (fun r hr => by have := FA.out.row r hr; omega) (HA.out.im.below B1) (HB.out.im.below B1) y
  rw [decide_eq_true (rfl : a.im = a.im)] at key
  refine key.mono ?_; rintro e w' ⟨rfl, z, rfl⟩
  clear key
  have k0 : (a.kind == a.kind) = true := by simp
  have k1 : (a.table == a.table) = true := by simp
  have k2 : (a.mode == a.mode) = true := by simp
  have ek := fun w => (run_eql_val a.key a.key w).trans (by rw [decide_eq_true (rfl : a.key = a.key)])
  go_wp2_with fail
  go_ret
  exact ⟨rfl, z.via B1, rfl⟩
set_option maxHeartbeats 4000000 in
theorem rccov_any {a b : Cl} {A P A' P' : Option Addr} {ca pa ca' pa' : Nat} (ha : a.At W A ca P pa) (hb : b.At W A' ca' P' pa') (fa : a.Fits) (fb : b.Fits) (x : Lt W) : Calls Tryd.prog 20 #[a.arg A ca P pa, b.arg A' ca' P' pa'] x.1 fun e w' => e = .returned (.bool (a.covers b)) ∧ ∃ y : Lt W, w' = y.1 := by
  have HA := Lib.hid ha
  have HB := Lib.hid hb
  have FA := Lib.hid fa
  have FB := Lib.hid fb
  clear ha hb fa fb
  unfold Cl.arg
  go_enter Tryd.func20, Tryd.ntmps20
  go_upto_region 1 with fail
  refine wp_here fun W1 hW1 => ?_
  have B1 : Below W.heap.size W W1 := by rw [hW1]; exact below_then (x.more _) (below_alloc _)
  have ka : Blk W1 (x.1.heap.size) [.int .i64 a.kind, .int .i64 a.table, .int .i64 a.mode, .bool a.key.t, .int .i64 a.key.n, .string a.key.s, .slice A a.im.length ca, .int .i64 a.p.op, .int .i64 a.p.col, .bool a.p.v.t, .int .i64 a.p.v.n, .string a.p.v.s, .bool a.p.w.t, .int .i64 a.p.w.n, .string a.p.w.s, .slice P a.p.l.length pa] := by rw [hW1]; refine Blk.alloc ?_ _; exact Blk.new' (l := #[.int .i64 a.kind, .int .i64 a.table, .int .i64 a.mode, .bool a.key.t, .int .i64 a.key.n, .string a.key.s, .slice A a.im.length ca, .int .i64 a.p.op, .int .i64 a.p.col, .bool a.p.v.t, .int .i64 a.p.v.n, .string a.p.v.s, .bool a.p.w.t, .int .i64 a.p.w.n, .string a.p.w.s, .slice P a.p.l.length pa]) (by simp)
  have kb : Blk W1 (x.1.heap.size + 1) [.int .i64 b.kind, .int .i64 b.table, .int .i64 b.mode, .bool b.key.t, .int .i64 b.key.n, .string b.key.s, .slice A' b.im.length ca', .int .i64 b.p.op, .int .i64 b.p.col, .bool b.p.v.t, .int .i64 b.p.v.n, .string b.p.v.s, .bool b.p.w.t, .int .i64 b.p.w.n, .string b.p.w.s, .slice P' b.p.l.length pa'] := by rw [hW1]; exact Blk.new' (l := #[.int .i64 b.kind, .int .i64 b.table, .int .i64 b.mode, .bool b.key.t, .int .i64 b.key.n, .string b.key.s, .slice A' b.im.length ca', .int .i64 b.p.op, .int .i64 b.p.col, .bool b.p.v.t, .int .i64 b.p.v.n, .string b.p.v.s, .bool b.p.w.t, .int .i64 b.p.w.n, .string b.p.w.s, .slice P' b.p.l.length pa']) (by simp)
  clear hW1
  have aw0 := ka.cell 0 _ rfl
  have az0 := fun z : Lt W1 => z.cell aw0
  have aw1 := ka.cell 1 _ rfl
  have az1 := fun z : Lt W1 => z.cell aw1
  have aw2 := ka.cell 2 _ rfl
  have az2 := fun z : Lt W1 => z.cell aw2
  have aw3 := ka.cell 3 _ rfl
  have az3 := fun z : Lt W1 => z.cell aw3
  have aw4 := ka.cell 4 _ rfl
  have az4 := fun z : Lt W1 => z.cell aw4
  have aw5 := ka.cell 5 _ rfl
  have az5 := fun z : Lt W1 => z.cell aw5
  have aw6 := ka.cell 6 _ rfl
  have az6 := fun z : Lt W1 => z.cell aw6
  have aw7 := ka.cell 7 _ rfl
  have az7 := fun z : Lt W1 => z.cell aw7
  have aw8 := ka.cell 8 _ rfl
  have az8 := fun z : Lt W1 => z.cell aw8
  have aw9 := ka.cell 9 _ rfl
  have az9 := fun z : Lt W1 => z.cell aw9
  have aw10 := ka.cell 10 _ rfl
  have az10 := fun z : Lt W1 => z.cell aw10
  have aw11 := ka.cell 11 _ rfl
  have az11 := fun z : Lt W1 => z.cell aw11
  have aw12 := ka.cell 12 _ rfl
  have az12 := fun z : Lt W1 => z.cell aw12
  have aw13 := ka.cell 13 _ rfl
  have az13 := fun z : Lt W1 => z.cell aw13
  have aw14 := ka.cell 14 _ rfl
  have az14 := fun z : Lt W1 => z.cell aw14
  have aw15 := ka.cell 15 _ rfl
  have az15 := fun z : Lt W1 => z.cell aw15
  have bw0 := kb.cell 0 _ rfl
  have bz0 := fun z : Lt W1 => z.cell bw0
  have bw1 := kb.cell 1 _ rfl
  have bz1 := fun z : Lt W1 => z.cell bw1
  have bw2 := kb.cell 2 _ rfl
  have bz2 := fun z : Lt W1 => z.cell bw2
  have bw3 := kb.cell 3 _ rfl
  have bz3 := fun z : Lt W1 => z.cell bw3
  have bw4 := kb.cell 4 _ rfl
  have bz4 := fun z : Lt W1 => z.cell bw4
  have bw5 := kb.cell 5 _ rfl
  have bz5 := fun z : Lt W1 => z.cell bw5
  have bw6 := kb.cell 6 _ rfl
  have bz6 := fun z : Lt W1 => z.cell bw6
  have bw7 := kb.cell 7 _ rfl
  have bz7 := fun z : Lt W1 => z.cell bw7
  have bw8 := kb.cell 8 _ rfl
  have bz8 := fun z : Lt W1 => z.cell bw8
  have bw9 := kb.cell 9 _ rfl
  have bz9 := fun z : Lt W1 => z.cell bw9
  have bw10 := kb.cell 10 _ rfl
  have bz10 := fun z : Lt W1 => z.cell bw10
  have bw11 := kb.cell 11 _ rfl
  have bz11 := fun z : Lt W1 => z.cell bw11
  have bw12 := kb.cell 12 _ rfl
  have bz12 := fun z : Lt W1 => z.cell bw12
  have bw13 := kb.cell 13 _ rfl
  have bz13 := fun z : Lt W1 => z.cell bw13
  have bw14 := kb.cell 14 _ rfl
  have bz14 := fun z : Lt W1 => z.cell bw14
  have bw15 := kb.cell 15 _ rfl
  have bz15 := fun z : Lt W1 => z.cell bw15
  obtain ⟨sm, hsm⟩ : ∃ sm, a.same b = sm := ⟨_, rfl⟩
  obtain ⟨cv, hcv⟩ : ∃ cv, M.covers a.mode b.mode = cv := ⟨_, rfl⟩
  have HR := Lib.hid (show a.covers b = (sm && cv && b.im.all (Cl.has a.im)) by rw [← hsm, ← hcv]; rfl)
  have key := rcsame_any (a := a) (b := b) (A := A) (A' := A') (ca := ca) (ca' := ca') (HA.out.p.below B1) (HB.out.p.below B1) (by have := FA.out.p; omega) (Lt.base W1)
  rw [hsm] at key
  have K2 := Lib.hid (fun (W : World) (z : Lt W) => mrcovers_is hcv z)
  clear hsm hcv
  go_wp2_with fail
  refine key.mono ?_; rintro e w' ⟨rfl, y, rfl⟩
  clear key
  cases sm
  · go_wp2_with fail
    go_ret
    exact ⟨ret_bool (by rw [HR.out]; rfl), y.via B1, rfl⟩
  go_wp2_with fail
  refine (K2.out _ y).mono ?_; rintro e w' ⟨rfl, y2, rfl⟩
  cases cv
  · go_wp2_with fail
    go_ret
    exact ⟨ret_bool (by rw [HR.out]; rfl), y2.via B1, rfl⟩
  have HR2 := Lib.hid (show a.covers b = b.im.all (Cl.has a.im) by rw [HR.out]; rfl)
  clear HR K2
  go_wp2_with fail
  go_loopw [6, 7] (fun i _ wr => ∃ (k : Nat) (y : Lt W1), wr = y.1 ∧ i = .int .i64 k ∧ k ≤ b.im.length ∧ ∀ (j : Nat) (q : List Val), j < k → b.im[j]? = some q → Cl.has a.im q = true) (fun i _ _ => b.im.length - (intOf i).toNat)
  case atStart => exact ⟨0, y2, rfl, rfl, by omega, fun j q hj => absurd hj (by omega)⟩
  case round =>
    obtain ⟨k, y, rfl, rfl, hk, hall⟩ := hrel
    have HI := Lib.hid hall
    clear hall
    have hk9 : k ≤ 1000000000 := by have := FB.out.im; omega
    by_cases hlt : k < b.im.length
    · obtain ⟨bb, off, q, A2, ca2, hq, hmem, rfl, hcell, hqat, hqn⟩ := (HB.out.im.below B1).at_ hlt
      have HQ := Lib.hid hq
      have c0 := fun z : Lt W1 => z.cell hcell
      have HC := Lib.hid (fun z : Lt W1 => rin_any (ca := ca) (cb := ca2) (by have := FA.out.im; omega) (fun r hr => by have := FA.out.row r hr; omega) (HA.out.im.below B1) hqat z)
      obtain ⟨t, ht⟩ : ∃ t, Cl.has a.im q = t := ⟨_, rfl⟩
      rw [ht] at HC
      have HT := Lib.hid ht
      clear hcell hqn hq ht hqat
      cases t
      · go_wp2_with fail
        refine wp_region_pure _ (by kernel_rfl) (by kernel_rfl) ?_
        repeat (go_big_quiet_step ((go_at_call 47; with_reducible exact HC.out _)))
        refine wpQuiet_nil ?_; intro _ hw'; obtain ⟨z, rfl⟩ := hw'
        go_wp2_with fail
        go_ret
        exact ⟨ret_bool (by rw [HR2.out, all_at HQ.out HT.out]), z.via B1, rfl⟩
      · go_wp2_with fail
        refine wp_region_pure _ (by kernel_rfl) (by kernel_rfl) ?_
        repeat (go_big_quiet_step ((go_at_call 47; with_reducible exact HC.out _)))
        refine wpQuiet_nil ?_; intro _ hw'; obtain ⟨z, rfl⟩ := hw'
        go_wp2_with fail
        go_roundw
        case rel => exact ⟨k + 1, z, rfl, by go_num, by omega, step_all HI.out HQ.out HT.out⟩
        case measure => simp [intOf]; omega
    · obtain rfl : k = b.im.length := by omega
      go_wp2_with fail
      go_ret
      exact ⟨ret_bool (by rw [HR2.out, all_done HI.out]), y.via B1, rfl⟩
end Go.Proofs.YtghpildnajdlpaaDoor
