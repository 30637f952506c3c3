/-
  Claims, walked: the document's answers: what one is about, who is in conflict, who covers, whether two are the same in all fields. Conditions: as for the program's.
-/
import Derived.Test.YtghpildnajdlpaaDoorClmConf
import Derived.Test.YtghpildnajdlpaaDoorRHolds
import Derived.Test.YtghpildnajdlpaaDoorModeRef09
namespace Go.Proofs.YtghpildnajdlpaaDoor
open Go.RowKit
variable {W : World}

section
variable {α : Type}
theorem any_done {f : α → Bool} {l : List α} (h : ∀ (j : Nat) (q : α), j < l.length → l[j]? = some q → f q = false) : l.any f = false := by
  rw [← Bool.not_eq_true, List.any_eq_true]
  rintro ⟨q, hq, hf⟩
  obtain ⟨j, hj⟩ := List.mem_iff_getElem?.1 hq
  rw [h j q (List.getElem?_eq_some_iff.1 hj).1 hj] at hf; cases hf
theorem any_at {f : α → Bool} {l : List α} {k : Nat} {q : α} (hq : l[k]? = some q) (hf : f q = true) : l.any f = true := List.any_eq_true.2 ⟨q, List.mem_of_getElem? hq, hf⟩
theorem all_done {f : α → Bool} {l : List α} (h : ∀ (j : Nat) (q : α), j < l.length → l[j]? = some q → f q = true) : l.all f = true := by
  rw [List.all_eq_true]
  intro q hq
  obtain ⟨j, hj⟩ := List.mem_iff_getElem?.1 hq
  exact h j q (List.getElem?_eq_some_iff.1 hj).1 hj
theorem all_at {f : α → Bool} {l : List α} {k : Nat} {q : α} (hq : l[k]? = some q) (hf : f q = false) : l.all f = false := by
  rw [← Bool.not_eq_true, List.all_eq_true]
  intro h
  rw [h q (List.mem_of_getElem? hq)] at hf; cases hf
theorem step_all {P : α → Prop} {l : List α} {k : Nat} {q : α} (h : ∀ (j : Nat) (q : α), j < k → l[j]? = some q → P q) (hq : l[k]? = some q) (hp : P q) : ∀ (j : Nat) (q : α), j < k + 1 → l[j]? = some q → P q := by
  intro j q' hj hq'
  by_cases he : j = k
  · subst he; rw [hq] at hq'; injection hq' with hq'; exact hq' ▸ hp
  · exact h j q' (by omega) hq'
theorem take_step {l s : List α} {k : Nat} {u : α} (h : l.take k = s.take k) (hu : l[k]? = some u) (hv : s[k]? = some u) : l.take (k + 1) = s.take (k + 1) := by
  rw [List.take_add_one, List.take_add_one, h, hu, hv]
end
set_option maxHeartbeats 1000000 in
theorem rin_any {l : List (List Val)} {s : List Val} (hl : l.length ≤ 1000000000) (hr : ∀ r ∈ l, r.length ≤ 1000000000) {A B : Option Addr} {ca cb : Nat} (hat : ImgsAt W A ca l) (hs : RowAt W B s) (x : Lt W) :
    Calls Tryd.prog 47 #[.slice A l.length ca, .slice B s.length cb] x.1 fun e w' => e = .returned (.bool (Cl.has l s)) ∧ ∃ y : Lt W, w' = y.1 := by
  have HA := Lib.hid hat
  have HS := Lib.hid hs
  have HR := Lib.hid hr
  clear hat hs hr
  go_enter Tryd.func47, Tryd.ntmps47
  go_wp2_with fail
  go_loopw [5, 6] (fun i _ wr => ∃ (k : Nat) (y : Lt W), wr = y.1 ∧ i = .int .i64 k ∧ k ≤ l.length ∧ ∀ (j : Nat) (q : List Val), j < k → l[j]? = some q → decide (q = s) = false) (fun i _ _ => l.length - (intOf i).toNat)
  case atStart => exact ⟨0, x, rfl, rfl, by omega, fun j q hj => absurd hj (by omega)⟩
  case round =>
    obtain ⟨k, y, rfl, rfl, hk, hall⟩ := hrel
    have HI := Lib.hid hall
    clear hall
    have hk9 : k ≤ 1000000000 := by omega
    by_cases hlt : k < l.length
    · obtain ⟨b, off, q, A', ca', hq, hmem, rfl, hcell, hqat, hqn⟩ := HA.out.at_ hlt
      have HQ := Lib.hid hq
      have c0 := y.cell hcell
      have HC := Lib.hid (rsame_any (ca := ca') (cb := cb) hqat HS.out (HR.out q hmem) y)
      obtain ⟨t, ht⟩ : ∃ t, decide (q = s) = t := ⟨_, rfl⟩
      rw [ht] at HC
      have HT := Lib.hid ht
      clear hcell hqn hq ht hqat
      go_wp2_with fail
      refine HC.out.mono ?_; rintro e w' ⟨rfl, z, rfl⟩
      cases t
      · go_wp2_with fail
        go_roundw
        case rel => exact ⟨k + 1, z, rfl, by go_num, by omega, step_all HI.out HQ.out HT.out⟩
        case measure => simp [intOf]; omega
      · have HF := Lib.hid (show Cl.has l s = true from any_at HQ.out HT.out)
        go_wp2_with fail
        go_ret
        exact ⟨ret_bool HF.out.symm, z, rfl⟩
    · obtain rfl : k = l.length := by omega
      have HF := Lib.hid (show Cl.has l s = false from any_done HI.out)
      go_wp2_with fail
      go_ret
      exact ⟨ret_bool HF.out.symm, y, rfl⟩

set_option maxHeartbeats 1000000 in
theorem rrows_any {l s : List (List Val)} (hl0 : l.length ≤ 1000000000) (hr : ∀ r ∈ l, r.length ≤ 1000000000) {A B : Option Addr} {ca cb : Nat} (hat : ImgsAt W A ca l) (hs : ImgsAt W B cb s) (x : Lt W) :
    Calls Tryd.prog 48 #[.slice A l.length ca, .slice B s.length cb] x.1 fun e w' => e = .returned (.bool (decide (l = s))) ∧ ∃ y : Lt W, w' = y.1 := by
  have HA := Lib.hid hat
  have HS := Lib.hid hs
  have HR := Lib.hid hr
  clear hat hs hr
  by_cases hl : l.length = s.length
  · have hne : ((l.length : Int) != (s.length : Int)) = false := by simp [hl]
    have HL := Lib.hid hl
    clear hl
    go_enter Tryd.func48, Tryd.ntmps48
    go_wp2_with fail
    go_loopw [5, 6] (fun i _ wr => ∃ (k : Nat) (y : Lt W), wr = y.1 ∧ i = .int .i64 k ∧ k ≤ l.length ∧ l.take k = s.take k) (fun i _ _ => l.length - (intOf i).toNat)
    case atStart => exact ⟨0, x, rfl, rfl, by omega, rfl⟩
    case round =>
      obtain ⟨k, y, rfl, rfl, hk, hall⟩ := hrel
      have HI := Lib.hid hall
      clear hall
      by_cases hlt : k < l.length
      · obtain ⟨b, off, q, A', ca', hq, hmem, rfl, hcell, hqat, hqn⟩ := HA.out.at_ hlt
        have hks : k < s.length := by have := HL.out; omega
        obtain ⟨b2, off2, q2, A2, ca2, hq2, hmem2, rfl, hcell2, hqat2, hqn2⟩ := HS.out.at_ hks
        have HQ := Lib.hid hq
        have HQ2 := Lib.hid hq2
        have c0 := fun z : Lt W => z.cell hcell
        have c1 := fun z : Lt W => z.cell hcell2
        have HC := Lib.hid (fun z : Lt W => rsame_any (ca := ca') (cb := ca2) hqat hqat2 (HR.out q hmem) z)
        obtain ⟨t, ht⟩ : ∃ t, decide (q = q2) = t := ⟨_, rfl⟩
        rw [ht] at HC
        have HT := Lib.hid ht
        clear hcell hqn hq ht hqat hcell2 hqn2 hq2 hqat2
        cases t
        · have HF := Lib.hid (show decide (l = s) = false from decide_eq_false fun e => by
            have h1 := HQ.out
            rw [e, HQ2.out] at h1
            injection h1 with h1
            exact of_decide_eq_false HT.out h1.symm)
          go_wp2_with fail
          refine wp_region_pure _ (by kernel_rfl) (by kernel_rfl) ?_
          repeat (go_big_quiet_step ((go_at_call 71; with_reducible exact HC.out _)))
          refine wpQuiet_nil ?_; intro _ hw'; obtain ⟨z, rfl⟩ := hw'
          go_wp2_with fail
          go_ret
          exact ⟨ret_bool HF.out.symm, z, rfl⟩
        · go_wp2_with fail
          refine wp_region_pure _ (by kernel_rfl) (by kernel_rfl) ?_
          repeat (go_big_quiet_step ((go_at_call 71; with_reducible exact HC.out _)))
          refine wpQuiet_nil ?_; intro _ hw'; obtain ⟨z, rfl⟩ := hw'
          go_wp2_with fail
          go_roundw
          case rel => exact ⟨k + 1, z, rfl, by go_num, by omega, take_step HI.out HQ.out (by rw [HQ2.out, of_decide_eq_true HT.out])⟩
          case measure => simp [intOf]; omega
      · obtain rfl : k = l.length := by omega
        have HF := Lib.hid (show decide (l = s) = true from decide_eq_true (by have h1 := HI.out; have h2 := HL.out; rw [List.take_length, h2, List.take_length] at h1; exact h1))
        go_wp2_with fail
        go_ret
        exact ⟨ret_bool HF.out.symm, y, rfl⟩
  · have hne : ((l.length : Int) != (s.length : Int)) = true := by simpa using (show ¬ (l.length : Int) = (s.length : Int) by omega)
    have HF := Lib.hid (show decide (l = s) = false from decide_eq_false (fun e => hl (by rw [e])))
    clear hl
    go_enter Tryd.func48, Tryd.ntmps48
    go_wp2_with fail
    go_ret
    exact ⟨ret_bool HF.out.symm, x, rfl⟩

theorem Cl.same_k {a b : Cl} (h : ¬ a.kind = b.kind) : a.same b = false := Cl.same_0 (by omega) (by omega) (by omega)
set_option maxHeartbeats 2000000 in
theorem rcsame_any {a b : Cl} {A P A' P' : Option Addr} {ca pa ca' pa' : Nat} (hp : a.p.At W P pa) (hq : b.p.At W P' pa') (hsz : a.p.size ≤ 1000000000) (x : Lt W) : Calls Tryd.prog 16 #[a.arg A ca P pa, b.arg A' ca' P' pa'] x.1 fun e w' => e = .returned (.bool (a.same b)) ∧ ∃ y : Lt W, w' = y.1 := by
  have HP := Lib.hid hp
  have HQ := Lib.hid hq
  have HS := Lib.hid hsz
  clear hp hq hsz
  unfold Cl.arg
  obtain ⟨r, hr⟩ : ∃ r, a.same b = r := ⟨_, rfl⟩
  rw [hr]
  have HRR := Lib.hid hr
  clear hr
  go_enter Tryd.func16, Tryd.ntmps16
  go_upto_region 1 with fail
  refine wp_here fun W1 hW1 => ?_
  have B1 : Below W.heap.size W W1 := by rw [hW1]; exact below_then (x.more _) (below_alloc _)
  have ka : Blk W1 (x.1.heap.size) [.int .i64 a.kind, .int .i64 a.table, .int .i64 a.mode, .bool a.key.t, .int .i64 a.key.n, .string a.key.s, .slice A a.im.length ca, .int .i64 a.p.op, .int .i64 a.p.col, .bool a.p.v.t, .int .i64 a.p.v.n, .string a.p.v.s, .bool a.p.w.t, .int .i64 a.p.w.n, .string a.p.w.s, .slice P a.p.l.length pa] := by rw [hW1]; refine Blk.alloc ?_ _; exact Blk.new' (l := #[.int .i64 a.kind, .int .i64 a.table, .int .i64 a.mode, .bool a.key.t, .int .i64 a.key.n, .string a.key.s, .slice A a.im.length ca, .int .i64 a.p.op, .int .i64 a.p.col, .bool a.p.v.t, .int .i64 a.p.v.n, .string a.p.v.s, .bool a.p.w.t, .int .i64 a.p.w.n, .string a.p.w.s, .slice P a.p.l.length pa]) (by simp)
  have kb : Blk W1 (x.1.heap.size + 1) [.int .i64 b.kind, .int .i64 b.table, .int .i64 b.mode, .bool b.key.t, .int .i64 b.key.n, .string b.key.s, .slice A' b.im.length ca', .int .i64 b.p.op, .int .i64 b.p.col, .bool b.p.v.t, .int .i64 b.p.v.n, .string b.p.v.s, .bool b.p.w.t, .int .i64 b.p.w.n, .string b.p.w.s, .slice P' b.p.l.length pa'] := by rw [hW1]; exact Blk.new' (l := #[.int .i64 b.kind, .int .i64 b.table, .int .i64 b.mode, .bool b.key.t, .int .i64 b.key.n, .string b.key.s, .slice A' b.im.length ca', .int .i64 b.p.op, .int .i64 b.p.col, .bool b.p.v.t, .int .i64 b.p.v.n, .string b.p.v.s, .bool b.p.w.t, .int .i64 b.p.w.n, .string b.p.w.s, .slice P' b.p.l.length pa']) (by simp)
  clear hW1
  have aw0 := ka.cell 0 _ rfl
  have az0 := fun z : Lt W1 => z.cell aw0
  have aw1 := ka.cell 1 _ rfl
  have az1 := fun z : Lt W1 => z.cell aw1
  have aw2 := ka.cell 2 _ rfl
  have az2 := fun z : Lt W1 => z.cell aw2
  have aw3 := ka.cell 3 _ rfl
  have az3 := fun z : Lt W1 => z.cell aw3
  have aw4 := ka.cell 4 _ rfl
  have az4 := fun z : Lt W1 => z.cell aw4
  have aw5 := ka.cell 5 _ rfl
  have az5 := fun z : Lt W1 => z.cell aw5
  have aw6 := ka.cell 6 _ rfl
  have az6 := fun z : Lt W1 => z.cell aw6
  have aw7 := ka.cell 7 _ rfl
  have az7 := fun z : Lt W1 => z.cell aw7
  have aw8 := ka.cell 8 _ rfl
  have az8 := fun z : Lt W1 => z.cell aw8
  have aw9 := ka.cell 9 _ rfl
  have az9 := fun z : Lt W1 => z.cell aw9
  have aw10 := ka.cell 10 _ rfl
  have az10 := fun z : Lt W1 => z.cell aw10
  have aw11 := ka.cell 11 _ rfl
  have az11 := fun z : Lt W1 => z.cell aw11
  have aw12 := ka.cell 12 _ rfl
  have az12 := fun z : Lt W1 => z.cell aw12
  have aw13 := ka.cell 13 _ rfl
  have az13 := fun z : Lt W1 => z.cell aw13
  have aw14 := ka.cell 14 _ rfl
  have az14 := fun z : Lt W1 => z.cell aw14
  have aw15 := ka.cell 15 _ rfl
  have az15 := fun z : Lt W1 => z.cell aw15
  have bw0 := kb.cell 0 _ rfl
  have bz0 := fun z : Lt W1 => z.cell bw0
  have bw1 := kb.cell 1 _ rfl
  have bz1 := fun z : Lt W1 => z.cell bw1
  have bw2 := kb.cell 2 _ rfl
  have bz2 := fun z : Lt W1 => z.cell bw2
  have bw3 := kb.cell 3 _ rfl
  have bz3 := fun z : Lt W1 => z.cell bw3
  have bw4 := kb.cell 4 _ rfl
  have bz4 := fun z : Lt W1 => z.cell bw4
  have bw5 := kb.cell 5 _ rfl
  have bz5 := fun z : Lt W1 => z.cell bw5
  have bw6 := kb.cell 6 _ rfl
  have bz6 := fun z : Lt W1 => z.cell bw6
  have bw7 := kb.cell 7 _ rfl
  have bz7 := fun z : Lt W1 => z.cell bw7
  have bw8 := kb.cell 8 _ rfl
  have bz8 := fun z : Lt W1 => z.cell bw8
  have bw9 := kb.cell 9 _ rfl
  have bz9 := fun z : Lt W1 => z.cell bw9
  have bw10 := kb.cell 10 _ rfl
  have bz10 := fun z : Lt W1 => z.cell bw10
  have bw11 := kb.cell 11 _ rfl
  have bz11 := fun z : Lt W1 => z.cell bw11
  have bw12 := kb.cell 12 _ rfl
  have bz12 := fun z : Lt W1 => z.cell bw12
  have bw13 := kb.cell 13 _ rfl
  have bz13 := fun z : Lt W1 => z.cell bw13
  have bw14 := kb.cell 14 _ rfl
  have bz14 := fun z : Lt W1 => z.cell bw14
  have bw15 := kb.cell 15 _ rfl
  have bz15 := fun z : Lt W1 => z.cell bw15
  by_cases hk : a.kind = b.kind
  · by_cases ht : a.table = b.table
    · have hk1 : (a.kind != b.kind) = false := by simp [hk]
      have ht1 : (a.table != b.table) = false := by simp [ht]
      by_cases h1 : a.kind = 1
      · have d1 : (a.kind == 1) = true := by simp [h1]
        have HR := Lib.hid (HRR.out.symm.trans (Cl.same_1 ht ⟨h1, hk ▸ h1⟩))
        clear ht hk h1
        go_wp2_with fail
        go_ret
        exact ⟨ret_bool HR.out.symm, (Lt.base W1).via B1, rfl⟩
      by_cases h2 : a.kind = 2
      · have d2 : (a.kind == 2) = true := by simp [h2]
        have d1 : (a.kind == 1) = false := by simpa using h1
        have HR := Lib.hid (HRR.out.symm.trans (Cl.same_2 ht ⟨h2, hk ▸ h2⟩))
        clear ht hk h1 h2
        have ek := fun w => run_eql_val a.key b.key w
        go_wp2_with fail
        go_ret
        exact ⟨ret_bool HR.out.symm, (Lt.base W1).via B1, rfl⟩
      by_cases h3 : a.kind = 3
      · have d3 : (a.kind == 3) = true := by simp [h3]
        have d1 : (a.kind == 1) = false := by simpa using h1
        have d2 : (a.kind == 2) = false := by simpa using h2
        have HR := Lib.hid (HRR.out.symm.trans (Cl.same_3 ht ⟨h3, hk ▸ h3⟩))
        clear ht hk h1 h2 h3
        go_wp2_with fail
        refine (rpsame_any a.p (Lt.base W1) b.p (HP.out.below B1) (HQ.out.below B1) HS.out).mono ?_; rintro e w' ⟨rfl, y, rfl⟩
        go_wp2_with fail
        go_ret
        exact ⟨ret_bool HR.out.symm, y.via B1, rfl⟩
      have d1 : (a.kind == 1) = false := by simpa using h1
      have d2 : (a.kind == 2) = false := by simpa using h2
      have d3 : (a.kind == 3) = false := by simpa using h3
      have HR := Lib.hid (HRR.out.symm.trans (Cl.same_0 (by omega) (by omega) (by omega)))
      clear ht hk h1 h2 h3
      go_wp2_with fail
      go_ret
      exact ⟨ret_bool HR.out.symm, (Lt.base W1).via B1, rfl⟩
    · have hk1 : (a.kind != b.kind) = false := by simp [hk]
      have ht1 : (a.table != b.table) = true := by simpa using ht
      have HR := Lib.hid (HRR.out.symm.trans (Cl.same_t ht))
      clear hk ht
      go_wp2_with fail
      go_ret
      exact ⟨ret_bool HR.out.symm, (Lt.base W1).via B1, rfl⟩
  · have hk1 : (a.kind != b.kind) = true := by simpa using hk
    have HR := Lib.hid (HRR.out.symm.trans (Cl.same_k hk))
    clear hk
    go_wp2_with fail
    go_ret
    exact ⟨ret_bool HR.out.symm, (Lt.base W1).via B1, rfl⟩

/-- Does a predicate hold of a row that is one? -/
def Cl.hit (p : Pr) (r : List Val) : Bool := !decide (r.length = 0) && p.holds r
theorem Cl.hit_def (p : Pr) (l : List (List Val)) : Cl.hits p l = l.any (Cl.hit p) := rfl
theorem len_gt0 (n : Nat) (h : n ≠ 0) : decide ((0 : Int) < n) = true := decide_eq_true (by omega)
theorem len_ngt0 (n : Nat) (h : n = 0) : decide ((0 : Int) < n) = false := decide_eq_false (by omega)
set_option maxHeartbeats 2000000 in
theorem rmeets_any {a b : Cl} {A P A' P' : Option Addr} {ca pa ca' pa' : Nat} (ha : a.At W A ca P pa) (hb : b.At W A' ca' P' pa') (fa : a.Fits) (fb : b.Fits) (x : Lt W) : Calls Tryd.prog 41 #[a.arg A ca P pa, b.arg A' ca' P' pa'] x.1 fun e w' => e = .returned (.bool (a.meets b)) ∧ ∃ y : Lt W, w' = y.1 := by
  have HA := Lib.hid ha
  have HB := Lib.hid hb
  have FA := Lib.hid fa
  have FB := Lib.hid fb
  clear ha hb fa fb
  unfold Cl.arg
  go_enter Tryd.func41, Tryd.ntmps41
  go_upto_region 1 with fail
  refine wp_here fun W1 hW1 => ?_
  have B1 : Below W.heap.size W W1 := by rw [hW1]; exact below_then (x.more _) (below_alloc _)
  have ka : Blk W1 (x.1.heap.size) [.int .i64 a.kind, .int .i64 a.table, .int .i64 a.mode, .bool a.key.t, .int .i64 a.key.n, .string a.key.s, .slice A a.im.length ca, .int .i64 a.p.op, .int .i64 a.p.col, .bool a.p.v.t, .int .i64 a.p.v.n, .string a.p.v.s, .bool a.p.w.t, .int .i64 a.p.w.n, .string a.p.w.s, .slice P a.p.l.length pa] := by rw [hW1]; refine Blk.alloc ?_ _; exact Blk.new' (l := #[.int .i64 a.kind, .int .i64 a.table, .int .i64 a.mode, .bool a.key.t, .int .i64 a.key.n, .string a.key.s, .slice A a.im.length ca, .int .i64 a.p.op, .int .i64 a.p.col, .bool a.p.v.t, .int .i64 a.p.v.n, .string a.p.v.s, .bool a.p.w.t, .int .i64 a.p.w.n, .string a.p.w.s, .slice P a.p.l.length pa]) (by simp)
  have kb : Blk W1 (x.1.heap.size + 1) [.int .i64 b.kind, .int .i64 b.table, .int .i64 b.mode, .bool b.key.t, .int .i64 b.key.n, .string b.key.s, .slice A' b.im.length ca', .int .i64 b.p.op, .int .i64 b.p.col, .bool b.p.v.t, .int .i64 b.p.v.n, .string b.p.v.s, .bool b.p.w.t, .int .i64 b.p.w.n, .string b.p.w.s, .slice P' b.p.l.length pa'] := by rw [hW1]; exact Blk.new' (l := #[.int .i64 b.kind, .int .i64 b.table, .int .i64 b.mode, .bool b.key.t, .int .i64 b.key.n, .string b.key.s, .slice A' b.im.length ca', .int .i64 b.p.op, .int .i64 b.p.col, .bool b.p.v.t, .int .i64 b.p.v.n, .string b.p.v.s, .bool b.p.w.t, .int .i64 b.p.w.n, .string b.p.w.s, .slice P' b.p.l.length pa']) (by simp)
  clear hW1
  have aw0 := ka.cell 0 _ rfl
  have az0 := fun z : Lt W1 => z.cell aw0
  have aw1 := ka.cell 1 _ rfl
  have az1 := fun z : Lt W1 => z.cell aw1
  have aw2 := ka.cell 2 _ rfl
  have az2 := fun z : Lt W1 => z.cell aw2
  have aw3 := ka.cell 3 _ rfl
  have az3 := fun z : Lt W1 => z.cell aw3
  have aw4 := ka.cell 4 _ rfl
  have az4 := fun z : Lt W1 => z.cell aw4
  have aw5 := ka.cell 5 _ rfl
  have az5 := fun z : Lt W1 => z.cell aw5
  have aw6 := ka.cell 6 _ rfl
  have az6 := fun z : Lt W1 => z.cell aw6
  have aw7 := ka.cell 7 _ rfl
  have az7 := fun z : Lt W1 => z.cell aw7
  have aw8 := ka.cell 8 _ rfl
  have az8 := fun z : Lt W1 => z.cell aw8
  have aw9 := ka.cell 9 _ rfl
  have az9 := fun z : Lt W1 => z.cell aw9
  have aw10 := ka.cell 10 _ rfl
  have az10 := fun z : Lt W1 => z.cell aw10
  have aw11 := ka.cell 11 _ rfl
  have az11 := fun z : Lt W1 => z.cell aw11
  have aw12 := ka.cell 12 _ rfl
  have az12 := fun z : Lt W1 => z.cell aw12
  have aw13 := ka.cell 13 _ rfl
  have az13 := fun z : Lt W1 => z.cell aw13
  have aw14 := ka.cell 14 _ rfl
  have az14 := fun z : Lt W1 => z.cell aw14
  have aw15 := ka.cell 15 _ rfl
  have az15 := fun z : Lt W1 => z.cell aw15
  have bw0 := kb.cell 0 _ rfl
  have bz0 := fun z : Lt W1 => z.cell bw0
  have bw1 := kb.cell 1 _ rfl
  have bz1 := fun z : Lt W1 => z.cell bw1
  have bw2 := kb.cell 2 _ rfl
  have bz2 := fun z : Lt W1 => z.cell bw2
  have bw3 := kb.cell 3 _ rfl
  have bz3 := fun z : Lt W1 => z.cell bw3
  have bw4 := kb.cell 4 _ rfl
  have bz4 := fun z : Lt W1 => z.cell bw4
  have bw5 := kb.cell 5 _ rfl
  have bz5 := fun z : Lt W1 => z.cell bw5
  have bw6 := kb.cell 6 _ rfl
  have bz6 := fun z : Lt W1 => z.cell bw6
  have bw7 := kb.cell 7 _ rfl
  have bz7 := fun z : Lt W1 => z.cell bw7
  have bw8 := kb.cell 8 _ rfl
  have bz8 := fun z : Lt W1 => z.cell bw8
  have bw9 := kb.cell 9 _ rfl
  have bz9 := fun z : Lt W1 => z.cell bw9
  have bw10 := kb.cell 10 _ rfl
  have bz10 := fun z : Lt W1 => z.cell bw10
  have bw11 := kb.cell 11 _ rfl
  have bz11 := fun z : Lt W1 => z.cell bw11
  have bw12 := kb.cell 12 _ rfl
  have bz12 := fun z : Lt W1 => z.cell bw12
  have bw13 := kb.cell 13 _ rfl
  have bz13 := fun z : Lt W1 => z.cell bw13
  have bw14 := kb.cell 14 _ rfl
  have bz14 := fun z : Lt W1 => z.cell bw14
  have bw15 := kb.cell 15 _ rfl
  have bz15 := fun z : Lt W1 => z.cell bw15
  by_cases hm : b.mode = 6
  · have hd : (b.mode != 6) = false := by simp [hm]
    have HR := Lib.hid (show a.meets b = b.im.any (Cl.hit a.p) by unfold Cl.meets; rw [decide_eq_true hm]; rfl)
    clear hm
    go_wp2_with fail
    go_loopw [5, 6] (fun i _ wr => ∃ (k : Nat) (y : Lt W1), wr = y.1 ∧ i = .int .i64 k ∧ k ≤ b.im.length ∧ ∀ (j : Nat) (q : List Val), j < k → b.im[j]? = some q → Cl.hit a.p q = false) (fun i _ _ => b.im.length - (intOf i).toNat)
    case atStart => exact ⟨0, Lt.base W1, rfl, rfl, by omega, fun j q hj => absurd hj (by omega)⟩
    case round =>
      obtain ⟨k, y, rfl, rfl, hk, hall⟩ := hrel
      have HI := Lib.hid hall
      clear hall
      have hk9 : k ≤ 1000000000 := by have := FB.out.im; omega
      by_cases hlt : k < b.im.length
      · obtain ⟨bb, off, q, A2, ca2, hq, hmem, rfl, hcell, hqat, hqn⟩ := (HB.out.im.below B1).at_ hlt
        have HQ := Lib.hid hq
        have c0 := fun z : Lt W1 => z.cell hcell
        have HC := Lib.hid (fun z : Lt W1 => rholds_any q A2 ca2 (FB.out.fit q hmem) a.p z (HA.out.p.below B1) hqat (by have := FA.out.p; omega))
        obtain ⟨t, ht⟩ : ∃ t, a.p.holds q = t := ⟨_, rfl⟩
        rw [ht] at HC
        have HC2 := Lib.hid (show ∀ z : Lt W1, Calls Tryd.prog 66 #[.agg #[.int .i64 a.p.op, .int .i64 a.p.col, .bool a.p.v.t, .int .i64 a.p.v.n, .string a.p.v.s, .bool a.p.w.t, .int .i64 a.p.w.n, .string a.p.w.s, .slice P a.p.l.length pa], .slice A2 q.length ca2] z.1 fun e w' => e = .returned (.bool t) ∧ ∃ y : Lt W1, w' = y.1 from HC.out)
        have HT := Lib.hid ht
        clear hcell hqn hq ht hqat HC
        go_wp2_with fail
        refine wp_region_pure _ (by kernel_rfl) (by kernel_rfl) ?_
        repeat (go_big_quiet_step ((go_at_call 66; with_reducible exact HC2.out _)))
        refine wpQuiet_nil ?_; intro _ hw'; obtain ⟨z, rfl⟩ := hw'
        by_cases hl0 : q.length = 0
        · have g0 := len_ngt0 _ hl0
          have g1 : decide (0 < q.length) = false := decide_eq_false (by omega)
          have g2 : ¬ 0 < q.length := by omega
          have HH := Lib.hid (show Cl.hit a.p q = false by unfold Cl.hit; rw [decide_eq_true hl0]; rfl)
          clear hl0
          cases t
          all_goals
            go_wp2_with fail
            go_roundw
            case rel => exact ⟨k + 1, z, rfl, by go_num, by omega, step_all HI.out HQ.out HH.out⟩
            case measure => simp [intOf]; omega
        · have g0 := len_gt0 _ hl0
          have g1 : 0 < q.length := by omega
          have HH := Lib.hid (show Cl.hit a.p q = t by unfold Cl.hit; rw [decide_eq_false hl0, HT.out]; rfl)
          clear hl0
          cases t
          · go_wp2_with fail
            go_roundw
            case rel => exact ⟨k + 1, z, rfl, by go_num, by omega, step_all HI.out HQ.out HH.out⟩
            case measure => simp [intOf]; omega
          · go_wp2_with fail
            go_ret
            exact ⟨ret_bool (by rw [HR.out, any_at HQ.out HH.out]), z.via B1, rfl⟩
      · obtain rfl : k = b.im.length := by omega
        go_wp2_with fail
        go_ret
        exact ⟨ret_bool (by rw [HR.out, any_done HI.out]), y.via B1, rfl⟩
  · have hd : (b.mode != 6) = true := by simpa using hm
    have HR := Lib.hid (show a.meets b = false by unfold Cl.meets; rw [decide_eq_false hm]; rfl)
    clear hm
    go_wp2_with fail
    go_ret
    exact ⟨ret_bool HR.out.symm, (Lt.base W1).via B1, rfl⟩
end Go.Proofs.YtghpildnajdlpaaDoor
