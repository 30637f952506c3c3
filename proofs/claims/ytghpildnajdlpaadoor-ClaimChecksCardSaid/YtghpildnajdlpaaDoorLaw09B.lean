/-
  The statement ClaimChecks, walked: it returns true. Conditions: the tables and the claim lie in memory as they read; the table of modes lies there.
-/
import Derived.Test.YtghpildnajdlpaaDoorAwk09
import Derived.Test.YtghpildnajdlpaaDoorClmRMay
namespace Go.Proofs.YtghpildnajdlpaaDoor
open Go.RowKit
variable {W : World}

set_option maxHeartbeats 4000000 in
theorem claimChecks_any (hT : Tabs W) {ts : List (List Bool)} {A0 : Option Addr} {ca0 : Nat} (hts : TabsAt W A0 ts) {a : Cl} {A P : Option Addr} {ca pa : Nat} (ha : a.At W A ca P pa) (sa : ∀ r ∈ a.im, ∀ u ∈ r, u.s.size ≤ maxLen) (x : Lt W) : Calls Tryd.prog 3 #[.slice A0 ts.length ca0, a.arg A ca P pa] x.1 fun e w' => e = .returned (.bool true) ∧ ∃ y : Lt W, w' = y.1 := by
  have HTS := Lib.hid hts
  clear hts
  have HT := Lib.hid hT
  have HA := Lib.hid ha
  have Za := Lib.hid sa
  clear hT ha sa
  unfold Cl.arg
  go_enter Tryd.func3, Tryd.ntmps3
  go_wp2_with fail
  refine calls_here fun W1 hW1 => ?_
  have B1 : Below W.heap.size W W1 := by rw [hW1]; exact x.more _
  have ka : Blk W1 (x.1.heap.size) (a.cells A ca P pa) := by rw [hW1]; exact Blk.new' (l := #[.int .i64 a.kind, .int .i64 a.table, .int .i64 a.mode, .bool a.key.t, .int .i64 a.key.n, .string a.key.s, .slice A a.im.length ca, .int .i64 a.p.op, .int .i64 a.p.col, .bool a.p.v.t, .int .i64 a.p.v.n, .string a.p.v.s, .bool a.p.w.t, .int .i64 a.p.w.n, .string a.p.w.s, .slice P a.p.l.length pa]) (by simp)
  clear hW1
  have HT1 := Lib.hid (show Tabs W1 from fun i hi => (B1.cell (cell_lt (HT.out i hi))).trans (HT.out i hi))
  have Aa := Lib.hid (HA.out.below B1)
  have AT := Lib.hid (HTS.out.below B1)
  refine (awake_any HT1.out (Lt.base W1)).mono ?_; rintro e w' ⟨rfl, y1, rfl⟩
  obtain ⟨fa, hfa⟩ : ∃ f, a.few = f := ⟨_, rfl⟩
  have Ca := cfew_any Aa.out y1
  rw [hfa] at Ca
  have HFa := Lib.hid hfa
  have HCa := Lib.hid Ca
  clear hfa Ca
  go_wp2_with (first | (refine claim_load (by rfl) _ (by rfl) (by rfl) (ka.below y1.2) ?_))
  refine HCa.out.mono ?_; rintro e w' ⟨rfl, y2, rfl⟩
  by_cases hl : ts.length ≤ 20
  · have hd : decide ((20 : Int) < (ts.length : Int)) = false := decide_eq_false (by omega)
    cases fa
    · go_wp2_with fail
      go_ret
      exact ⟨rfl, y2.via B1, rfl⟩
    have Fa := Lib.hid (Cl.few_fits HFa.out Za.out)
    have K1 := Lib.hid (fun z : Lt W1 => rcmay_any (ca0 := ca0) AT.out Aa.out Fa.out z)
    obtain ⟨m, hm⟩ : ∃ m, Cl.may ts a = m := ⟨_, rfl⟩
    have K1 := K1.out
    rw [hm] at K1
    have K1 := Lib.hid K1
    have HM := Lib.hid hm
    clear hm
    go_wp2_with (refine claim_load (by rfl) _ (by rfl) (by rfl) (ka.below y2.2) ?_)
    refine (K1.out y2).mono ?_; rintro e w' ⟨rfl, y3, rfl⟩
    cases m
    · have K2 := fun z : Lt W1 => ccheck_any (ca0 := ca0) AT.out Aa.out Fa.out z
      rw [Cl.err_no HM.out] at K2
      have K2 := Lib.hid K2
      go_wp2_with (refine claim_load (by rfl) _ (by rfl) (by rfl) (ka.below y3.2) ?_)
      refine (K2.out y3).mono ?_; rintro e w' ⟨rfl, y4, rfl⟩
      go_wp2_with fail
      go_ret
      exact ⟨rfl, y4.via B1, rfl⟩
    · have K2 := fun z : Lt W1 => ccheck_any (ca0 := ca0) AT.out Aa.out Fa.out z
      rw [Cl.err_ok HM.out] at K2
      have K2 := Lib.hid K2
      go_wp2_with (refine claim_load (by rfl) _ (by rfl) (by rfl) (ka.below y3.2) ?_)
      refine (K2.out y3).mono ?_; rintro e w' ⟨rfl, y4, rfl⟩
      go_wp2_with fail
      go_ret
      exact ⟨rfl, y4.via B1, rfl⟩
  · have hd : decide ((20 : Int) < (ts.length : Int)) = true := decide_eq_true (by omega)
    have hd2 : (20 : Int) < (ts.length : Int) := by omega
    cases fa
    all_goals
      go_wp2_with fail
      go_ret
      exact ⟨rfl, y2.via B1, rfl⟩
end Go.Proofs.YtghpildnajdlpaaDoor
