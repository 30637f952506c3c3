/-
  The statement PredOrders, walked: it returns true. Conditions: the row lies in memory as it reads.
-/
import Derived.Test.YtmhgebbmccklmaaAwake03
import Derived.Test.YtmhgebbmccklmaaRHolds
import Derived.Test.YtmhgebbmccklmaaRPart
import Derived.Test.YtmhgebbmccklmaaFew
import Derived.Test.YtmhgebbmccklmaaOpenP
import Derived.Test.YtmhgebbmccklmaaPrMake
namespace Go.Proofs.Ytmhgebbmccklmaa
open Go.RowKit
variable {W : World}

theorem and1023 (n : Int) : ∃ k : Nat, bits .and .i64 n 1023 = (k : Int) := by
  refine ⟨((BitVec.ofInt 64 n &&& BitVec.ofInt 64 1023).toNat), ?_⟩
  show IntKind.i64.wrap ((BitVec.ofInt 64 n &&& BitVec.ofInt 64 1023).toNat : Int) = _
  have h : (BitVec.ofInt 64 n &&& BitVec.ofInt 64 1023).toNat ≤ 1023 := by
    rw [BitVec.toNat_and]
    exact Nat.le_trans Nat.and_le_right (by decide)
  rw [IntKind.wrap_i64]
  omega
/-- A long region, its list of operations in pieces. -/
theorem wp_region_chunks {P : Program} {id : Nat} {Q : Exit → Act → World → Prop} {a : Act} (x : Lt W) {l l' : List Oper} (hm : P.follows .mixedOrders = true) (hB : Region.lexB .any l.toArray = true) (he : l = l')
    (h : wpQuiet P l'.toArray (fun w' => ∃ y : Lt W, w' = y.1) (fun a' => ∀ w', (∃ y : Lt W, w' = y.1) → Q .normal a' w') l' a) : (Code.region id l.toArray true).wp P Q a x.1 := by
  subst he; exact wp_region_pure x hm hB h
theorem Pr.leaf_holds {r : List Val} {o c : Int} {v w : Val} (h1 : 3 ≤ o) (h2 : o ≤ 9) : (Pr.mk o c v w []).holds r = Pr.leaf o c v w r := by rw [Pr.holds_mk]; exact Pr.says_leaf h1 h2
set_option maxHeartbeats 2000000 in
theorem is_any {B : Option Addr} {cb : Nat} {r : List Val} {v u0 : Val} (hr : RowAt W B r) (h0 : r[0]? = some u0) (op c : Int) (x : Lt W) :
    Calls Try.prog 25 #[.int .i64 op, .int .i64 c, .agg #[.bool v.t, .int .i64 v.n, .string v.s], .slice B r.length cb] x.1 fun e w' => e = .returned (.bool ((Pr.mk op c v u0 []).holds r)) ∧ ∃ y : Lt W, w' = y.1 := by
  have hpos : 0 < r.length := (List.getElem?_eq_some_iff.1 h0).1
  obtain ⟨b, off, rfl, hc⟩ := hr (fun e => by subst e; simp at hpos)
  obtain ⟨d0, d1, d2⟩ := hc 0 u0 h0
  rw [Nat.zero_mul, Nat.add_zero] at d0 d1 d2
  have HR := Lib.hid hr
  have hsz : (Pr.mk op c v u0 []).size ≤ 1000000000 := by rw [Pr.size_mk]; simp
  clear hr h0 hc
  go_enter Try.func25, Try.ntmps25
  go_wp2_with fail
  refine wp_here fun W1 hW1 => ?_
  have hb0 : Below W.heap.size W W1 := hW1 ▸ x.more _
  have b0 := fun z : Lt W1 => z.cell (show W1.cell? ⟨x.1.heap.size, 0, none⟩ = some (.bool v.t) by rw [hW1, cell_new rfl]; rfl)
  have b1 := fun z : Lt W1 => z.cell (show W1.cell? ⟨x.1.heap.size, 1, none⟩ = some (.int .i64 v.n) by rw [hW1, cell_new rfl]; rfl)
  have b2 := fun z : Lt W1 => z.cell (show W1.cell? ⟨x.1.heap.size, 2, none⟩ = some (.string v.s) by rw [hW1, cell_new rfl]; rfl)
  have z0 := fun z : Lt W1 => z.old hb0 d0
  have z1 := fun z : Lt W1 => z.old hb0 d1
  have z2 := fun z : Lt W1 => z.old hb0 d2
  have C := Lib.hid (show ∀ z : Lt W1, Calls Try.prog 13 #[.agg #[.int .i64 op, .int .i64 c, .bool v.t, .int .i64 v.n, .string v.s, .bool u0.t, .int .i64 u0.n, .string u0.s, .slice none 0 0], .slice (some ⟨b, off, none⟩) r.length cb] z.1 fun e w' => e = .returned (.bool ((Pr.mk op c v u0 []).holds r)) ∧ ∃ y : Lt W1, w' = y.1 from fun z =>
    holds_any (p := .mk op c v u0 []) (cb := cb) hsz z (Pr.at_mk.2 ⟨fun _ => rfl, fun h => absurd rfl h⟩) (HR.out.below hb0))
  clear hW1 d0 d1 d2 hsz
  refine wp_region_here (by kernel_rfl) (by kernel_rfl) ?_
  repeat (go_big_quiet_step ((go_at_call 13; exact C.out _)))
  refine wpQuiet_nil ?_; intro _ hw'; obtain ⟨z, rfl⟩ := hw'
  go_wp2_with fail
  go_ret
  exact ⟨rfl, z.via hb0, rfl⟩

set_option maxHeartbeats 4000000 in
theorem predOrders_any {B : Option Addr} {cb : Nat} {r : List Val} {c : Int} {v : Val} (hr : RowAt W B r) (x : Lt W) :
    Calls Try.prog 6 #[.slice B r.length cb, .int .i64 c, .agg #[.bool v.t, .int .i64 v.n, .string v.s]] x.1 fun e w' => e = .returned (.bool true) ∧ ∃ y : Lt W, w' = y.1 := by
  have HR := Lib.hid hr
  clear hr
  go_enter Try.func6, Try.ntmps6
  go_wp2_with fail
  refine calls_here fun W1 hW1 => ?_
  have hb0 : Below W.heap.size W W1 := hW1 ▸ x.more _
  have b0 := fun z : Lt W1 => z.cell (show W1.cell? ⟨x.1.heap.size, 0, none⟩ = some (.bool v.t) by rw [hW1, cell_new rfl]; rfl)
  have b1 := fun z : Lt W1 => z.cell (show W1.cell? ⟨x.1.heap.size, 1, none⟩ = some (.int .i64 v.n) by rw [hW1, cell_new rfl]; rfl)
  have b2 := fun z : Lt W1 => z.cell (show W1.cell? ⟨x.1.heap.size, 2, none⟩ = some (.string v.s) by rw [hW1, cell_new rfl]; rfl)
  clear hW1
  refine (awake_any (Lt.base W1)).mono ?_; rintro e w' ⟨rfl, y, rfl⟩
  by_cases hl0 : r.length = 0
  case pos =>
    have hd : ((r.length : Int) == 0) = true := beq_iff_eq.2 (by omega)
    clear hl0
    go_wp2_with fail
    go_ret
    exact ⟨rfl, y.via hb0, rfl⟩
  have hd0 : ((r.length : Int) == 0) = false := beq_eq_false_iff_ne.2 (by omega)
  by_cases hl : r.length ≤ 1000
  case neg =>
    have hd : decide ((1000 : Int) < r.length) = true := decide_eq_true (by omega)
    have hd2 : (1000 : Int) < r.length := by omega
    clear hl
    go_wp2_with fail
    go_ret
    exact ⟨rfl, y.via hb0, rfl⟩
  have hd : decide ((1000 : Int) < r.length) = false := decide_eq_false (by omega)
  have hpos : (1 : Int) ≤ r.length := by omega
  obtain ⟨k, hk⟩ := and1023 c
  obtain ⟨J, hJ, J0, J1⟩ : ∃ J : Int, (k : Int) % (r.length : Int) = J ∧ 0 ≤ J ∧ J < r.length := ⟨_, rfl, Int.emod_nonneg _ (by omega), Int.emod_lt_of_pos _ (by omega)⟩
  have hk0 : (0 : Int) ≤ (k : Int) := by omega
  have hr0 : r[0]? = some (r[0]'(by omega)) := List.getElem?_eq_getElem (by omega)
  obtain ⟨u0, hu0⟩ : ∃ u0, r[0]? = some u0 := ⟨_, hr0⟩
  clear hr0
  obtain ⟨u, hu⟩ : ∃ u, r[J.toNat]? = some u := ⟨_, List.getElem?_eq_getElem (by omega)⟩
  obtain ⟨k1, hk1⟩ : ∃ k1, cmpV u v = k1 := ⟨_, rfl⟩
  obtain ⟨ww, hww⟩ : ∃ ww, decide (cmpV u u0 ≤ 0) = ww := ⟨_, rfl⟩
  have hl : ∀ o (w : Val), Pr.leaf o J v w r = _ := fun o w => Pr.leaf_val J0 J1 hu hk1
  have hrange := cmpV_range u v
  rw [hk1] at hrange
  have hlw : Pr.leaf 6 J u0 zeroV r = ww := by rw [Pr.leaf_val J0 J1 hu rfl]; simp [hww]
  have K : ∀ (o : Int) (b : Bool), (Pr.mk o J v u0 []).holds r = b → ∀ z : Lt W1, Calls Try.prog 25 #[.int .i64 o, .int .i64 J, .agg #[.bool v.t, .int .i64 v.n, .string v.s], .slice B r.length cb] z.1 fun e w' => e = .returned (.bool b) ∧ ∃ y : Lt W1, w' = y.1 := fun o b h z => h ▸ is_any (HR.out.below hb0) hu0 o J z
  have CW := Lib.hid (show ∀ z : Lt W1, Calls Try.prog 13 #[.agg #[.int .i64 6, .int .i64 J, .bool u0.t, .int .i64 u0.n, .string u0.s, .bool false, .int .i64 0, .string ⟨#[]⟩, .slice none 0 0], .slice B r.length cb] z.1 fun e w' => e = .returned (.bool ww) ∧ ∃ y : Lt W1, w' = y.1 from fun z => by
    have key := holds_any (p := .mk 6 J u0 zeroV []) (r := r) (cb := cb) (A := none) (ca := 0) (by rw [Pr.size_mk]; simp) z (Pr.at_mk.2 ⟨fun _ => rfl, fun h => absurd rfl h⟩) (HR.out.below hb0)
    rw [Pr.leaf_holds (by omega) (by omega), hlw] at key
    exact key)
  obtain ⟨b, off, hB, hc⟩ := (HR.out.below hb0) (fun e => by subst e; simp at hu0)
  obtain ⟨d0, d1, d2⟩ := hc 0 u0 hu0
  rw [Nat.zero_mul, Nat.add_zero] at d0 d1 d2
  subst hB
  have z0 := fun z : Lt W1 => z.cell d0
  have z1 := fun z : Lt W1 => z.cell d1
  have z2 := fun z : Lt W1 => z.cell d2
  have hpos' : 0 < r.length := by omega
  rcases hrange with rfl | rfl | rfl
  · have C5 := Lib.hid (K 5 true (by rw [Pr.leaf_holds (by omega) (by omega), hl]; simp))
    have C3 := Lib.hid (K 3 false (by rw [Pr.leaf_holds (by omega) (by omega), hl]; simp))
    have C7 := Lib.hid (K 7 false (by rw [Pr.leaf_holds (by omega) (by omega), hl]; simp))
    have C6 := Lib.hid (K 6 true (by rw [Pr.leaf_holds (by omega) (by omega), hl]; simp))
    have C8 := Lib.hid (K 8 false (by rw [Pr.leaf_holds (by omega) (by omega), hl]; simp))
    have C4 := Lib.hid (K 4 true (by rw [Pr.leaf_holds (by omega) (by omega), hl]; simp))
    have C9 := Lib.hid (K 9 false (by rw [Pr.leaf_holds (by omega) (by omega), hl]; simp [hww]))
    have C1 := Lib.hid (K 1 true (by rw [Pr.holds_mk]; rfl))
    have C2 := Lib.hid (K 2 false (by rw [Pr.holds_mk]; rfl))
    clear K hl hlw hu0 hu hk1 hww hc d0 d1 d2
    go_wp2_with fail
    refine (C5.out y).mono ?_; rintro e w' ⟨rfl, y1, rfl⟩
    go_wp2_with fail
    refine (C3.out y1).mono ?_; rintro e w' ⟨rfl, y2, rfl⟩
    go_wp2_with fail
    refine (C7.out y2).mono ?_; rintro e w' ⟨rfl, y3, rfl⟩
    go_wp2_with fail
    refine (CW.out y3).mono ?_; rintro e w' ⟨rfl, y4, rfl⟩
    go_wp2_with fail
    refine wp_region_chunks _ (by kernel_rfl) (by kernel_rfl) (by simp only [List.append_eq, List.cons_append, List.nil_append]; rfl) ?_
    repeat (go_big_quiet_step ((first | (go_at_call 25; with_reducible exact C6.out _) | (go_at_call 25; with_reducible exact C5.out _) | (go_at_call 25; with_reducible exact C3.out _) | (go_at_call 25; with_reducible exact C8.out _) | (go_at_call 25; with_reducible exact C7.out _) | (go_at_call 25; with_reducible exact C4.out _) | (go_at_call 25; with_reducible exact C9.out _) | (go_at_call 25; with_reducible exact C1.out _) | (go_at_call 25; with_reducible exact C2.out _))))
    refine wpQuiet_nil ?_; intro _ hw'; obtain ⟨z, rfl⟩ := hw'
    go_wp2_with fail
    go_ret
    exact ⟨ret_bool (by simp), z.via hb0, rfl⟩
  · have C5 := Lib.hid (K 5 false (by rw [Pr.leaf_holds (by omega) (by omega), hl]; simp))
    have C3 := Lib.hid (K 3 true (by rw [Pr.leaf_holds (by omega) (by omega), hl]; simp))
    have C7 := Lib.hid (K 7 false (by rw [Pr.leaf_holds (by omega) (by omega), hl]; simp))
    have C6 := Lib.hid (K 6 true (by rw [Pr.leaf_holds (by omega) (by omega), hl]; simp))
    have C8 := Lib.hid (K 8 true (by rw [Pr.leaf_holds (by omega) (by omega), hl]; simp))
    have C4 := Lib.hid (K 4 false (by rw [Pr.leaf_holds (by omega) (by omega), hl]; simp))
    have C9 := Lib.hid (K 9 ww (by rw [Pr.leaf_holds (by omega) (by omega), hl]; simp [hww]))
    have C1 := Lib.hid (K 1 true (by rw [Pr.holds_mk]; rfl))
    have C2 := Lib.hid (K 2 false (by rw [Pr.holds_mk]; rfl))
    clear K hl hlw hu0 hu hk1 hww hc d0 d1 d2
    go_wp2_with fail
    refine (C5.out y).mono ?_; rintro e w' ⟨rfl, y1, rfl⟩
    go_wp2_with fail
    refine (C3.out y1).mono ?_; rintro e w' ⟨rfl, y2, rfl⟩
    go_wp2_with fail
    refine (C7.out y2).mono ?_; rintro e w' ⟨rfl, y3, rfl⟩
    go_wp2_with fail
    refine (CW.out y3).mono ?_; rintro e w' ⟨rfl, y4, rfl⟩
    go_wp2_with fail
    refine wp_region_chunks _ (by kernel_rfl) (by kernel_rfl) (by simp only [List.append_eq, List.cons_append, List.nil_append]; rfl) ?_
    repeat (go_big_quiet_step ((first | (go_at_call 25; with_reducible exact C6.out _) | (go_at_call 25; with_reducible exact C5.out _) | (go_at_call 25; with_reducible exact C3.out _) | (go_at_call 25; with_reducible exact C8.out _) | (go_at_call 25; with_reducible exact C7.out _) | (go_at_call 25; with_reducible exact C4.out _) | (go_at_call 25; with_reducible exact C9.out _) | (go_at_call 25; with_reducible exact C1.out _) | (go_at_call 25; with_reducible exact C2.out _))))
    refine wpQuiet_nil ?_; intro _ hw'; obtain ⟨z, rfl⟩ := hw'
    go_wp2_with fail
    go_ret
    exact ⟨ret_bool (by simp), z.via hb0, rfl⟩
  · have C5 := Lib.hid (K 5 false (by rw [Pr.leaf_holds (by omega) (by omega), hl]; simp))
    have C3 := Lib.hid (K 3 false (by rw [Pr.leaf_holds (by omega) (by omega), hl]; simp))
    have C7 := Lib.hid (K 7 true (by rw [Pr.leaf_holds (by omega) (by omega), hl]; simp))
    have C6 := Lib.hid (K 6 false (by rw [Pr.leaf_holds (by omega) (by omega), hl]; simp))
    have C8 := Lib.hid (K 8 true (by rw [Pr.leaf_holds (by omega) (by omega), hl]; simp))
    have C4 := Lib.hid (K 4 true (by rw [Pr.leaf_holds (by omega) (by omega), hl]; simp))
    have C9 := Lib.hid (K 9 ww (by rw [Pr.leaf_holds (by omega) (by omega), hl]; simp [hww]))
    have C1 := Lib.hid (K 1 true (by rw [Pr.holds_mk]; rfl))
    have C2 := Lib.hid (K 2 false (by rw [Pr.holds_mk]; rfl))
    clear K hl hlw hu0 hu hk1 hww hc d0 d1 d2
    go_wp2_with fail
    refine (C5.out y).mono ?_; rintro e w' ⟨rfl, y1, rfl⟩
    go_wp2_with fail
    refine (C3.out y1).mono ?_; rintro e w' ⟨rfl, y2, rfl⟩
    go_wp2_with fail
    refine (C7.out y2).mono ?_; rintro e w' ⟨rfl, y3, rfl⟩
    go_wp2_with fail
    refine (CW.out y3).mono ?_; rintro e w' ⟨rfl, y4, rfl⟩
    go_wp2_with fail
    refine wp_region_chunks _ (by kernel_rfl) (by kernel_rfl) (by simp only [List.append_eq, List.cons_append, List.nil_append]; rfl) ?_
    repeat (go_big_quiet_step ((first | (go_at_call 25; with_reducible exact C6.out _) | (go_at_call 25; with_reducible exact C5.out _) | (go_at_call 25; with_reducible exact C3.out _) | (go_at_call 25; with_reducible exact C8.out _) | (go_at_call 25; with_reducible exact C7.out _) | (go_at_call 25; with_reducible exact C4.out _) | (go_at_call 25; with_reducible exact C9.out _) | (go_at_call 25; with_reducible exact C1.out _) | (go_at_call 25; with_reducible exact C2.out _))))
    refine wpQuiet_nil ?_; intro _ hw'; obtain ⟨z, rfl⟩ := hw'
    go_wp2_with fail
    go_ret
    exact ⟨ret_bool (by simp), z.via hb0, rfl⟩
end Go.Proofs.Ytmhgebbmccklmaa

