/-
  The statement NormalTells, walked: it returns true. Conditions: the arguments lie in memory as they read.
-/
import Derived.Test.YtppoefbfepehpaaLaw04E
import Derived.Test.YtppoefbfepehpaaRSame04
import Derived.Deep.RegionHeld3
namespace Go.Proofs.Ytppoefbfepehpaa
open Go.RowKit
variable {W : World}

set_option maxHeartbeats 2000000 in
theorem normalTells_any {A0 A : Option Addr} {ca0 ca : Nat} {t : List Bool} {p : Pr} (ht : ColsAt W A0 t) (hat : p.At W A ca) (x : Lt W) : Calls Try.prog 3 #[.agg #[.slice A0 t.length ca0], p.arg A ca] x.1 fun e w' => e = .returned (.bool true) ∧ ∃ y : Lt W, w' = y.1 := by
  have HT := Lib.hid ht
  have HA := Lib.hid hat
  clear ht hat
  unfold Pr.arg
  obtain ⟨s, hs⟩ : ∃ s, p.few 40 40 100 0 = s := ⟨_, rfl⟩
  by_cases hT : t.length ≤ 100
  · have hd : decide ((100 : Int) < t.length) = false := decide_eq_false (by omega)
    clear hT
    go_enter Try.func3, Try.ntmps3
    go_wp2_with fail
    refine calls_here fun W1 hW1 => ?_
    have hb1 : Below W.heap.size W W1 := by rw [hW1]; exact below_then (x.more _) (below_alloc _)
    have kt : Blk W1 (x.1.heap.size) [.slice A0 t.length ca0] := by rw [hW1]; refine Blk.alloc ?_ _; exact Blk.new' (l := #[.slice A0 t.length ca0]) (by simp)
    have kp : Blk W1 (x.1.heap.size + 1) [.int .i64 p.op, .int .i64 p.col, .bool p.v.t, .int .i64 p.v.n, .string p.v.s, .bool p.w.t, .int .i64 p.w.n, .string p.w.s, .slice A p.l.length ca] := by rw [hW1]; exact Blk.new' (l := #[.int .i64 p.op, .int .i64 p.col, .bool p.v.t, .int .i64 p.v.n, .string p.v.s, .bool p.w.t, .int .i64 p.w.n, .string p.w.s, .slice A p.l.length ca]) (by simp)
    clear hW1
    have tw0 := kt.cell 0 _ rfl
    have tz0 := fun z : Lt W1 => z.cell tw0
    have pw0 := kp.cell 0 _ rfl
    have pw1 := kp.cell 1 _ rfl
    have pw2 := kp.cell 2 _ rfl
    have pw3 := kp.cell 3 _ rfl
    have pw4 := kp.cell 4 _ rfl
    have pw5 := kp.cell 5 _ rfl
    have pw6 := kp.cell 6 _ rfl
    have pw7 := kp.cell 7 _ rfl
    have pw8 := kp.cell 8 _ rfl
    have pz0 := fun z : Lt W1 => z.cell pw0
    have pz1 := fun z : Lt W1 => z.cell pw1
    have pz2 := fun z : Lt W1 => z.cell pw2
    have pz3 := fun z : Lt W1 => z.cell pw3
    have pz4 := fun z : Lt W1 => z.cell pw4
    have pz5 := fun z : Lt W1 => z.cell pw5
    have pz6 := fun z : Lt W1 => z.cell pw6
    have pz7 := fun z : Lt W1 => z.cell pw7
    have pz8 := fun z : Lt W1 => z.cell pw8
    refine (awake_any (Lt.base W1)).mono ?_; rintro e w' ⟨rfl, y1, rfl⟩
    go_upto_region 2 with fail
    refine wp_here fun U1 hU1 => ?_
    have bU1 : Below W1.heap.size W1 U1 := by rw [hU1]; exact y1.2
    clear tw0 tz0 pw0 pz0 pw1 pz1 pw2 pz2 pw3 pz3 pw4 pz4 pw5 pz5 pw6 pz6 pw7 pz7 pw8 pz8
    replace kt := kt.below bU1
    replace kp := kp.below bU1
    have BU1 : Below W.heap.size W U1 := below_then hb1 bU1
    clear hU1
    have tw0 := kt.cell 0 _ rfl
    have tz0 := fun z : Lt U1 => z.cell tw0
    have pw0 := kp.cell 0 _ rfl
    have pw1 := kp.cell 1 _ rfl
    have pw2 := kp.cell 2 _ rfl
    have pw3 := kp.cell 3 _ rfl
    have pw4 := kp.cell 4 _ rfl
    have pw5 := kp.cell 5 _ rfl
    have pw6 := kp.cell 6 _ rfl
    have pw7 := kp.cell 7 _ rfl
    have pw8 := kp.cell 8 _ rfl
    have pz0 := fun z : Lt U1 => z.cell pw0
    have pz1 := fun z : Lt U1 => z.cell pw1
    have pz2 := fun z : Lt U1 => z.cell pw2
    have pz3 := fun z : Lt U1 => z.cell pw3
    have pz4 := fun z : Lt U1 => z.cell pw4
    have pz5 := fun z : Lt U1 => z.cell pw5
    have pz6 := fun z : Lt U1 => z.cell pw6
    have pz7 := fun z : Lt U1 => z.cell pw7
    have pz8 := fun z : Lt U1 => z.cell pw8
    go_wp2_with fail
    refine (few_is hs (Lt.base U1) (HA.out.below BU1)).mono ?_; rintro e w' ⟨rfl, y2, rfl⟩
    cases s
    · clear hs
      go_wp2_with fail
      go_ret
      exact ⟨rfl, y2.via BU1, rfl⟩
    · have hsz := Pr.few_size hs
      clear hs
      go_upto_region 7 with fail
      refine wp_here fun U2 hU2 => ?_
      have bU2 : Below U1.heap.size U1 U2 := by rw [hU2]; exact y2.2
      clear tw0 tz0 pw0 pz0 pw1 pz1 pw2 pz2 pw3 pz3 pw4 pz4 pw5 pz5 pw6 pz6 pw7 pz7 pw8 pz8
      replace kt := kt.below bU2
      replace kp := kp.below bU2
      have BU2 : Below W.heap.size W U2 := below_then BU1 bU2
      clear hU2
      have tw0 := kt.cell 0 _ rfl
      have tz0 := fun z : Lt U2 => z.cell tw0
      have pw0 := kp.cell 0 _ rfl
      have pw1 := kp.cell 1 _ rfl
      have pw2 := kp.cell 2 _ rfl
      have pw3 := kp.cell 3 _ rfl
      have pw4 := kp.cell 4 _ rfl
      have pw5 := kp.cell 5 _ rfl
      have pw6 := kp.cell 6 _ rfl
      have pw7 := kp.cell 7 _ rfl
      have pw8 := kp.cell 8 _ rfl
      have pz0 := fun z : Lt U2 => z.cell pw0
      have pz1 := fun z : Lt U2 => z.cell pw1
      have pz2 := fun z : Lt U2 => z.cell pw2
      have pz3 := fun z : Lt U2 => z.cell pw3
      have pz4 := fun z : Lt U2 => z.cell pw4
      have pz5 := fun z : Lt U2 => z.cell pw5
      have pz6 := fun z : Lt U2 => z.cell pw6
      have pz7 := fun z : Lt U2 => z.cell pw7
      have pz8 := fun z : Lt U2 => z.cell pw8
      have hT : ∀ w', Below U2.heap.size U2 w' → Below U2.heap.size U2 w' ∧ w'.cell? ⟨(x.1.heap.size), 0, none⟩ = some (.slice A0 t.length ca0) ∧ w'.cell? ⟨(x.1.heap.size + 1), 0, none⟩ = some (.int .i64 p.op) ∧ w'.cell? ⟨(x.1.heap.size + 1), 1, none⟩ = some (.int .i64 p.col) ∧ w'.cell? ⟨(x.1.heap.size + 1), 2, none⟩ = some (.bool p.v.t) ∧ w'.cell? ⟨(x.1.heap.size + 1), 3, none⟩ = some (.int .i64 p.v.n) ∧ w'.cell? ⟨(x.1.heap.size + 1), 4, none⟩ = some (.string p.v.s) ∧ w'.cell? ⟨(x.1.heap.size + 1), 5, none⟩ = some (.bool p.w.t) ∧ w'.cell? ⟨(x.1.heap.size + 1), 6, none⟩ = some (.int .i64 p.w.n) ∧ w'.cell? ⟨(x.1.heap.size + 1), 7, none⟩ = some (.string p.w.s) ∧ w'.cell? ⟨(x.1.heap.size + 1), 8, none⟩ = some (.slice A p.l.length ca) := fun w' h => ⟨h, (h.cell (cell_lt tw0)).trans tw0, (h.cell (cell_lt pw0)).trans pw0, (h.cell (cell_lt pw1)).trans pw1, (h.cell (cell_lt pw2)).trans pw2, (h.cell (cell_lt pw3)).trans pw3, (h.cell (cell_lt pw4)).trans pw4, (h.cell (cell_lt pw5)).trans pw5, (h.cell (cell_lt pw6)).trans pw6, (h.cell (cell_lt pw7)).trans pw7, (h.cell (cell_lt pw8)).trans pw8⟩
      obtain ⟨nn, hnn⟩ : ∃ nn, p.normal t = nn := ⟨_, rfl⟩
      obtain ⟨sp, hsp⟩ : ∃ sp, p.span t = sp := ⟨_, rfl⟩
      have hS : nn.size ≤ 3 * 100 := hnn ▸ normal_size t hsz (by omega)
      have C1 := Lib.hid (show ∀ w, Below U2.heap.size U2 w → Calls Try.prog 13 #[.agg #[.slice A0 t.length ca0], .agg #[.int .i64 p.op, .int .i64 p.col, .bool p.v.t, .int .i64 p.v.n, .string p.v.s, .bool p.w.t, .int .i64 p.w.n, .string p.w.s, .slice A p.l.length ca]] w (PFresh w nn) from fun w h => hnn ▸ normal_any (by omega) w ((HT.out.below BU2).below h) ((HA.out.below BU2).below h))
      have C2 := Lib.hid (show ∀ w, Below U2.heap.size U2 w → Calls Try.prog 14 #[.agg #[.slice A0 t.length ca0], .agg #[.int .i64 p.op, .int .i64 p.col, .bool p.v.t, .int .i64 p.v.n, .string p.v.s, .bool p.w.t, .int .i64 p.w.n, .string p.w.s, .slice A p.l.length ca]] w (PFresh w nn) from fun w h => hnn ▸ rnormal_any (by omega) w ((HT.out.below BU2).below h) ((HA.out.below BU2).below h))
      have C4 := Lib.hid (show ∀ w, Below U2.heap.size U2 w → Calls Try.prog 15 #[.agg #[.slice A0 t.length ca0], .agg #[.int .i64 p.op, .int .i64 p.col, .bool p.v.t, .int .i64 p.v.n, .string p.v.s, .bool p.w.t, .int .i64 p.w.n, .string p.w.s, .slice A p.l.length ca]] w (fun e w' => e = .returned (.agg #[.bool sp.none, .bool sp.lo, .bool sp.olo, .bool sp.l.t, .int .i64 sp.l.n, .string sp.l.s, .bool sp.hi, .bool sp.ohi, .bool sp.h.t, .int .i64 sp.h.n, .string sp.h.s]) ∧ Below w.heap.size w w') from fun w h => hsp ▸ span_any (by omega) w ((HT.out.below BU2).below h) ((HA.out.below BU2).below h))
      have C5 := Lib.hid (show ∀ w, Below U2.heap.size U2 w → Calls Try.prog 16 #[.agg #[.slice A0 t.length ca0], .agg #[.int .i64 p.op, .int .i64 p.col, .bool p.v.t, .int .i64 p.v.n, .string p.v.s, .bool p.w.t, .int .i64 p.w.n, .string p.w.s, .slice A p.l.length ca]] w (fun e w' => e = .returned (.agg #[.bool sp.none, .bool sp.lo, .bool sp.olo, .bool sp.l.t, .int .i64 sp.l.n, .string sp.l.s, .bool sp.hi, .bool sp.ohi, .bool sp.h.t, .int .i64 sp.h.n, .string sp.h.s]) ∧ Below w.heap.size w w') from fun w h => hsp ▸ rspan_any (by omega) w ((HT.out.below BU2).below h) ((HA.out.below BU2).below h))
      have C3 := Lib.hid (show ∀ w A' ca' A'' ca'', nn.At w A' ca' → nn.At w A'' ca'' → Calls Try.prog 12 #[.agg #[.int .i64 nn.op, .int .i64 nn.col, .bool nn.v.t, .int .i64 nn.v.n, .string nn.v.s, .bool nn.w.t, .int .i64 nn.w.n, .string nn.w.s, .slice A' nn.l.length ca'], .agg #[.int .i64 nn.op, .int .i64 nn.col, .bool nn.v.t, .int .i64 nn.v.n, .string nn.v.s, .bool nn.w.t, .int .i64 nn.w.n, .string nn.w.s, .slice A'' nn.l.length ca'']] w fun e w' => e = .returned (.bool true) ∧ Below w.heap.size w w' from fun w A' ca' A'' ca'' h1 h2 => by
        have := rpsame_any nn (Lt.base w) nn h1 h2 (by omega)
        rw [Pr.same_self] at this
        exact this.mono fun e w' ⟨h1, y, h2⟩ => ⟨h1, h2 ▸ y.2⟩)
      have eq1 := fun w => (show (binOp .eql 35 (.agg #[.bool sp.none, .bool sp.lo, .bool sp.olo, .bool sp.l.t, .int .i64 sp.l.n, .string sp.l.s, .bool sp.hi, .bool sp.ohi, .bool sp.h.t, .int .i64 sp.h.n, .string sp.h.s]) (.agg #[.bool sp.none, .bool sp.lo, .bool sp.olo, .bool sp.l.t, .int .i64 sp.l.n, .string sp.l.s, .bool sp.hi, .bool sp.ohi, .bool sp.h.t, .int .i64 sp.h.n, .string sp.h.s])).run Try.prog w = .ok (.bool true) w from run_eql_span_t (a := sp) (b := sp) rfl w)
      clear hsz hnn hsp hS
      go_region_held3 (fun w' => Below U2.heap.size U2 w' ∧ w'.cell? ⟨(x.1.heap.size), 0, none⟩ = some (.slice A0 t.length ca0) ∧ w'.cell? ⟨(x.1.heap.size + 1), 0, none⟩ = some (.int .i64 p.op) ∧ w'.cell? ⟨(x.1.heap.size + 1), 1, none⟩ = some (.int .i64 p.col) ∧ w'.cell? ⟨(x.1.heap.size + 1), 2, none⟩ = some (.bool p.v.t) ∧ w'.cell? ⟨(x.1.heap.size + 1), 3, none⟩ = some (.int .i64 p.v.n) ∧ w'.cell? ⟨(x.1.heap.size + 1), 4, none⟩ = some (.string p.v.s) ∧ w'.cell? ⟨(x.1.heap.size + 1), 5, none⟩ = some (.bool p.w.t) ∧ w'.cell? ⟨(x.1.heap.size + 1), 6, none⟩ = some (.int .i64 p.w.n) ∧ w'.cell? ⟨(x.1.heap.size + 1), 7, none⟩ = some (.string p.w.s) ∧ w'.cell? ⟨(x.1.heap.size + 1), 8, none⟩ = some (.slice A p.l.length ca)) (first | exact hT _ (below_then (And.left ‹Below U2.heap.size U2 _ ∧ _›) hb6) | exact hT _ (below_then (And.left ‹Below U2.heap.size U2 _ ∧ _›) hb5) | exact hT _ (below_then (And.left ‹Below U2.heap.size U2 _ ∧ _›) hb4) | exact hT _ ((Below.refl _ _).drew)) (first
        | (go_at_call 13; (refine (C1.out _ (And.left ‹Below U2.heap.size U2 _ ∧ _›)).mono ?_); rintro e w4 ⟨A4, ca4, rfl, hat4, _, hb4⟩)
        | (go_at_call 14; (refine (C2.out _ (And.left ‹Below U2.heap.size U2 _ ∧ _›)).mono ?_); rintro e w5 ⟨A5, ca5, rfl, hat5, _, hb5⟩; have hat45 := hat4.below hb5)
        | (go_at_call 12; (refine (C3.out _ _ _ _ _ hat45 hat5).mono ?_); rintro e w6 ⟨rfl, hb6⟩)
        | (go_at_call 15; (refine (C4.out _ (And.left ‹Below U2.heap.size U2 _ ∧ _›)).mono ?_); rintro e w6 ⟨rfl, hb6⟩)
        | (go_at_call 16; (refine (C5.out _ (And.left ‹Below U2.heap.size U2 _ ∧ _›)).mono ?_); rintro e w6 ⟨rfl, hb6⟩))
      all_goals
        go_wp2_with fail
        go_ret
        exact ⟨rfl, (Lt.base _).via (below_then BU2 (And.left ‹Below U2.heap.size U2 _ ∧ _›)), rfl⟩
  · have hd : decide ((100 : Int) < t.length) = true := decide_eq_true (by omega)
    have hd3 : (100 : Int) < t.length := by omega
    clear hT
    go_enter Try.func3, Try.ntmps3
    go_wp2_with fail
    refine calls_here fun W1 hW1 => ?_
    have hb1 : Below W.heap.size W W1 := by rw [hW1]; exact below_then (x.more _) (below_alloc _)
    have kt : Blk W1 (x.1.heap.size) [.slice A0 t.length ca0] := by rw [hW1]; refine Blk.alloc ?_ _; exact Blk.new' (l := #[.slice A0 t.length ca0]) (by simp)
    have kp : Blk W1 (x.1.heap.size + 1) [.int .i64 p.op, .int .i64 p.col, .bool p.v.t, .int .i64 p.v.n, .string p.v.s, .bool p.w.t, .int .i64 p.w.n, .string p.w.s, .slice A p.l.length ca] := by rw [hW1]; exact Blk.new' (l := #[.int .i64 p.op, .int .i64 p.col, .bool p.v.t, .int .i64 p.v.n, .string p.v.s, .bool p.w.t, .int .i64 p.w.n, .string p.w.s, .slice A p.l.length ca]) (by simp)
    clear hW1
    have tw0 := kt.cell 0 _ rfl
    have tz0 := fun z : Lt W1 => z.cell tw0
    have pw0 := kp.cell 0 _ rfl
    have pw1 := kp.cell 1 _ rfl
    have pw2 := kp.cell 2 _ rfl
    have pw3 := kp.cell 3 _ rfl
    have pw4 := kp.cell 4 _ rfl
    have pw5 := kp.cell 5 _ rfl
    have pw6 := kp.cell 6 _ rfl
    have pw7 := kp.cell 7 _ rfl
    have pw8 := kp.cell 8 _ rfl
    have pz0 := fun z : Lt W1 => z.cell pw0
    have pz1 := fun z : Lt W1 => z.cell pw1
    have pz2 := fun z : Lt W1 => z.cell pw2
    have pz3 := fun z : Lt W1 => z.cell pw3
    have pz4 := fun z : Lt W1 => z.cell pw4
    have pz5 := fun z : Lt W1 => z.cell pw5
    have pz6 := fun z : Lt W1 => z.cell pw6
    have pz7 := fun z : Lt W1 => z.cell pw7
    have pz8 := fun z : Lt W1 => z.cell pw8
    refine (awake_any (Lt.base W1)).mono ?_; rintro e w' ⟨rfl, y1, rfl⟩
    go_upto_region 2 with fail
    refine wp_here fun U1 hU1 => ?_
    have bU1 : Below W1.heap.size W1 U1 := by rw [hU1]; exact y1.2
    clear tw0 tz0 pw0 pz0 pw1 pz1 pw2 pz2 pw3 pz3 pw4 pz4 pw5 pz5 pw6 pz6 pw7 pz7 pw8 pz8
    replace kt := kt.below bU1
    replace kp := kp.below bU1
    have BU1 : Below W.heap.size W U1 := below_then hb1 bU1
    clear hU1
    have tw0 := kt.cell 0 _ rfl
    have tz0 := fun z : Lt U1 => z.cell tw0
    have pw0 := kp.cell 0 _ rfl
    have pw1 := kp.cell 1 _ rfl
    have pw2 := kp.cell 2 _ rfl
    have pw3 := kp.cell 3 _ rfl
    have pw4 := kp.cell 4 _ rfl
    have pw5 := kp.cell 5 _ rfl
    have pw6 := kp.cell 6 _ rfl
    have pw7 := kp.cell 7 _ rfl
    have pw8 := kp.cell 8 _ rfl
    have pz0 := fun z : Lt U1 => z.cell pw0
    have pz1 := fun z : Lt U1 => z.cell pw1
    have pz2 := fun z : Lt U1 => z.cell pw2
    have pz3 := fun z : Lt U1 => z.cell pw3
    have pz4 := fun z : Lt U1 => z.cell pw4
    have pz5 := fun z : Lt U1 => z.cell pw5
    have pz6 := fun z : Lt U1 => z.cell pw6
    have pz7 := fun z : Lt U1 => z.cell pw7
    have pz8 := fun z : Lt U1 => z.cell pw8
    go_wp2_with fail
    refine (few_is hs (Lt.base U1) (HA.out.below BU1)).mono ?_; rintro e w' ⟨rfl, y2, rfl⟩
    cases s
    · clear hs
      go_wp2_with fail
      go_ret
      exact ⟨rfl, y2.via BU1, rfl⟩
    · clear hs
      go_wp2_with fail
      go_ret
      exact ⟨rfl, y2.via BU1, rfl⟩
end Go.Proofs.Ytppoefbfepehpaa
