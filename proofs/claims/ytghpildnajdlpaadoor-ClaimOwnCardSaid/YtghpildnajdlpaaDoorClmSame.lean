/-
  Claims, walked: what one is about, who is in conflict, who covers; the program's answers. Conditions: the claims lie in memory as they read.
-/
import Derived.Test.YtghpildnajdlpaaDoorClm
import Derived.Test.YtghpildnajdlpaaDoorImg
import Derived.Test.YtghpildnajdlpaaDoorSpan
import Derived.Test.YtghpildnajdlpaaDoorSame
import Derived.Test.YtghpildnajdlpaaDoorMode09
import Derived.Deep.DeepCutAuto
namespace Go.Proofs.YtghpildnajdlpaaDoor
open Go.RowKit
variable {W : World}

def Cl.arg (c : Cl) (A : Option Addr) (ca : Nat) (P : Option Addr) (pa : Nat) : Value := .agg #[.int .i64 c.kind, .int .i64 c.table, .int .i64 c.mode, .bool c.key.t, .int .i64 c.key.n, .string c.key.s, .slice A c.im.length ca, .int .i64 c.p.op, .int .i64 c.p.col, .bool c.p.v.t, .int .i64 c.p.v.n, .string c.p.v.s, .bool c.p.w.t, .int .i64 c.p.w.n, .string c.p.w.s, .slice P c.p.l.length pa]
/-- A claim's images and its predicate's parts lie in memory. -/
structure Cl.At (W : World) (c : Cl) (A : Option Addr) (ca : Nat) (P : Option Addr) (pa : Nat) : Prop where
  im : ImgsAt W A ca c.im
  p : c.p.At W P pa
theorem Cl.At.below {W w : World} {c : Cl} {A : Option Addr} {ca : Nat} {P : Option Addr} {pa : Nat} (h : c.At W A ca P pa) (hb : Below W.heap.size W w) : c.At w A ca P pa := ⟨h.im.below hb, h.p.below hb⟩
/-- It is of a size that can be walked. -/
structure Cl.Fits (c : Cl) : Prop where
  im : c.im.length ≤ 1000000
  row : ∀ r ∈ c.im, r.length ≤ 1000000
  fit : ∀ r ∈ c.im, ∀ u ∈ r, u.s.size ≤ maxLen
  p : c.p.size ≤ 1000000
theorem run_eql_about (k l m n : Int) (w : World) : (binOp .eql 60 (.agg #[.int .i64 k, .int .i64 l]) (.agg #[.int .i64 m, .int .i64 n])).run Tryd.prog w = .ok (.bool (decide (k = m ∧ l = n))) w := by
  simp only [binOp]
  simp [go_sem, Op.equal, Op.maxDepth]
  by_cases h1 : k = m <;> by_cases h2 : l = n <;> simp [h1, h2]
theorem eql_t {k l m n : Int} (h : k = m ∧ l = n) (w : World) : (binOp .eql 60 (.agg #[.int .i64 k, .int .i64 l]) (.agg #[.int .i64 m, .int .i64 n])).run Tryd.prog w = .ok (.bool true) w := by rw [run_eql_about, decide_eq_true h]
theorem eql_f {k l m n : Int} (h : ¬ (k = m ∧ l = n)) (w : World) : (binOp .eql 60 (.agg #[.int .i64 k, .int .i64 l]) (.agg #[.int .i64 m, .int .i64 n])).run Tryd.prog w = .ok (.bool false) w := by rw [run_eql_about, decide_eq_false h]
theorem Cl.same_1 {a b : Cl} (ht : a.table = b.table) (h : a.kind = 1 ∧ b.kind = 1) : a.same b = true := by unfold Cl.same; rw [decide_eq_true ht, if_pos h]; rfl
theorem Cl.same_2 {a b : Cl} (ht : a.table = b.table) (h : a.kind = 2 ∧ b.kind = 2) : a.same b = decide (a.key = b.key) := by unfold Cl.same; rw [decide_eq_true ht, if_neg (by omega), if_pos h]; rfl
theorem Cl.same_3 {a b : Cl} (ht : a.table = b.table) (h : a.kind = 3 ∧ b.kind = 3) : a.same b = a.p.same b.p := by unfold Cl.same; rw [decide_eq_true ht, if_neg (by omega), if_neg (by omega), if_pos h]; rfl
theorem Cl.same_0 {a b : Cl} (h1 : ¬ (a.kind = 1 ∧ b.kind = 1)) (h2 : ¬ (a.kind = 2 ∧ b.kind = 2)) (h3 : ¬ (a.kind = 3 ∧ b.kind = 3)) : a.same b = false := by unfold Cl.same; rw [if_neg h1, if_neg h2, if_neg h3, Bool.and_false]
theorem Cl.same_t {a b : Cl} (h : ¬ a.table = b.table) : a.same b = false := by unfold Cl.same; rw [decide_eq_false h]; rfl
set_option maxHeartbeats 2000000 in
theorem csame_any {a b : Cl} {A P A' P' : Option Addr} {ca pa ca' pa' : Nat} (hp : a.p.At W P pa) (hq : b.p.At W P' pa') (hsz : a.p.size ≤ 1000000000) (x : Lt W) : Calls Tryd.prog 15 #[a.arg A ca P pa, b.arg A' ca' P' pa'] x.1 fun e w' => e = .returned (.bool (a.same b)) ∧ ∃ y : Lt W, w' = y.1 := by
  have HP := Lib.hid hp
  have HQ := Lib.hid hq
  have HS := Lib.hid hsz
  clear hp hq hsz
  unfold Cl.arg
  obtain ⟨r, hr⟩ : ∃ r, a.same b = r := ⟨_, rfl⟩
  rw [hr]
  by_cases ht : a.table = b.table
  · have ht1 : (a.table != b.table) = false := by simp [ht]
    have HE := Lib.hid ht
    have HRR := Lib.hid hr
    clear ht hr
    go_enter Tryd.func15, Tryd.ntmps15
    go_upto_region 1 with fail
    refine wp_here fun W1 hW1 => ?_
    have B1 : Below W.heap.size W W1 := by rw [hW1]; exact below_then (x.more _) (below_alloc _)
    have ka : Blk W1 (x.1.heap.size) [.int .i64 a.kind, .int .i64 a.table, .int .i64 a.mode, .bool a.key.t, .int .i64 a.key.n, .string a.key.s, .slice A a.im.length ca, .int .i64 a.p.op, .int .i64 a.p.col, .bool a.p.v.t, .int .i64 a.p.v.n, .string a.p.v.s, .bool a.p.w.t, .int .i64 a.p.w.n, .string a.p.w.s, .slice P a.p.l.length pa] := by rw [hW1]; refine Blk.alloc ?_ _; exact Blk.new' (l := #[.int .i64 a.kind, .int .i64 a.table, .int .i64 a.mode, .bool a.key.t, .int .i64 a.key.n, .string a.key.s, .slice A a.im.length ca, .int .i64 a.p.op, .int .i64 a.p.col, .bool a.p.v.t, .int .i64 a.p.v.n, .string a.p.v.s, .bool a.p.w.t, .int .i64 a.p.w.n, .string a.p.w.s, .slice P a.p.l.length pa]) (by simp)
    have kb : Blk W1 (x.1.heap.size + 1) [.int .i64 b.kind, .int .i64 b.table, .int .i64 b.mode, .bool b.key.t, .int .i64 b.key.n, .string b.key.s, .slice A' b.im.length ca', .int .i64 b.p.op, .int .i64 b.p.col, .bool b.p.v.t, .int .i64 b.p.v.n, .string b.p.v.s, .bool b.p.w.t, .int .i64 b.p.w.n, .string b.p.w.s, .slice P' b.p.l.length pa'] := by rw [hW1]; exact Blk.new' (l := #[.int .i64 b.kind, .int .i64 b.table, .int .i64 b.mode, .bool b.key.t, .int .i64 b.key.n, .string b.key.s, .slice A' b.im.length ca', .int .i64 b.p.op, .int .i64 b.p.col, .bool b.p.v.t, .int .i64 b.p.v.n, .string b.p.v.s, .bool b.p.w.t, .int .i64 b.p.w.n, .string b.p.w.s, .slice P' b.p.l.length pa']) (by simp)
    clear hW1
    have aw0 := ka.cell 0 _ rfl
    have az0 := fun z : Lt W1 => z.cell aw0
    have aw1 := ka.cell 1 _ rfl
    have az1 := fun z : Lt W1 => z.cell aw1
    have aw2 := ka.cell 2 _ rfl
    have az2 := fun z : Lt W1 => z.cell aw2
    have aw3 := ka.cell 3 _ rfl
    have az3 := fun z : Lt W1 => z.cell aw3
    have aw4 := ka.cell 4 _ rfl
    have az4 := fun z : Lt W1 => z.cell aw4
    have aw5 := ka.cell 5 _ rfl
    have az5 := fun z : Lt W1 => z.cell aw5
    have aw6 := ka.cell 6 _ rfl
    have az6 := fun z : Lt W1 => z.cell aw6
    have aw7 := ka.cell 7 _ rfl
    have az7 := fun z : Lt W1 => z.cell aw7
    have aw8 := ka.cell 8 _ rfl
    have az8 := fun z : Lt W1 => z.cell aw8
    have aw9 := ka.cell 9 _ rfl
    have az9 := fun z : Lt W1 => z.cell aw9
    have aw10 := ka.cell 10 _ rfl
    have az10 := fun z : Lt W1 => z.cell aw10
    have aw11 := ka.cell 11 _ rfl
    have az11 := fun z : Lt W1 => z.cell aw11
    have aw12 := ka.cell 12 _ rfl
    have az12 := fun z : Lt W1 => z.cell aw12
    have aw13 := ka.cell 13 _ rfl
    have az13 := fun z : Lt W1 => z.cell aw13
    have aw14 := ka.cell 14 _ rfl
    have az14 := fun z : Lt W1 => z.cell aw14
    have aw15 := ka.cell 15 _ rfl
    have az15 := fun z : Lt W1 => z.cell aw15
    have bw0 := kb.cell 0 _ rfl
    have bz0 := fun z : Lt W1 => z.cell bw0
    have bw1 := kb.cell 1 _ rfl
    have bz1 := fun z : Lt W1 => z.cell bw1
    have bw2 := kb.cell 2 _ rfl
    have bz2 := fun z : Lt W1 => z.cell bw2
    have bw3 := kb.cell 3 _ rfl
    have bz3 := fun z : Lt W1 => z.cell bw3
    have bw4 := kb.cell 4 _ rfl
    have bz4 := fun z : Lt W1 => z.cell bw4
    have bw5 := kb.cell 5 _ rfl
    have bz5 := fun z : Lt W1 => z.cell bw5
    have bw6 := kb.cell 6 _ rfl
    have bz6 := fun z : Lt W1 => z.cell bw6
    have bw7 := kb.cell 7 _ rfl
    have bz7 := fun z : Lt W1 => z.cell bw7
    have bw8 := kb.cell 8 _ rfl
    have bz8 := fun z : Lt W1 => z.cell bw8
    have bw9 := kb.cell 9 _ rfl
    have bz9 := fun z : Lt W1 => z.cell bw9
    have bw10 := kb.cell 10 _ rfl
    have bz10 := fun z : Lt W1 => z.cell bw10
    have bw11 := kb.cell 11 _ rfl
    have bz11 := fun z : Lt W1 => z.cell bw11
    have bw12 := kb.cell 12 _ rfl
    have bz12 := fun z : Lt W1 => z.cell bw12
    have bw13 := kb.cell 13 _ rfl
    have bz13 := fun z : Lt W1 => z.cell bw13
    have bw14 := kb.cell 14 _ rfl
    have bz14 := fun z : Lt W1 => z.cell bw14
    have bw15 := kb.cell 15 _ rfl
    have bz15 := fun z : Lt W1 => z.cell bw15
    go_upto_region 4 with fail
    refine wp_here fun V1 hV1 => ?_
    have bV1 : Below W1.heap.size W1 V1 := by rw [hV1]; exact (Lt.base W1).more _
    clear aw0 az0 aw1 az1 aw2 az2 aw3 az3 aw4 az4 aw5 az5 aw6 az6 aw7 az7 aw8 az8 aw9 az9 aw10 az10 aw11 az11 aw12 az12 aw13 az13 aw14 az14 aw15 az15 bw0 bz0 bw1 bz1 bw2 bz2 bw3 bz3 bw4 bz4 bw5 bz5 bw6 bz6 bw7 bz7 bw8 bz8 bw9 bz9 bw10 bz10 bw11 bz11 bw12 bz12 bw13 bz13 bw14 bz14 bw15 bz15
    replace ka := ka.below bV1
    replace kb := kb.below bV1
    have kc : Blk V1 W1.heap.size [.int .i64 a.kind, .int .i64 b.kind] := by rw [hV1]; exact Blk.new' (l := #[.int .i64 a.kind, .int .i64 b.kind]) rfl
    have BV1 : Below W.heap.size W V1 := below_then B1 bV1
    clear hV1
    have aw0 := ka.cell 0 _ rfl
    have az0 := fun z : Lt V1 => z.cell aw0
    have aw1 := ka.cell 1 _ rfl
    have az1 := fun z : Lt V1 => z.cell aw1
    have aw2 := ka.cell 2 _ rfl
    have az2 := fun z : Lt V1 => z.cell aw2
    have aw3 := ka.cell 3 _ rfl
    have az3 := fun z : Lt V1 => z.cell aw3
    have aw4 := ka.cell 4 _ rfl
    have az4 := fun z : Lt V1 => z.cell aw4
    have aw5 := ka.cell 5 _ rfl
    have az5 := fun z : Lt V1 => z.cell aw5
    have aw6 := ka.cell 6 _ rfl
    have az6 := fun z : Lt V1 => z.cell aw6
    have aw7 := ka.cell 7 _ rfl
    have az7 := fun z : Lt V1 => z.cell aw7
    have aw8 := ka.cell 8 _ rfl
    have az8 := fun z : Lt V1 => z.cell aw8
    have aw9 := ka.cell 9 _ rfl
    have az9 := fun z : Lt V1 => z.cell aw9
    have aw10 := ka.cell 10 _ rfl
    have az10 := fun z : Lt V1 => z.cell aw10
    have aw11 := ka.cell 11 _ rfl
    have az11 := fun z : Lt V1 => z.cell aw11
    have aw12 := ka.cell 12 _ rfl
    have az12 := fun z : Lt V1 => z.cell aw12
    have aw13 := ka.cell 13 _ rfl
    have az13 := fun z : Lt V1 => z.cell aw13
    have aw14 := ka.cell 14 _ rfl
    have az14 := fun z : Lt V1 => z.cell aw14
    have aw15 := ka.cell 15 _ rfl
    have az15 := fun z : Lt V1 => z.cell aw15
    have bw0 := kb.cell 0 _ rfl
    have bz0 := fun z : Lt V1 => z.cell bw0
    have bw1 := kb.cell 1 _ rfl
    have bz1 := fun z : Lt V1 => z.cell bw1
    have bw2 := kb.cell 2 _ rfl
    have bz2 := fun z : Lt V1 => z.cell bw2
    have bw3 := kb.cell 3 _ rfl
    have bz3 := fun z : Lt V1 => z.cell bw3
    have bw4 := kb.cell 4 _ rfl
    have bz4 := fun z : Lt V1 => z.cell bw4
    have bw5 := kb.cell 5 _ rfl
    have bz5 := fun z : Lt V1 => z.cell bw5
    have bw6 := kb.cell 6 _ rfl
    have bz6 := fun z : Lt V1 => z.cell bw6
    have bw7 := kb.cell 7 _ rfl
    have bz7 := fun z : Lt V1 => z.cell bw7
    have bw8 := kb.cell 8 _ rfl
    have bz8 := fun z : Lt V1 => z.cell bw8
    have bw9 := kb.cell 9 _ rfl
    have bz9 := fun z : Lt V1 => z.cell bw9
    have bw10 := kb.cell 10 _ rfl
    have bz10 := fun z : Lt V1 => z.cell bw10
    have bw11 := kb.cell 11 _ rfl
    have bz11 := fun z : Lt V1 => z.cell bw11
    have bw12 := kb.cell 12 _ rfl
    have bz12 := fun z : Lt V1 => z.cell bw12
    have bw13 := kb.cell 13 _ rfl
    have bz13 := fun z : Lt V1 => z.cell bw13
    have bw14 := kb.cell 14 _ rfl
    have bz14 := fun z : Lt V1 => z.cell bw14
    have bw15 := kb.cell 15 _ rfl
    have bz15 := fun z : Lt V1 => z.cell bw15
    have cw0 := kc.cell 0 _ rfl
    have cz0 := fun z : Lt V1 => z.cell cw0
    have cw1 := kc.cell 1 _ rfl
    have cz1 := fun z : Lt V1 => z.cell cw1
    by_cases h1 : a.kind = 1 ∧ b.kind = 1
    · have e0 := fun w => eql_t h1 w
      have hr2 := HRR.out.symm.trans (Cl.same_1 HE.out h1)
      have HR := Lib.hid hr2
      clear hr2 h1
      go_wp2_with fail
      go_ret
      exact ⟨ret_bool HR.out.symm, (Lt.base V1).via BV1, rfl⟩
    by_cases h2 : a.kind = 2 ∧ b.kind = 2
    · have e1 := fun w => eql_t h2 w
      have e0 := fun w => eql_f (k := a.kind) (l := b.kind) (m := 1) (n := 1) (by omega) w
      have hr2 := HRR.out.symm.trans (Cl.same_2 HE.out h2)
      have HR := Lib.hid hr2
      clear hr2 h1 h2
      have ek := fun w => run_eql_val a.key b.key w
      go_wp2_with fail
      go_ret
      exact ⟨ret_bool HR.out.symm, (Lt.base V1).via BV1, rfl⟩
    by_cases h3 : a.kind = 3 ∧ b.kind = 3
    · have e2 := fun w => eql_t h3 w
      have e0 := fun w => eql_f (k := a.kind) (l := b.kind) (m := 1) (n := 1) (by omega) w
      have e1 := fun w => eql_f (k := a.kind) (l := b.kind) (m := 2) (n := 2) (by omega) w
      have hr2 := HRR.out.symm.trans (Cl.same_3 HE.out h3)
      have HR := Lib.hid hr2
      clear hr2 h1 h2 h3
      go_wp2_with fail
      refine (psame_any (Lt.base V1) (HP.out.below BV1) (HQ.out.below BV1) HS.out).mono ?_; rintro e w' ⟨rfl, y, rfl⟩
      go_wp2_with fail
      go_ret
      exact ⟨ret_bool HR.out.symm, y.via BV1, rfl⟩
    have e0 := fun w => eql_f h1 w
    have e1 := fun w => eql_f h2 w
    have e2 := fun w => eql_f h3 w
    have hr2 := HRR.out.symm.trans (Cl.same_0 h1 h2 h3)
    have HR := Lib.hid hr2
    clear hr2 h1 h2 h3
    go_wp2_with fail
    go_ret
    exact ⟨ret_bool HR.out.symm, (Lt.base V1).via BV1, rfl⟩
  · have ht1 : (a.table != b.table) = true := by simpa using ht
    have HR := Lib.hid (hr.symm.trans (Cl.same_t ht))
    clear hr ht
    go_enter Tryd.func15, Tryd.ntmps15
    go_upto_region 1 with fail
    refine wp_here fun W1 hW1 => ?_
    have B1 : Below W.heap.size W W1 := by rw [hW1]; exact below_then (x.more _) (below_alloc _)
    have ka : Blk W1 (x.1.heap.size) [.int .i64 a.kind, .int .i64 a.table, .int .i64 a.mode, .bool a.key.t, .int .i64 a.key.n, .string a.key.s, .slice A a.im.length ca, .int .i64 a.p.op, .int .i64 a.p.col, .bool a.p.v.t, .int .i64 a.p.v.n, .string a.p.v.s, .bool a.p.w.t, .int .i64 a.p.w.n, .string a.p.w.s, .slice P a.p.l.length pa] := by rw [hW1]; refine Blk.alloc ?_ _; exact Blk.new' (l := #[.int .i64 a.kind, .int .i64 a.table, .int .i64 a.mode, .bool a.key.t, .int .i64 a.key.n, .string a.key.s, .slice A a.im.length ca, .int .i64 a.p.op, .int .i64 a.p.col, .bool a.p.v.t, .int .i64 a.p.v.n, .string a.p.v.s, .bool a.p.w.t, .int .i64 a.p.w.n, .string a.p.w.s, .slice P a.p.l.length pa]) (by simp)
    have kb : Blk W1 (x.1.heap.size + 1) [.int .i64 b.kind, .int .i64 b.table, .int .i64 b.mode, .bool b.key.t, .int .i64 b.key.n, .string b.key.s, .slice A' b.im.length ca', .int .i64 b.p.op, .int .i64 b.p.col, .bool b.p.v.t, .int .i64 b.p.v.n, .string b.p.v.s, .bool b.p.w.t, .int .i64 b.p.w.n, .string b.p.w.s, .slice P' b.p.l.length pa'] := by rw [hW1]; exact Blk.new' (l := #[.int .i64 b.kind, .int .i64 b.table, .int .i64 b.mode, .bool b.key.t, .int .i64 b.key.n, .string b.key.s, .slice A' b.im.length ca', .int .i64 b.p.op, .int .i64 b.p.col, .bool b.p.v.t, .int .i64 b.p.v.n, .string b.p.v.s, .bool b.p.w.t, .int .i64 b.p.w.n, .string b.p.w.s, .slice P' b.p.l.length pa']) (by simp)
    clear hW1
    have aw0 := ka.cell 0 _ rfl
    have az0 := fun z : Lt W1 => z.cell aw0
    have aw1 := ka.cell 1 _ rfl
    have az1 := fun z : Lt W1 => z.cell aw1
    have aw2 := ka.cell 2 _ rfl
    have az2 := fun z : Lt W1 => z.cell aw2
    have aw3 := ka.cell 3 _ rfl
    have az3 := fun z : Lt W1 => z.cell aw3
    have aw4 := ka.cell 4 _ rfl
    have az4 := fun z : Lt W1 => z.cell aw4
    have aw5 := ka.cell 5 _ rfl
    have az5 := fun z : Lt W1 => z.cell aw5
    have aw6 := ka.cell 6 _ rfl
    have az6 := fun z : Lt W1 => z.cell aw6
    have aw7 := ka.cell 7 _ rfl
    have az7 := fun z : Lt W1 => z.cell aw7
    have aw8 := ka.cell 8 _ rfl
    have az8 := fun z : Lt W1 => z.cell aw8
    have aw9 := ka.cell 9 _ rfl
    have az9 := fun z : Lt W1 => z.cell aw9
    have aw10 := ka.cell 10 _ rfl
    have az10 := fun z : Lt W1 => z.cell aw10
    have aw11 := ka.cell 11 _ rfl
    have az11 := fun z : Lt W1 => z.cell aw11
    have aw12 := ka.cell 12 _ rfl
    have az12 := fun z : Lt W1 => z.cell aw12
    have aw13 := ka.cell 13 _ rfl
    have az13 := fun z : Lt W1 => z.cell aw13
    have aw14 := ka.cell 14 _ rfl
    have az14 := fun z : Lt W1 => z.cell aw14
    have aw15 := ka.cell 15 _ rfl
    have az15 := fun z : Lt W1 => z.cell aw15
    have bw0 := kb.cell 0 _ rfl
    have bz0 := fun z : Lt W1 => z.cell bw0
    have bw1 := kb.cell 1 _ rfl
    have bz1 := fun z : Lt W1 => z.cell bw1
    have bw2 := kb.cell 2 _ rfl
    have bz2 := fun z : Lt W1 => z.cell bw2
    have bw3 := kb.cell 3 _ rfl
    have bz3 := fun z : Lt W1 => z.cell bw3
    have bw4 := kb.cell 4 _ rfl
    have bz4 := fun z : Lt W1 => z.cell bw4
    have bw5 := kb.cell 5 _ rfl
    have bz5 := fun z : Lt W1 => z.cell bw5
    have bw6 := kb.cell 6 _ rfl
    have bz6 := fun z : Lt W1 => z.cell bw6
    have bw7 := kb.cell 7 _ rfl
    have bz7 := fun z : Lt W1 => z.cell bw7
    have bw8 := kb.cell 8 _ rfl
    have bz8 := fun z : Lt W1 => z.cell bw8
    have bw9 := kb.cell 9 _ rfl
    have bz9 := fun z : Lt W1 => z.cell bw9
    have bw10 := kb.cell 10 _ rfl
    have bz10 := fun z : Lt W1 => z.cell bw10
    have bw11 := kb.cell 11 _ rfl
    have bz11 := fun z : Lt W1 => z.cell bw11
    have bw12 := kb.cell 12 _ rfl
    have bz12 := fun z : Lt W1 => z.cell bw12
    have bw13 := kb.cell 13 _ rfl
    have bz13 := fun z : Lt W1 => z.cell bw13
    have bw14 := kb.cell 14 _ rfl
    have bz14 := fun z : Lt W1 => z.cell bw14
    have bw15 := kb.cell 15 _ rfl
    have bz15 := fun z : Lt W1 => z.cell bw15
    go_wp2_with fail
    go_ret
    exact ⟨ret_bool HR.out.symm, (Lt.base W1).via B1, rfl⟩
end Go.Proofs.YtghpildnajdlpaaDoor
