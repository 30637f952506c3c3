/-
  Who is in conflict, walked: the program's meets and Conflict. Conditions: the claims lie in memory as they read and are of a size that can be walked; the table of modes lies there.
-/
import Derived.Test.YtghpildnajdlpaaDoorClmSame
import Derived.Test.YtghpildnajdlpaaDoorHolds
namespace Go.Proofs.YtghpildnajdlpaaDoor
open Go.RowKit
variable {W : World}

theorem enters_meets1 (args : Array Value) (w : World) : (callFunc 64 args).run Tryd.prog w = .ok (.enter 64 args) w := enters Tryd.func64 (by kernel_rfl) (by kernel_rfl) args w
/-- A row of which a predicate says nothing. -/
def Cl.dull (p : Pr) (r : List Val) : Bool := decide (r.length = 0) || !p.holds r
theorem len_eq0 (n : Nat) (h : n = 0) : ((n : Int) == 0) = true := by simp [h]
theorem len_ne0 (n : Nat) (h : n ≠ 0) : ((n : Int) == 0) = false := by simpa using h
set_option maxHeartbeats 1000000 in
theorem meets1_any {c : Cl} {A : Option Addr} {ca : Nat} {P : Option Addr} {pa : Nat} {g : Nat} (hc : Blk W g [.int .i64 c.kind, .int .i64 c.table, .int .i64 c.mode, .bool c.key.t, .int .i64 c.key.n, .string c.key.s, .slice A c.im.length ca, .int .i64 c.p.op, .int .i64 c.p.col, .bool c.p.v.t, .int .i64 c.p.v.n, .string c.p.v.s, .bool c.p.w.t, .int .i64 c.p.w.n, .string c.p.w.s, .slice P c.p.l.length pa]) (hp : c.p.At W P pa) (hsz : c.p.size ≤ 1000000000) (r : List Val) : Says W 64 #[.pointer (some ⟨g, 0, none⟩)] (Cl.dull c.p) r := by
  intro w A' ca' hw hr hn
  show Calls Tryd.prog 64 #[.slice A' r.length ca', .pointer (some ⟨g, 0, none⟩)] w _
  have HH := Lib.hid (holds_any (cb := ca') hsz (Lt.base w) (hp.below hw) hr)
  by_cases hl : r.length = 0
  · have hd := len_eq0 _ hl
    have HR := Lib.hid (show Cl.dull c.p r = true by unfold Cl.dull; rw [decide_eq_true hl]; rfl)
    clear hl hc hr hn hw
    go_enter Tryd.func64, Tryd.ntmps64
    go_wp2_with fail
    go_ret
    exact ⟨ret_bool HR.out.symm, Below.refl _ _⟩
  · have hd := len_ne0 _ hl
    have HR := Lib.hid (show Cl.dull c.p r = !c.p.holds r by unfold Cl.dull; rw [decide_eq_false hl]; rfl)
    have hb := hc.below hw
    have q7 := hb.cell 7 _ rfl
    have q8 := hb.cell 8 _ rfl
    have q9 := hb.cell 9 _ rfl
    have q10 := hb.cell 10 _ rfl
    have q11 := hb.cell 11 _ rfl
    have q12 := hb.cell 12 _ rfl
    have q13 := hb.cell 13 _ rfl
    have q14 := hb.cell 14 _ rfl
    have q15 := hb.cell 15 _ rfl
    clear hl hc hr hn hw hb
    go_enter Tryd.func64, Tryd.ntmps64
    go_wp2_with fail
    refine HH.out.mono ?_; rintro e w' ⟨rfl, y, rfl⟩
    go_wp2_with fail
    go_ret
    exact ⟨ret_bool HR.out.symm, y.2⟩
theorem hits_not (p : Pr) (l : List (List Val)) : (!l.all (Cl.dull p)) = Cl.hits p l := by
  unfold Cl.hits Cl.dull
  rw [Bool.eq_iff_iff]
  simp
set_option maxHeartbeats 1000000 in
theorem meets_any {a b : Cl} {A P A' P' : Option Addr} {ca pa ca' pa' : Nat} (ha : a.At W A ca P pa) (hb : b.At W A' ca' P' pa') (fa : a.Fits) (fb : b.Fits) (x : Lt W) : Calls Tryd.prog 38 #[a.arg A ca P pa, b.arg A' ca' P' pa'] x.1 fun e w' => e = .returned (.bool (a.meets b)) ∧ ∃ y : Lt W, w' = y.1 := by
  have HA := Lib.hid ha
  have HB := Lib.hid hb
  have FA := Lib.hid fa
  have FB := Lib.hid fb
  clear ha hb fa fb
  unfold Cl.arg
  by_cases hm : b.mode = 6
  · have hd : (b.mode == 6) = true := by simp [hm]
    have HR := Lib.hid (show a.meets b = Cl.hits a.p b.im by unfold Cl.meets; rw [decide_eq_true hm]; rfl)
    clear hm
    go_enter Tryd.func38, Tryd.ntmps38
    go_upto_region 1 with fail
    refine wp_here fun W1 hW1 => ?_
    have B1 : Below W.heap.size W W1 := by rw [hW1]; exact below_then (x.more _) (below_alloc _)
    have ka : Blk W1 (x.1.heap.size) [.int .i64 a.kind, .int .i64 a.table, .int .i64 a.mode, .bool a.key.t, .int .i64 a.key.n, .string a.key.s, .slice A a.im.length ca, .int .i64 a.p.op, .int .i64 a.p.col, .bool a.p.v.t, .int .i64 a.p.v.n, .string a.p.v.s, .bool a.p.w.t, .int .i64 a.p.w.n, .string a.p.w.s, .slice P a.p.l.length pa] := by rw [hW1]; refine Blk.alloc ?_ _; exact Blk.new' (l := #[.int .i64 a.kind, .int .i64 a.table, .int .i64 a.mode, .bool a.key.t, .int .i64 a.key.n, .string a.key.s, .slice A a.im.length ca, .int .i64 a.p.op, .int .i64 a.p.col, .bool a.p.v.t, .int .i64 a.p.v.n, .string a.p.v.s, .bool a.p.w.t, .int .i64 a.p.w.n, .string a.p.w.s, .slice P a.p.l.length pa]) (by simp)
    have kb : Blk W1 (x.1.heap.size + 1) [.int .i64 b.kind, .int .i64 b.table, .int .i64 b.mode, .bool b.key.t, .int .i64 b.key.n, .string b.key.s, .slice A' b.im.length ca', .int .i64 b.p.op, .int .i64 b.p.col, .bool b.p.v.t, .int .i64 b.p.v.n, .string b.p.v.s, .bool b.p.w.t, .int .i64 b.p.w.n, .string b.p.w.s, .slice P' b.p.l.length pa'] := by rw [hW1]; exact Blk.new' (l := #[.int .i64 b.kind, .int .i64 b.table, .int .i64 b.mode, .bool b.key.t, .int .i64 b.key.n, .string b.key.s, .slice A' b.im.length ca', .int .i64 b.p.op, .int .i64 b.p.col, .bool b.p.v.t, .int .i64 b.p.v.n, .string b.p.v.s, .bool b.p.w.t, .int .i64 b.p.w.n, .string b.p.w.s, .slice P' b.p.l.length pa']) (by simp)
    clear hW1
    have aw0 := ka.cell 0 _ rfl
    have az0 := fun z : Lt W1 => z.cell aw0
    have aw1 := ka.cell 1 _ rfl
    have az1 := fun z : Lt W1 => z.cell aw1
    have aw2 := ka.cell 2 _ rfl
    have az2 := fun z : Lt W1 => z.cell aw2
    have aw3 := ka.cell 3 _ rfl
    have az3 := fun z : Lt W1 => z.cell aw3
    have aw4 := ka.cell 4 _ rfl
    have az4 := fun z : Lt W1 => z.cell aw4
    have aw5 := ka.cell 5 _ rfl
    have az5 := fun z : Lt W1 => z.cell aw5
    have aw6 := ka.cell 6 _ rfl
    have az6 := fun z : Lt W1 => z.cell aw6
    have aw7 := ka.cell 7 _ rfl
    have az7 := fun z : Lt W1 => z.cell aw7
    have aw8 := ka.cell 8 _ rfl
    have az8 := fun z : Lt W1 => z.cell aw8
    have aw9 := ka.cell 9 _ rfl
    have az9 := fun z : Lt W1 => z.cell aw9
    have aw10 := ka.cell 10 _ rfl
    have az10 := fun z : Lt W1 => z.cell aw10
    have aw11 := ka.cell 11 _ rfl
    have az11 := fun z : Lt W1 => z.cell aw11
    have aw12 := ka.cell 12 _ rfl
    have az12 := fun z : Lt W1 => z.cell aw12
    have aw13 := ka.cell 13 _ rfl
    have az13 := fun z : Lt W1 => z.cell aw13
    have aw14 := ka.cell 14 _ rfl
    have az14 := fun z : Lt W1 => z.cell aw14
    have aw15 := ka.cell 15 _ rfl
    have az15 := fun z : Lt W1 => z.cell aw15
    have bw0 := kb.cell 0 _ rfl
    have bz0 := fun z : Lt W1 => z.cell bw0
    have bw1 := kb.cell 1 _ rfl
    have bz1 := fun z : Lt W1 => z.cell bw1
    have bw2 := kb.cell 2 _ rfl
    have bz2 := fun z : Lt W1 => z.cell bw2
    have bw3 := kb.cell 3 _ rfl
    have bz3 := fun z : Lt W1 => z.cell bw3
    have bw4 := kb.cell 4 _ rfl
    have bz4 := fun z : Lt W1 => z.cell bw4
    have bw5 := kb.cell 5 _ rfl
    have bz5 := fun z : Lt W1 => z.cell bw5
    have bw6 := kb.cell 6 _ rfl
    have bz6 := fun z : Lt W1 => z.cell bw6
    have bw7 := kb.cell 7 _ rfl
    have bz7 := fun z : Lt W1 => z.cell bw7
    have bw8 := kb.cell 8 _ rfl
    have bz8 := fun z : Lt W1 => z.cell bw8
    have bw9 := kb.cell 9 _ rfl
    have bz9 := fun z : Lt W1 => z.cell bw9
    have bw10 := kb.cell 10 _ rfl
    have bz10 := fun z : Lt W1 => z.cell bw10
    have bw11 := kb.cell 11 _ rfl
    have bz11 := fun z : Lt W1 => z.cell bw11
    have bw12 := kb.cell 12 _ rfl
    have bz12 := fun z : Lt W1 => z.cell bw12
    have bw13 := kb.cell 13 _ rfl
    have bz13 := fun z : Lt W1 => z.cell bw13
    have bw14 := kb.cell 14 _ rfl
    have bz14 := fun z : Lt W1 => z.cell bw14
    have bw15 := kb.cell 15 _ rfl
    have bz15 := fun z : Lt W1 => z.cell bw15
    go_wp2_with fail
    refine (all_any_rows enters_meets1 (Cl.dull a.p) (by have := FB.out.im; omega) (HB.out.im.below B1) (fun r _ => meets1_any ka (HA.out.p.below B1) (by have := FA.out.p; omega) r) (Lt.base W1)).mono ?_; rintro e w' ⟨rfl, y, rfl⟩
    go_wp2_with fail
    go_ret
    exact ⟨ret_bool (by rw [HR.out, hits_not]), y.via B1, rfl⟩
  · have hd : (b.mode == 6) = false := by simpa using hm
    have HR := Lib.hid (show a.meets b = false by unfold Cl.meets; rw [decide_eq_false hm]; rfl)
    clear hm
    go_enter Tryd.func38, Tryd.ntmps38
    go_upto_region 1 with fail
    refine wp_here fun W1 hW1 => ?_
    have B1 : Below W.heap.size W W1 := by rw [hW1]; exact below_then (x.more _) (below_alloc _)
    have ka : Blk W1 (x.1.heap.size) [.int .i64 a.kind, .int .i64 a.table, .int .i64 a.mode, .bool a.key.t, .int .i64 a.key.n, .string a.key.s, .slice A a.im.length ca, .int .i64 a.p.op, .int .i64 a.p.col, .bool a.p.v.t, .int .i64 a.p.v.n, .string a.p.v.s, .bool a.p.w.t, .int .i64 a.p.w.n, .string a.p.w.s, .slice P a.p.l.length pa] := by rw [hW1]; refine Blk.alloc ?_ _; exact Blk.new' (l := #[.int .i64 a.kind, .int .i64 a.table, .int .i64 a.mode, .bool a.key.t, .int .i64 a.key.n, .string a.key.s, .slice A a.im.length ca, .int .i64 a.p.op, .int .i64 a.p.col, .bool a.p.v.t, .int .i64 a.p.v.n, .string a.p.v.s, .bool a.p.w.t, .int .i64 a.p.w.n, .string a.p.w.s, .slice P a.p.l.length pa]) (by simp)
    have kb : Blk W1 (x.1.heap.size + 1) [.int .i64 b.kind, .int .i64 b.table, .int .i64 b.mode, .bool b.key.t, .int .i64 b.key.n, .string b.key.s, .slice A' b.im.length ca', .int .i64 b.p.op, .int .i64 b.p.col, .bool b.p.v.t, .int .i64 b.p.v.n, .string b.p.v.s, .bool b.p.w.t, .int .i64 b.p.w.n, .string b.p.w.s, .slice P' b.p.l.length pa'] := by rw [hW1]; exact Blk.new' (l := #[.int .i64 b.kind, .int .i64 b.table, .int .i64 b.mode, .bool b.key.t, .int .i64 b.key.n, .string b.key.s, .slice A' b.im.length ca', .int .i64 b.p.op, .int .i64 b.p.col, .bool b.p.v.t, .int .i64 b.p.v.n, .string b.p.v.s, .bool b.p.w.t, .int .i64 b.p.w.n, .string b.p.w.s, .slice P' b.p.l.length pa']) (by simp)
    clear hW1
    have aw0 := ka.cell 0 _ rfl
    have az0 := fun z : Lt W1 => z.cell aw0
    have aw1 := ka.cell 1 _ rfl
    have az1 := fun z : Lt W1 => z.cell aw1
    have aw2 := ka.cell 2 _ rfl
    have az2 := fun z : Lt W1 => z.cell aw2
    have aw3 := ka.cell 3 _ rfl
    have az3 := fun z : Lt W1 => z.cell aw3
    have aw4 := ka.cell 4 _ rfl
    have az4 := fun z : Lt W1 => z.cell aw4
    have aw5 := ka.cell 5 _ rfl
    have az5 := fun z : Lt W1 => z.cell aw5
    have aw6 := ka.cell 6 _ rfl
    have az6 := fun z : Lt W1 => z.cell aw6
    have aw7 := ka.cell 7 _ rfl
    have az7 := fun z : Lt W1 => z.cell aw7
    have aw8 := ka.cell 8 _ rfl
    have az8 := fun z : Lt W1 => z.cell aw8
    have aw9 := ka.cell 9 _ rfl
    have az9 := fun z : Lt W1 => z.cell aw9
    have aw10 := ka.cell 10 _ rfl
    have az10 := fun z : Lt W1 => z.cell aw10
    have aw11 := ka.cell 11 _ rfl
    have az11 := fun z : Lt W1 => z.cell aw11
    have aw12 := ka.cell 12 _ rfl
    have az12 := fun z : Lt W1 => z.cell aw12
    have aw13 := ka.cell 13 _ rfl
    have az13 := fun z : Lt W1 => z.cell aw13
    have aw14 := ka.cell 14 _ rfl
    have az14 := fun z : Lt W1 => z.cell aw14
    have aw15 := ka.cell 15 _ rfl
    have az15 := fun z : Lt W1 => z.cell aw15
    have bw0 := kb.cell 0 _ rfl
    have bz0 := fun z : Lt W1 => z.cell bw0
    have bw1 := kb.cell 1 _ rfl
    have bz1 := fun z : Lt W1 => z.cell bw1
    have bw2 := kb.cell 2 _ rfl
    have bz2 := fun z : Lt W1 => z.cell bw2
    have bw3 := kb.cell 3 _ rfl
    have bz3 := fun z : Lt W1 => z.cell bw3
    have bw4 := kb.cell 4 _ rfl
    have bz4 := fun z : Lt W1 => z.cell bw4
    have bw5 := kb.cell 5 _ rfl
    have bz5 := fun z : Lt W1 => z.cell bw5
    have bw6 := kb.cell 6 _ rfl
    have bz6 := fun z : Lt W1 => z.cell bw6
    have bw7 := kb.cell 7 _ rfl
    have bz7 := fun z : Lt W1 => z.cell bw7
    have bw8 := kb.cell 8 _ rfl
    have bz8 := fun z : Lt W1 => z.cell bw8
    have bw9 := kb.cell 9 _ rfl
    have bz9 := fun z : Lt W1 => z.cell bw9
    have bw10 := kb.cell 10 _ rfl
    have bz10 := fun z : Lt W1 => z.cell bw10
    have bw11 := kb.cell 11 _ rfl
    have bz11 := fun z : Lt W1 => z.cell bw11
    have bw12 := kb.cell 12 _ rfl
    have bz12 := fun z : Lt W1 => z.cell bw12
    have bw13 := kb.cell 13 _ rfl
    have bz13 := fun z : Lt W1 => z.cell bw13
    have bw14 := kb.cell 14 _ rfl
    have bz14 := fun z : Lt W1 => z.cell bw14
    have bw15 := kb.cell 15 _ rfl
    have bz15 := fun z : Lt W1 => z.cell bw15
    go_wp2_with fail
    go_ret
    exact ⟨ret_bool HR.out.symm, (Lt.base W1).via B1, rfl⟩
theorem Cl.conf_t {a b : Cl} (h : ¬ a.table = b.table) : a.conf b = false := by unfold Cl.conf; rw [decide_eq_false h]; rfl
theorem Cl.conf_32 {a b : Cl} (ht : a.table = b.table) (h : a.kind = 3 ∧ b.kind = 2) : a.conf b = a.meets b := by unfold Cl.conf; rw [decide_eq_true ht, if_pos h]; rfl
theorem Cl.conf_23 {a b : Cl} (ht : a.table = b.table) (h : a.kind = 2 ∧ b.kind = 3) : a.conf b = b.meets a := by unfold Cl.conf; rw [decide_eq_true ht, if_neg (show ¬ (a.kind = 3 ∧ b.kind = 2) by omega), if_pos h]; rfl
theorem Cl.conf_22 {a b : Cl} (ht : a.table = b.table) (h : a.kind = 2 ∧ b.kind = 2) : a.conf b = (a.same b && !M.fits a.mode b.mode) := by rw [Cl.same_2 ht h]; unfold Cl.conf; rw [decide_eq_true ht, if_neg (show ¬ (a.kind = 3 ∧ b.kind = 2) by omega), if_neg (show ¬ (a.kind = 2 ∧ b.kind = 3) by omega), if_pos h]; rfl
theorem Cl.conf_11 {a b : Cl} (ht : a.table = b.table) (h : a.kind = 1 ∧ b.kind = 1) : a.conf b = (a.same b && !M.fits a.mode b.mode) := by rw [Cl.same_1 ht h]; unfold Cl.conf; rw [decide_eq_true ht, if_neg (show ¬ (a.kind = 3 ∧ b.kind = 2) by omega), if_neg (show ¬ (a.kind = 2 ∧ b.kind = 3) by omega), if_neg (show ¬ (a.kind = 2 ∧ b.kind = 2) by omega), if_pos h]; try rfl
theorem Cl.conf_0 {a b : Cl} (h1 : ¬ (a.kind = 3 ∧ b.kind = 2)) (h2 : ¬ (a.kind = 2 ∧ b.kind = 3)) (h3 : ¬ (a.kind = 2 ∧ b.kind = 2)) (h4 : ¬ (a.kind = 1 ∧ b.kind = 1)) : a.conf b = false := by unfold Cl.conf; rw [if_neg h1, if_neg h2, if_neg h3, if_neg h4, Bool.and_false]
set_option maxHeartbeats 4000000 in
theorem conf_any (hT : Tabs W) {a b : Cl} {A P A' P' : Option Addr} {ca pa ca' pa' : Nat} (ha : a.At W A ca P pa) (hb : b.At W A' ca' P' pa') (fa : a.Fits) (fb : b.Fits) (x : Lt W) : Calls Tryd.prog 17 #[a.arg A ca P pa, b.arg A' ca' P' pa'] x.1 fun e w' => e = .returned (.bool (a.conf b)) ∧ ∃ y : Lt W, w' = y.1 := by
  have HT := Lib.hid hT
  have HA := Lib.hid ha
  have HB := Lib.hid hb
  have FA := Lib.hid fa
  have FB := Lib.hid fb
  clear hT ha hb fa fb
  unfold Cl.arg
  obtain ⟨r, hr⟩ : ∃ r, a.conf b = r := ⟨_, rfl⟩
  rw [hr]
  by_cases ht : a.table = b.table
  · have ht1 : (a.table != b.table) = false := by simp [ht]
    have HE := Lib.hid ht
    have HRR := Lib.hid hr
    clear ht hr
    go_enter Tryd.func17, Tryd.ntmps17
    go_upto_region 1 with fail
    refine wp_here fun W1 hW1 => ?_
    have B1 : Below W.heap.size W W1 := by rw [hW1]; exact below_then (x.more _) (below_alloc _)
    have ka : Blk W1 (x.1.heap.size) [.int .i64 a.kind, .int .i64 a.table, .int .i64 a.mode, .bool a.key.t, .int .i64 a.key.n, .string a.key.s, .slice A a.im.length ca, .int .i64 a.p.op, .int .i64 a.p.col, .bool a.p.v.t, .int .i64 a.p.v.n, .string a.p.v.s, .bool a.p.w.t, .int .i64 a.p.w.n, .string a.p.w.s, .slice P a.p.l.length pa] := by rw [hW1]; refine Blk.alloc ?_ _; exact Blk.new' (l := #[.int .i64 a.kind, .int .i64 a.table, .int .i64 a.mode, .bool a.key.t, .int .i64 a.key.n, .string a.key.s, .slice A a.im.length ca, .int .i64 a.p.op, .int .i64 a.p.col, .bool a.p.v.t, .int .i64 a.p.v.n, .string a.p.v.s, .bool a.p.w.t, .int .i64 a.p.w.n, .string a.p.w.s, .slice P a.p.l.length pa]) (by simp)
    have kb : Blk W1 (x.1.heap.size + 1) [.int .i64 b.kind, .int .i64 b.table, .int .i64 b.mode, .bool b.key.t, .int .i64 b.key.n, .string b.key.s, .slice A' b.im.length ca', .int .i64 b.p.op, .int .i64 b.p.col, .bool b.p.v.t, .int .i64 b.p.v.n, .string b.p.v.s, .bool b.p.w.t, .int .i64 b.p.w.n, .string b.p.w.s, .slice P' b.p.l.length pa'] := by rw [hW1]; exact Blk.new' (l := #[.int .i64 b.kind, .int .i64 b.table, .int .i64 b.mode, .bool b.key.t, .int .i64 b.key.n, .string b.key.s, .slice A' b.im.length ca', .int .i64 b.p.op, .int .i64 b.p.col, .bool b.p.v.t, .int .i64 b.p.v.n, .string b.p.v.s, .bool b.p.w.t, .int .i64 b.p.w.n, .string b.p.w.s, .slice P' b.p.l.length pa']) (by simp)
    clear hW1
    have aw0 := ka.cell 0 _ rfl
    have az0 := fun z : Lt W1 => z.cell aw0
    have aw1 := ka.cell 1 _ rfl
    have az1 := fun z : Lt W1 => z.cell aw1
    have aw2 := ka.cell 2 _ rfl
    have az2 := fun z : Lt W1 => z.cell aw2
    have aw3 := ka.cell 3 _ rfl
    have az3 := fun z : Lt W1 => z.cell aw3
    have aw4 := ka.cell 4 _ rfl
    have az4 := fun z : Lt W1 => z.cell aw4
    have aw5 := ka.cell 5 _ rfl
    have az5 := fun z : Lt W1 => z.cell aw5
    have aw6 := ka.cell 6 _ rfl
    have az6 := fun z : Lt W1 => z.cell aw6
    have aw7 := ka.cell 7 _ rfl
    have az7 := fun z : Lt W1 => z.cell aw7
    have aw8 := ka.cell 8 _ rfl
    have az8 := fun z : Lt W1 => z.cell aw8
    have aw9 := ka.cell 9 _ rfl
    have az9 := fun z : Lt W1 => z.cell aw9
    have aw10 := ka.cell 10 _ rfl
    have az10 := fun z : Lt W1 => z.cell aw10
    have aw11 := ka.cell 11 _ rfl
    have az11 := fun z : Lt W1 => z.cell aw11
    have aw12 := ka.cell 12 _ rfl
    have az12 := fun z : Lt W1 => z.cell aw12
    have aw13 := ka.cell 13 _ rfl
    have az13 := fun z : Lt W1 => z.cell aw13
    have aw14 := ka.cell 14 _ rfl
    have az14 := fun z : Lt W1 => z.cell aw14
    have aw15 := ka.cell 15 _ rfl
    have az15 := fun z : Lt W1 => z.cell aw15
    have bw0 := kb.cell 0 _ rfl
    have bz0 := fun z : Lt W1 => z.cell bw0
    have bw1 := kb.cell 1 _ rfl
    have bz1 := fun z : Lt W1 => z.cell bw1
    have bw2 := kb.cell 2 _ rfl
    have bz2 := fun z : Lt W1 => z.cell bw2
    have bw3 := kb.cell 3 _ rfl
    have bz3 := fun z : Lt W1 => z.cell bw3
    have bw4 := kb.cell 4 _ rfl
    have bz4 := fun z : Lt W1 => z.cell bw4
    have bw5 := kb.cell 5 _ rfl
    have bz5 := fun z : Lt W1 => z.cell bw5
    have bw6 := kb.cell 6 _ rfl
    have bz6 := fun z : Lt W1 => z.cell bw6
    have bw7 := kb.cell 7 _ rfl
    have bz7 := fun z : Lt W1 => z.cell bw7
    have bw8 := kb.cell 8 _ rfl
    have bz8 := fun z : Lt W1 => z.cell bw8
    have bw9 := kb.cell 9 _ rfl
    have bz9 := fun z : Lt W1 => z.cell bw9
    have bw10 := kb.cell 10 _ rfl
    have bz10 := fun z : Lt W1 => z.cell bw10
    have bw11 := kb.cell 11 _ rfl
    have bz11 := fun z : Lt W1 => z.cell bw11
    have bw12 := kb.cell 12 _ rfl
    have bz12 := fun z : Lt W1 => z.cell bw12
    have bw13 := kb.cell 13 _ rfl
    have bz13 := fun z : Lt W1 => z.cell bw13
    have bw14 := kb.cell 14 _ rfl
    have bz14 := fun z : Lt W1 => z.cell bw14
    have bw15 := kb.cell 15 _ rfl
    have bz15 := fun z : Lt W1 => z.cell bw15
    go_upto_region 4 with fail
    refine wp_here fun V1 hV1 => ?_
    have bV1 : Below W1.heap.size W1 V1 := by rw [hV1]; exact (Lt.base W1).more _
    clear aw0 az0 aw1 az1 aw2 az2 aw3 az3 aw4 az4 aw5 az5 aw6 az6 aw7 az7 aw8 az8 aw9 az9 aw10 az10 aw11 az11 aw12 az12 aw13 az13 aw14 az14 aw15 az15 bw0 bz0 bw1 bz1 bw2 bz2 bw3 bz3 bw4 bz4 bw5 bz5 bw6 bz6 bw7 bz7 bw8 bz8 bw9 bz9 bw10 bz10 bw11 bz11 bw12 bz12 bw13 bz13 bw14 bz14 bw15 bz15
    replace ka := ka.below bV1
    replace kb := kb.below bV1
    have kc : Blk V1 W1.heap.size [.int .i64 a.kind, .int .i64 b.kind] := by rw [hV1]; exact Blk.new' (l := #[.int .i64 a.kind, .int .i64 b.kind]) rfl
    have BV1 : Below W.heap.size W V1 := below_then B1 bV1
    clear hV1
    have aw0 := ka.cell 0 _ rfl
    have az0 := fun z : Lt V1 => z.cell aw0
    have aw1 := ka.cell 1 _ rfl
    have az1 := fun z : Lt V1 => z.cell aw1
    have aw2 := ka.cell 2 _ rfl
    have az2 := fun z : Lt V1 => z.cell aw2
    have aw3 := ka.cell 3 _ rfl
    have az3 := fun z : Lt V1 => z.cell aw3
    have aw4 := ka.cell 4 _ rfl
    have az4 := fun z : Lt V1 => z.cell aw4
    have aw5 := ka.cell 5 _ rfl
    have az5 := fun z : Lt V1 => z.cell aw5
    have aw6 := ka.cell 6 _ rfl
    have az6 := fun z : Lt V1 => z.cell aw6
    have aw7 := ka.cell 7 _ rfl
    have az7 := fun z : Lt V1 => z.cell aw7
    have aw8 := ka.cell 8 _ rfl
    have az8 := fun z : Lt V1 => z.cell aw8
    have aw9 := ka.cell 9 _ rfl
    have az9 := fun z : Lt V1 => z.cell aw9
    have aw10 := ka.cell 10 _ rfl
    have az10 := fun z : Lt V1 => z.cell aw10
    have aw11 := ka.cell 11 _ rfl
    have az11 := fun z : Lt V1 => z.cell aw11
    have aw12 := ka.cell 12 _ rfl
    have az12 := fun z : Lt V1 => z.cell aw12
    have aw13 := ka.cell 13 _ rfl
    have az13 := fun z : Lt V1 => z.cell aw13
    have aw14 := ka.cell 14 _ rfl
    have az14 := fun z : Lt V1 => z.cell aw14
    have aw15 := ka.cell 15 _ rfl
    have az15 := fun z : Lt V1 => z.cell aw15
    have bw0 := kb.cell 0 _ rfl
    have bz0 := fun z : Lt V1 => z.cell bw0
    have bw1 := kb.cell 1 _ rfl
    have bz1 := fun z : Lt V1 => z.cell bw1
    have bw2 := kb.cell 2 _ rfl
    have bz2 := fun z : Lt V1 => z.cell bw2
    have bw3 := kb.cell 3 _ rfl
    have bz3 := fun z : Lt V1 => z.cell bw3
    have bw4 := kb.cell 4 _ rfl
    have bz4 := fun z : Lt V1 => z.cell bw4
    have bw5 := kb.cell 5 _ rfl
    have bz5 := fun z : Lt V1 => z.cell bw5
    have bw6 := kb.cell 6 _ rfl
    have bz6 := fun z : Lt V1 => z.cell bw6
    have bw7 := kb.cell 7 _ rfl
    have bz7 := fun z : Lt V1 => z.cell bw7
    have bw8 := kb.cell 8 _ rfl
    have bz8 := fun z : Lt V1 => z.cell bw8
    have bw9 := kb.cell 9 _ rfl
    have bz9 := fun z : Lt V1 => z.cell bw9
    have bw10 := kb.cell 10 _ rfl
    have bz10 := fun z : Lt V1 => z.cell bw10
    have bw11 := kb.cell 11 _ rfl
    have bz11 := fun z : Lt V1 => z.cell bw11
    have bw12 := kb.cell 12 _ rfl
    have bz12 := fun z : Lt V1 => z.cell bw12
    have bw13 := kb.cell 13 _ rfl
    have bz13 := fun z : Lt V1 => z.cell bw13
    have bw14 := kb.cell 14 _ rfl
    have bz14 := fun z : Lt V1 => z.cell bw14
    have bw15 := kb.cell 15 _ rfl
    have bz15 := fun z : Lt V1 => z.cell bw15
    have cw0 := kc.cell 0 _ rfl
    have cz0 := fun z : Lt V1 => z.cell cw0
    have cw1 := kc.cell 1 _ rfl
    have cz1 := fun z : Lt V1 => z.cell cw1
    by_cases h0 : a.kind = 3 ∧ b.kind = 2
    · have e0 := fun w => eql_t h0 w
      have HR := Lib.hid (HRR.out.symm.trans (Cl.conf_32 HE.out h0))
      clear h0
      go_wp2_with fail
      refine (meets_any (HA.out.below BV1) (HB.out.below BV1) FA.out FB.out (Lt.base V1)).mono ?_; rintro e w' ⟨rfl, y, rfl⟩
      go_wp2_with fail
      go_ret
      exact ⟨ret_bool HR.out.symm, y.via BV1, rfl⟩
    by_cases h1 : a.kind = 2 ∧ b.kind = 3
    · have e1 := fun w => eql_t h1 w
      have e0 := fun w => eql_f (k := a.kind) (l := b.kind) (m := 3) (n := 2) (by omega) w
      have HR := Lib.hid (HRR.out.symm.trans (Cl.conf_23 HE.out h1))
      clear h0 h1
      go_wp2_with fail
      refine (meets_any (HB.out.below BV1) (HA.out.below BV1) FB.out FA.out (Lt.base V1)).mono ?_; rintro e w' ⟨rfl, y, rfl⟩
      go_wp2_with fail
      go_ret
      exact ⟨ret_bool HR.out.symm, y.via BV1, rfl⟩
    by_cases h2 : a.kind = 2 ∧ b.kind = 2
    · have e2 := fun w => eql_t h2 w
      have e0 := fun w => eql_f (k := a.kind) (l := b.kind) (m := 3) (n := 2) (by omega) w
      have e1 := fun w => eql_f (k := a.kind) (l := b.kind) (m := 2) (n := 3) (by omega) w
      have HR := Lib.hid (HRR.out.symm.trans (Cl.conf_22 HE.out h2))
      clear h0 h1 h2
      go_wp2_with fail
      obtain ⟨sm, hsm⟩ : ∃ sm, a.same b = sm := ⟨_, rfl⟩
      have key := csame_any (a := a) (b := b) (A := A) (A' := A') (ca := ca) (ca' := ca') (HA.out.p.below BV1) (HB.out.p.below BV1) (by have := FA.out.p; omega) (Lt.base V1)
      rw [hsm] at HR key
      clear hsm
      refine key.mono ?_; rintro e w' ⟨rfl, y, rfl⟩
      clear key
      cases sm
      · go_wp2_with fail
        go_ret
        exact ⟨ret_bool HR.out.symm, y.via BV1, rfl⟩
      · go_wp2_with fail
        refine (mfits_any (fun i hi => (BV1.cell (cell_lt (HT.out i hi))).trans (HT.out i hi)) a.mode b.mode y).mono ?_; rintro e w' ⟨rfl, z, rfl⟩
        go_wp2_with fail
        go_ret
        exact ⟨ret_bool (by rw [HR.out]; rfl), z.via BV1, rfl⟩
    by_cases h3 : a.kind = 1 ∧ b.kind = 1
    · have e3 := fun w => eql_t h3 w
      have e0 := fun w => eql_f (k := a.kind) (l := b.kind) (m := 3) (n := 2) (by omega) w
      have e1 := fun w => eql_f (k := a.kind) (l := b.kind) (m := 2) (n := 3) (by omega) w
      have e2 := fun w => eql_f (k := a.kind) (l := b.kind) (m := 2) (n := 2) (by omega) w
      have HR := Lib.hid (HRR.out.symm.trans (Cl.conf_11 HE.out h3))
      clear h0 h1 h2 h3
      go_wp2_with fail
      obtain ⟨sm, hsm⟩ : ∃ sm, a.same b = sm := ⟨_, rfl⟩
      have key := csame_any (a := a) (b := b) (A := A) (A' := A') (ca := ca) (ca' := ca') (HA.out.p.below BV1) (HB.out.p.below BV1) (by have := FA.out.p; omega) (Lt.base V1)
      rw [hsm] at HR key
      clear hsm
      refine key.mono ?_; rintro e w' ⟨rfl, y, rfl⟩
      clear key
      cases sm
      · go_wp2_with fail
        go_ret
        exact ⟨ret_bool HR.out.symm, y.via BV1, rfl⟩
      · go_wp2_with fail
        refine (mfits_any (fun i hi => (BV1.cell (cell_lt (HT.out i hi))).trans (HT.out i hi)) a.mode b.mode y).mono ?_; rintro e w' ⟨rfl, z, rfl⟩
        go_wp2_with fail
        go_ret
        exact ⟨ret_bool (by rw [HR.out]; rfl), z.via BV1, rfl⟩
    have e0 := fun w => eql_f h0 w
    have e1 := fun w => eql_f h1 w
    have e2 := fun w => eql_f h2 w
    have e3 := fun w => eql_f h3 w
    have HR := Lib.hid (HRR.out.symm.trans (Cl.conf_0 h0 h1 h2 h3))
    clear h0 h1 h2 h3
    go_wp2_with fail
    go_ret
    exact ⟨ret_bool HR.out.symm, (Lt.base V1).via BV1, rfl⟩
  · have ht1 : (a.table != b.table) = true := by simpa using ht
    have HR := Lib.hid (hr.symm.trans (Cl.conf_t ht))
    clear hr ht
    go_enter Tryd.func17, Tryd.ntmps17
    go_upto_region 1 with fail
    refine wp_here fun W1 hW1 => ?_
    have B1 : Below W.heap.size W W1 := by rw [hW1]; exact below_then (x.more _) (below_alloc _)
    have ka : Blk W1 (x.1.heap.size) [.int .i64 a.kind, .int .i64 a.table, .int .i64 a.mode, .bool a.key.t, .int .i64 a.key.n, .string a.key.s, .slice A a.im.length ca, .int .i64 a.p.op, .int .i64 a.p.col, .bool a.p.v.t, .int .i64 a.p.v.n, .string a.p.v.s, .bool a.p.w.t, .int .i64 a.p.w.n, .string a.p.w.s, .slice P a.p.l.length pa] := by rw [hW1]; refine Blk.alloc ?_ _; exact Blk.new' (l := #[.int .i64 a.kind, .int .i64 a.table, .int .i64 a.mode, .bool a.key.t, .int .i64 a.key.n, .string a.key.s, .slice A a.im.length ca, .int .i64 a.p.op, .int .i64 a.p.col, .bool a.p.v.t, .int .i64 a.p.v.n, .string a.p.v.s, .bool a.p.w.t, .int .i64 a.p.w.n, .string a.p.w.s, .slice P a.p.l.length pa]) (by simp)
    have kb : Blk W1 (x.1.heap.size + 1) [.int .i64 b.kind, .int .i64 b.table, .int .i64 b.mode, .bool b.key.t, .int .i64 b.key.n, .string b.key.s, .slice A' b.im.length ca', .int .i64 b.p.op, .int .i64 b.p.col, .bool b.p.v.t, .int .i64 b.p.v.n, .string b.p.v.s, .bool b.p.w.t, .int .i64 b.p.w.n, .string b.p.w.s, .slice P' b.p.l.length pa'] := by rw [hW1]; exact Blk.new' (l := #[.int .i64 b.kind, .int .i64 b.table, .int .i64 b.mode, .bool b.key.t, .int .i64 b.key.n, .string b.key.s, .slice A' b.im.length ca', .int .i64 b.p.op, .int .i64 b.p.col, .bool b.p.v.t, .int .i64 b.p.v.n, .string b.p.v.s, .bool b.p.w.t, .int .i64 b.p.w.n, .string b.p.w.s, .slice P' b.p.l.length pa']) (by simp)
    clear hW1
    have aw0 := ka.cell 0 _ rfl
    have az0 := fun z : Lt W1 => z.cell aw0
    have aw1 := ka.cell 1 _ rfl
    have az1 := fun z : Lt W1 => z.cell aw1
    have aw2 := ka.cell 2 _ rfl
    have az2 := fun z : Lt W1 => z.cell aw2
    have aw3 := ka.cell 3 _ rfl
    have az3 := fun z : Lt W1 => z.cell aw3
    have aw4 := ka.cell 4 _ rfl
    have az4 := fun z : Lt W1 => z.cell aw4
    have aw5 := ka.cell 5 _ rfl
    have az5 := fun z : Lt W1 => z.cell aw5
    have aw6 := ka.cell 6 _ rfl
    have az6 := fun z : Lt W1 => z.cell aw6
    have aw7 := ka.cell 7 _ rfl
    have az7 := fun z : Lt W1 => z.cell aw7
    have aw8 := ka.cell 8 _ rfl
    have az8 := fun z : Lt W1 => z.cell aw8
    have aw9 := ka.cell 9 _ rfl
    have az9 := fun z : Lt W1 => z.cell aw9
    have aw10 := ka.cell 10 _ rfl
    have az10 := fun z : Lt W1 => z.cell aw10
    have aw11 := ka.cell 11 _ rfl
    have az11 := fun z : Lt W1 => z.cell aw11
    have aw12 := ka.cell 12 _ rfl
    have az12 := fun z : Lt W1 => z.cell aw12
    have aw13 := ka.cell 13 _ rfl
    have az13 := fun z : Lt W1 => z.cell aw13
    have aw14 := ka.cell 14 _ rfl
    have az14 := fun z : Lt W1 => z.cell aw14
    have aw15 := ka.cell 15 _ rfl
    have az15 := fun z : Lt W1 => z.cell aw15
    have bw0 := kb.cell 0 _ rfl
    have bz0 := fun z : Lt W1 => z.cell bw0
    have bw1 := kb.cell 1 _ rfl
    have bz1 := fun z : Lt W1 => z.cell bw1
    have bw2 := kb.cell 2 _ rfl
    have bz2 := fun z : Lt W1 => z.cell bw2
    have bw3 := kb.cell 3 _ rfl
    have bz3 := fun z : Lt W1 => z.cell bw3
    have bw4 := kb.cell 4 _ rfl
    have bz4 := fun z : Lt W1 => z.cell bw4
    have bw5 := kb.cell 5 _ rfl
    have bz5 := fun z : Lt W1 => z.cell bw5
    have bw6 := kb.cell 6 _ rfl
    have bz6 := fun z : Lt W1 => z.cell bw6
    have bw7 := kb.cell 7 _ rfl
    have bz7 := fun z : Lt W1 => z.cell bw7
    have bw8 := kb.cell 8 _ rfl
    have bz8 := fun z : Lt W1 => z.cell bw8
    have bw9 := kb.cell 9 _ rfl
    have bz9 := fun z : Lt W1 => z.cell bw9
    have bw10 := kb.cell 10 _ rfl
    have bz10 := fun z : Lt W1 => z.cell bw10
    have bw11 := kb.cell 11 _ rfl
    have bz11 := fun z : Lt W1 => z.cell bw11
    have bw12 := kb.cell 12 _ rfl
    have bz12 := fun z : Lt W1 => z.cell bw12
    have bw13 := kb.cell 13 _ rfl
    have bz13 := fun z : Lt W1 => z.cell bw13
    have bw14 := kb.cell 14 _ rfl
    have bz14 := fun z : Lt W1 => z.cell bw14
    have bw15 := kb.cell 15 _ rfl
    have bz15 := fun z : Lt W1 => z.cell bw15
    go_wp2_with fail
    go_ret
    exact ⟨ret_bool HR.out.symm, (Lt.base W1).via B1, rfl⟩
end Go.Proofs.YtghpildnajdlpaaDoor
