/-
  Who covers, walked: the program's Covers. Conditions: as for Conflict.
-/
import Derived.Test.YtghpildnajdlpaaDoorClmConf
namespace Go.Proofs.YtghpildnajdlpaaDoor
open Go.RowKit
variable {W : World}

theorem enters_cov1 (args : Array Value) (w : World) : (callFunc 44 args).run Tryd.prog w = .ok (.enter 44 args) w := enters Tryd.func44 (by kernel_rfl) (by kernel_rfl) args w
theorem cov1_any {c : Cl} {A : Option Addr} {ca : Nat} {P : Option Addr} {pa : Nat} {g : Nat} (hc : Blk W g [.int .i64 c.kind, .int .i64 c.table, .int .i64 c.mode, .bool c.key.t, .int .i64 c.key.n, .string c.key.s, .slice A c.im.length ca, .int .i64 c.p.op, .int .i64 c.p.col, .bool c.p.v.t, .int .i64 c.p.v.n, .string c.p.v.s, .bool c.p.w.t, .int .i64 c.p.w.n, .string c.p.w.s, .slice P c.p.l.length pa]) (him : ImgsAt W A ca c.im) (hl : c.im.length ≤ 1000000000) (hr0 : ∀ r ∈ c.im, r.length ≤ 1000000000) (r : List Val) : Says W 44 #[.pointer (some ⟨g, 0, none⟩)] (Cl.has c.im) r := by
  intro w A' ca' hw hr hn
  show Calls Tryd.prog 44 #[.slice A' r.length ca', .pointer (some ⟨g, 0, none⟩)] w _
  have HH := Lib.hid (show Calls Tryd.prog 45 #[.slice A c.im.length ca, .slice A' r.length ca'] w fun e w' => e = .returned (.bool (Cl.has c.im r)) ∧ ∃ y : Lt w, w' = y.1 from in_any (ca := ca) (cb := ca') hl hr0 (him.below hw) hr (Lt.base w))
  have q6 := (hc.below hw).cell 6 _ rfl
  clear hc hr hn hw him hr0
  go_enter Tryd.func44, Tryd.ntmps44
  go_wp2_with fail
  refine HH.out.mono ?_; rintro e w' ⟨rfl, y, rfl⟩
  go_wp2_with fail
  go_ret
  exact ⟨rfl, y.2⟩
set_option maxHeartbeats 4000000 in
theorem ccov_any (hT : Tabs W) {a b : Cl} {A P A' P' : Option Addr} {ca pa ca' pa' : Nat} (ha : a.At W A ca P pa) (hb : b.At W A' ca' P' pa') (fa : a.Fits) (fb : b.Fits) (x : Lt W) : Calls Tryd.prog 19 #[a.arg A ca P pa, b.arg A' ca' P' pa'] x.1 fun e w' => e = .returned (.bool (a.covers b)) ∧ ∃ y : Lt W, w' = y.1 := by
  have HT := Lib.hid hT
  have HA := Lib.hid ha
  have HB := Lib.hid hb
  have FA := Lib.hid fa
  have FB := Lib.hid fb
  clear hT ha hb fa fb
  unfold Cl.arg
  go_enter Tryd.func19, Tryd.ntmps19
  go_upto_region 1 with fail
  refine wp_here fun W1 hW1 => ?_
  have B1 : Below W.heap.size W W1 := by rw [hW1]; exact below_then (x.more _) (below_alloc _)
  have ka : Blk W1 (x.1.heap.size) [.int .i64 a.kind, .int .i64 a.table, .int .i64 a.mode, .bool a.key.t, .int .i64 a.key.n, .string a.key.s, .slice A a.im.length ca, .int .i64 a.p.op, .int .i64 a.p.col, .bool a.p.v.t, .int .i64 a.p.v.n, .string a.p.v.s, .bool a.p.w.t, .int .i64 a.p.w.n, .string a.p.w.s, .slice P a.p.l.length pa] := by rw [hW1]; refine Blk.alloc ?_ _; exact Blk.new' (l := #[.int .i64 a.kind, .int .i64 a.table, .int .i64 a.mode, .bool a.key.t, .int .i64 a.key.n, .string a.key.s, .slice A a.im.length ca, .int .i64 a.p.op, .int .i64 a.p.col, .bool a.p.v.t, .int .i64 a.p.v.n, .string a.p.v.s, .bool a.p.w.t, .int .i64 a.p.w.n, .string a.p.w.s, .slice P a.p.l.length pa]) (by simp)
  have kb : Blk W1 (x.1.heap.size + 1) [.int .i64 b.kind, .int .i64 b.table, .int .i64 b.mode, .bool b.key.t, .int .i64 b.key.n, .string b.key.s, .slice A' b.im.length ca', .int .i64 b.p.op, .int .i64 b.p.col, .bool b.p.v.t, .int .i64 b.p.v.n, .string b.p.v.s, .bool b.p.w.t, .int .i64 b.p.w.n, .string b.p.w.s, .slice P' b.p.l.length pa'] := by rw [hW1]; exact Blk.new' (l := #[.int .i64 b.kind, .int .i64 b.table, .int .i64 b.mode, .bool b.key.t, .int .i64 b.key.n, .string b.key.s, .slice A' b.im.length ca', .int .i64 b.p.op, .int .i64 b.p.col, .bool b.p.v.t, .int .i64 b.p.v.n, .string b.p.v.s, .bool b.p.w.t, .int .i64 b.p.w.n, .string b.p.w.s, .slice P' b.p.l.length pa']) (by simp)
  clear hW1
  have aw0 := ka.cell 0 _ rfl
  have az0 := fun z : Lt W1 => z.cell aw0
  have aw1 := ka.cell 1 _ rfl
  have az1 := fun z : Lt W1 => z.cell aw1
  have aw2 := ka.cell 2 _ rfl
  have az2 := fun z : Lt W1 => z.cell aw2
  have aw3 := ka.cell 3 _ rfl
  have az3 := fun z : Lt W1 => z.cell aw3
  have aw4 := ka.cell 4 _ rfl
  have az4 := fun z : Lt W1 => z.cell aw4
  have aw5 := ka.cell 5 _ rfl
  have az5 := fun z : Lt W1 => z.cell aw5
  have aw6 := ka.cell 6 _ rfl
  have az6 := fun z : Lt W1 => z.cell aw6
  have aw7 := ka.cell 7 _ rfl
  have az7 := fun z : Lt W1 => z.cell aw7
  have aw8 := ka.cell 8 _ rfl
  have az8 := fun z : Lt W1 => z.cell aw8
  have aw9 := ka.cell 9 _ rfl
  have az9 := fun z : Lt W1 => z.cell aw9
  have aw10 := ka.cell 10 _ rfl
  have az10 := fun z : Lt W1 => z.cell aw10
  have aw11 := ka.cell 11 _ rfl
  have az11 := fun z : Lt W1 => z.cell aw11
  have aw12 := ka.cell 12 _ rfl
  have az12 := fun z : Lt W1 => z.cell aw12
  have aw13 := ka.cell 13 _ rfl
  have az13 := fun z : Lt W1 => z.cell aw13
  have aw14 := ka.cell 14 _ rfl
  have az14 := fun z : Lt W1 => z.cell aw14
  have aw15 := ka.cell 15 _ rfl
  have az15 := fun z : Lt W1 => z.cell aw15
  have bw0 := kb.cell 0 _ rfl
  have bz0 := fun z : Lt W1 => z.cell bw0
  have bw1 := kb.cell 1 _ rfl
  have bz1 := fun z : Lt W1 => z.cell bw1
  have bw2 := kb.cell 2 _ rfl
  have bz2 := fun z : Lt W1 => z.cell bw2
  have bw3 := kb.cell 3 _ rfl
  have bz3 := fun z : Lt W1 => z.cell bw3
  have bw4 := kb.cell 4 _ rfl
  have bz4 := fun z : Lt W1 => z.cell bw4
  have bw5 := kb.cell 5 _ rfl
  have bz5 := fun z : Lt W1 => z.cell bw5
  have bw6 := kb.cell 6 _ rfl
  have bz6 := fun z : Lt W1 => z.cell bw6
  have bw7 := kb.cell 7 _ rfl
  have bz7 := fun z : Lt W1 => z.cell bw7
  have bw8 := kb.cell 8 _ rfl
  have bz8 := fun z : Lt W1 => z.cell bw8
  have bw9 := kb.cell 9 _ rfl
  have bz9 := fun z : Lt W1 => z.cell bw9
  have bw10 := kb.cell 10 _ rfl
  have bz10 := fun z : Lt W1 => z.cell bw10
  have bw11 := kb.cell 11 _ rfl
  have bz11 := fun z : Lt W1 => z.cell bw11
  have bw12 := kb.cell 12 _ rfl
  have bz12 := fun z : Lt W1 => z.cell bw12
  have bw13 := kb.cell 13 _ rfl
  have bz13 := fun z : Lt W1 => z.cell bw13
  have bw14 := kb.cell 14 _ rfl
  have bz14 := fun z : Lt W1 => z.cell bw14
  have bw15 := kb.cell 15 _ rfl
  have bz15 := fun z : Lt W1 => z.cell bw15
  obtain ⟨sm, hsm⟩ : ∃ sm, a.same b = sm := ⟨_, rfl⟩
  obtain ⟨cv, hcv⟩ : ∃ cv, M.covers a.mode b.mode = cv := ⟨_, rfl⟩
  have HR := Lib.hid (show a.covers b = (sm && cv && b.im.all (Cl.has a.im)) by rw [← hsm, ← hcv]; rfl)
  have key := csame_any (a := a) (b := b) (A := A) (A' := A') (ca := ca) (ca' := ca') (HA.out.p.below B1) (HB.out.p.below B1) (by have := FA.out.p; omega) (Lt.base W1)
  rw [hsm] at key
  have K2 := Lib.hid (fun z : Lt W1 => mcovers_is (fun i hi => (B1.cell (cell_lt (HT.out i hi))).trans (HT.out i hi)) hcv z)
  clear hsm hcv
  go_wp2_with fail
  refine key.mono ?_; rintro e w' ⟨rfl, y, rfl⟩
  clear key
  cases sm
  · go_wp2_with fail
    go_ret
    exact ⟨ret_bool (by rw [HR.out]; rfl), y.via B1, rfl⟩
  go_wp2_with fail
  refine (K2.out y).mono ?_; rintro e w' ⟨rfl, y2, rfl⟩
  cases cv
  · go_wp2_with fail
    go_ret
    exact ⟨ret_bool (by rw [HR.out]; rfl), y2.via B1, rfl⟩
  have HR2 := Lib.hid (show a.covers b = b.im.all (Cl.has a.im) by rw [HR.out]; rfl)
  clear HR K2
  go_wp2_with fail
  refine (all_any_rows enters_cov1 (Cl.has a.im) (by have := FB.out.im; omega) (HB.out.im.below B1) (fun r _ => cov1_any ka (HA.out.im.below B1) (by have := FA.out.im; omega) (fun r hr => by have := FA.out.row r hr; omega) r) y2).mono ?_; rintro e w' ⟨rfl, z, rfl⟩
  go_wp2_with fail
  go_ret
  exact ⟨ret_bool HR2.out.symm, z.via B1, rfl⟩
end Go.Proofs.YtghpildnajdlpaaDoor
