/-
  The statement NormalSelf, walked: it returns true. Conditions: none.
-/
import Derived.Test.YtppoefbfepehpaaAwake04
namespace Go.Proofs.Ytppoefbfepehpaa
open Go.RowKit
variable {W : World}

set_option maxHeartbeats 2000000 in
theorem normalSelf_go (a m h n u : Sp) (v : Val) (i : Bool) (hm : a.meet a = m) (hh : a.hull a = h) (hn : a.meet Sp.nothing = n) (hu : a.hull Sp.full = u) (hi : a.within v = i) (hmh : m = h) (hmv : m.within v = i) (hnn : n = Sp.nothing) (hnm : Sp.nothing.hull a = m) (hfm : Sp.full.meet a = m) (huu : u = Sp.full) (x : Lt W) :
    Calls Try.prog 9 #[a.val, .agg #[.bool v.t, .int .i64 v.n, .string v.s]] x.1 fun e w' => e = .returned (.bool true) ∧ ∃ y : Lt W, w' = y.1 := by
  have C1 := Lib.hid (fun (W : World) (z : Lt W) => show Calls Try.prog 19 #[.agg #[.bool a.none, .bool a.lo, .bool a.olo, .bool a.l.t, .int .i64 a.l.n, .string a.l.s, .bool a.hi, .bool a.ohi, .bool a.h.t, .int .i64 a.h.n, .string a.h.s], .agg #[.bool a.none, .bool a.lo, .bool a.olo, .bool a.l.t, .int .i64 a.l.n, .string a.l.s, .bool a.hi, .bool a.ohi, .bool a.h.t, .int .i64 a.h.n, .string a.h.s]] z.1 fun e w' => e = .returned (.agg #[.bool m.none, .bool m.lo, .bool m.olo, .bool m.l.t, .int .i64 m.l.n, .string m.l.s, .bool m.hi, .bool m.ohi, .bool m.h.t, .int .i64 m.h.n, .string m.h.s]) ∧ ∃ y : Lt W, w' = y.1 from hm ▸ meet_any a a z)
  have C2 := Lib.hid (fun (W : World) (z : Lt W) => show Calls Try.prog 21 #[.agg #[.bool a.none, .bool a.lo, .bool a.olo, .bool a.l.t, .int .i64 a.l.n, .string a.l.s, .bool a.hi, .bool a.ohi, .bool a.h.t, .int .i64 a.h.n, .string a.h.s], .agg #[.bool a.none, .bool a.lo, .bool a.olo, .bool a.l.t, .int .i64 a.l.n, .string a.l.s, .bool a.hi, .bool a.ohi, .bool a.h.t, .int .i64 a.h.n, .string a.h.s]] z.1 fun e w' => e = .returned (.agg #[.bool h.none, .bool h.lo, .bool h.olo, .bool h.l.t, .int .i64 h.l.n, .string h.l.s, .bool h.hi, .bool h.ohi, .bool h.h.t, .int .i64 h.h.n, .string h.h.s]) ∧ ∃ y : Lt W, w' = y.1 from hh ▸ hull_any a a z)
  have C3 := Lib.hid (fun (W : World) (z : Lt W) => show Calls Try.prog 19 #[.agg #[.bool a.none, .bool a.lo, .bool a.olo, .bool a.l.t, .int .i64 a.l.n, .string a.l.s, .bool a.hi, .bool a.ohi, .bool a.h.t, .int .i64 a.h.n, .string a.h.s], .agg #[.bool true, .bool false, .bool false, .bool false, .int .i64 0, .string ⟨#[]⟩, .bool false, .bool false, .bool false, .int .i64 0, .string ⟨#[]⟩]] z.1 fun e w' => e = .returned (.agg #[.bool n.none, .bool n.lo, .bool n.olo, .bool n.l.t, .int .i64 n.l.n, .string n.l.s, .bool n.hi, .bool n.ohi, .bool n.h.t, .int .i64 n.h.n, .string n.h.s]) ∧ ∃ y : Lt W, w' = y.1 from hn ▸ meet_any a Sp.nothing z)
  have C4 := Lib.hid (fun (W : World) (z : Lt W) => show Calls Try.prog 21 #[.agg #[.bool a.none, .bool a.lo, .bool a.olo, .bool a.l.t, .int .i64 a.l.n, .string a.l.s, .bool a.hi, .bool a.ohi, .bool a.h.t, .int .i64 a.h.n, .string a.h.s], .agg #[.bool false, .bool false, .bool false, .bool false, .int .i64 0, .string ⟨#[]⟩, .bool false, .bool false, .bool false, .int .i64 0, .string ⟨#[]⟩]] z.1 fun e w' => e = .returned (.agg #[.bool u.none, .bool u.lo, .bool u.olo, .bool u.l.t, .int .i64 u.l.n, .string u.l.s, .bool u.hi, .bool u.ohi, .bool u.h.t, .int .i64 u.h.n, .string u.h.s]) ∧ ∃ y : Lt W, w' = y.1 from hu ▸ hull_any a Sp.full z)
  have C5 := Lib.hid (fun (W : World) (z : Lt W) => show Calls Try.prog 17 #[.agg #[.bool a.none, .bool a.lo, .bool a.olo, .bool a.l.t, .int .i64 a.l.n, .string a.l.s, .bool a.hi, .bool a.ohi, .bool a.h.t, .int .i64 a.h.n, .string a.h.s], .agg #[.bool v.t, .int .i64 v.n, .string v.s]] z.1 fun e w' => e = .returned (.bool i) ∧ ∃ y : Lt W, w' = y.1 from hi ▸ within_any a v z)
  have C6 := Lib.hid (fun (W : World) (z : Lt W) => show Calls Try.prog 17 #[.agg #[.bool m.none, .bool m.lo, .bool m.olo, .bool m.l.t, .int .i64 m.l.n, .string m.l.s, .bool m.hi, .bool m.ohi, .bool m.h.t, .int .i64 m.h.n, .string m.h.s], .agg #[.bool v.t, .int .i64 v.n, .string v.s]] z.1 fun e w' => e = .returned (.bool i) ∧ ∃ y : Lt W, w' = y.1 from hmv ▸ within_any m v z)
  have C7 := Lib.hid (fun (W : World) (z : Lt W) => show Calls Try.prog 21 #[.agg #[.bool true, .bool false, .bool false, .bool false, .int .i64 0, .string ⟨#[]⟩, .bool false, .bool false, .bool false, .int .i64 0, .string ⟨#[]⟩], .agg #[.bool a.none, .bool a.lo, .bool a.olo, .bool a.l.t, .int .i64 a.l.n, .string a.l.s, .bool a.hi, .bool a.ohi, .bool a.h.t, .int .i64 a.h.n, .string a.h.s]] z.1 fun e w' => e = .returned (.agg #[.bool m.none, .bool m.lo, .bool m.olo, .bool m.l.t, .int .i64 m.l.n, .string m.l.s, .bool m.hi, .bool m.ohi, .bool m.h.t, .int .i64 m.h.n, .string m.h.s]) ∧ ∃ y : Lt W, w' = y.1 from hnm ▸ hull_any Sp.nothing a z)
  have C8 := Lib.hid (fun (W : World) (z : Lt W) => show Calls Try.prog 19 #[.agg #[.bool false, .bool false, .bool false, .bool false, .int .i64 0, .string ⟨#[]⟩, .bool false, .bool false, .bool false, .int .i64 0, .string ⟨#[]⟩], .agg #[.bool a.none, .bool a.lo, .bool a.olo, .bool a.l.t, .int .i64 a.l.n, .string a.l.s, .bool a.hi, .bool a.ohi, .bool a.h.t, .int .i64 a.h.n, .string a.h.s]] z.1 fun e w' => e = .returned (.agg #[.bool m.none, .bool m.lo, .bool m.olo, .bool m.l.t, .int .i64 m.l.n, .string m.l.s, .bool m.hi, .bool m.ohi, .bool m.h.t, .int .i64 m.h.n, .string m.h.s]) ∧ ∃ y : Lt W, w' = y.1 from hfm ▸ meet_any Sp.full a z)
  have C9 := Lib.hid (fun (W : World) (z : Lt W) => show Calls Try.prog 17 #[.agg #[.bool u.none, .bool u.lo, .bool u.olo, .bool u.l.t, .int .i64 u.l.n, .string u.l.s, .bool u.hi, .bool u.ohi, .bool u.h.t, .int .i64 u.h.n, .string u.h.s], .agg #[.bool v.t, .int .i64 v.n, .string v.s]] z.1 fun e w' => e = .returned (.bool true) ∧ ∃ y : Lt W, w' = y.1 from by have := within_any u v z; rwa [show u.within v = true by rw [huu]; rfl] at this)
  have e1 := fun w => (show (binOp .eql 35 (.agg #[.bool m.none, .bool m.lo, .bool m.olo, .bool m.l.t, .int .i64 m.l.n, .string m.l.s, .bool m.hi, .bool m.ohi, .bool m.h.t, .int .i64 m.h.n, .string m.h.s]) (.agg #[.bool h.none, .bool h.lo, .bool h.olo, .bool h.l.t, .int .i64 h.l.n, .string h.l.s, .bool h.hi, .bool h.ohi, .bool h.h.t, .int .i64 h.h.n, .string h.h.s])).run Try.prog w = .ok (.bool true) w from run_eql_span_t (a := m) (b := h) hmh w)
  have e2 := fun w => (show (binOp .eql 35 (.agg #[.bool n.none, .bool n.lo, .bool n.olo, .bool n.l.t, .int .i64 n.l.n, .string n.l.s, .bool n.hi, .bool n.ohi, .bool n.h.t, .int .i64 n.h.n, .string n.h.s]) (.agg #[.bool true, .bool false, .bool false, .bool false, .int .i64 0, .string ⟨#[]⟩, .bool false, .bool false, .bool false, .int .i64 0, .string ⟨#[]⟩])).run Try.prog w = .ok (.bool true) w from run_eql_span_t (a := n) (b := Sp.nothing) hnn w)
  have e3 := fun w => (show (binOp .eql 35 (.agg #[.bool m.none, .bool m.lo, .bool m.olo, .bool m.l.t, .int .i64 m.l.n, .string m.l.s, .bool m.hi, .bool m.ohi, .bool m.h.t, .int .i64 m.h.n, .string m.h.s]) (.agg #[.bool m.none, .bool m.lo, .bool m.olo, .bool m.l.t, .int .i64 m.l.n, .string m.l.s, .bool m.hi, .bool m.ohi, .bool m.h.t, .int .i64 m.h.n, .string m.h.s])).run Try.prog w = .ok (.bool true) w from run_eql_span_t (a := m) (b := m) rfl w)
  have e4 := fun w => (show (binOp .eql 35 (.agg #[.bool u.none, .bool u.lo, .bool u.olo, .bool u.l.t, .int .i64 u.l.n, .string u.l.s, .bool u.hi, .bool u.ohi, .bool u.h.t, .int .i64 u.h.n, .string u.h.s]) (.agg #[.bool false, .bool false, .bool false, .bool false, .int .i64 0, .string ⟨#[]⟩, .bool false, .bool false, .bool false, .int .i64 0, .string ⟨#[]⟩])).run Try.prog w = .ok (.bool true) w from run_eql_span_t (a := u) (b := Sp.full) huu w)
  have AW := Lib.hid (fun (W : World) (z : Lt W) => awake_any z)
  clear hm hh hn hu hi hmh hmv hnn hnm hfm huu
  go_enter Try.func9, Try.ntmps9
  go_wp2_with fail
  refine calls_here fun W1 hW1 => ?_
  have hb1 : Below W.heap.size W W1 := by rw [hW1]; exact below_then (x.more _) (below_alloc _)
  have ka : Blk W1 (x.1.heap.size) [.bool a.none, .bool a.lo, .bool a.olo, .bool a.l.t, .int .i64 a.l.n, .string a.l.s, .bool a.hi, .bool a.ohi, .bool a.h.t, .int .i64 a.h.n, .string a.h.s] := by rw [hW1]; refine Blk.alloc ?_ _; exact Blk.new' (l := #[.bool a.none, .bool a.lo, .bool a.olo, .bool a.l.t, .int .i64 a.l.n, .string a.l.s, .bool a.hi, .bool a.ohi, .bool a.h.t, .int .i64 a.h.n, .string a.h.s]) (by simp)
  have kv : Blk W1 (x.1.heap.size + 1) [.bool v.t, .int .i64 v.n, .string v.s] := by rw [hW1]; exact Blk.new' (l := #[.bool v.t, .int .i64 v.n, .string v.s]) (by simp)
  clear hW1
  have qa : Blk W1 (x.1.heap.size) (Sp.cells a) := ka
  obtain ⟨aw0, aw1, aw2, aw3, aw4, aw5, aw6, aw7, aw8, aw9, aw10⟩ := qa.c11
  have az0 := fun z : Lt W1 => z.cell aw0
  have az1 := fun z : Lt W1 => z.cell aw1
  have az2 := fun z : Lt W1 => z.cell aw2
  have az3 := fun z : Lt W1 => z.cell aw3
  have az4 := fun z : Lt W1 => z.cell aw4
  have az5 := fun z : Lt W1 => z.cell aw5
  have az6 := fun z : Lt W1 => z.cell aw6
  have az7 := fun z : Lt W1 => z.cell aw7
  have az8 := fun z : Lt W1 => z.cell aw8
  have az9 := fun z : Lt W1 => z.cell aw9
  have az10 := fun z : Lt W1 => z.cell aw10
  have vw0 := kv.cell 0 _ rfl
  have vw1 := kv.cell 1 _ rfl
  have vw2 := kv.cell 2 _ rfl
  have vz0 := fun z : Lt W1 => z.cell vw0
  have vz1 := fun z : Lt W1 => z.cell vw1
  have vz2 := fun z : Lt W1 => z.cell vw2
  refine (AW.out W1 (Lt.base W1)).mono ?_; rintro e w' ⟨rfl, y1, rfl⟩
  obtain ⟨gy1, hgy1⟩ : ∃ g, y1.1.heap.size = g := ⟨_, rfl⟩
  go_upto_region 2 with fail
  refine wp_here fun V1 hV1 => ?_
  have bV1 : Below W1.heap.size W1 V1 := by rw [hV1]; exact y1.2
  clear aw0 az0 aw1 az1 aw2 az2 aw3 az3 aw4 az4 aw5 az5 aw6 az6 aw7 az7 aw8 az8 aw9 az9 aw10 az10 qa vw0 vz0 vw1 vz1 vw2 vz2
  replace ka := ka.below bV1
  replace kv := kv.below bV1
  have BV1 : Below W.heap.size W V1 := below_then hb1 bV1
  clear hV1 hgy1
  have qa : Blk V1 (x.1.heap.size) (Sp.cells a) := ka
  obtain ⟨aw0, aw1, aw2, aw3, aw4, aw5, aw6, aw7, aw8, aw9, aw10⟩ := qa.c11
  have az0 := fun z : Lt V1 => z.cell aw0
  have az1 := fun z : Lt V1 => z.cell aw1
  have az2 := fun z : Lt V1 => z.cell aw2
  have az3 := fun z : Lt V1 => z.cell aw3
  have az4 := fun z : Lt V1 => z.cell aw4
  have az5 := fun z : Lt V1 => z.cell aw5
  have az6 := fun z : Lt V1 => z.cell aw6
  have az7 := fun z : Lt V1 => z.cell aw7
  have az8 := fun z : Lt V1 => z.cell aw8
  have az9 := fun z : Lt V1 => z.cell aw9
  have az10 := fun z : Lt V1 => z.cell aw10
  have vw0 := kv.cell 0 _ rfl
  have vw1 := kv.cell 1 _ rfl
  have vw2 := kv.cell 2 _ rfl
  have vz0 := fun z : Lt V1 => z.cell vw0
  have vz1 := fun z : Lt V1 => z.cell vw1
  have vz2 := fun z : Lt V1 => z.cell vw2
  go_wp2_with fail
  refine (C1.out V1 (Lt.base V1)).mono ?_; rintro e w' ⟨rfl, y2, rfl⟩
  obtain ⟨gy2, hgy2⟩ : ∃ g, y2.1.heap.size = g := ⟨_, rfl⟩
  go_upto_region 5 with fail
  refine wp_here fun V2 hV2 => ?_
  have bV2 : Below V1.heap.size V1 V2 := by rw [hV2]; exact y2.more _
  clear aw0 az0 aw1 az1 aw2 az2 aw3 az3 aw4 az4 aw5 az5 aw6 az6 aw7 az7 aw8 az8 aw9 az9 aw10 az10 qa vw0 vz0 vw1 vz1 vw2 vz2
  replace ka := ka.below bV2
  replace kv := kv.below bV2
  have km : Blk V2 gy2 [.bool m.none, .bool m.lo, .bool m.olo, .bool m.l.t, .int .i64 m.l.n, .string m.l.s, .bool m.hi, .bool m.ohi, .bool m.h.t, .int .i64 m.h.n, .string m.h.s] := by rw [hV2]; exact Blk.new' (l := #[.bool m.none, .bool m.lo, .bool m.olo, .bool m.l.t, .int .i64 m.l.n, .string m.l.s, .bool m.hi, .bool m.ohi, .bool m.h.t, .int .i64 m.h.n, .string m.h.s]) hgy2.symm
  have BV2 : Below W.heap.size W V2 := below_then BV1 bV2
  clear hV2 hgy2
  have qa : Blk V2 (x.1.heap.size) (Sp.cells a) := ka
  obtain ⟨aw0, aw1, aw2, aw3, aw4, aw5, aw6, aw7, aw8, aw9, aw10⟩ := qa.c11
  have az0 := fun z : Lt V2 => z.cell aw0
  have az1 := fun z : Lt V2 => z.cell aw1
  have az2 := fun z : Lt V2 => z.cell aw2
  have az3 := fun z : Lt V2 => z.cell aw3
  have az4 := fun z : Lt V2 => z.cell aw4
  have az5 := fun z : Lt V2 => z.cell aw5
  have az6 := fun z : Lt V2 => z.cell aw6
  have az7 := fun z : Lt V2 => z.cell aw7
  have az8 := fun z : Lt V2 => z.cell aw8
  have az9 := fun z : Lt V2 => z.cell aw9
  have az10 := fun z : Lt V2 => z.cell aw10
  have vw0 := kv.cell 0 _ rfl
  have vw1 := kv.cell 1 _ rfl
  have vw2 := kv.cell 2 _ rfl
  have vz0 := fun z : Lt V2 => z.cell vw0
  have vz1 := fun z : Lt V2 => z.cell vw1
  have vz2 := fun z : Lt V2 => z.cell vw2
  have qm : Blk V2 gy2 (Sp.cells m) := km
  obtain ⟨mw0, mw1, mw2, mw3, mw4, mw5, mw6, mw7, mw8, mw9, mw10⟩ := qm.c11
  have mz0 := fun z : Lt V2 => z.cell mw0
  have mz1 := fun z : Lt V2 => z.cell mw1
  have mz2 := fun z : Lt V2 => z.cell mw2
  have mz3 := fun z : Lt V2 => z.cell mw3
  have mz4 := fun z : Lt V2 => z.cell mw4
  have mz5 := fun z : Lt V2 => z.cell mw5
  have mz6 := fun z : Lt V2 => z.cell mw6
  have mz7 := fun z : Lt V2 => z.cell mw7
  have mz8 := fun z : Lt V2 => z.cell mw8
  have mz9 := fun z : Lt V2 => z.cell mw9
  have mz10 := fun z : Lt V2 => z.cell mw10
  go_wp2_with fail
  refine (C2.out V2 (Lt.base V2)).mono ?_; rintro e w' ⟨rfl, y3, rfl⟩
  obtain ⟨gy3, hgy3⟩ : ∃ g, y3.1.heap.size = g := ⟨_, rfl⟩
  go_upto_region 6 with fail
  refine wp_here fun V3 hV3 => ?_
  have bV3 : Below V2.heap.size V2 V3 := by rw [hV3]; exact y3.more _
  clear aw0 az0 aw1 az1 aw2 az2 aw3 az3 aw4 az4 aw5 az5 aw6 az6 aw7 az7 aw8 az8 aw9 az9 aw10 az10 qa vw0 vz0 vw1 vz1 vw2 vz2 mw0 mz0 mw1 mz1 mw2 mz2 mw3 mz3 mw4 mz4 mw5 mz5 mw6 mz6 mw7 mz7 mw8 mz8 mw9 mz9 mw10 mz10 qm
  replace ka := ka.below bV3
  replace kv := kv.below bV3
  replace km := km.below bV3
  have kh : Blk V3 gy3 [.bool h.none, .bool h.lo, .bool h.olo, .bool h.l.t, .int .i64 h.l.n, .string h.l.s, .bool h.hi, .bool h.ohi, .bool h.h.t, .int .i64 h.h.n, .string h.h.s] := by rw [hV3]; exact Blk.new' (l := #[.bool h.none, .bool h.lo, .bool h.olo, .bool h.l.t, .int .i64 h.l.n, .string h.l.s, .bool h.hi, .bool h.ohi, .bool h.h.t, .int .i64 h.h.n, .string h.h.s]) hgy3.symm
  have BV3 : Below W.heap.size W V3 := below_then BV2 bV3
  clear hV3 hgy3
  have qa : Blk V3 (x.1.heap.size) (Sp.cells a) := ka
  obtain ⟨aw0, aw1, aw2, aw3, aw4, aw5, aw6, aw7, aw8, aw9, aw10⟩ := qa.c11
  have az0 := fun z : Lt V3 => z.cell aw0
  have az1 := fun z : Lt V3 => z.cell aw1
  have az2 := fun z : Lt V3 => z.cell aw2
  have az3 := fun z : Lt V3 => z.cell aw3
  have az4 := fun z : Lt V3 => z.cell aw4
  have az5 := fun z : Lt V3 => z.cell aw5
  have az6 := fun z : Lt V3 => z.cell aw6
  have az7 := fun z : Lt V3 => z.cell aw7
  have az8 := fun z : Lt V3 => z.cell aw8
  have az9 := fun z : Lt V3 => z.cell aw9
  have az10 := fun z : Lt V3 => z.cell aw10
  have vw0 := kv.cell 0 _ rfl
  have vw1 := kv.cell 1 _ rfl
  have vw2 := kv.cell 2 _ rfl
  have vz0 := fun z : Lt V3 => z.cell vw0
  have vz1 := fun z : Lt V3 => z.cell vw1
  have vz2 := fun z : Lt V3 => z.cell vw2
  have qm : Blk V3 gy2 (Sp.cells m) := km
  obtain ⟨mw0, mw1, mw2, mw3, mw4, mw5, mw6, mw7, mw8, mw9, mw10⟩ := qm.c11
  have mz0 := fun z : Lt V3 => z.cell mw0
  have mz1 := fun z : Lt V3 => z.cell mw1
  have mz2 := fun z : Lt V3 => z.cell mw2
  have mz3 := fun z : Lt V3 => z.cell mw3
  have mz4 := fun z : Lt V3 => z.cell mw4
  have mz5 := fun z : Lt V3 => z.cell mw5
  have mz6 := fun z : Lt V3 => z.cell mw6
  have mz7 := fun z : Lt V3 => z.cell mw7
  have mz8 := fun z : Lt V3 => z.cell mw8
  have mz9 := fun z : Lt V3 => z.cell mw9
  have mz10 := fun z : Lt V3 => z.cell mw10
  have qh : Blk V3 gy3 (Sp.cells h) := kh
  obtain ⟨hw0, hw1, hw2, hw3, hw4, hw5, hw6, hw7, hw8, hw9, hw10⟩ := qh.c11
  have hz0 := fun z : Lt V3 => z.cell hw0
  have hz1 := fun z : Lt V3 => z.cell hw1
  have hz2 := fun z : Lt V3 => z.cell hw2
  have hz3 := fun z : Lt V3 => z.cell hw3
  have hz4 := fun z : Lt V3 => z.cell hw4
  have hz5 := fun z : Lt V3 => z.cell hw5
  have hz6 := fun z : Lt V3 => z.cell hw6
  have hz7 := fun z : Lt V3 => z.cell hw7
  have hz8 := fun z : Lt V3 => z.cell hw8
  have hz9 := fun z : Lt V3 => z.cell hw9
  have hz10 := fun z : Lt V3 => z.cell hw10
  go_wp2_with fail
  refine (C3.out V3 (Lt.base V3)).mono ?_; rintro e w' ⟨rfl, y4, rfl⟩
  obtain ⟨gy4, hgy4⟩ : ∃ g, y4.1.heap.size = g := ⟨_, rfl⟩
  go_upto_region 7 with fail
  refine wp_here fun V4 hV4 => ?_
  have bV4 : Below V3.heap.size V3 V4 := by rw [hV4]; exact y4.more _
  clear aw0 az0 aw1 az1 aw2 az2 aw3 az3 aw4 az4 aw5 az5 aw6 az6 aw7 az7 aw8 az8 aw9 az9 aw10 az10 qa vw0 vz0 vw1 vz1 vw2 vz2 mw0 mz0 mw1 mz1 mw2 mz2 mw3 mz3 mw4 mz4 mw5 mz5 mw6 mz6 mw7 mz7 mw8 mz8 mw9 mz9 mw10 mz10 qm hw0 hz0 hw1 hz1 hw2 hz2 hw3 hz3 hw4 hz4 hw5 hz5 hw6 hz6 hw7 hz7 hw8 hz8 hw9 hz9 hw10 hz10 qh
  replace ka := ka.below bV4
  replace kv := kv.below bV4
  replace km := km.below bV4
  replace kh := kh.below bV4
  have kn : Blk V4 gy4 [.bool n.none, .bool n.lo, .bool n.olo, .bool n.l.t, .int .i64 n.l.n, .string n.l.s, .bool n.hi, .bool n.ohi, .bool n.h.t, .int .i64 n.h.n, .string n.h.s] := by rw [hV4]; exact Blk.new' (l := #[.bool n.none, .bool n.lo, .bool n.olo, .bool n.l.t, .int .i64 n.l.n, .string n.l.s, .bool n.hi, .bool n.ohi, .bool n.h.t, .int .i64 n.h.n, .string n.h.s]) hgy4.symm
  have BV4 : Below W.heap.size W V4 := below_then BV3 bV4
  clear hV4 hgy4
  have qa : Blk V4 (x.1.heap.size) (Sp.cells a) := ka
  obtain ⟨aw0, aw1, aw2, aw3, aw4, aw5, aw6, aw7, aw8, aw9, aw10⟩ := qa.c11
  have az0 := fun z : Lt V4 => z.cell aw0
  have az1 := fun z : Lt V4 => z.cell aw1
  have az2 := fun z : Lt V4 => z.cell aw2
  have az3 := fun z : Lt V4 => z.cell aw3
  have az4 := fun z : Lt V4 => z.cell aw4
  have az5 := fun z : Lt V4 => z.cell aw5
  have az6 := fun z : Lt V4 => z.cell aw6
  have az7 := fun z : Lt V4 => z.cell aw7
  have az8 := fun z : Lt V4 => z.cell aw8
  have az9 := fun z : Lt V4 => z.cell aw9
  have az10 := fun z : Lt V4 => z.cell aw10
  have vw0 := kv.cell 0 _ rfl
  have vw1 := kv.cell 1 _ rfl
  have vw2 := kv.cell 2 _ rfl
  have vz0 := fun z : Lt V4 => z.cell vw0
  have vz1 := fun z : Lt V4 => z.cell vw1
  have vz2 := fun z : Lt V4 => z.cell vw2
  have qm : Blk V4 gy2 (Sp.cells m) := km
  obtain ⟨mw0, mw1, mw2, mw3, mw4, mw5, mw6, mw7, mw8, mw9, mw10⟩ := qm.c11
  have mz0 := fun z : Lt V4 => z.cell mw0
  have mz1 := fun z : Lt V4 => z.cell mw1
  have mz2 := fun z : Lt V4 => z.cell mw2
  have mz3 := fun z : Lt V4 => z.cell mw3
  have mz4 := fun z : Lt V4 => z.cell mw4
  have mz5 := fun z : Lt V4 => z.cell mw5
  have mz6 := fun z : Lt V4 => z.cell mw6
  have mz7 := fun z : Lt V4 => z.cell mw7
  have mz8 := fun z : Lt V4 => z.cell mw8
  have mz9 := fun z : Lt V4 => z.cell mw9
  have mz10 := fun z : Lt V4 => z.cell mw10
  have qh : Blk V4 gy3 (Sp.cells h) := kh
  obtain ⟨hw0, hw1, hw2, hw3, hw4, hw5, hw6, hw7, hw8, hw9, hw10⟩ := qh.c11
  have hz0 := fun z : Lt V4 => z.cell hw0
  have hz1 := fun z : Lt V4 => z.cell hw1
  have hz2 := fun z : Lt V4 => z.cell hw2
  have hz3 := fun z : Lt V4 => z.cell hw3
  have hz4 := fun z : Lt V4 => z.cell hw4
  have hz5 := fun z : Lt V4 => z.cell hw5
  have hz6 := fun z : Lt V4 => z.cell hw6
  have hz7 := fun z : Lt V4 => z.cell hw7
  have hz8 := fun z : Lt V4 => z.cell hw8
  have hz9 := fun z : Lt V4 => z.cell hw9
  have hz10 := fun z : Lt V4 => z.cell hw10
  have qn : Blk V4 gy4 (Sp.cells n) := kn
  obtain ⟨nw0, nw1, nw2, nw3, nw4, nw5, nw6, nw7, nw8, nw9, nw10⟩ := qn.c11
  have nz0 := fun z : Lt V4 => z.cell nw0
  have nz1 := fun z : Lt V4 => z.cell nw1
  have nz2 := fun z : Lt V4 => z.cell nw2
  have nz3 := fun z : Lt V4 => z.cell nw3
  have nz4 := fun z : Lt V4 => z.cell nw4
  have nz5 := fun z : Lt V4 => z.cell nw5
  have nz6 := fun z : Lt V4 => z.cell nw6
  have nz7 := fun z : Lt V4 => z.cell nw7
  have nz8 := fun z : Lt V4 => z.cell nw8
  have nz9 := fun z : Lt V4 => z.cell nw9
  have nz10 := fun z : Lt V4 => z.cell nw10
  go_wp2_with fail
  refine (C4.out V4 (Lt.base V4)).mono ?_; rintro e w' ⟨rfl, y5, rfl⟩
  obtain ⟨gy5, hgy5⟩ : ∃ g, y5.1.heap.size = g := ⟨_, rfl⟩
  go_upto_region 8 with fail
  refine wp_here fun V5 hV5 => ?_
  have bV5 : Below V4.heap.size V4 V5 := by rw [hV5]; exact y5.more _
  clear aw0 az0 aw1 az1 aw2 az2 aw3 az3 aw4 az4 aw5 az5 aw6 az6 aw7 az7 aw8 az8 aw9 az9 aw10 az10 qa vw0 vz0 vw1 vz1 vw2 vz2 mw0 mz0 mw1 mz1 mw2 mz2 mw3 mz3 mw4 mz4 mw5 mz5 mw6 mz6 mw7 mz7 mw8 mz8 mw9 mz9 mw10 mz10 qm hw0 hz0 hw1 hz1 hw2 hz2 hw3 hz3 hw4 hz4 hw5 hz5 hw6 hz6 hw7 hz7 hw8 hz8 hw9 hz9 hw10 hz10 qh nw0 nz0 nw1 nz1 nw2 nz2 nw3 nz3 nw4 nz4 nw5 nz5 nw6 nz6 nw7 nz7 nw8 nz8 nw9 nz9 nw10 nz10 qn
  replace ka := ka.below bV5
  replace kv := kv.below bV5
  replace km := km.below bV5
  replace kh := kh.below bV5
  replace kn := kn.below bV5
  have ku : Blk V5 gy5 [.bool u.none, .bool u.lo, .bool u.olo, .bool u.l.t, .int .i64 u.l.n, .string u.l.s, .bool u.hi, .bool u.ohi, .bool u.h.t, .int .i64 u.h.n, .string u.h.s] := by rw [hV5]; exact Blk.new' (l := #[.bool u.none, .bool u.lo, .bool u.olo, .bool u.l.t, .int .i64 u.l.n, .string u.l.s, .bool u.hi, .bool u.ohi, .bool u.h.t, .int .i64 u.h.n, .string u.h.s]) hgy5.symm
  have BV5 : Below W.heap.size W V5 := below_then BV4 bV5
  clear hV5 hgy5
  have qa : Blk V5 (x.1.heap.size) (Sp.cells a) := ka
  obtain ⟨aw0, aw1, aw2, aw3, aw4, aw5, aw6, aw7, aw8, aw9, aw10⟩ := qa.c11
  have az0 := fun z : Lt V5 => z.cell aw0
  have az1 := fun z : Lt V5 => z.cell aw1
  have az2 := fun z : Lt V5 => z.cell aw2
  have az3 := fun z : Lt V5 => z.cell aw3
  have az4 := fun z : Lt V5 => z.cell aw4
  have az5 := fun z : Lt V5 => z.cell aw5
  have az6 := fun z : Lt V5 => z.cell aw6
  have az7 := fun z : Lt V5 => z.cell aw7
  have az8 := fun z : Lt V5 => z.cell aw8
  have az9 := fun z : Lt V5 => z.cell aw9
  have az10 := fun z : Lt V5 => z.cell aw10
  have vw0 := kv.cell 0 _ rfl
  have vw1 := kv.cell 1 _ rfl
  have vw2 := kv.cell 2 _ rfl
  have vz0 := fun z : Lt V5 => z.cell vw0
  have vz1 := fun z : Lt V5 => z.cell vw1
  have vz2 := fun z : Lt V5 => z.cell vw2
  have qm : Blk V5 gy2 (Sp.cells m) := km
  obtain ⟨mw0, mw1, mw2, mw3, mw4, mw5, mw6, mw7, mw8, mw9, mw10⟩ := qm.c11
  have mz0 := fun z : Lt V5 => z.cell mw0
  have mz1 := fun z : Lt V5 => z.cell mw1
  have mz2 := fun z : Lt V5 => z.cell mw2
  have mz3 := fun z : Lt V5 => z.cell mw3
  have mz4 := fun z : Lt V5 => z.cell mw4
  have mz5 := fun z : Lt V5 => z.cell mw5
  have mz6 := fun z : Lt V5 => z.cell mw6
  have mz7 := fun z : Lt V5 => z.cell mw7
  have mz8 := fun z : Lt V5 => z.cell mw8
  have mz9 := fun z : Lt V5 => z.cell mw9
  have mz10 := fun z : Lt V5 => z.cell mw10
  have qh : Blk V5 gy3 (Sp.cells h) := kh
  obtain ⟨hw0, hw1, hw2, hw3, hw4, hw5, hw6, hw7, hw8, hw9, hw10⟩ := qh.c11
  have hz0 := fun z : Lt V5 => z.cell hw0
  have hz1 := fun z : Lt V5 => z.cell hw1
  have hz2 := fun z : Lt V5 => z.cell hw2
  have hz3 := fun z : Lt V5 => z.cell hw3
  have hz4 := fun z : Lt V5 => z.cell hw4
  have hz5 := fun z : Lt V5 => z.cell hw5
  have hz6 := fun z : Lt V5 => z.cell hw6
  have hz7 := fun z : Lt V5 => z.cell hw7
  have hz8 := fun z : Lt V5 => z.cell hw8
  have hz9 := fun z : Lt V5 => z.cell hw9
  have hz10 := fun z : Lt V5 => z.cell hw10
  have qn : Blk V5 gy4 (Sp.cells n) := kn
  obtain ⟨nw0, nw1, nw2, nw3, nw4, nw5, nw6, nw7, nw8, nw9, nw10⟩ := qn.c11
  have nz0 := fun z : Lt V5 => z.cell nw0
  have nz1 := fun z : Lt V5 => z.cell nw1
  have nz2 := fun z : Lt V5 => z.cell nw2
  have nz3 := fun z : Lt V5 => z.cell nw3
  have nz4 := fun z : Lt V5 => z.cell nw4
  have nz5 := fun z : Lt V5 => z.cell nw5
  have nz6 := fun z : Lt V5 => z.cell nw6
  have nz7 := fun z : Lt V5 => z.cell nw7
  have nz8 := fun z : Lt V5 => z.cell nw8
  have nz9 := fun z : Lt V5 => z.cell nw9
  have nz10 := fun z : Lt V5 => z.cell nw10
  have qu : Blk V5 gy5 (Sp.cells u) := ku
  obtain ⟨uw0, uw1, uw2, uw3, uw4, uw5, uw6, uw7, uw8, uw9, uw10⟩ := qu.c11
  have uz0 := fun z : Lt V5 => z.cell uw0
  have uz1 := fun z : Lt V5 => z.cell uw1
  have uz2 := fun z : Lt V5 => z.cell uw2
  have uz3 := fun z : Lt V5 => z.cell uw3
  have uz4 := fun z : Lt V5 => z.cell uw4
  have uz5 := fun z : Lt V5 => z.cell uw5
  have uz6 := fun z : Lt V5 => z.cell uw6
  have uz7 := fun z : Lt V5 => z.cell uw7
  have uz8 := fun z : Lt V5 => z.cell uw8
  have uz9 := fun z : Lt V5 => z.cell uw9
  have uz10 := fun z : Lt V5 => z.cell uw10
  go_wp2_with fail
  refine (C5.out V5 (Lt.base V5)).mono ?_; rintro e w' ⟨rfl, y6, rfl⟩
  obtain ⟨gy6, hgy6⟩ : ∃ g, y6.1.heap.size = g := ⟨_, rfl⟩
  go_upto_region 9 with fail
  refine wp_here fun V6 hV6 => ?_
  have bV6 : Below V5.heap.size V5 V6 := by rw [hV6]; exact y6.2
  clear aw0 az0 aw1 az1 aw2 az2 aw3 az3 aw4 az4 aw5 az5 aw6 az6 aw7 az7 aw8 az8 aw9 az9 aw10 az10 qa vw0 vz0 vw1 vz1 vw2 vz2 mw0 mz0 mw1 mz1 mw2 mz2 mw3 mz3 mw4 mz4 mw5 mz5 mw6 mz6 mw7 mz7 mw8 mz8 mw9 mz9 mw10 mz10 qm hw0 hz0 hw1 hz1 hw2 hz2 hw3 hz3 hw4 hz4 hw5 hz5 hw6 hz6 hw7 hz7 hw8 hz8 hw9 hz9 hw10 hz10 qh nw0 nz0 nw1 nz1 nw2 nz2 nw3 nz3 nw4 nz4 nw5 nz5 nw6 nz6 nw7 nz7 nw8 nz8 nw9 nz9 nw10 nz10 qn uw0 uz0 uw1 uz1 uw2 uz2 uw3 uz3 uw4 uz4 uw5 uz5 uw6 uz6 uw7 uz7 uw8 uz8 uw9 uz9 uw10 uz10 qu
  replace ka := ka.below bV6
  replace kv := kv.below bV6
  replace km := km.below bV6
  replace kh := kh.below bV6
  replace kn := kn.below bV6
  replace ku := ku.below bV6
  have BV6 : Below W.heap.size W V6 := below_then BV5 bV6
  clear hV6 hgy6
  have qa : Blk V6 (x.1.heap.size) (Sp.cells a) := ka
  obtain ⟨aw0, aw1, aw2, aw3, aw4, aw5, aw6, aw7, aw8, aw9, aw10⟩ := qa.c11
  have az0 := fun z : Lt V6 => z.cell aw0
  have az1 := fun z : Lt V6 => z.cell aw1
  have az2 := fun z : Lt V6 => z.cell aw2
  have az3 := fun z : Lt V6 => z.cell aw3
  have az4 := fun z : Lt V6 => z.cell aw4
  have az5 := fun z : Lt V6 => z.cell aw5
  have az6 := fun z : Lt V6 => z.cell aw6
  have az7 := fun z : Lt V6 => z.cell aw7
  have az8 := fun z : Lt V6 => z.cell aw8
  have az9 := fun z : Lt V6 => z.cell aw9
  have az10 := fun z : Lt V6 => z.cell aw10
  have vw0 := kv.cell 0 _ rfl
  have vw1 := kv.cell 1 _ rfl
  have vw2 := kv.cell 2 _ rfl
  have vz0 := fun z : Lt V6 => z.cell vw0
  have vz1 := fun z : Lt V6 => z.cell vw1
  have vz2 := fun z : Lt V6 => z.cell vw2
  have qm : Blk V6 gy2 (Sp.cells m) := km
  obtain ⟨mw0, mw1, mw2, mw3, mw4, mw5, mw6, mw7, mw8, mw9, mw10⟩ := qm.c11
  have mz0 := fun z : Lt V6 => z.cell mw0
  have mz1 := fun z : Lt V6 => z.cell mw1
  have mz2 := fun z : Lt V6 => z.cell mw2
  have mz3 := fun z : Lt V6 => z.cell mw3
  have mz4 := fun z : Lt V6 => z.cell mw4
  have mz5 := fun z : Lt V6 => z.cell mw5
  have mz6 := fun z : Lt V6 => z.cell mw6
  have mz7 := fun z : Lt V6 => z.cell mw7
  have mz8 := fun z : Lt V6 => z.cell mw8
  have mz9 := fun z : Lt V6 => z.cell mw9
  have mz10 := fun z : Lt V6 => z.cell mw10
  have qh : Blk V6 gy3 (Sp.cells h) := kh
  obtain ⟨hw0, hw1, hw2, hw3, hw4, hw5, hw6, hw7, hw8, hw9, hw10⟩ := qh.c11
  have hz0 := fun z : Lt V6 => z.cell hw0
  have hz1 := fun z : Lt V6 => z.cell hw1
  have hz2 := fun z : Lt V6 => z.cell hw2
  have hz3 := fun z : Lt V6 => z.cell hw3
  have hz4 := fun z : Lt V6 => z.cell hw4
  have hz5 := fun z : Lt V6 => z.cell hw5
  have hz6 := fun z : Lt V6 => z.cell hw6
  have hz7 := fun z : Lt V6 => z.cell hw7
  have hz8 := fun z : Lt V6 => z.cell hw8
  have hz9 := fun z : Lt V6 => z.cell hw9
  have hz10 := fun z : Lt V6 => z.cell hw10
  have qn : Blk V6 gy4 (Sp.cells n) := kn
  obtain ⟨nw0, nw1, nw2, nw3, nw4, nw5, nw6, nw7, nw8, nw9, nw10⟩ := qn.c11
  have nz0 := fun z : Lt V6 => z.cell nw0
  have nz1 := fun z : Lt V6 => z.cell nw1
  have nz2 := fun z : Lt V6 => z.cell nw2
  have nz3 := fun z : Lt V6 => z.cell nw3
  have nz4 := fun z : Lt V6 => z.cell nw4
  have nz5 := fun z : Lt V6 => z.cell nw5
  have nz6 := fun z : Lt V6 => z.cell nw6
  have nz7 := fun z : Lt V6 => z.cell nw7
  have nz8 := fun z : Lt V6 => z.cell nw8
  have nz9 := fun z : Lt V6 => z.cell nw9
  have nz10 := fun z : Lt V6 => z.cell nw10
  have qu : Blk V6 gy5 (Sp.cells u) := ku
  obtain ⟨uw0, uw1, uw2, uw3, uw4, uw5, uw6, uw7, uw8, uw9, uw10⟩ := qu.c11
  have uz0 := fun z : Lt V6 => z.cell uw0
  have uz1 := fun z : Lt V6 => z.cell uw1
  have uz2 := fun z : Lt V6 => z.cell uw2
  have uz3 := fun z : Lt V6 => z.cell uw3
  have uz4 := fun z : Lt V6 => z.cell uw4
  have uz5 := fun z : Lt V6 => z.cell uw5
  have uz6 := fun z : Lt V6 => z.cell uw6
  have uz7 := fun z : Lt V6 => z.cell uw7
  have uz8 := fun z : Lt V6 => z.cell uw8
  have uz9 := fun z : Lt V6 => z.cell uw9
  have uz10 := fun z : Lt V6 => z.cell uw10
  cases i
  all_goals
    refine wp_region_here (by kernel_rfl) (by kernel_rfl) ?_
    repeat (go_big_quiet_step ((first | (go_at_call 17; with_reducible exact C6.out _ _) | (go_at_call 17; with_reducible exact C9.out _ _) | (go_at_call 21; with_reducible exact C7.out _ _) | (go_at_call 19; with_reducible exact C8.out _ _))))
    refine wpQuiet_nil ?_; intro _ hw'; obtain ⟨z, rfl⟩ := hw'
    go_wp2_with fail
    go_ret
    exact ⟨rfl, z.via BV6, rfl⟩
theorem normalSelf_any (a : Sp) (v : Val) (x : Lt W) : Calls Try.prog 9 #[a.val, .agg #[.bool v.t, .int .i64 v.n, .string v.s]] x.1 fun e w' => e = .returned (.bool true) ∧ ∃ y : Lt W, w' = y.1 :=
  normalSelf_go a _ _ _ _ v _ rfl rfl rfl rfl rfl (by rw [Sp.meet_self, Sp.hull_self]) (by rw [Sp.meet_self, Sp.within_clean]) (Sp.meet_none a) (by rw [Sp.meet_self, Sp.nothing_hull]) (by rw [Sp.meet_self]; exact Sp.full_meet a) (Sp.hull_full a) x
end Go.Proofs.Ytppoefbfepehpaa
