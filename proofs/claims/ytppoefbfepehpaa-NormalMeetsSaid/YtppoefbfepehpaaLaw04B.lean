/-
  The statement NormalMeets, walked: it returns true. Conditions: none.
-/
import Derived.Test.YtppoefbfepehpaaAwake04
namespace Go.Proofs.Ytppoefbfepehpaa
open Go.RowKit
variable {W : World}

set_option maxHeartbeats 2000000 in
theorem normalMeets_go (a b m h m2 h2 : Sp) (v : Val) (i j k n : Bool) (hi : a.within v = i) (hj : b.within v = j) (hm : a.meet b = m) (hh : a.hull b = h) (hm2 : b.meet a = m2) (hh2 : b.hull a = h2) (hk : h.within v = k) (hk2 : h2.within v = k)
    (hmv : m.within v = n) (hmv2 : m2.within v = n) (hno : m.none = true → m = Sp.nothing) (hc : i = true ∧ j = true ∧ k = true ∧ n = true ∨ i = true ∧ j = false ∧ k = true ∧ n = false ∨ i = false ∧ j = true ∧ k = true ∧ n = false ∨ i = false ∧ j = false ∧ k = true ∧ n = false ∨ i = false ∧ j = false ∧ k = false ∧ n = false) (x : Lt W) : Calls Try.prog 7 #[a.val, b.val, .agg #[.bool v.t, .int .i64 v.n, .string v.s]] x.1 fun e w' => e = .returned (.bool true) ∧ ∃ y : Lt W, w' = y.1 := by
  have C1 := Lib.hid (fun (W : World) (z : Lt W) => show Calls Try.prog 17 #[.agg #[.bool a.none, .bool a.lo, .bool a.olo, .bool a.l.t, .int .i64 a.l.n, .string a.l.s, .bool a.hi, .bool a.ohi, .bool a.h.t, .int .i64 a.h.n, .string a.h.s], .agg #[.bool v.t, .int .i64 v.n, .string v.s]] z.1 fun e w' => e = .returned (.bool i) ∧ ∃ y : Lt W, w' = y.1 from hi ▸ within_any a v z)
  have C2 := Lib.hid (fun (W : World) (z : Lt W) => show Calls Try.prog 17 #[.agg #[.bool b.none, .bool b.lo, .bool b.olo, .bool b.l.t, .int .i64 b.l.n, .string b.l.s, .bool b.hi, .bool b.ohi, .bool b.h.t, .int .i64 b.h.n, .string b.h.s], .agg #[.bool v.t, .int .i64 v.n, .string v.s]] z.1 fun e w' => e = .returned (.bool j) ∧ ∃ y : Lt W, w' = y.1 from hj ▸ within_any b v z)
  have C3 := Lib.hid (fun (W : World) (z : Lt W) => show Calls Try.prog 19 #[.agg #[.bool a.none, .bool a.lo, .bool a.olo, .bool a.l.t, .int .i64 a.l.n, .string a.l.s, .bool a.hi, .bool a.ohi, .bool a.h.t, .int .i64 a.h.n, .string a.h.s], .agg #[.bool b.none, .bool b.lo, .bool b.olo, .bool b.l.t, .int .i64 b.l.n, .string b.l.s, .bool b.hi, .bool b.ohi, .bool b.h.t, .int .i64 b.h.n, .string b.h.s]] z.1 fun e w' => e = .returned (.agg #[.bool m.none, .bool m.lo, .bool m.olo, .bool m.l.t, .int .i64 m.l.n, .string m.l.s, .bool m.hi, .bool m.ohi, .bool m.h.t, .int .i64 m.h.n, .string m.h.s]) ∧ ∃ y : Lt W, w' = y.1 from hm ▸ meet_any a b z)
  have C4 := Lib.hid (fun (W : World) (z : Lt W) => show Calls Try.prog 21 #[.agg #[.bool a.none, .bool a.lo, .bool a.olo, .bool a.l.t, .int .i64 a.l.n, .string a.l.s, .bool a.hi, .bool a.ohi, .bool a.h.t, .int .i64 a.h.n, .string a.h.s], .agg #[.bool b.none, .bool b.lo, .bool b.olo, .bool b.l.t, .int .i64 b.l.n, .string b.l.s, .bool b.hi, .bool b.ohi, .bool b.h.t, .int .i64 b.h.n, .string b.h.s]] z.1 fun e w' => e = .returned (.agg #[.bool h.none, .bool h.lo, .bool h.olo, .bool h.l.t, .int .i64 h.l.n, .string h.l.s, .bool h.hi, .bool h.ohi, .bool h.h.t, .int .i64 h.h.n, .string h.h.s]) ∧ ∃ y : Lt W, w' = y.1 from hh ▸ hull_any a b z)
  have C5 := Lib.hid (fun (W : World) (z : Lt W) => show Calls Try.prog 17 #[.agg #[.bool m.none, .bool m.lo, .bool m.olo, .bool m.l.t, .int .i64 m.l.n, .string m.l.s, .bool m.hi, .bool m.ohi, .bool m.h.t, .int .i64 m.h.n, .string m.h.s], .agg #[.bool v.t, .int .i64 v.n, .string v.s]] z.1 fun e w' => e = .returned (.bool n) ∧ ∃ y : Lt W, w' = y.1 from hmv ▸ within_any m v z)
  have C6 := Lib.hid (fun (W : World) (z : Lt W) => show Calls Try.prog 17 #[.agg #[.bool h.none, .bool h.lo, .bool h.olo, .bool h.l.t, .int .i64 h.l.n, .string h.l.s, .bool h.hi, .bool h.ohi, .bool h.h.t, .int .i64 h.h.n, .string h.h.s], .agg #[.bool v.t, .int .i64 v.n, .string v.s]] z.1 fun e w' => e = .returned (.bool k) ∧ ∃ y : Lt W, w' = y.1 from hk ▸ within_any h v z)
  have C7 := Lib.hid (fun (W : World) (z : Lt W) => show Calls Try.prog 19 #[.agg #[.bool b.none, .bool b.lo, .bool b.olo, .bool b.l.t, .int .i64 b.l.n, .string b.l.s, .bool b.hi, .bool b.ohi, .bool b.h.t, .int .i64 b.h.n, .string b.h.s], .agg #[.bool a.none, .bool a.lo, .bool a.olo, .bool a.l.t, .int .i64 a.l.n, .string a.l.s, .bool a.hi, .bool a.ohi, .bool a.h.t, .int .i64 a.h.n, .string a.h.s]] z.1 fun e w' => e = .returned (.agg #[.bool m2.none, .bool m2.lo, .bool m2.olo, .bool m2.l.t, .int .i64 m2.l.n, .string m2.l.s, .bool m2.hi, .bool m2.ohi, .bool m2.h.t, .int .i64 m2.h.n, .string m2.h.s]) ∧ ∃ y : Lt W, w' = y.1 from hm2 ▸ meet_any b a z)
  have C8 := Lib.hid (fun (W : World) (z : Lt W) => show Calls Try.prog 21 #[.agg #[.bool b.none, .bool b.lo, .bool b.olo, .bool b.l.t, .int .i64 b.l.n, .string b.l.s, .bool b.hi, .bool b.ohi, .bool b.h.t, .int .i64 b.h.n, .string b.h.s], .agg #[.bool a.none, .bool a.lo, .bool a.olo, .bool a.l.t, .int .i64 a.l.n, .string a.l.s, .bool a.hi, .bool a.ohi, .bool a.h.t, .int .i64 a.h.n, .string a.h.s]] z.1 fun e w' => e = .returned (.agg #[.bool h2.none, .bool h2.lo, .bool h2.olo, .bool h2.l.t, .int .i64 h2.l.n, .string h2.l.s, .bool h2.hi, .bool h2.ohi, .bool h2.h.t, .int .i64 h2.h.n, .string h2.h.s]) ∧ ∃ y : Lt W, w' = y.1 from hh2 ▸ hull_any b a z)
  have C9 := Lib.hid (fun (W : World) (z : Lt W) => show Calls Try.prog 17 #[.agg #[.bool m2.none, .bool m2.lo, .bool m2.olo, .bool m2.l.t, .int .i64 m2.l.n, .string m2.l.s, .bool m2.hi, .bool m2.ohi, .bool m2.h.t, .int .i64 m2.h.n, .string m2.h.s], .agg #[.bool v.t, .int .i64 v.n, .string v.s]] z.1 fun e w' => e = .returned (.bool n) ∧ ∃ y : Lt W, w' = y.1 from hmv2 ▸ within_any m2 v z)
  have C10 := Lib.hid (fun (W : World) (z : Lt W) => show Calls Try.prog 17 #[.agg #[.bool h2.none, .bool h2.lo, .bool h2.olo, .bool h2.l.t, .int .i64 h2.l.n, .string h2.l.s, .bool h2.hi, .bool h2.ohi, .bool h2.h.t, .int .i64 h2.h.n, .string h2.h.s], .agg #[.bool v.t, .int .i64 v.n, .string v.s]] z.1 fun e w' => e = .returned (.bool k) ∧ ∃ y : Lt W, w' = y.1 from hk2 ▸ within_any h2 v z)
  have AW := Lib.hid (fun (W : World) (z : Lt W) => awake_any z)
  have HNO := Lib.hid hno
  clear hi hj hm hh hm2 hh2 hk hk2 hmv hmv2 hno
  go_enter Try.func7, Try.ntmps7
  go_wp2_with fail
  refine calls_here fun W1 hW1 => ?_
  have hb1 : Below W.heap.size W W1 := by rw [hW1]; exact below_then (below_then (x.more _) (below_alloc _)) (below_alloc _)
  have ka : Blk W1 (x.1.heap.size) [.bool a.none, .bool a.lo, .bool a.olo, .bool a.l.t, .int .i64 a.l.n, .string a.l.s, .bool a.hi, .bool a.ohi, .bool a.h.t, .int .i64 a.h.n, .string a.h.s] := by rw [hW1]; refine Blk.alloc ?_ _; refine Blk.alloc ?_ _; exact Blk.new' (l := #[.bool a.none, .bool a.lo, .bool a.olo, .bool a.l.t, .int .i64 a.l.n, .string a.l.s, .bool a.hi, .bool a.ohi, .bool a.h.t, .int .i64 a.h.n, .string a.h.s]) (by simp)
  have kb : Blk W1 (x.1.heap.size + 1) [.bool b.none, .bool b.lo, .bool b.olo, .bool b.l.t, .int .i64 b.l.n, .string b.l.s, .bool b.hi, .bool b.ohi, .bool b.h.t, .int .i64 b.h.n, .string b.h.s] := by rw [hW1]; refine Blk.alloc ?_ _; exact Blk.new' (l := #[.bool b.none, .bool b.lo, .bool b.olo, .bool b.l.t, .int .i64 b.l.n, .string b.l.s, .bool b.hi, .bool b.ohi, .bool b.h.t, .int .i64 b.h.n, .string b.h.s]) (by simp)
  have kv : Blk W1 (x.1.heap.size + 1 + 1) [.bool v.t, .int .i64 v.n, .string v.s] := by rw [hW1]; exact Blk.new' (l := #[.bool v.t, .int .i64 v.n, .string v.s]) (by simp)
  clear hW1
  have qa : Blk W1 (x.1.heap.size) (Sp.cells a) := ka
  obtain ⟨aw0, aw1, aw2, aw3, aw4, aw5, aw6, aw7, aw8, aw9, aw10⟩ := qa.c11
  have az0 := fun z : Lt W1 => z.cell aw0
  have az1 := fun z : Lt W1 => z.cell aw1
  have az2 := fun z : Lt W1 => z.cell aw2
  have az3 := fun z : Lt W1 => z.cell aw3
  have az4 := fun z : Lt W1 => z.cell aw4
  have az5 := fun z : Lt W1 => z.cell aw5
  have az6 := fun z : Lt W1 => z.cell aw6
  have az7 := fun z : Lt W1 => z.cell aw7
  have az8 := fun z : Lt W1 => z.cell aw8
  have az9 := fun z : Lt W1 => z.cell aw9
  have az10 := fun z : Lt W1 => z.cell aw10
  have qb : Blk W1 (x.1.heap.size + 1) (Sp.cells b) := kb
  obtain ⟨bw0, bw1, bw2, bw3, bw4, bw5, bw6, bw7, bw8, bw9, bw10⟩ := qb.c11
  have bz0 := fun z : Lt W1 => z.cell bw0
  have bz1 := fun z : Lt W1 => z.cell bw1
  have bz2 := fun z : Lt W1 => z.cell bw2
  have bz3 := fun z : Lt W1 => z.cell bw3
  have bz4 := fun z : Lt W1 => z.cell bw4
  have bz5 := fun z : Lt W1 => z.cell bw5
  have bz6 := fun z : Lt W1 => z.cell bw6
  have bz7 := fun z : Lt W1 => z.cell bw7
  have bz8 := fun z : Lt W1 => z.cell bw8
  have bz9 := fun z : Lt W1 => z.cell bw9
  have bz10 := fun z : Lt W1 => z.cell bw10
  have vw0 := kv.cell 0 _ rfl
  have vw1 := kv.cell 1 _ rfl
  have vw2 := kv.cell 2 _ rfl
  have vz0 := fun z : Lt W1 => z.cell vw0
  have vz1 := fun z : Lt W1 => z.cell vw1
  have vz2 := fun z : Lt W1 => z.cell vw2
  refine (AW.out W1 (Lt.base W1)).mono ?_; rintro e w' ⟨rfl, y1, rfl⟩
  obtain ⟨gy1, hgy1⟩ : ∃ g, y1.1.heap.size = g := ⟨_, rfl⟩
  go_upto_region 2 with fail
  refine wp_here fun V1 hV1 => ?_
  have bV1 : Below W1.heap.size W1 V1 := by rw [hV1]; exact y1.2
  clear aw0 az0 aw1 az1 aw2 az2 aw3 az3 aw4 az4 aw5 az5 aw6 az6 aw7 az7 aw8 az8 aw9 az9 aw10 az10 qa bw0 bz0 bw1 bz1 bw2 bz2 bw3 bz3 bw4 bz4 bw5 bz5 bw6 bz6 bw7 bz7 bw8 bz8 bw9 bz9 bw10 bz10 qb vw0 vz0 vw1 vz1 vw2 vz2
  replace ka := ka.below bV1
  replace kb := kb.below bV1
  replace kv := kv.below bV1
  have BV1 : Below W.heap.size W V1 := below_then hb1 bV1
  clear hV1 hgy1
  have qa : Blk V1 (x.1.heap.size) (Sp.cells a) := ka
  obtain ⟨aw0, aw1, aw2, aw3, aw4, aw5, aw6, aw7, aw8, aw9, aw10⟩ := qa.c11
  have az0 := fun z : Lt V1 => z.cell aw0
  have az1 := fun z : Lt V1 => z.cell aw1
  have az2 := fun z : Lt V1 => z.cell aw2
  have az3 := fun z : Lt V1 => z.cell aw3
  have az4 := fun z : Lt V1 => z.cell aw4
  have az5 := fun z : Lt V1 => z.cell aw5
  have az6 := fun z : Lt V1 => z.cell aw6
  have az7 := fun z : Lt V1 => z.cell aw7
  have az8 := fun z : Lt V1 => z.cell aw8
  have az9 := fun z : Lt V1 => z.cell aw9
  have az10 := fun z : Lt V1 => z.cell aw10
  have qb : Blk V1 (x.1.heap.size + 1) (Sp.cells b) := kb
  obtain ⟨bw0, bw1, bw2, bw3, bw4, bw5, bw6, bw7, bw8, bw9, bw10⟩ := qb.c11
  have bz0 := fun z : Lt V1 => z.cell bw0
  have bz1 := fun z : Lt V1 => z.cell bw1
  have bz2 := fun z : Lt V1 => z.cell bw2
  have bz3 := fun z : Lt V1 => z.cell bw3
  have bz4 := fun z : Lt V1 => z.cell bw4
  have bz5 := fun z : Lt V1 => z.cell bw5
  have bz6 := fun z : Lt V1 => z.cell bw6
  have bz7 := fun z : Lt V1 => z.cell bw7
  have bz8 := fun z : Lt V1 => z.cell bw8
  have bz9 := fun z : Lt V1 => z.cell bw9
  have bz10 := fun z : Lt V1 => z.cell bw10
  have vw0 := kv.cell 0 _ rfl
  have vw1 := kv.cell 1 _ rfl
  have vw2 := kv.cell 2 _ rfl
  have vz0 := fun z : Lt V1 => z.cell vw0
  have vz1 := fun z : Lt V1 => z.cell vw1
  have vz2 := fun z : Lt V1 => z.cell vw2
  go_wp2_with fail
  refine (C1.out V1 (Lt.base V1)).mono ?_; rintro e w' ⟨rfl, y2, rfl⟩
  obtain ⟨gy2, hgy2⟩ : ∃ g, y2.1.heap.size = g := ⟨_, rfl⟩
  go_upto_region 5 with fail
  refine wp_here fun V2 hV2 => ?_
  have bV2 : Below V1.heap.size V1 V2 := by rw [hV2]; exact y2.2
  clear aw0 az0 aw1 az1 aw2 az2 aw3 az3 aw4 az4 aw5 az5 aw6 az6 aw7 az7 aw8 az8 aw9 az9 aw10 az10 qa bw0 bz0 bw1 bz1 bw2 bz2 bw3 bz3 bw4 bz4 bw5 bz5 bw6 bz6 bw7 bz7 bw8 bz8 bw9 bz9 bw10 bz10 qb vw0 vz0 vw1 vz1 vw2 vz2
  replace ka := ka.below bV2
  replace kb := kb.below bV2
  replace kv := kv.below bV2
  have BV2 : Below W.heap.size W V2 := below_then BV1 bV2
  clear hV2 hgy2
  have qa : Blk V2 (x.1.heap.size) (Sp.cells a) := ka
  obtain ⟨aw0, aw1, aw2, aw3, aw4, aw5, aw6, aw7, aw8, aw9, aw10⟩ := qa.c11
  have az0 := fun z : Lt V2 => z.cell aw0
  have az1 := fun z : Lt V2 => z.cell aw1
  have az2 := fun z : Lt V2 => z.cell aw2
  have az3 := fun z : Lt V2 => z.cell aw3
  have az4 := fun z : Lt V2 => z.cell aw4
  have az5 := fun z : Lt V2 => z.cell aw5
  have az6 := fun z : Lt V2 => z.cell aw6
  have az7 := fun z : Lt V2 => z.cell aw7
  have az8 := fun z : Lt V2 => z.cell aw8
  have az9 := fun z : Lt V2 => z.cell aw9
  have az10 := fun z : Lt V2 => z.cell aw10
  have qb : Blk V2 (x.1.heap.size + 1) (Sp.cells b) := kb
  obtain ⟨bw0, bw1, bw2, bw3, bw4, bw5, bw6, bw7, bw8, bw9, bw10⟩ := qb.c11
  have bz0 := fun z : Lt V2 => z.cell bw0
  have bz1 := fun z : Lt V2 => z.cell bw1
  have bz2 := fun z : Lt V2 => z.cell bw2
  have bz3 := fun z : Lt V2 => z.cell bw3
  have bz4 := fun z : Lt V2 => z.cell bw4
  have bz5 := fun z : Lt V2 => z.cell bw5
  have bz6 := fun z : Lt V2 => z.cell bw6
  have bz7 := fun z : Lt V2 => z.cell bw7
  have bz8 := fun z : Lt V2 => z.cell bw8
  have bz9 := fun z : Lt V2 => z.cell bw9
  have bz10 := fun z : Lt V2 => z.cell bw10
  have vw0 := kv.cell 0 _ rfl
  have vw1 := kv.cell 1 _ rfl
  have vw2 := kv.cell 2 _ rfl
  have vz0 := fun z : Lt V2 => z.cell vw0
  have vz1 := fun z : Lt V2 => z.cell vw1
  have vz2 := fun z : Lt V2 => z.cell vw2
  go_wp2_with fail
  refine (C2.out V2 (Lt.base V2)).mono ?_; rintro e w' ⟨rfl, y3, rfl⟩
  obtain ⟨gy3, hgy3⟩ : ∃ g, y3.1.heap.size = g := ⟨_, rfl⟩
  go_upto_region 6 with fail
  refine wp_here fun V3 hV3 => ?_
  have bV3 : Below V2.heap.size V2 V3 := by rw [hV3]; exact y3.2
  clear aw0 az0 aw1 az1 aw2 az2 aw3 az3 aw4 az4 aw5 az5 aw6 az6 aw7 az7 aw8 az8 aw9 az9 aw10 az10 qa bw0 bz0 bw1 bz1 bw2 bz2 bw3 bz3 bw4 bz4 bw5 bz5 bw6 bz6 bw7 bz7 bw8 bz8 bw9 bz9 bw10 bz10 qb vw0 vz0 vw1 vz1 vw2 vz2
  replace ka := ka.below bV3
  replace kb := kb.below bV3
  replace kv := kv.below bV3
  have BV3 : Below W.heap.size W V3 := below_then BV2 bV3
  clear hV3 hgy3
  have qa : Blk V3 (x.1.heap.size) (Sp.cells a) := ka
  obtain ⟨aw0, aw1, aw2, aw3, aw4, aw5, aw6, aw7, aw8, aw9, aw10⟩ := qa.c11
  have az0 := fun z : Lt V3 => z.cell aw0
  have az1 := fun z : Lt V3 => z.cell aw1
  have az2 := fun z : Lt V3 => z.cell aw2
  have az3 := fun z : Lt V3 => z.cell aw3
  have az4 := fun z : Lt V3 => z.cell aw4
  have az5 := fun z : Lt V3 => z.cell aw5
  have az6 := fun z : Lt V3 => z.cell aw6
  have az7 := fun z : Lt V3 => z.cell aw7
  have az8 := fun z : Lt V3 => z.cell aw8
  have az9 := fun z : Lt V3 => z.cell aw9
  have az10 := fun z : Lt V3 => z.cell aw10
  have qb : Blk V3 (x.1.heap.size + 1) (Sp.cells b) := kb
  obtain ⟨bw0, bw1, bw2, bw3, bw4, bw5, bw6, bw7, bw8, bw9, bw10⟩ := qb.c11
  have bz0 := fun z : Lt V3 => z.cell bw0
  have bz1 := fun z : Lt V3 => z.cell bw1
  have bz2 := fun z : Lt V3 => z.cell bw2
  have bz3 := fun z : Lt V3 => z.cell bw3
  have bz4 := fun z : Lt V3 => z.cell bw4
  have bz5 := fun z : Lt V3 => z.cell bw5
  have bz6 := fun z : Lt V3 => z.cell bw6
  have bz7 := fun z : Lt V3 => z.cell bw7
  have bz8 := fun z : Lt V3 => z.cell bw8
  have bz9 := fun z : Lt V3 => z.cell bw9
  have bz10 := fun z : Lt V3 => z.cell bw10
  have vw0 := kv.cell 0 _ rfl
  have vw1 := kv.cell 1 _ rfl
  have vw2 := kv.cell 2 _ rfl
  have vz0 := fun z : Lt V3 => z.cell vw0
  have vz1 := fun z : Lt V3 => z.cell vw1
  have vz2 := fun z : Lt V3 => z.cell vw2
  go_wp2_with fail
  refine (C3.out V3 (Lt.base V3)).mono ?_; rintro e w' ⟨rfl, y4, rfl⟩
  obtain ⟨gy4, hgy4⟩ : ∃ g, y4.1.heap.size = g := ⟨_, rfl⟩
  go_upto_region 7 with fail
  refine wp_here fun V4 hV4 => ?_
  have bV4 : Below V3.heap.size V3 V4 := by rw [hV4]; exact y4.more _
  clear aw0 az0 aw1 az1 aw2 az2 aw3 az3 aw4 az4 aw5 az5 aw6 az6 aw7 az7 aw8 az8 aw9 az9 aw10 az10 qa bw0 bz0 bw1 bz1 bw2 bz2 bw3 bz3 bw4 bz4 bw5 bz5 bw6 bz6 bw7 bz7 bw8 bz8 bw9 bz9 bw10 bz10 qb vw0 vz0 vw1 vz1 vw2 vz2
  replace ka := ka.below bV4
  replace kb := kb.below bV4
  replace kv := kv.below bV4
  have km : Blk V4 gy4 [.bool m.none, .bool m.lo, .bool m.olo, .bool m.l.t, .int .i64 m.l.n, .string m.l.s, .bool m.hi, .bool m.ohi, .bool m.h.t, .int .i64 m.h.n, .string m.h.s] := by rw [hV4]; exact Blk.new' (l := #[.bool m.none, .bool m.lo, .bool m.olo, .bool m.l.t, .int .i64 m.l.n, .string m.l.s, .bool m.hi, .bool m.ohi, .bool m.h.t, .int .i64 m.h.n, .string m.h.s]) hgy4.symm
  have BV4 : Below W.heap.size W V4 := below_then BV3 bV4
  clear hV4 hgy4
  have qa : Blk V4 (x.1.heap.size) (Sp.cells a) := ka
  obtain ⟨aw0, aw1, aw2, aw3, aw4, aw5, aw6, aw7, aw8, aw9, aw10⟩ := qa.c11
  have az0 := fun z : Lt V4 => z.cell aw0
  have az1 := fun z : Lt V4 => z.cell aw1
  have az2 := fun z : Lt V4 => z.cell aw2
  have az3 := fun z : Lt V4 => z.cell aw3
  have az4 := fun z : Lt V4 => z.cell aw4
  have az5 := fun z : Lt V4 => z.cell aw5
  have az6 := fun z : Lt V4 => z.cell aw6
  have az7 := fun z : Lt V4 => z.cell aw7
  have az8 := fun z : Lt V4 => z.cell aw8
  have az9 := fun z : Lt V4 => z.cell aw9
  have az10 := fun z : Lt V4 => z.cell aw10
  have qb : Blk V4 (x.1.heap.size + 1) (Sp.cells b) := kb
  obtain ⟨bw0, bw1, bw2, bw3, bw4, bw5, bw6, bw7, bw8, bw9, bw10⟩ := qb.c11
  have bz0 := fun z : Lt V4 => z.cell bw0
  have bz1 := fun z : Lt V4 => z.cell bw1
  have bz2 := fun z : Lt V4 => z.cell bw2
  have bz3 := fun z : Lt V4 => z.cell bw3
  have bz4 := fun z : Lt V4 => z.cell bw4
  have bz5 := fun z : Lt V4 => z.cell bw5
  have bz6 := fun z : Lt V4 => z.cell bw6
  have bz7 := fun z : Lt V4 => z.cell bw7
  have bz8 := fun z : Lt V4 => z.cell bw8
  have bz9 := fun z : Lt V4 => z.cell bw9
  have bz10 := fun z : Lt V4 => z.cell bw10
  have vw0 := kv.cell 0 _ rfl
  have vw1 := kv.cell 1 _ rfl
  have vw2 := kv.cell 2 _ rfl
  have vz0 := fun z : Lt V4 => z.cell vw0
  have vz1 := fun z : Lt V4 => z.cell vw1
  have vz2 := fun z : Lt V4 => z.cell vw2
  have qm : Blk V4 gy4 (Sp.cells m) := km
  obtain ⟨mw0, mw1, mw2, mw3, mw4, mw5, mw6, mw7, mw8, mw9, mw10⟩ := qm.c11
  have mz0 := fun z : Lt V4 => z.cell mw0
  have mz1 := fun z : Lt V4 => z.cell mw1
  have mz2 := fun z : Lt V4 => z.cell mw2
  have mz3 := fun z : Lt V4 => z.cell mw3
  have mz4 := fun z : Lt V4 => z.cell mw4
  have mz5 := fun z : Lt V4 => z.cell mw5
  have mz6 := fun z : Lt V4 => z.cell mw6
  have mz7 := fun z : Lt V4 => z.cell mw7
  have mz8 := fun z : Lt V4 => z.cell mw8
  have mz9 := fun z : Lt V4 => z.cell mw9
  have mz10 := fun z : Lt V4 => z.cell mw10
  go_wp2_with fail
  refine (C4.out V4 (Lt.base V4)).mono ?_; rintro e w' ⟨rfl, y5, rfl⟩
  obtain ⟨gy5, hgy5⟩ : ∃ g, y5.1.heap.size = g := ⟨_, rfl⟩
  go_upto_region 8 with fail
  refine wp_here fun V5 hV5 => ?_
  have bV5 : Below V4.heap.size V4 V5 := by rw [hV5]; exact y5.more _
  clear aw0 az0 aw1 az1 aw2 az2 aw3 az3 aw4 az4 aw5 az5 aw6 az6 aw7 az7 aw8 az8 aw9 az9 aw10 az10 qa bw0 bz0 bw1 bz1 bw2 bz2 bw3 bz3 bw4 bz4 bw5 bz5 bw6 bz6 bw7 bz7 bw8 bz8 bw9 bz9 bw10 bz10 qb vw0 vz0 vw1 vz1 vw2 vz2 mw0 mz0 mw1 mz1 mw2 mz2 mw3 mz3 mw4 mz4 mw5 mz5 mw6 mz6 mw7 mz7 mw8 mz8 mw9 mz9 mw10 mz10 qm
  replace ka := ka.below bV5
  replace kb := kb.below bV5
  replace kv := kv.below bV5
  replace km := km.below bV5
  have kh : Blk V5 gy5 [.bool h.none, .bool h.lo, .bool h.olo, .bool h.l.t, .int .i64 h.l.n, .string h.l.s, .bool h.hi, .bool h.ohi, .bool h.h.t, .int .i64 h.h.n, .string h.h.s] := by rw [hV5]; exact Blk.new' (l := #[.bool h.none, .bool h.lo, .bool h.olo, .bool h.l.t, .int .i64 h.l.n, .string h.l.s, .bool h.hi, .bool h.ohi, .bool h.h.t, .int .i64 h.h.n, .string h.h.s]) hgy5.symm
  have BV5 : Below W.heap.size W V5 := below_then BV4 bV5
  clear hV5 hgy5
  have qa : Blk V5 (x.1.heap.size) (Sp.cells a) := ka
  obtain ⟨aw0, aw1, aw2, aw3, aw4, aw5, aw6, aw7, aw8, aw9, aw10⟩ := qa.c11
  have az0 := fun z : Lt V5 => z.cell aw0
  have az1 := fun z : Lt V5 => z.cell aw1
  have az2 := fun z : Lt V5 => z.cell aw2
  have az3 := fun z : Lt V5 => z.cell aw3
  have az4 := fun z : Lt V5 => z.cell aw4
  have az5 := fun z : Lt V5 => z.cell aw5
  have az6 := fun z : Lt V5 => z.cell aw6
  have az7 := fun z : Lt V5 => z.cell aw7
  have az8 := fun z : Lt V5 => z.cell aw8
  have az9 := fun z : Lt V5 => z.cell aw9
  have az10 := fun z : Lt V5 => z.cell aw10
  have qb : Blk V5 (x.1.heap.size + 1) (Sp.cells b) := kb
  obtain ⟨bw0, bw1, bw2, bw3, bw4, bw5, bw6, bw7, bw8, bw9, bw10⟩ := qb.c11
  have bz0 := fun z : Lt V5 => z.cell bw0
  have bz1 := fun z : Lt V5 => z.cell bw1
  have bz2 := fun z : Lt V5 => z.cell bw2
  have bz3 := fun z : Lt V5 => z.cell bw3
  have bz4 := fun z : Lt V5 => z.cell bw4
  have bz5 := fun z : Lt V5 => z.cell bw5
  have bz6 := fun z : Lt V5 => z.cell bw6
  have bz7 := fun z : Lt V5 => z.cell bw7
  have bz8 := fun z : Lt V5 => z.cell bw8
  have bz9 := fun z : Lt V5 => z.cell bw9
  have bz10 := fun z : Lt V5 => z.cell bw10
  have vw0 := kv.cell 0 _ rfl
  have vw1 := kv.cell 1 _ rfl
  have vw2 := kv.cell 2 _ rfl
  have vz0 := fun z : Lt V5 => z.cell vw0
  have vz1 := fun z : Lt V5 => z.cell vw1
  have vz2 := fun z : Lt V5 => z.cell vw2
  have qm : Blk V5 gy4 (Sp.cells m) := km
  obtain ⟨mw0, mw1, mw2, mw3, mw4, mw5, mw6, mw7, mw8, mw9, mw10⟩ := qm.c11
  have mz0 := fun z : Lt V5 => z.cell mw0
  have mz1 := fun z : Lt V5 => z.cell mw1
  have mz2 := fun z : Lt V5 => z.cell mw2
  have mz3 := fun z : Lt V5 => z.cell mw3
  have mz4 := fun z : Lt V5 => z.cell mw4
  have mz5 := fun z : Lt V5 => z.cell mw5
  have mz6 := fun z : Lt V5 => z.cell mw6
  have mz7 := fun z : Lt V5 => z.cell mw7
  have mz8 := fun z : Lt V5 => z.cell mw8
  have mz9 := fun z : Lt V5 => z.cell mw9
  have mz10 := fun z : Lt V5 => z.cell mw10
  have qh : Blk V5 gy5 (Sp.cells h) := kh
  obtain ⟨hw0, hw1, hw2, hw3, hw4, hw5, hw6, hw7, hw8, hw9, hw10⟩ := qh.c11
  have hz0 := fun z : Lt V5 => z.cell hw0
  have hz1 := fun z : Lt V5 => z.cell hw1
  have hz2 := fun z : Lt V5 => z.cell hw2
  have hz3 := fun z : Lt V5 => z.cell hw3
  have hz4 := fun z : Lt V5 => z.cell hw4
  have hz5 := fun z : Lt V5 => z.cell hw5
  have hz6 := fun z : Lt V5 => z.cell hw6
  have hz7 := fun z : Lt V5 => z.cell hw7
  have hz8 := fun z : Lt V5 => z.cell hw8
  have hz9 := fun z : Lt V5 => z.cell hw9
  have hz10 := fun z : Lt V5 => z.cell hw10
  rcases hc with ⟨rfl, rfl, rfl, rfl⟩ | ⟨rfl, rfl, rfl, rfl⟩ | ⟨rfl, rfl, rfl, rfl⟩ | ⟨rfl, rfl, rfl, rfl⟩ | ⟨rfl, rfl, rfl, rfl⟩
  · go_wp2_with fail
    refine (C5.out V5 (Lt.base V5)).mono ?_; rintro e w' ⟨rfl, ya, rfl⟩
    go_wp2_with fail
    refine (C6.out V5 ya).mono ?_; rintro e w' ⟨rfl, ya, rfl⟩
    go_wp2_with fail
    refine (C7.out V5 ya).mono ?_; rintro e w' ⟨rfl, y6, rfl⟩
    obtain ⟨gy6, hgy6⟩ : ∃ g, y6.1.heap.size = g := ⟨_, rfl⟩
    go_upto_region 11 with fail
    refine wp_here fun V6 hV6 => ?_
    have bV6 : Below V5.heap.size V5 V6 := by rw [hV6]; exact y6.more _
    clear aw0 az0 aw1 az1 aw2 az2 aw3 az3 aw4 az4 aw5 az5 aw6 az6 aw7 az7 aw8 az8 aw9 az9 aw10 az10 qa bw0 bz0 bw1 bz1 bw2 bz2 bw3 bz3 bw4 bz4 bw5 bz5 bw6 bz6 bw7 bz7 bw8 bz8 bw9 bz9 bw10 bz10 qb vw0 vz0 vw1 vz1 vw2 vz2 mw0 mz0 mw1 mz1 mw2 mz2 mw3 mz3 mw4 mz4 mw5 mz5 mw6 mz6 mw7 mz7 mw8 mz8 mw9 mz9 mw10 mz10 qm hw0 hz0 hw1 hz1 hw2 hz2 hw3 hz3 hw4 hz4 hw5 hz5 hw6 hz6 hw7 hz7 hw8 hz8 hw9 hz9 hw10 hz10 qh
    replace ka := ka.below bV6
    replace kb := kb.below bV6
    replace kv := kv.below bV6
    replace km := km.below bV6
    replace kh := kh.below bV6
    have km2 : Blk V6 gy6 [.bool m2.none, .bool m2.lo, .bool m2.olo, .bool m2.l.t, .int .i64 m2.l.n, .string m2.l.s, .bool m2.hi, .bool m2.ohi, .bool m2.h.t, .int .i64 m2.h.n, .string m2.h.s] := by rw [hV6]; exact Blk.new' (l := #[.bool m2.none, .bool m2.lo, .bool m2.olo, .bool m2.l.t, .int .i64 m2.l.n, .string m2.l.s, .bool m2.hi, .bool m2.ohi, .bool m2.h.t, .int .i64 m2.h.n, .string m2.h.s]) hgy6.symm
    have BV6 : Below W.heap.size W V6 := below_then BV5 bV6
    clear hV6 hgy6
    have qa : Blk V6 (x.1.heap.size) (Sp.cells a) := ka
    obtain ⟨aw0, aw1, aw2, aw3, aw4, aw5, aw6, aw7, aw8, aw9, aw10⟩ := qa.c11
    have az0 := fun z : Lt V6 => z.cell aw0
    have az1 := fun z : Lt V6 => z.cell aw1
    have az2 := fun z : Lt V6 => z.cell aw2
    have az3 := fun z : Lt V6 => z.cell aw3
    have az4 := fun z : Lt V6 => z.cell aw4
    have az5 := fun z : Lt V6 => z.cell aw5
    have az6 := fun z : Lt V6 => z.cell aw6
    have az7 := fun z : Lt V6 => z.cell aw7
    have az8 := fun z : Lt V6 => z.cell aw8
    have az9 := fun z : Lt V6 => z.cell aw9
    have az10 := fun z : Lt V6 => z.cell aw10
    have qb : Blk V6 (x.1.heap.size + 1) (Sp.cells b) := kb
    obtain ⟨bw0, bw1, bw2, bw3, bw4, bw5, bw6, bw7, bw8, bw9, bw10⟩ := qb.c11
    have bz0 := fun z : Lt V6 => z.cell bw0
    have bz1 := fun z : Lt V6 => z.cell bw1
    have bz2 := fun z : Lt V6 => z.cell bw2
    have bz3 := fun z : Lt V6 => z.cell bw3
    have bz4 := fun z : Lt V6 => z.cell bw4
    have bz5 := fun z : Lt V6 => z.cell bw5
    have bz6 := fun z : Lt V6 => z.cell bw6
    have bz7 := fun z : Lt V6 => z.cell bw7
    have bz8 := fun z : Lt V6 => z.cell bw8
    have bz9 := fun z : Lt V6 => z.cell bw9
    have bz10 := fun z : Lt V6 => z.cell bw10
    have vw0 := kv.cell 0 _ rfl
    have vw1 := kv.cell 1 _ rfl
    have vw2 := kv.cell 2 _ rfl
    have vz0 := fun z : Lt V6 => z.cell vw0
    have vz1 := fun z : Lt V6 => z.cell vw1
    have vz2 := fun z : Lt V6 => z.cell vw2
    have qm : Blk V6 gy4 (Sp.cells m) := km
    obtain ⟨mw0, mw1, mw2, mw3, mw4, mw5, mw6, mw7, mw8, mw9, mw10⟩ := qm.c11
    have mz0 := fun z : Lt V6 => z.cell mw0
    have mz1 := fun z : Lt V6 => z.cell mw1
    have mz2 := fun z : Lt V6 => z.cell mw2
    have mz3 := fun z : Lt V6 => z.cell mw3
    have mz4 := fun z : Lt V6 => z.cell mw4
    have mz5 := fun z : Lt V6 => z.cell mw5
    have mz6 := fun z : Lt V6 => z.cell mw6
    have mz7 := fun z : Lt V6 => z.cell mw7
    have mz8 := fun z : Lt V6 => z.cell mw8
    have mz9 := fun z : Lt V6 => z.cell mw9
    have mz10 := fun z : Lt V6 => z.cell mw10
    have qh : Blk V6 gy5 (Sp.cells h) := kh
    obtain ⟨hw0, hw1, hw2, hw3, hw4, hw5, hw6, hw7, hw8, hw9, hw10⟩ := qh.c11
    have hz0 := fun z : Lt V6 => z.cell hw0
    have hz1 := fun z : Lt V6 => z.cell hw1
    have hz2 := fun z : Lt V6 => z.cell hw2
    have hz3 := fun z : Lt V6 => z.cell hw3
    have hz4 := fun z : Lt V6 => z.cell hw4
    have hz5 := fun z : Lt V6 => z.cell hw5
    have hz6 := fun z : Lt V6 => z.cell hw6
    have hz7 := fun z : Lt V6 => z.cell hw7
    have hz8 := fun z : Lt V6 => z.cell hw8
    have hz9 := fun z : Lt V6 => z.cell hw9
    have hz10 := fun z : Lt V6 => z.cell hw10
    have qm2 : Blk V6 gy6 (Sp.cells m2) := km2
    obtain ⟨m2w0, m2w1, m2w2, m2w3, m2w4, m2w5, m2w6, m2w7, m2w8, m2w9, m2w10⟩ := qm2.c11
    have m2z0 := fun z : Lt V6 => z.cell m2w0
    have m2z1 := fun z : Lt V6 => z.cell m2w1
    have m2z2 := fun z : Lt V6 => z.cell m2w2
    have m2z3 := fun z : Lt V6 => z.cell m2w3
    have m2z4 := fun z : Lt V6 => z.cell m2w4
    have m2z5 := fun z : Lt V6 => z.cell m2w5
    have m2z6 := fun z : Lt V6 => z.cell m2w6
    have m2z7 := fun z : Lt V6 => z.cell m2w7
    have m2z8 := fun z : Lt V6 => z.cell m2w8
    have m2z9 := fun z : Lt V6 => z.cell m2w9
    have m2z10 := fun z : Lt V6 => z.cell m2w10
    go_wp2_with fail
    refine (C8.out V6 (Lt.base V6)).mono ?_; rintro e w' ⟨rfl, y7, rfl⟩
    obtain ⟨gy7, hgy7⟩ : ∃ g, y7.1.heap.size = g := ⟨_, rfl⟩
    go_upto_region 12 with fail
    refine wp_here fun V7 hV7 => ?_
    have bV7 : Below V6.heap.size V6 V7 := by rw [hV7]; exact y7.more _
    clear aw0 az0 aw1 az1 aw2 az2 aw3 az3 aw4 az4 aw5 az5 aw6 az6 aw7 az7 aw8 az8 aw9 az9 aw10 az10 qa bw0 bz0 bw1 bz1 bw2 bz2 bw3 bz3 bw4 bz4 bw5 bz5 bw6 bz6 bw7 bz7 bw8 bz8 bw9 bz9 bw10 bz10 qb vw0 vz0 vw1 vz1 vw2 vz2 mw0 mz0 mw1 mz1 mw2 mz2 mw3 mz3 mw4 mz4 mw5 mz5 mw6 mz6 mw7 mz7 mw8 mz8 mw9 mz9 mw10 mz10 qm hw0 hz0 hw1 hz1 hw2 hz2 hw3 hz3 hw4 hz4 hw5 hz5 hw6 hz6 hw7 hz7 hw8 hz8 hw9 hz9 hw10 hz10 qh m2w0 m2z0 m2w1 m2z1 m2w2 m2z2 m2w3 m2z3 m2w4 m2z4 m2w5 m2z5 m2w6 m2z6 m2w7 m2z7 m2w8 m2z8 m2w9 m2z9 m2w10 m2z10 qm2
    replace ka := ka.below bV7
    replace kb := kb.below bV7
    replace kv := kv.below bV7
    replace km := km.below bV7
    replace kh := kh.below bV7
    replace km2 := km2.below bV7
    have kh2 : Blk V7 gy7 [.bool h2.none, .bool h2.lo, .bool h2.olo, .bool h2.l.t, .int .i64 h2.l.n, .string h2.l.s, .bool h2.hi, .bool h2.ohi, .bool h2.h.t, .int .i64 h2.h.n, .string h2.h.s] := by rw [hV7]; exact Blk.new' (l := #[.bool h2.none, .bool h2.lo, .bool h2.olo, .bool h2.l.t, .int .i64 h2.l.n, .string h2.l.s, .bool h2.hi, .bool h2.ohi, .bool h2.h.t, .int .i64 h2.h.n, .string h2.h.s]) hgy7.symm
    have BV7 : Below W.heap.size W V7 := below_then BV6 bV7
    clear hV7 hgy7
    have qa : Blk V7 (x.1.heap.size) (Sp.cells a) := ka
    obtain ⟨aw0, aw1, aw2, aw3, aw4, aw5, aw6, aw7, aw8, aw9, aw10⟩ := qa.c11
    have az0 := fun z : Lt V7 => z.cell aw0
    have az1 := fun z : Lt V7 => z.cell aw1
    have az2 := fun z : Lt V7 => z.cell aw2
    have az3 := fun z : Lt V7 => z.cell aw3
    have az4 := fun z : Lt V7 => z.cell aw4
    have az5 := fun z : Lt V7 => z.cell aw5
    have az6 := fun z : Lt V7 => z.cell aw6
    have az7 := fun z : Lt V7 => z.cell aw7
    have az8 := fun z : Lt V7 => z.cell aw8
    have az9 := fun z : Lt V7 => z.cell aw9
    have az10 := fun z : Lt V7 => z.cell aw10
    have qb : Blk V7 (x.1.heap.size + 1) (Sp.cells b) := kb
    obtain ⟨bw0, bw1, bw2, bw3, bw4, bw5, bw6, bw7, bw8, bw9, bw10⟩ := qb.c11
    have bz0 := fun z : Lt V7 => z.cell bw0
    have bz1 := fun z : Lt V7 => z.cell bw1
    have bz2 := fun z : Lt V7 => z.cell bw2
    have bz3 := fun z : Lt V7 => z.cell bw3
    have bz4 := fun z : Lt V7 => z.cell bw4
    have bz5 := fun z : Lt V7 => z.cell bw5
    have bz6 := fun z : Lt V7 => z.cell bw6
    have bz7 := fun z : Lt V7 => z.cell bw7
    have bz8 := fun z : Lt V7 => z.cell bw8
    have bz9 := fun z : Lt V7 => z.cell bw9
    have bz10 := fun z : Lt V7 => z.cell bw10
    have vw0 := kv.cell 0 _ rfl
    have vw1 := kv.cell 1 _ rfl
    have vw2 := kv.cell 2 _ rfl
    have vz0 := fun z : Lt V7 => z.cell vw0
    have vz1 := fun z : Lt V7 => z.cell vw1
    have vz2 := fun z : Lt V7 => z.cell vw2
    have qm : Blk V7 gy4 (Sp.cells m) := km
    obtain ⟨mw0, mw1, mw2, mw3, mw4, mw5, mw6, mw7, mw8, mw9, mw10⟩ := qm.c11
    have mz0 := fun z : Lt V7 => z.cell mw0
    have mz1 := fun z : Lt V7 => z.cell mw1
    have mz2 := fun z : Lt V7 => z.cell mw2
    have mz3 := fun z : Lt V7 => z.cell mw3
    have mz4 := fun z : Lt V7 => z.cell mw4
    have mz5 := fun z : Lt V7 => z.cell mw5
    have mz6 := fun z : Lt V7 => z.cell mw6
    have mz7 := fun z : Lt V7 => z.cell mw7
    have mz8 := fun z : Lt V7 => z.cell mw8
    have mz9 := fun z : Lt V7 => z.cell mw9
    have mz10 := fun z : Lt V7 => z.cell mw10
    have qh : Blk V7 gy5 (Sp.cells h) := kh
    obtain ⟨hw0, hw1, hw2, hw3, hw4, hw5, hw6, hw7, hw8, hw9, hw10⟩ := qh.c11
    have hz0 := fun z : Lt V7 => z.cell hw0
    have hz1 := fun z : Lt V7 => z.cell hw1
    have hz2 := fun z : Lt V7 => z.cell hw2
    have hz3 := fun z : Lt V7 => z.cell hw3
    have hz4 := fun z : Lt V7 => z.cell hw4
    have hz5 := fun z : Lt V7 => z.cell hw5
    have hz6 := fun z : Lt V7 => z.cell hw6
    have hz7 := fun z : Lt V7 => z.cell hw7
    have hz8 := fun z : Lt V7 => z.cell hw8
    have hz9 := fun z : Lt V7 => z.cell hw9
    have hz10 := fun z : Lt V7 => z.cell hw10
    have qm2 : Blk V7 gy6 (Sp.cells m2) := km2
    obtain ⟨m2w0, m2w1, m2w2, m2w3, m2w4, m2w5, m2w6, m2w7, m2w8, m2w9, m2w10⟩ := qm2.c11
    have m2z0 := fun z : Lt V7 => z.cell m2w0
    have m2z1 := fun z : Lt V7 => z.cell m2w1
    have m2z2 := fun z : Lt V7 => z.cell m2w2
    have m2z3 := fun z : Lt V7 => z.cell m2w3
    have m2z4 := fun z : Lt V7 => z.cell m2w4
    have m2z5 := fun z : Lt V7 => z.cell m2w5
    have m2z6 := fun z : Lt V7 => z.cell m2w6
    have m2z7 := fun z : Lt V7 => z.cell m2w7
    have m2z8 := fun z : Lt V7 => z.cell m2w8
    have m2z9 := fun z : Lt V7 => z.cell m2w9
    have m2z10 := fun z : Lt V7 => z.cell m2w10
    have qh2 : Blk V7 gy7 (Sp.cells h2) := kh2
    obtain ⟨h2w0, h2w1, h2w2, h2w3, h2w4, h2w5, h2w6, h2w7, h2w8, h2w9, h2w10⟩ := qh2.c11
    have h2z0 := fun z : Lt V7 => z.cell h2w0
    have h2z1 := fun z : Lt V7 => z.cell h2w1
    have h2z2 := fun z : Lt V7 => z.cell h2w2
    have h2z3 := fun z : Lt V7 => z.cell h2w3
    have h2z4 := fun z : Lt V7 => z.cell h2w4
    have h2z5 := fun z : Lt V7 => z.cell h2w5
    have h2z6 := fun z : Lt V7 => z.cell h2w6
    have h2z7 := fun z : Lt V7 => z.cell h2w7
    have h2z8 := fun z : Lt V7 => z.cell h2w8
    have h2z9 := fun z : Lt V7 => z.cell h2w9
    have h2z10 := fun z : Lt V7 => z.cell h2w10
    cases hmn : m.none
    · clear HNO
      refine wp_region_here (by kernel_rfl) (by kernel_rfl) ?_
      repeat (go_big_quiet_step ((first | (go_at_call 17; with_reducible exact C9.out _ _) | (go_at_call 17; with_reducible exact C10.out _ _) | (go_at_call 17; with_reducible exact C6.out _ _))))
      refine wpQuiet_nil ?_; intro _ hw'; obtain ⟨z, rfl⟩ := hw'
      go_wp2_with fail
      go_ret
      exact ⟨rfl, z.via BV7, rfl⟩
    · have en := fun w => (show (binOp .eql 35 (.agg #[.bool true, .bool m.lo, .bool m.olo, .bool m.l.t, .int .i64 m.l.n, .string m.l.s, .bool m.hi, .bool m.ohi, .bool m.h.t, .int .i64 m.h.n, .string m.h.s]) (.agg #[.bool true, .bool false, .bool false, .bool false, .int .i64 0, .string ⟨#[]⟩, .bool false, .bool false, .bool false, .int .i64 0, .string ⟨#[]⟩])).run Try.prog w = .ok (.bool true) w from run_eql_span_t (a := { m with none := true }) (b := Sp.nothing) (by rw [HNO.out hmn]) w)
      clear HNO
      refine wp_region_here (by kernel_rfl) (by kernel_rfl) ?_
      repeat (go_big_quiet_step ((first | (go_at_call 17; with_reducible exact C9.out _ _) | (go_at_call 17; with_reducible exact C10.out _ _) | (go_at_call 17; with_reducible exact C6.out _ _))))
      refine wpQuiet_nil ?_; intro _ hw'; obtain ⟨z, rfl⟩ := hw'
      go_wp2_with fail
      go_ret
      exact ⟨rfl, z.via BV7, rfl⟩
  · go_wp2_with fail
    refine (C5.out V5 (Lt.base V5)).mono ?_; rintro e w' ⟨rfl, ya, rfl⟩
    go_wp2_with fail
    refine (C6.out V5 ya).mono ?_; rintro e w' ⟨rfl, ya, rfl⟩
    go_wp2_with fail
    refine (C7.out V5 ya).mono ?_; rintro e w' ⟨rfl, y6, rfl⟩
    obtain ⟨gy6, hgy6⟩ : ∃ g, y6.1.heap.size = g := ⟨_, rfl⟩
    go_upto_region 11 with fail
    refine wp_here fun V6 hV6 => ?_
    have bV6 : Below V5.heap.size V5 V6 := by rw [hV6]; exact y6.more _
    clear aw0 az0 aw1 az1 aw2 az2 aw3 az3 aw4 az4 aw5 az5 aw6 az6 aw7 az7 aw8 az8 aw9 az9 aw10 az10 qa bw0 bz0 bw1 bz1 bw2 bz2 bw3 bz3 bw4 bz4 bw5 bz5 bw6 bz6 bw7 bz7 bw8 bz8 bw9 bz9 bw10 bz10 qb vw0 vz0 vw1 vz1 vw2 vz2 mw0 mz0 mw1 mz1 mw2 mz2 mw3 mz3 mw4 mz4 mw5 mz5 mw6 mz6 mw7 mz7 mw8 mz8 mw9 mz9 mw10 mz10 qm hw0 hz0 hw1 hz1 hw2 hz2 hw3 hz3 hw4 hz4 hw5 hz5 hw6 hz6 hw7 hz7 hw8 hz8 hw9 hz9 hw10 hz10 qh
    replace ka := ka.below bV6
    replace kb := kb.below bV6
    replace kv := kv.below bV6
    replace km := km.below bV6
    replace kh := kh.below bV6
    have km2 : Blk V6 gy6 [.bool m2.none, .bool m2.lo, .bool m2.olo, .bool m2.l.t, .int .i64 m2.l.n, .string m2.l.s, .bool m2.hi, .bool m2.ohi, .bool m2.h.t, .int .i64 m2.h.n, .string m2.h.s] := by rw [hV6]; exact Blk.new' (l := #[.bool m2.none, .bool m2.lo, .bool m2.olo, .bool m2.l.t, .int .i64 m2.l.n, .string m2.l.s, .bool m2.hi, .bool m2.ohi, .bool m2.h.t, .int .i64 m2.h.n, .string m2.h.s]) hgy6.symm
    have BV6 : Below W.heap.size W V6 := below_then BV5 bV6
    clear hV6 hgy6
    have qa : Blk V6 (x.1.heap.size) (Sp.cells a) := ka
    obtain ⟨aw0, aw1, aw2, aw3, aw4, aw5, aw6, aw7, aw8, aw9, aw10⟩ := qa.c11
    have az0 := fun z : Lt V6 => z.cell aw0
    have az1 := fun z : Lt V6 => z.cell aw1
    have az2 := fun z : Lt V6 => z.cell aw2
    have az3 := fun z : Lt V6 => z.cell aw3
    have az4 := fun z : Lt V6 => z.cell aw4
    have az5 := fun z : Lt V6 => z.cell aw5
    have az6 := fun z : Lt V6 => z.cell aw6
    have az7 := fun z : Lt V6 => z.cell aw7
    have az8 := fun z : Lt V6 => z.cell aw8
    have az9 := fun z : Lt V6 => z.cell aw9
    have az10 := fun z : Lt V6 => z.cell aw10
    have qb : Blk V6 (x.1.heap.size + 1) (Sp.cells b) := kb
    obtain ⟨bw0, bw1, bw2, bw3, bw4, bw5, bw6, bw7, bw8, bw9, bw10⟩ := qb.c11
    have bz0 := fun z : Lt V6 => z.cell bw0
    have bz1 := fun z : Lt V6 => z.cell bw1
    have bz2 := fun z : Lt V6 => z.cell bw2
    have bz3 := fun z : Lt V6 => z.cell bw3
    have bz4 := fun z : Lt V6 => z.cell bw4
    have bz5 := fun z : Lt V6 => z.cell bw5
    have bz6 := fun z : Lt V6 => z.cell bw6
    have bz7 := fun z : Lt V6 => z.cell bw7
    have bz8 := fun z : Lt V6 => z.cell bw8
    have bz9 := fun z : Lt V6 => z.cell bw9
    have bz10 := fun z : Lt V6 => z.cell bw10
    have vw0 := kv.cell 0 _ rfl
    have vw1 := kv.cell 1 _ rfl
    have vw2 := kv.cell 2 _ rfl
    have vz0 := fun z : Lt V6 => z.cell vw0
    have vz1 := fun z : Lt V6 => z.cell vw1
    have vz2 := fun z : Lt V6 => z.cell vw2
    have qm : Blk V6 gy4 (Sp.cells m) := km
    obtain ⟨mw0, mw1, mw2, mw3, mw4, mw5, mw6, mw7, mw8, mw9, mw10⟩ := qm.c11
    have mz0 := fun z : Lt V6 => z.cell mw0
    have mz1 := fun z : Lt V6 => z.cell mw1
    have mz2 := fun z : Lt V6 => z.cell mw2
    have mz3 := fun z : Lt V6 => z.cell mw3
    have mz4 := fun z : Lt V6 => z.cell mw4
    have mz5 := fun z : Lt V6 => z.cell mw5
    have mz6 := fun z : Lt V6 => z.cell mw6
    have mz7 := fun z : Lt V6 => z.cell mw7
    have mz8 := fun z : Lt V6 => z.cell mw8
    have mz9 := fun z : Lt V6 => z.cell mw9
    have mz10 := fun z : Lt V6 => z.cell mw10
    have qh : Blk V6 gy5 (Sp.cells h) := kh
    obtain ⟨hw0, hw1, hw2, hw3, hw4, hw5, hw6, hw7, hw8, hw9, hw10⟩ := qh.c11
    have hz0 := fun z : Lt V6 => z.cell hw0
    have hz1 := fun z : Lt V6 => z.cell hw1
    have hz2 := fun z : Lt V6 => z.cell hw2
    have hz3 := fun z : Lt V6 => z.cell hw3
    have hz4 := fun z : Lt V6 => z.cell hw4
    have hz5 := fun z : Lt V6 => z.cell hw5
    have hz6 := fun z : Lt V6 => z.cell hw6
    have hz7 := fun z : Lt V6 => z.cell hw7
    have hz8 := fun z : Lt V6 => z.cell hw8
    have hz9 := fun z : Lt V6 => z.cell hw9
    have hz10 := fun z : Lt V6 => z.cell hw10
    have qm2 : Blk V6 gy6 (Sp.cells m2) := km2
    obtain ⟨m2w0, m2w1, m2w2, m2w3, m2w4, m2w5, m2w6, m2w7, m2w8, m2w9, m2w10⟩ := qm2.c11
    have m2z0 := fun z : Lt V6 => z.cell m2w0
    have m2z1 := fun z : Lt V6 => z.cell m2w1
    have m2z2 := fun z : Lt V6 => z.cell m2w2
    have m2z3 := fun z : Lt V6 => z.cell m2w3
    have m2z4 := fun z : Lt V6 => z.cell m2w4
    have m2z5 := fun z : Lt V6 => z.cell m2w5
    have m2z6 := fun z : Lt V6 => z.cell m2w6
    have m2z7 := fun z : Lt V6 => z.cell m2w7
    have m2z8 := fun z : Lt V6 => z.cell m2w8
    have m2z9 := fun z : Lt V6 => z.cell m2w9
    have m2z10 := fun z : Lt V6 => z.cell m2w10
    go_wp2_with fail
    refine (C8.out V6 (Lt.base V6)).mono ?_; rintro e w' ⟨rfl, y7, rfl⟩
    obtain ⟨gy7, hgy7⟩ : ∃ g, y7.1.heap.size = g := ⟨_, rfl⟩
    go_upto_region 12 with fail
    refine wp_here fun V7 hV7 => ?_
    have bV7 : Below V6.heap.size V6 V7 := by rw [hV7]; exact y7.more _
    clear aw0 az0 aw1 az1 aw2 az2 aw3 az3 aw4 az4 aw5 az5 aw6 az6 aw7 az7 aw8 az8 aw9 az9 aw10 az10 qa bw0 bz0 bw1 bz1 bw2 bz2 bw3 bz3 bw4 bz4 bw5 bz5 bw6 bz6 bw7 bz7 bw8 bz8 bw9 bz9 bw10 bz10 qb vw0 vz0 vw1 vz1 vw2 vz2 mw0 mz0 mw1 mz1 mw2 mz2 mw3 mz3 mw4 mz4 mw5 mz5 mw6 mz6 mw7 mz7 mw8 mz8 mw9 mz9 mw10 mz10 qm hw0 hz0 hw1 hz1 hw2 hz2 hw3 hz3 hw4 hz4 hw5 hz5 hw6 hz6 hw7 hz7 hw8 hz8 hw9 hz9 hw10 hz10 qh m2w0 m2z0 m2w1 m2z1 m2w2 m2z2 m2w3 m2z3 m2w4 m2z4 m2w5 m2z5 m2w6 m2z6 m2w7 m2z7 m2w8 m2z8 m2w9 m2z9 m2w10 m2z10 qm2
    replace ka := ka.below bV7
    replace kb := kb.below bV7
    replace kv := kv.below bV7
    replace km := km.below bV7
    replace kh := kh.below bV7
    replace km2 := km2.below bV7
    have kh2 : Blk V7 gy7 [.bool h2.none, .bool h2.lo, .bool h2.olo, .bool h2.l.t, .int .i64 h2.l.n, .string h2.l.s, .bool h2.hi, .bool h2.ohi, .bool h2.h.t, .int .i64 h2.h.n, .string h2.h.s] := by rw [hV7]; exact Blk.new' (l := #[.bool h2.none, .bool h2.lo, .bool h2.olo, .bool h2.l.t, .int .i64 h2.l.n, .string h2.l.s, .bool h2.hi, .bool h2.ohi, .bool h2.h.t, .int .i64 h2.h.n, .string h2.h.s]) hgy7.symm
    have BV7 : Below W.heap.size W V7 := below_then BV6 bV7
    clear hV7 hgy7
    have qa : Blk V7 (x.1.heap.size) (Sp.cells a) := ka
    obtain ⟨aw0, aw1, aw2, aw3, aw4, aw5, aw6, aw7, aw8, aw9, aw10⟩ := qa.c11
    have az0 := fun z : Lt V7 => z.cell aw0
    have az1 := fun z : Lt V7 => z.cell aw1
    have az2 := fun z : Lt V7 => z.cell aw2
    have az3 := fun z : Lt V7 => z.cell aw3
    have az4 := fun z : Lt V7 => z.cell aw4
    have az5 := fun z : Lt V7 => z.cell aw5
    have az6 := fun z : Lt V7 => z.cell aw6
    have az7 := fun z : Lt V7 => z.cell aw7
    have az8 := fun z : Lt V7 => z.cell aw8
    have az9 := fun z : Lt V7 => z.cell aw9
    have az10 := fun z : Lt V7 => z.cell aw10
    have qb : Blk V7 (x.1.heap.size + 1) (Sp.cells b) := kb
    obtain ⟨bw0, bw1, bw2, bw3, bw4, bw5, bw6, bw7, bw8, bw9, bw10⟩ := qb.c11
    have bz0 := fun z : Lt V7 => z.cell bw0
    have bz1 := fun z : Lt V7 => z.cell bw1
    have bz2 := fun z : Lt V7 => z.cell bw2
    have bz3 := fun z : Lt V7 => z.cell bw3
    have bz4 := fun z : Lt V7 => z.cell bw4
    have bz5 := fun z : Lt V7 => z.cell bw5
    have bz6 := fun z : Lt V7 => z.cell bw6
    have bz7 := fun z : Lt V7 => z.cell bw7
    have bz8 := fun z : Lt V7 => z.cell bw8
    have bz9 := fun z : Lt V7 => z.cell bw9
    have bz10 := fun z : Lt V7 => z.cell bw10
    have vw0 := kv.cell 0 _ rfl
    have vw1 := kv.cell 1 _ rfl
    have vw2 := kv.cell 2 _ rfl
    have vz0 := fun z : Lt V7 => z.cell vw0
    have vz1 := fun z : Lt V7 => z.cell vw1
    have vz2 := fun z : Lt V7 => z.cell vw2
    have qm : Blk V7 gy4 (Sp.cells m) := km
    obtain ⟨mw0, mw1, mw2, mw3, mw4, mw5, mw6, mw7, mw8, mw9, mw10⟩ := qm.c11
    have mz0 := fun z : Lt V7 => z.cell mw0
    have mz1 := fun z : Lt V7 => z.cell mw1
    have mz2 := fun z : Lt V7 => z.cell mw2
    have mz3 := fun z : Lt V7 => z.cell mw3
    have mz4 := fun z : Lt V7 => z.cell mw4
    have mz5 := fun z : Lt V7 => z.cell mw5
    have mz6 := fun z : Lt V7 => z.cell mw6
    have mz7 := fun z : Lt V7 => z.cell mw7
    have mz8 := fun z : Lt V7 => z.cell mw8
    have mz9 := fun z : Lt V7 => z.cell mw9
    have mz10 := fun z : Lt V7 => z.cell mw10
    have qh : Blk V7 gy5 (Sp.cells h) := kh
    obtain ⟨hw0, hw1, hw2, hw3, hw4, hw5, hw6, hw7, hw8, hw9, hw10⟩ := qh.c11
    have hz0 := fun z : Lt V7 => z.cell hw0
    have hz1 := fun z : Lt V7 => z.cell hw1
    have hz2 := fun z : Lt V7 => z.cell hw2
    have hz3 := fun z : Lt V7 => z.cell hw3
    have hz4 := fun z : Lt V7 => z.cell hw4
    have hz5 := fun z : Lt V7 => z.cell hw5
    have hz6 := fun z : Lt V7 => z.cell hw6
    have hz7 := fun z : Lt V7 => z.cell hw7
    have hz8 := fun z : Lt V7 => z.cell hw8
    have hz9 := fun z : Lt V7 => z.cell hw9
    have hz10 := fun z : Lt V7 => z.cell hw10
    have qm2 : Blk V7 gy6 (Sp.cells m2) := km2
    obtain ⟨m2w0, m2w1, m2w2, m2w3, m2w4, m2w5, m2w6, m2w7, m2w8, m2w9, m2w10⟩ := qm2.c11
    have m2z0 := fun z : Lt V7 => z.cell m2w0
    have m2z1 := fun z : Lt V7 => z.cell m2w1
    have m2z2 := fun z : Lt V7 => z.cell m2w2
    have m2z3 := fun z : Lt V7 => z.cell m2w3
    have m2z4 := fun z : Lt V7 => z.cell m2w4
    have m2z5 := fun z : Lt V7 => z.cell m2w5
    have m2z6 := fun z : Lt V7 => z.cell m2w6
    have m2z7 := fun z : Lt V7 => z.cell m2w7
    have m2z8 := fun z : Lt V7 => z.cell m2w8
    have m2z9 := fun z : Lt V7 => z.cell m2w9
    have m2z10 := fun z : Lt V7 => z.cell m2w10
    have qh2 : Blk V7 gy7 (Sp.cells h2) := kh2
    obtain ⟨h2w0, h2w1, h2w2, h2w3, h2w4, h2w5, h2w6, h2w7, h2w8, h2w9, h2w10⟩ := qh2.c11
    have h2z0 := fun z : Lt V7 => z.cell h2w0
    have h2z1 := fun z : Lt V7 => z.cell h2w1
    have h2z2 := fun z : Lt V7 => z.cell h2w2
    have h2z3 := fun z : Lt V7 => z.cell h2w3
    have h2z4 := fun z : Lt V7 => z.cell h2w4
    have h2z5 := fun z : Lt V7 => z.cell h2w5
    have h2z6 := fun z : Lt V7 => z.cell h2w6
    have h2z7 := fun z : Lt V7 => z.cell h2w7
    have h2z8 := fun z : Lt V7 => z.cell h2w8
    have h2z9 := fun z : Lt V7 => z.cell h2w9
    have h2z10 := fun z : Lt V7 => z.cell h2w10
    cases hmn : m.none
    · clear HNO
      refine wp_region_here (by kernel_rfl) (by kernel_rfl) ?_
      repeat (go_big_quiet_step ((first | (go_at_call 17; with_reducible exact C9.out _ _) | (go_at_call 17; with_reducible exact C10.out _ _) | (go_at_call 17; with_reducible exact C6.out _ _))))
      refine wpQuiet_nil ?_; intro _ hw'; obtain ⟨z, rfl⟩ := hw'
      go_wp2_with fail
      go_ret
      exact ⟨rfl, z.via BV7, rfl⟩
    · have en := fun w => (show (binOp .eql 35 (.agg #[.bool true, .bool m.lo, .bool m.olo, .bool m.l.t, .int .i64 m.l.n, .string m.l.s, .bool m.hi, .bool m.ohi, .bool m.h.t, .int .i64 m.h.n, .string m.h.s]) (.agg #[.bool true, .bool false, .bool false, .bool false, .int .i64 0, .string ⟨#[]⟩, .bool false, .bool false, .bool false, .int .i64 0, .string ⟨#[]⟩])).run Try.prog w = .ok (.bool true) w from run_eql_span_t (a := { m with none := true }) (b := Sp.nothing) (by rw [HNO.out hmn]) w)
      clear HNO
      refine wp_region_here (by kernel_rfl) (by kernel_rfl) ?_
      repeat (go_big_quiet_step ((first | (go_at_call 17; with_reducible exact C9.out _ _) | (go_at_call 17; with_reducible exact C10.out _ _) | (go_at_call 17; with_reducible exact C6.out _ _))))
      refine wpQuiet_nil ?_; intro _ hw'; obtain ⟨z, rfl⟩ := hw'
      go_wp2_with fail
      go_ret
      exact ⟨rfl, z.via BV7, rfl⟩
  · go_wp2_with fail
    refine (C5.out V5 (Lt.base V5)).mono ?_; rintro e w' ⟨rfl, ya, rfl⟩
    go_wp2_with fail
    refine (C6.out V5 ya).mono ?_; rintro e w' ⟨rfl, ya, rfl⟩
    go_wp2_with fail
    refine (C7.out V5 ya).mono ?_; rintro e w' ⟨rfl, y6, rfl⟩
    obtain ⟨gy6, hgy6⟩ : ∃ g, y6.1.heap.size = g := ⟨_, rfl⟩
    go_upto_region 11 with fail
    refine wp_here fun V6 hV6 => ?_
    have bV6 : Below V5.heap.size V5 V6 := by rw [hV6]; exact y6.more _
    clear aw0 az0 aw1 az1 aw2 az2 aw3 az3 aw4 az4 aw5 az5 aw6 az6 aw7 az7 aw8 az8 aw9 az9 aw10 az10 qa bw0 bz0 bw1 bz1 bw2 bz2 bw3 bz3 bw4 bz4 bw5 bz5 bw6 bz6 bw7 bz7 bw8 bz8 bw9 bz9 bw10 bz10 qb vw0 vz0 vw1 vz1 vw2 vz2 mw0 mz0 mw1 mz1 mw2 mz2 mw3 mz3 mw4 mz4 mw5 mz5 mw6 mz6 mw7 mz7 mw8 mz8 mw9 mz9 mw10 mz10 qm hw0 hz0 hw1 hz1 hw2 hz2 hw3 hz3 hw4 hz4 hw5 hz5 hw6 hz6 hw7 hz7 hw8 hz8 hw9 hz9 hw10 hz10 qh
    replace ka := ka.below bV6
    replace kb := kb.below bV6
    replace kv := kv.below bV6
    replace km := km.below bV6
    replace kh := kh.below bV6
    have km2 : Blk V6 gy6 [.bool m2.none, .bool m2.lo, .bool m2.olo, .bool m2.l.t, .int .i64 m2.l.n, .string m2.l.s, .bool m2.hi, .bool m2.ohi, .bool m2.h.t, .int .i64 m2.h.n, .string m2.h.s] := by rw [hV6]; exact Blk.new' (l := #[.bool m2.none, .bool m2.lo, .bool m2.olo, .bool m2.l.t, .int .i64 m2.l.n, .string m2.l.s, .bool m2.hi, .bool m2.ohi, .bool m2.h.t, .int .i64 m2.h.n, .string m2.h.s]) hgy6.symm
    have BV6 : Below W.heap.size W V6 := below_then BV5 bV6
    clear hV6 hgy6
    have qa : Blk V6 (x.1.heap.size) (Sp.cells a) := ka
    obtain ⟨aw0, aw1, aw2, aw3, aw4, aw5, aw6, aw7, aw8, aw9, aw10⟩ := qa.c11
    have az0 := fun z : Lt V6 => z.cell aw0
    have az1 := fun z : Lt V6 => z.cell aw1
    have az2 := fun z : Lt V6 => z.cell aw2
    have az3 := fun z : Lt V6 => z.cell aw3
    have az4 := fun z : Lt V6 => z.cell aw4
    have az5 := fun z : Lt V6 => z.cell aw5
    have az6 := fun z : Lt V6 => z.cell aw6
    have az7 := fun z : Lt V6 => z.cell aw7
    have az8 := fun z : Lt V6 => z.cell aw8
    have az9 := fun z : Lt V6 => z.cell aw9
    have az10 := fun z : Lt V6 => z.cell aw10
    have qb : Blk V6 (x.1.heap.size + 1) (Sp.cells b) := kb
    obtain ⟨bw0, bw1, bw2, bw3, bw4, bw5, bw6, bw7, bw8, bw9, bw10⟩ := qb.c11
    have bz0 := fun z : Lt V6 => z.cell bw0
    have bz1 := fun z : Lt V6 => z.cell bw1
    have bz2 := fun z : Lt V6 => z.cell bw2
    have bz3 := fun z : Lt V6 => z.cell bw3
    have bz4 := fun z : Lt V6 => z.cell bw4
    have bz5 := fun z : Lt V6 => z.cell bw5
    have bz6 := fun z : Lt V6 => z.cell bw6
    have bz7 := fun z : Lt V6 => z.cell bw7
    have bz8 := fun z : Lt V6 => z.cell bw8
    have bz9 := fun z : Lt V6 => z.cell bw9
    have bz10 := fun z : Lt V6 => z.cell bw10
    have vw0 := kv.cell 0 _ rfl
    have vw1 := kv.cell 1 _ rfl
    have vw2 := kv.cell 2 _ rfl
    have vz0 := fun z : Lt V6 => z.cell vw0
    have vz1 := fun z : Lt V6 => z.cell vw1
    have vz2 := fun z : Lt V6 => z.cell vw2
    have qm : Blk V6 gy4 (Sp.cells m) := km
    obtain ⟨mw0, mw1, mw2, mw3, mw4, mw5, mw6, mw7, mw8, mw9, mw10⟩ := qm.c11
    have mz0 := fun z : Lt V6 => z.cell mw0
    have mz1 := fun z : Lt V6 => z.cell mw1
    have mz2 := fun z : Lt V6 => z.cell mw2
    have mz3 := fun z : Lt V6 => z.cell mw3
    have mz4 := fun z : Lt V6 => z.cell mw4
    have mz5 := fun z : Lt V6 => z.cell mw5
    have mz6 := fun z : Lt V6 => z.cell mw6
    have mz7 := fun z : Lt V6 => z.cell mw7
    have mz8 := fun z : Lt V6 => z.cell mw8
    have mz9 := fun z : Lt V6 => z.cell mw9
    have mz10 := fun z : Lt V6 => z.cell mw10
    have qh : Blk V6 gy5 (Sp.cells h) := kh
    obtain ⟨hw0, hw1, hw2, hw3, hw4, hw5, hw6, hw7, hw8, hw9, hw10⟩ := qh.c11
    have hz0 := fun z : Lt V6 => z.cell hw0
    have hz1 := fun z : Lt V6 => z.cell hw1
    have hz2 := fun z : Lt V6 => z.cell hw2
    have hz3 := fun z : Lt V6 => z.cell hw3
    have hz4 := fun z : Lt V6 => z.cell hw4
    have hz5 := fun z : Lt V6 => z.cell hw5
    have hz6 := fun z : Lt V6 => z.cell hw6
    have hz7 := fun z : Lt V6 => z.cell hw7
    have hz8 := fun z : Lt V6 => z.cell hw8
    have hz9 := fun z : Lt V6 => z.cell hw9
    have hz10 := fun z : Lt V6 => z.cell hw10
    have qm2 : Blk V6 gy6 (Sp.cells m2) := km2
    obtain ⟨m2w0, m2w1, m2w2, m2w3, m2w4, m2w5, m2w6, m2w7, m2w8, m2w9, m2w10⟩ := qm2.c11
    have m2z0 := fun z : Lt V6 => z.cell m2w0
    have m2z1 := fun z : Lt V6 => z.cell m2w1
    have m2z2 := fun z : Lt V6 => z.cell m2w2
    have m2z3 := fun z : Lt V6 => z.cell m2w3
    have m2z4 := fun z : Lt V6 => z.cell m2w4
    have m2z5 := fun z : Lt V6 => z.cell m2w5
    have m2z6 := fun z : Lt V6 => z.cell m2w6
    have m2z7 := fun z : Lt V6 => z.cell m2w7
    have m2z8 := fun z : Lt V6 => z.cell m2w8
    have m2z9 := fun z : Lt V6 => z.cell m2w9
    have m2z10 := fun z : Lt V6 => z.cell m2w10
    go_wp2_with fail
    refine (C8.out V6 (Lt.base V6)).mono ?_; rintro e w' ⟨rfl, y7, rfl⟩
    obtain ⟨gy7, hgy7⟩ : ∃ g, y7.1.heap.size = g := ⟨_, rfl⟩
    go_upto_region 12 with fail
    refine wp_here fun V7 hV7 => ?_
    have bV7 : Below V6.heap.size V6 V7 := by rw [hV7]; exact y7.more _
    clear aw0 az0 aw1 az1 aw2 az2 aw3 az3 aw4 az4 aw5 az5 aw6 az6 aw7 az7 aw8 az8 aw9 az9 aw10 az10 qa bw0 bz0 bw1 bz1 bw2 bz2 bw3 bz3 bw4 bz4 bw5 bz5 bw6 bz6 bw7 bz7 bw8 bz8 bw9 bz9 bw10 bz10 qb vw0 vz0 vw1 vz1 vw2 vz2 mw0 mz0 mw1 mz1 mw2 mz2 mw3 mz3 mw4 mz4 mw5 mz5 mw6 mz6 mw7 mz7 mw8 mz8 mw9 mz9 mw10 mz10 qm hw0 hz0 hw1 hz1 hw2 hz2 hw3 hz3 hw4 hz4 hw5 hz5 hw6 hz6 hw7 hz7 hw8 hz8 hw9 hz9 hw10 hz10 qh m2w0 m2z0 m2w1 m2z1 m2w2 m2z2 m2w3 m2z3 m2w4 m2z4 m2w5 m2z5 m2w6 m2z6 m2w7 m2z7 m2w8 m2z8 m2w9 m2z9 m2w10 m2z10 qm2
    replace ka := ka.below bV7
    replace kb := kb.below bV7
    replace kv := kv.below bV7
    replace km := km.below bV7
    replace kh := kh.below bV7
    replace km2 := km2.below bV7
    have kh2 : Blk V7 gy7 [.bool h2.none, .bool h2.lo, .bool h2.olo, .bool h2.l.t, .int .i64 h2.l.n, .string h2.l.s, .bool h2.hi, .bool h2.ohi, .bool h2.h.t, .int .i64 h2.h.n, .string h2.h.s] := by rw [hV7]; exact Blk.new' (l := #[.bool h2.none, .bool h2.lo, .bool h2.olo, .bool h2.l.t, .int .i64 h2.l.n, .string h2.l.s, .bool h2.hi, .bool h2.ohi, .bool h2.h.t, .int .i64 h2.h.n, .string h2.h.s]) hgy7.symm
    have BV7 : Below W.heap.size W V7 := below_then BV6 bV7
    clear hV7 hgy7
    have qa : Blk V7 (x.1.heap.size) (Sp.cells a) := ka
    obtain ⟨aw0, aw1, aw2, aw3, aw4, aw5, aw6, aw7, aw8, aw9, aw10⟩ := qa.c11
    have az0 := fun z : Lt V7 => z.cell aw0
    have az1 := fun z : Lt V7 => z.cell aw1
    have az2 := fun z : Lt V7 => z.cell aw2
    have az3 := fun z : Lt V7 => z.cell aw3
    have az4 := fun z : Lt V7 => z.cell aw4
    have az5 := fun z : Lt V7 => z.cell aw5
    have az6 := fun z : Lt V7 => z.cell aw6
    have az7 := fun z : Lt V7 => z.cell aw7
    have az8 := fun z : Lt V7 => z.cell aw8
    have az9 := fun z : Lt V7 => z.cell aw9
    have az10 := fun z : Lt V7 => z.cell aw10
    have qb : Blk V7 (x.1.heap.size + 1) (Sp.cells b) := kb
    obtain ⟨bw0, bw1, bw2, bw3, bw4, bw5, bw6, bw7, bw8, bw9, bw10⟩ := qb.c11
    have bz0 := fun z : Lt V7 => z.cell bw0
    have bz1 := fun z : Lt V7 => z.cell bw1
    have bz2 := fun z : Lt V7 => z.cell bw2
    have bz3 := fun z : Lt V7 => z.cell bw3
    have bz4 := fun z : Lt V7 => z.cell bw4
    have bz5 := fun z : Lt V7 => z.cell bw5
    have bz6 := fun z : Lt V7 => z.cell bw6
    have bz7 := fun z : Lt V7 => z.cell bw7
    have bz8 := fun z : Lt V7 => z.cell bw8
    have bz9 := fun z : Lt V7 => z.cell bw9
    have bz10 := fun z : Lt V7 => z.cell bw10
    have vw0 := kv.cell 0 _ rfl
    have vw1 := kv.cell 1 _ rfl
    have vw2 := kv.cell 2 _ rfl
    have vz0 := fun z : Lt V7 => z.cell vw0
    have vz1 := fun z : Lt V7 => z.cell vw1
    have vz2 := fun z : Lt V7 => z.cell vw2
    have qm : Blk V7 gy4 (Sp.cells m) := km
    obtain ⟨mw0, mw1, mw2, mw3, mw4, mw5, mw6, mw7, mw8, mw9, mw10⟩ := qm.c11
    have mz0 := fun z : Lt V7 => z.cell mw0
    have mz1 := fun z : Lt V7 => z.cell mw1
    have mz2 := fun z : Lt V7 => z.cell mw2
    have mz3 := fun z : Lt V7 => z.cell mw3
    have mz4 := fun z : Lt V7 => z.cell mw4
    have mz5 := fun z : Lt V7 => z.cell mw5
    have mz6 := fun z : Lt V7 => z.cell mw6
    have mz7 := fun z : Lt V7 => z.cell mw7
    have mz8 := fun z : Lt V7 => z.cell mw8
    have mz9 := fun z : Lt V7 => z.cell mw9
    have mz10 := fun z : Lt V7 => z.cell mw10
    have qh : Blk V7 gy5 (Sp.cells h) := kh
    obtain ⟨hw0, hw1, hw2, hw3, hw4, hw5, hw6, hw7, hw8, hw9, hw10⟩ := qh.c11
    have hz0 := fun z : Lt V7 => z.cell hw0
    have hz1 := fun z : Lt V7 => z.cell hw1
    have hz2 := fun z : Lt V7 => z.cell hw2
    have hz3 := fun z : Lt V7 => z.cell hw3
    have hz4 := fun z : Lt V7 => z.cell hw4
    have hz5 := fun z : Lt V7 => z.cell hw5
    have hz6 := fun z : Lt V7 => z.cell hw6
    have hz7 := fun z : Lt V7 => z.cell hw7
    have hz8 := fun z : Lt V7 => z.cell hw8
    have hz9 := fun z : Lt V7 => z.cell hw9
    have hz10 := fun z : Lt V7 => z.cell hw10
    have qm2 : Blk V7 gy6 (Sp.cells m2) := km2
    obtain ⟨m2w0, m2w1, m2w2, m2w3, m2w4, m2w5, m2w6, m2w7, m2w8, m2w9, m2w10⟩ := qm2.c11
    have m2z0 := fun z : Lt V7 => z.cell m2w0
    have m2z1 := fun z : Lt V7 => z.cell m2w1
    have m2z2 := fun z : Lt V7 => z.cell m2w2
    have m2z3 := fun z : Lt V7 => z.cell m2w3
    have m2z4 := fun z : Lt V7 => z.cell m2w4
    have m2z5 := fun z : Lt V7 => z.cell m2w5
    have m2z6 := fun z : Lt V7 => z.cell m2w6
    have m2z7 := fun z : Lt V7 => z.cell m2w7
    have m2z8 := fun z : Lt V7 => z.cell m2w8
    have m2z9 := fun z : Lt V7 => z.cell m2w9
    have m2z10 := fun z : Lt V7 => z.cell m2w10
    have qh2 : Blk V7 gy7 (Sp.cells h2) := kh2
    obtain ⟨h2w0, h2w1, h2w2, h2w3, h2w4, h2w5, h2w6, h2w7, h2w8, h2w9, h2w10⟩ := qh2.c11
    have h2z0 := fun z : Lt V7 => z.cell h2w0
    have h2z1 := fun z : Lt V7 => z.cell h2w1
    have h2z2 := fun z : Lt V7 => z.cell h2w2
    have h2z3 := fun z : Lt V7 => z.cell h2w3
    have h2z4 := fun z : Lt V7 => z.cell h2w4
    have h2z5 := fun z : Lt V7 => z.cell h2w5
    have h2z6 := fun z : Lt V7 => z.cell h2w6
    have h2z7 := fun z : Lt V7 => z.cell h2w7
    have h2z8 := fun z : Lt V7 => z.cell h2w8
    have h2z9 := fun z : Lt V7 => z.cell h2w9
    have h2z10 := fun z : Lt V7 => z.cell h2w10
    cases hmn : m.none
    · clear HNO
      refine wp_region_here (by kernel_rfl) (by kernel_rfl) ?_
      repeat (go_big_quiet_step ((first | (go_at_call 17; with_reducible exact C9.out _ _) | (go_at_call 17; with_reducible exact C10.out _ _) | (go_at_call 17; with_reducible exact C6.out _ _))))
      refine wpQuiet_nil ?_; intro _ hw'; obtain ⟨z, rfl⟩ := hw'
      go_wp2_with fail
      go_ret
      exact ⟨rfl, z.via BV7, rfl⟩
    · have en := fun w => (show (binOp .eql 35 (.agg #[.bool true, .bool m.lo, .bool m.olo, .bool m.l.t, .int .i64 m.l.n, .string m.l.s, .bool m.hi, .bool m.ohi, .bool m.h.t, .int .i64 m.h.n, .string m.h.s]) (.agg #[.bool true, .bool false, .bool false, .bool false, .int .i64 0, .string ⟨#[]⟩, .bool false, .bool false, .bool false, .int .i64 0, .string ⟨#[]⟩])).run Try.prog w = .ok (.bool true) w from run_eql_span_t (a := { m with none := true }) (b := Sp.nothing) (by rw [HNO.out hmn]) w)
      clear HNO
      refine wp_region_here (by kernel_rfl) (by kernel_rfl) ?_
      repeat (go_big_quiet_step ((first | (go_at_call 17; with_reducible exact C9.out _ _) | (go_at_call 17; with_reducible exact C10.out _ _) | (go_at_call 17; with_reducible exact C6.out _ _))))
      refine wpQuiet_nil ?_; intro _ hw'; obtain ⟨z, rfl⟩ := hw'
      go_wp2_with fail
      go_ret
      exact ⟨rfl, z.via BV7, rfl⟩
  · go_wp2_with fail
    refine (C5.out V5 (Lt.base V5)).mono ?_; rintro e w' ⟨rfl, ya, rfl⟩
    go_wp2_with fail
    refine (C7.out V5 ya).mono ?_; rintro e w' ⟨rfl, y6, rfl⟩
    obtain ⟨gy6, hgy6⟩ : ∃ g, y6.1.heap.size = g := ⟨_, rfl⟩
    go_upto_region 11 with fail
    refine wp_here fun V6 hV6 => ?_
    have bV6 : Below V5.heap.size V5 V6 := by rw [hV6]; exact y6.more _
    clear aw0 az0 aw1 az1 aw2 az2 aw3 az3 aw4 az4 aw5 az5 aw6 az6 aw7 az7 aw8 az8 aw9 az9 aw10 az10 qa bw0 bz0 bw1 bz1 bw2 bz2 bw3 bz3 bw4 bz4 bw5 bz5 bw6 bz6 bw7 bz7 bw8 bz8 bw9 bz9 bw10 bz10 qb vw0 vz0 vw1 vz1 vw2 vz2 mw0 mz0 mw1 mz1 mw2 mz2 mw3 mz3 mw4 mz4 mw5 mz5 mw6 mz6 mw7 mz7 mw8 mz8 mw9 mz9 mw10 mz10 qm hw0 hz0 hw1 hz1 hw2 hz2 hw3 hz3 hw4 hz4 hw5 hz5 hw6 hz6 hw7 hz7 hw8 hz8 hw9 hz9 hw10 hz10 qh
    replace ka := ka.below bV6
    replace kb := kb.below bV6
    replace kv := kv.below bV6
    replace km := km.below bV6
    replace kh := kh.below bV6
    have km2 : Blk V6 gy6 [.bool m2.none, .bool m2.lo, .bool m2.olo, .bool m2.l.t, .int .i64 m2.l.n, .string m2.l.s, .bool m2.hi, .bool m2.ohi, .bool m2.h.t, .int .i64 m2.h.n, .string m2.h.s] := by rw [hV6]; exact Blk.new' (l := #[.bool m2.none, .bool m2.lo, .bool m2.olo, .bool m2.l.t, .int .i64 m2.l.n, .string m2.l.s, .bool m2.hi, .bool m2.ohi, .bool m2.h.t, .int .i64 m2.h.n, .string m2.h.s]) hgy6.symm
    have BV6 : Below W.heap.size W V6 := below_then BV5 bV6
    clear hV6 hgy6
    have qa : Blk V6 (x.1.heap.size) (Sp.cells a) := ka
    obtain ⟨aw0, aw1, aw2, aw3, aw4, aw5, aw6, aw7, aw8, aw9, aw10⟩ := qa.c11
    have az0 := fun z : Lt V6 => z.cell aw0
    have az1 := fun z : Lt V6 => z.cell aw1
    have az2 := fun z : Lt V6 => z.cell aw2
    have az3 := fun z : Lt V6 => z.cell aw3
    have az4 := fun z : Lt V6 => z.cell aw4
    have az5 := fun z : Lt V6 => z.cell aw5
    have az6 := fun z : Lt V6 => z.cell aw6
    have az7 := fun z : Lt V6 => z.cell aw7
    have az8 := fun z : Lt V6 => z.cell aw8
    have az9 := fun z : Lt V6 => z.cell aw9
    have az10 := fun z : Lt V6 => z.cell aw10
    have qb : Blk V6 (x.1.heap.size + 1) (Sp.cells b) := kb
    obtain ⟨bw0, bw1, bw2, bw3, bw4, bw5, bw6, bw7, bw8, bw9, bw10⟩ := qb.c11
    have bz0 := fun z : Lt V6 => z.cell bw0
    have bz1 := fun z : Lt V6 => z.cell bw1
    have bz2 := fun z : Lt V6 => z.cell bw2
    have bz3 := fun z : Lt V6 => z.cell bw3
    have bz4 := fun z : Lt V6 => z.cell bw4
    have bz5 := fun z : Lt V6 => z.cell bw5
    have bz6 := fun z : Lt V6 => z.cell bw6
    have bz7 := fun z : Lt V6 => z.cell bw7
    have bz8 := fun z : Lt V6 => z.cell bw8
    have bz9 := fun z : Lt V6 => z.cell bw9
    have bz10 := fun z : Lt V6 => z.cell bw10
    have vw0 := kv.cell 0 _ rfl
    have vw1 := kv.cell 1 _ rfl
    have vw2 := kv.cell 2 _ rfl
    have vz0 := fun z : Lt V6 => z.cell vw0
    have vz1 := fun z : Lt V6 => z.cell vw1
    have vz2 := fun z : Lt V6 => z.cell vw2
    have qm : Blk V6 gy4 (Sp.cells m) := km
    obtain ⟨mw0, mw1, mw2, mw3, mw4, mw5, mw6, mw7, mw8, mw9, mw10⟩ := qm.c11
    have mz0 := fun z : Lt V6 => z.cell mw0
    have mz1 := fun z : Lt V6 => z.cell mw1
    have mz2 := fun z : Lt V6 => z.cell mw2
    have mz3 := fun z : Lt V6 => z.cell mw3
    have mz4 := fun z : Lt V6 => z.cell mw4
    have mz5 := fun z : Lt V6 => z.cell mw5
    have mz6 := fun z : Lt V6 => z.cell mw6
    have mz7 := fun z : Lt V6 => z.cell mw7
    have mz8 := fun z : Lt V6 => z.cell mw8
    have mz9 := fun z : Lt V6 => z.cell mw9
    have mz10 := fun z : Lt V6 => z.cell mw10
    have qh : Blk V6 gy5 (Sp.cells h) := kh
    obtain ⟨hw0, hw1, hw2, hw3, hw4, hw5, hw6, hw7, hw8, hw9, hw10⟩ := qh.c11
    have hz0 := fun z : Lt V6 => z.cell hw0
    have hz1 := fun z : Lt V6 => z.cell hw1
    have hz2 := fun z : Lt V6 => z.cell hw2
    have hz3 := fun z : Lt V6 => z.cell hw3
    have hz4 := fun z : Lt V6 => z.cell hw4
    have hz5 := fun z : Lt V6 => z.cell hw5
    have hz6 := fun z : Lt V6 => z.cell hw6
    have hz7 := fun z : Lt V6 => z.cell hw7
    have hz8 := fun z : Lt V6 => z.cell hw8
    have hz9 := fun z : Lt V6 => z.cell hw9
    have hz10 := fun z : Lt V6 => z.cell hw10
    have qm2 : Blk V6 gy6 (Sp.cells m2) := km2
    obtain ⟨m2w0, m2w1, m2w2, m2w3, m2w4, m2w5, m2w6, m2w7, m2w8, m2w9, m2w10⟩ := qm2.c11
    have m2z0 := fun z : Lt V6 => z.cell m2w0
    have m2z1 := fun z : Lt V6 => z.cell m2w1
    have m2z2 := fun z : Lt V6 => z.cell m2w2
    have m2z3 := fun z : Lt V6 => z.cell m2w3
    have m2z4 := fun z : Lt V6 => z.cell m2w4
    have m2z5 := fun z : Lt V6 => z.cell m2w5
    have m2z6 := fun z : Lt V6 => z.cell m2w6
    have m2z7 := fun z : Lt V6 => z.cell m2w7
    have m2z8 := fun z : Lt V6 => z.cell m2w8
    have m2z9 := fun z : Lt V6 => z.cell m2w9
    have m2z10 := fun z : Lt V6 => z.cell m2w10
    go_wp2_with fail
    refine (C8.out V6 (Lt.base V6)).mono ?_; rintro e w' ⟨rfl, y7, rfl⟩
    obtain ⟨gy7, hgy7⟩ : ∃ g, y7.1.heap.size = g := ⟨_, rfl⟩
    go_upto_region 12 with fail
    refine wp_here fun V7 hV7 => ?_
    have bV7 : Below V6.heap.size V6 V7 := by rw [hV7]; exact y7.more _
    clear aw0 az0 aw1 az1 aw2 az2 aw3 az3 aw4 az4 aw5 az5 aw6 az6 aw7 az7 aw8 az8 aw9 az9 aw10 az10 qa bw0 bz0 bw1 bz1 bw2 bz2 bw3 bz3 bw4 bz4 bw5 bz5 bw6 bz6 bw7 bz7 bw8 bz8 bw9 bz9 bw10 bz10 qb vw0 vz0 vw1 vz1 vw2 vz2 mw0 mz0 mw1 mz1 mw2 mz2 mw3 mz3 mw4 mz4 mw5 mz5 mw6 mz6 mw7 mz7 mw8 mz8 mw9 mz9 mw10 mz10 qm hw0 hz0 hw1 hz1 hw2 hz2 hw3 hz3 hw4 hz4 hw5 hz5 hw6 hz6 hw7 hz7 hw8 hz8 hw9 hz9 hw10 hz10 qh m2w0 m2z0 m2w1 m2z1 m2w2 m2z2 m2w3 m2z3 m2w4 m2z4 m2w5 m2z5 m2w6 m2z6 m2w7 m2z7 m2w8 m2z8 m2w9 m2z9 m2w10 m2z10 qm2
    replace ka := ka.below bV7
    replace kb := kb.below bV7
    replace kv := kv.below bV7
    replace km := km.below bV7
    replace kh := kh.below bV7
    replace km2 := km2.below bV7
    have kh2 : Blk V7 gy7 [.bool h2.none, .bool h2.lo, .bool h2.olo, .bool h2.l.t, .int .i64 h2.l.n, .string h2.l.s, .bool h2.hi, .bool h2.ohi, .bool h2.h.t, .int .i64 h2.h.n, .string h2.h.s] := by rw [hV7]; exact Blk.new' (l := #[.bool h2.none, .bool h2.lo, .bool h2.olo, .bool h2.l.t, .int .i64 h2.l.n, .string h2.l.s, .bool h2.hi, .bool h2.ohi, .bool h2.h.t, .int .i64 h2.h.n, .string h2.h.s]) hgy7.symm
    have BV7 : Below W.heap.size W V7 := below_then BV6 bV7
    clear hV7 hgy7
    have qa : Blk V7 (x.1.heap.size) (Sp.cells a) := ka
    obtain ⟨aw0, aw1, aw2, aw3, aw4, aw5, aw6, aw7, aw8, aw9, aw10⟩ := qa.c11
    have az0 := fun z : Lt V7 => z.cell aw0
    have az1 := fun z : Lt V7 => z.cell aw1
    have az2 := fun z : Lt V7 => z.cell aw2
    have az3 := fun z : Lt V7 => z.cell aw3
    have az4 := fun z : Lt V7 => z.cell aw4
    have az5 := fun z : Lt V7 => z.cell aw5
    have az6 := fun z : Lt V7 => z.cell aw6
    have az7 := fun z : Lt V7 => z.cell aw7
    have az8 := fun z : Lt V7 => z.cell aw8
    have az9 := fun z : Lt V7 => z.cell aw9
    have az10 := fun z : Lt V7 => z.cell aw10
    have qb : Blk V7 (x.1.heap.size + 1) (Sp.cells b) := kb
    obtain ⟨bw0, bw1, bw2, bw3, bw4, bw5, bw6, bw7, bw8, bw9, bw10⟩ := qb.c11
    have bz0 := fun z : Lt V7 => z.cell bw0
    have bz1 := fun z : Lt V7 => z.cell bw1
    have bz2 := fun z : Lt V7 => z.cell bw2
    have bz3 := fun z : Lt V7 => z.cell bw3
    have bz4 := fun z : Lt V7 => z.cell bw4
    have bz5 := fun z : Lt V7 => z.cell bw5
    have bz6 := fun z : Lt V7 => z.cell bw6
    have bz7 := fun z : Lt V7 => z.cell bw7
    have bz8 := fun z : Lt V7 => z.cell bw8
    have bz9 := fun z : Lt V7 => z.cell bw9
    have bz10 := fun z : Lt V7 => z.cell bw10
    have vw0 := kv.cell 0 _ rfl
    have vw1 := kv.cell 1 _ rfl
    have vw2 := kv.cell 2 _ rfl
    have vz0 := fun z : Lt V7 => z.cell vw0
    have vz1 := fun z : Lt V7 => z.cell vw1
    have vz2 := fun z : Lt V7 => z.cell vw2
    have qm : Blk V7 gy4 (Sp.cells m) := km
    obtain ⟨mw0, mw1, mw2, mw3, mw4, mw5, mw6, mw7, mw8, mw9, mw10⟩ := qm.c11
    have mz0 := fun z : Lt V7 => z.cell mw0
    have mz1 := fun z : Lt V7 => z.cell mw1
    have mz2 := fun z : Lt V7 => z.cell mw2
    have mz3 := fun z : Lt V7 => z.cell mw3
    have mz4 := fun z : Lt V7 => z.cell mw4
    have mz5 := fun z : Lt V7 => z.cell mw5
    have mz6 := fun z : Lt V7 => z.cell mw6
    have mz7 := fun z : Lt V7 => z.cell mw7
    have mz8 := fun z : Lt V7 => z.cell mw8
    have mz9 := fun z : Lt V7 => z.cell mw9
    have mz10 := fun z : Lt V7 => z.cell mw10
    have qh : Blk V7 gy5 (Sp.cells h) := kh
    obtain ⟨hw0, hw1, hw2, hw3, hw4, hw5, hw6, hw7, hw8, hw9, hw10⟩ := qh.c11
    have hz0 := fun z : Lt V7 => z.cell hw0
    have hz1 := fun z : Lt V7 => z.cell hw1
    have hz2 := fun z : Lt V7 => z.cell hw2
    have hz3 := fun z : Lt V7 => z.cell hw3
    have hz4 := fun z : Lt V7 => z.cell hw4
    have hz5 := fun z : Lt V7 => z.cell hw5
    have hz6 := fun z : Lt V7 => z.cell hw6
    have hz7 := fun z : Lt V7 => z.cell hw7
    have hz8 := fun z : Lt V7 => z.cell hw8
    have hz9 := fun z : Lt V7 => z.cell hw9
    have hz10 := fun z : Lt V7 => z.cell hw10
    have qm2 : Blk V7 gy6 (Sp.cells m2) := km2
    obtain ⟨m2w0, m2w1, m2w2, m2w3, m2w4, m2w5, m2w6, m2w7, m2w8, m2w9, m2w10⟩ := qm2.c11
    have m2z0 := fun z : Lt V7 => z.cell m2w0
    have m2z1 := fun z : Lt V7 => z.cell m2w1
    have m2z2 := fun z : Lt V7 => z.cell m2w2
    have m2z3 := fun z : Lt V7 => z.cell m2w3
    have m2z4 := fun z : Lt V7 => z.cell m2w4
    have m2z5 := fun z : Lt V7 => z.cell m2w5
    have m2z6 := fun z : Lt V7 => z.cell m2w6
    have m2z7 := fun z : Lt V7 => z.cell m2w7
    have m2z8 := fun z : Lt V7 => z.cell m2w8
    have m2z9 := fun z : Lt V7 => z.cell m2w9
    have m2z10 := fun z : Lt V7 => z.cell m2w10
    have qh2 : Blk V7 gy7 (Sp.cells h2) := kh2
    obtain ⟨h2w0, h2w1, h2w2, h2w3, h2w4, h2w5, h2w6, h2w7, h2w8, h2w9, h2w10⟩ := qh2.c11
    have h2z0 := fun z : Lt V7 => z.cell h2w0
    have h2z1 := fun z : Lt V7 => z.cell h2w1
    have h2z2 := fun z : Lt V7 => z.cell h2w2
    have h2z3 := fun z : Lt V7 => z.cell h2w3
    have h2z4 := fun z : Lt V7 => z.cell h2w4
    have h2z5 := fun z : Lt V7 => z.cell h2w5
    have h2z6 := fun z : Lt V7 => z.cell h2w6
    have h2z7 := fun z : Lt V7 => z.cell h2w7
    have h2z8 := fun z : Lt V7 => z.cell h2w8
    have h2z9 := fun z : Lt V7 => z.cell h2w9
    have h2z10 := fun z : Lt V7 => z.cell h2w10
    cases hmn : m.none
    · clear HNO
      refine wp_region_here (by kernel_rfl) (by kernel_rfl) ?_
      repeat (go_big_quiet_step ((first | (go_at_call 17; with_reducible exact C9.out _ _) | (go_at_call 17; with_reducible exact C10.out _ _) | (go_at_call 17; with_reducible exact C6.out _ _))))
      refine wpQuiet_nil ?_; intro _ hw'; obtain ⟨z, rfl⟩ := hw'
      go_wp2_with fail
      go_ret
      exact ⟨rfl, z.via BV7, rfl⟩
    · have en := fun w => (show (binOp .eql 35 (.agg #[.bool true, .bool m.lo, .bool m.olo, .bool m.l.t, .int .i64 m.l.n, .string m.l.s, .bool m.hi, .bool m.ohi, .bool m.h.t, .int .i64 m.h.n, .string m.h.s]) (.agg #[.bool true, .bool false, .bool false, .bool false, .int .i64 0, .string ⟨#[]⟩, .bool false, .bool false, .bool false, .int .i64 0, .string ⟨#[]⟩])).run Try.prog w = .ok (.bool true) w from run_eql_span_t (a := { m with none := true }) (b := Sp.nothing) (by rw [HNO.out hmn]) w)
      clear HNO
      refine wp_region_here (by kernel_rfl) (by kernel_rfl) ?_
      repeat (go_big_quiet_step ((first | (go_at_call 17; with_reducible exact C9.out _ _) | (go_at_call 17; with_reducible exact C10.out _ _) | (go_at_call 17; with_reducible exact C6.out _ _))))
      refine wpQuiet_nil ?_; intro _ hw'; obtain ⟨z, rfl⟩ := hw'
      go_wp2_with fail
      go_ret
      exact ⟨rfl, z.via BV7, rfl⟩
  · go_wp2_with fail
    refine (C5.out V5 (Lt.base V5)).mono ?_; rintro e w' ⟨rfl, ya, rfl⟩
    go_wp2_with fail
    refine (C7.out V5 ya).mono ?_; rintro e w' ⟨rfl, y6, rfl⟩
    obtain ⟨gy6, hgy6⟩ : ∃ g, y6.1.heap.size = g := ⟨_, rfl⟩
    go_upto_region 11 with fail
    refine wp_here fun V6 hV6 => ?_
    have bV6 : Below V5.heap.size V5 V6 := by rw [hV6]; exact y6.more _
    clear aw0 az0 aw1 az1 aw2 az2 aw3 az3 aw4 az4 aw5 az5 aw6 az6 aw7 az7 aw8 az8 aw9 az9 aw10 az10 qa bw0 bz0 bw1 bz1 bw2 bz2 bw3 bz3 bw4 bz4 bw5 bz5 bw6 bz6 bw7 bz7 bw8 bz8 bw9 bz9 bw10 bz10 qb vw0 vz0 vw1 vz1 vw2 vz2 mw0 mz0 mw1 mz1 mw2 mz2 mw3 mz3 mw4 mz4 mw5 mz5 mw6 mz6 mw7 mz7 mw8 mz8 mw9 mz9 mw10 mz10 qm hw0 hz0 hw1 hz1 hw2 hz2 hw3 hz3 hw4 hz4 hw5 hz5 hw6 hz6 hw7 hz7 hw8 hz8 hw9 hz9 hw10 hz10 qh
    replace ka := ka.below bV6
    replace kb := kb.below bV6
    replace kv := kv.below bV6
    replace km := km.below bV6
    replace kh := kh.below bV6
    have km2 : Blk V6 gy6 [.bool m2.none, .bool m2.lo, .bool m2.olo, .bool m2.l.t, .int .i64 m2.l.n, .string m2.l.s, .bool m2.hi, .bool m2.ohi, .bool m2.h.t, .int .i64 m2.h.n, .string m2.h.s] := by rw [hV6]; exact Blk.new' (l := #[.bool m2.none, .bool m2.lo, .bool m2.olo, .bool m2.l.t, .int .i64 m2.l.n, .string m2.l.s, .bool m2.hi, .bool m2.ohi, .bool m2.h.t, .int .i64 m2.h.n, .string m2.h.s]) hgy6.symm
    have BV6 : Below W.heap.size W V6 := below_then BV5 bV6
    clear hV6 hgy6
    have qa : Blk V6 (x.1.heap.size) (Sp.cells a) := ka
    obtain ⟨aw0, aw1, aw2, aw3, aw4, aw5, aw6, aw7, aw8, aw9, aw10⟩ := qa.c11
    have az0 := fun z : Lt V6 => z.cell aw0
    have az1 := fun z : Lt V6 => z.cell aw1
    have az2 := fun z : Lt V6 => z.cell aw2
    have az3 := fun z : Lt V6 => z.cell aw3
    have az4 := fun z : Lt V6 => z.cell aw4
    have az5 := fun z : Lt V6 => z.cell aw5
    have az6 := fun z : Lt V6 => z.cell aw6
    have az7 := fun z : Lt V6 => z.cell aw7
    have az8 := fun z : Lt V6 => z.cell aw8
    have az9 := fun z : Lt V6 => z.cell aw9
    have az10 := fun z : Lt V6 => z.cell aw10
    have qb : Blk V6 (x.1.heap.size + 1) (Sp.cells b) := kb
    obtain ⟨bw0, bw1, bw2, bw3, bw4, bw5, bw6, bw7, bw8, bw9, bw10⟩ := qb.c11
    have bz0 := fun z : Lt V6 => z.cell bw0
    have bz1 := fun z : Lt V6 => z.cell bw1
    have bz2 := fun z : Lt V6 => z.cell bw2
    have bz3 := fun z : Lt V6 => z.cell bw3
    have bz4 := fun z : Lt V6 => z.cell bw4
    have bz5 := fun z : Lt V6 => z.cell bw5
    have bz6 := fun z : Lt V6 => z.cell bw6
    have bz7 := fun z : Lt V6 => z.cell bw7
    have bz8 := fun z : Lt V6 => z.cell bw8
    have bz9 := fun z : Lt V6 => z.cell bw9
    have bz10 := fun z : Lt V6 => z.cell bw10
    have vw0 := kv.cell 0 _ rfl
    have vw1 := kv.cell 1 _ rfl
    have vw2 := kv.cell 2 _ rfl
    have vz0 := fun z : Lt V6 => z.cell vw0
    have vz1 := fun z : Lt V6 => z.cell vw1
    have vz2 := fun z : Lt V6 => z.cell vw2
    have qm : Blk V6 gy4 (Sp.cells m) := km
    obtain ⟨mw0, mw1, mw2, mw3, mw4, mw5, mw6, mw7, mw8, mw9, mw10⟩ := qm.c11
    have mz0 := fun z : Lt V6 => z.cell mw0
    have mz1 := fun z : Lt V6 => z.cell mw1
    have mz2 := fun z : Lt V6 => z.cell mw2
    have mz3 := fun z : Lt V6 => z.cell mw3
    have mz4 := fun z : Lt V6 => z.cell mw4
    have mz5 := fun z : Lt V6 => z.cell mw5
    have mz6 := fun z : Lt V6 => z.cell mw6
    have mz7 := fun z : Lt V6 => z.cell mw7
    have mz8 := fun z : Lt V6 => z.cell mw8
    have mz9 := fun z : Lt V6 => z.cell mw9
    have mz10 := fun z : Lt V6 => z.cell mw10
    have qh : Blk V6 gy5 (Sp.cells h) := kh
    obtain ⟨hw0, hw1, hw2, hw3, hw4, hw5, hw6, hw7, hw8, hw9, hw10⟩ := qh.c11
    have hz0 := fun z : Lt V6 => z.cell hw0
    have hz1 := fun z : Lt V6 => z.cell hw1
    have hz2 := fun z : Lt V6 => z.cell hw2
    have hz3 := fun z : Lt V6 => z.cell hw3
    have hz4 := fun z : Lt V6 => z.cell hw4
    have hz5 := fun z : Lt V6 => z.cell hw5
    have hz6 := fun z : Lt V6 => z.cell hw6
    have hz7 := fun z : Lt V6 => z.cell hw7
    have hz8 := fun z : Lt V6 => z.cell hw8
    have hz9 := fun z : Lt V6 => z.cell hw9
    have hz10 := fun z : Lt V6 => z.cell hw10
    have qm2 : Blk V6 gy6 (Sp.cells m2) := km2
    obtain ⟨m2w0, m2w1, m2w2, m2w3, m2w4, m2w5, m2w6, m2w7, m2w8, m2w9, m2w10⟩ := qm2.c11
    have m2z0 := fun z : Lt V6 => z.cell m2w0
    have m2z1 := fun z : Lt V6 => z.cell m2w1
    have m2z2 := fun z : Lt V6 => z.cell m2w2
    have m2z3 := fun z : Lt V6 => z.cell m2w3
    have m2z4 := fun z : Lt V6 => z.cell m2w4
    have m2z5 := fun z : Lt V6 => z.cell m2w5
    have m2z6 := fun z : Lt V6 => z.cell m2w6
    have m2z7 := fun z : Lt V6 => z.cell m2w7
    have m2z8 := fun z : Lt V6 => z.cell m2w8
    have m2z9 := fun z : Lt V6 => z.cell m2w9
    have m2z10 := fun z : Lt V6 => z.cell m2w10
    go_wp2_with fail
    refine (C8.out V6 (Lt.base V6)).mono ?_; rintro e w' ⟨rfl, y7, rfl⟩
    obtain ⟨gy7, hgy7⟩ : ∃ g, y7.1.heap.size = g := ⟨_, rfl⟩
    go_upto_region 12 with fail
    refine wp_here fun V7 hV7 => ?_
    have bV7 : Below V6.heap.size V6 V7 := by rw [hV7]; exact y7.more _
    clear aw0 az0 aw1 az1 aw2 az2 aw3 az3 aw4 az4 aw5 az5 aw6 az6 aw7 az7 aw8 az8 aw9 az9 aw10 az10 qa bw0 bz0 bw1 bz1 bw2 bz2 bw3 bz3 bw4 bz4 bw5 bz5 bw6 bz6 bw7 bz7 bw8 bz8 bw9 bz9 bw10 bz10 qb vw0 vz0 vw1 vz1 vw2 vz2 mw0 mz0 mw1 mz1 mw2 mz2 mw3 mz3 mw4 mz4 mw5 mz5 mw6 mz6 mw7 mz7 mw8 mz8 mw9 mz9 mw10 mz10 qm hw0 hz0 hw1 hz1 hw2 hz2 hw3 hz3 hw4 hz4 hw5 hz5 hw6 hz6 hw7 hz7 hw8 hz8 hw9 hz9 hw10 hz10 qh m2w0 m2z0 m2w1 m2z1 m2w2 m2z2 m2w3 m2z3 m2w4 m2z4 m2w5 m2z5 m2w6 m2z6 m2w7 m2z7 m2w8 m2z8 m2w9 m2z9 m2w10 m2z10 qm2
    replace ka := ka.below bV7
    replace kb := kb.below bV7
    replace kv := kv.below bV7
    replace km := km.below bV7
    replace kh := kh.below bV7
    replace km2 := km2.below bV7
    have kh2 : Blk V7 gy7 [.bool h2.none, .bool h2.lo, .bool h2.olo, .bool h2.l.t, .int .i64 h2.l.n, .string h2.l.s, .bool h2.hi, .bool h2.ohi, .bool h2.h.t, .int .i64 h2.h.n, .string h2.h.s] := by rw [hV7]; exact Blk.new' (l := #[.bool h2.none, .bool h2.lo, .bool h2.olo, .bool h2.l.t, .int .i64 h2.l.n, .string h2.l.s, .bool h2.hi, .bool h2.ohi, .bool h2.h.t, .int .i64 h2.h.n, .string h2.h.s]) hgy7.symm
    have BV7 : Below W.heap.size W V7 := below_then BV6 bV7
    clear hV7 hgy7
    have qa : Blk V7 (x.1.heap.size) (Sp.cells a) := ka
    obtain ⟨aw0, aw1, aw2, aw3, aw4, aw5, aw6, aw7, aw8, aw9, aw10⟩ := qa.c11
    have az0 := fun z : Lt V7 => z.cell aw0
    have az1 := fun z : Lt V7 => z.cell aw1
    have az2 := fun z : Lt V7 => z.cell aw2
    have az3 := fun z : Lt V7 => z.cell aw3
    have az4 := fun z : Lt V7 => z.cell aw4
    have az5 := fun z : Lt V7 => z.cell aw5
    have az6 := fun z : Lt V7 => z.cell aw6
    have az7 := fun z : Lt V7 => z.cell aw7
    have az8 := fun z : Lt V7 => z.cell aw8
    have az9 := fun z : Lt V7 => z.cell aw9
    have az10 := fun z : Lt V7 => z.cell aw10
    have qb : Blk V7 (x.1.heap.size + 1) (Sp.cells b) := kb
    obtain ⟨bw0, bw1, bw2, bw3, bw4, bw5, bw6, bw7, bw8, bw9, bw10⟩ := qb.c11
    have bz0 := fun z : Lt V7 => z.cell bw0
    have bz1 := fun z : Lt V7 => z.cell bw1
    have bz2 := fun z : Lt V7 => z.cell bw2
    have bz3 := fun z : Lt V7 => z.cell bw3
    have bz4 := fun z : Lt V7 => z.cell bw4
    have bz5 := fun z : Lt V7 => z.cell bw5
    have bz6 := fun z : Lt V7 => z.cell bw6
    have bz7 := fun z : Lt V7 => z.cell bw7
    have bz8 := fun z : Lt V7 => z.cell bw8
    have bz9 := fun z : Lt V7 => z.cell bw9
    have bz10 := fun z : Lt V7 => z.cell bw10
    have vw0 := kv.cell 0 _ rfl
    have vw1 := kv.cell 1 _ rfl
    have vw2 := kv.cell 2 _ rfl
    have vz0 := fun z : Lt V7 => z.cell vw0
    have vz1 := fun z : Lt V7 => z.cell vw1
    have vz2 := fun z : Lt V7 => z.cell vw2
    have qm : Blk V7 gy4 (Sp.cells m) := km
    obtain ⟨mw0, mw1, mw2, mw3, mw4, mw5, mw6, mw7, mw8, mw9, mw10⟩ := qm.c11
    have mz0 := fun z : Lt V7 => z.cell mw0
    have mz1 := fun z : Lt V7 => z.cell mw1
    have mz2 := fun z : Lt V7 => z.cell mw2
    have mz3 := fun z : Lt V7 => z.cell mw3
    have mz4 := fun z : Lt V7 => z.cell mw4
    have mz5 := fun z : Lt V7 => z.cell mw5
    have mz6 := fun z : Lt V7 => z.cell mw6
    have mz7 := fun z : Lt V7 => z.cell mw7
    have mz8 := fun z : Lt V7 => z.cell mw8
    have mz9 := fun z : Lt V7 => z.cell mw9
    have mz10 := fun z : Lt V7 => z.cell mw10
    have qh : Blk V7 gy5 (Sp.cells h) := kh
    obtain ⟨hw0, hw1, hw2, hw3, hw4, hw5, hw6, hw7, hw8, hw9, hw10⟩ := qh.c11
    have hz0 := fun z : Lt V7 => z.cell hw0
    have hz1 := fun z : Lt V7 => z.cell hw1
    have hz2 := fun z : Lt V7 => z.cell hw2
    have hz3 := fun z : Lt V7 => z.cell hw3
    have hz4 := fun z : Lt V7 => z.cell hw4
    have hz5 := fun z : Lt V7 => z.cell hw5
    have hz6 := fun z : Lt V7 => z.cell hw6
    have hz7 := fun z : Lt V7 => z.cell hw7
    have hz8 := fun z : Lt V7 => z.cell hw8
    have hz9 := fun z : Lt V7 => z.cell hw9
    have hz10 := fun z : Lt V7 => z.cell hw10
    have qm2 : Blk V7 gy6 (Sp.cells m2) := km2
    obtain ⟨m2w0, m2w1, m2w2, m2w3, m2w4, m2w5, m2w6, m2w7, m2w8, m2w9, m2w10⟩ := qm2.c11
    have m2z0 := fun z : Lt V7 => z.cell m2w0
    have m2z1 := fun z : Lt V7 => z.cell m2w1
    have m2z2 := fun z : Lt V7 => z.cell m2w2
    have m2z3 := fun z : Lt V7 => z.cell m2w3
    have m2z4 := fun z : Lt V7 => z.cell m2w4
    have m2z5 := fun z : Lt V7 => z.cell m2w5
    have m2z6 := fun z : Lt V7 => z.cell m2w6
    have m2z7 := fun z : Lt V7 => z.cell m2w7
    have m2z8 := fun z : Lt V7 => z.cell m2w8
    have m2z9 := fun z : Lt V7 => z.cell m2w9
    have m2z10 := fun z : Lt V7 => z.cell m2w10
    have qh2 : Blk V7 gy7 (Sp.cells h2) := kh2
    obtain ⟨h2w0, h2w1, h2w2, h2w3, h2w4, h2w5, h2w6, h2w7, h2w8, h2w9, h2w10⟩ := qh2.c11
    have h2z0 := fun z : Lt V7 => z.cell h2w0
    have h2z1 := fun z : Lt V7 => z.cell h2w1
    have h2z2 := fun z : Lt V7 => z.cell h2w2
    have h2z3 := fun z : Lt V7 => z.cell h2w3
    have h2z4 := fun z : Lt V7 => z.cell h2w4
    have h2z5 := fun z : Lt V7 => z.cell h2w5
    have h2z6 := fun z : Lt V7 => z.cell h2w6
    have h2z7 := fun z : Lt V7 => z.cell h2w7
    have h2z8 := fun z : Lt V7 => z.cell h2w8
    have h2z9 := fun z : Lt V7 => z.cell h2w9
    have h2z10 := fun z : Lt V7 => z.cell h2w10
    cases hmn : m.none
    · clear HNO
      refine wp_region_here (by kernel_rfl) (by kernel_rfl) ?_
      repeat (go_big_quiet_step ((first | (go_at_call 17; with_reducible exact C9.out _ _) | (go_at_call 17; with_reducible exact C10.out _ _) | (go_at_call 17; with_reducible exact C6.out _ _))))
      refine wpQuiet_nil ?_; intro _ hw'; obtain ⟨z, rfl⟩ := hw'
      go_wp2_with fail
      go_ret
      exact ⟨rfl, z.via BV7, rfl⟩
    · have en := fun w => (show (binOp .eql 35 (.agg #[.bool true, .bool m.lo, .bool m.olo, .bool m.l.t, .int .i64 m.l.n, .string m.l.s, .bool m.hi, .bool m.ohi, .bool m.h.t, .int .i64 m.h.n, .string m.h.s]) (.agg #[.bool true, .bool false, .bool false, .bool false, .int .i64 0, .string ⟨#[]⟩, .bool false, .bool false, .bool false, .int .i64 0, .string ⟨#[]⟩])).run Try.prog w = .ok (.bool true) w from run_eql_span_t (a := { m with none := true }) (b := Sp.nothing) (by rw [HNO.out hmn]) w)
      clear HNO
      refine wp_region_here (by kernel_rfl) (by kernel_rfl) ?_
      repeat (go_big_quiet_step ((first | (go_at_call 17; with_reducible exact C9.out _ _) | (go_at_call 17; with_reducible exact C10.out _ _) | (go_at_call 17; with_reducible exact C6.out _ _))))
      refine wpQuiet_nil ?_; intro _ hw'; obtain ⟨z, rfl⟩ := hw'
      go_wp2_with fail
      go_ret
      exact ⟨rfl, z.via BV7, rfl⟩
theorem normalMeets_any (a b : Sp) (v : Val) (x : Lt W) : Calls Try.prog 7 #[a.val, b.val, .agg #[.bool v.t, .int .i64 v.n, .string v.s]] x.1 fun e w' => e = .returned (.bool true) ∧ ∃ y : Lt W, w' = y.1 := by
  refine normalMeets_go a b _ _ _ _ v _ _ _ _ rfl rfl rfl rfl rfl rfl rfl (Sp.hull_turn a b v) (Sp.within_meet a b v) (by rw [Sp.within_meet, Bool.and_comm]) Sp.meet_nothing ?_ x
  have h1 : a.within v = true → (a.hull b).within v = true := Sp.hull_left
  have h2 : b.within v = true → (a.hull b).within v = true := Sp.hull_right
  revert h1 h2
  generalize a.within v = p
  generalize b.within v = q
  generalize (a.hull b).within v = r
  cases p <;> cases q <;> cases r <;> simp
end Go.Proofs.Ytppoefbfepehpaa
