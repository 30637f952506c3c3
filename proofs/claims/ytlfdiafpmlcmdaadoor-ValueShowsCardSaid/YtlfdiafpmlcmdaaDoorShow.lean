/-
  The program's Show, walked for any value. Conditions: package value's table of digits holds what the program's text lays, strconv's table of powers too; a number is of 64 bits.
-/
import Derived.Test.YtlfdiafpmlcmdaaDoorRDigits
import Derived.Test.YtlfdiafpmlcmdaaDoorConv
import Derived.Test.YtlfdiafpmlcmdaaDoorText
import Derived.Laws.OwnMore
import Derived.Deep.Cut
import Derived.Lib.AppendIntMem
namespace Go.Proofs.YtlfdiafpmlcmdaaDoor
open Go.RowKit
variable {W : World}

/-- Strconv's table of powers lies there. -/
def Pows (W : World) : Prop := Lib.TabIs Tryd.prog W "internal/strconv.uint64pow10" .u64 Lib.pow10Tab
theorem Pows.below {W w : World} (h : Pows W) (hb : Below W.heap.size W w) : Pows w := Lib.tabBelow_of_tabIs h w hb
theorem vformat_any (hp : Pows W) {n : Int} (hn : Num.is n = true) (x : Lt W) : Calls Tryd.prog 29 #[.int .i64 n, .int .i64 10] x.1 fun e w' => e = .returned (.string ⟨(Lib.itoa n).toArray⟩) ∧ ∃ y : Lt W, w' = y.1 := by
  obtain ⟨h0, h1⟩ := Num.is_iff.1 hn
  refine (format10 n h0 h1 x.1 (hp.below x.2)).mono ?_
  rintro e w' ⟨rfl, k, os, rfl⟩
  exact ⟨rfl, x.end_ (Lib.below_grow _ _ (Nat.le_refl _) _ _)⟩
def byteV (b : UInt8) : Value := .int .u8 (b.toNat : Int)
/-- The first k bytes' digits are laid, the others not yet. -/
def outs (l : List UInt8) (k : Nat) : List Value := (120 :: V.hexes (l.take k)).map byteV ++ List.replicate (2 * (l.length - k)) (.int .u8 0)
theorem outs_length {l : List UInt8} {k : Nat} (hk : k ≤ l.length) : (outs l k).length = 1 + 2 * l.length := by
  unfold outs
  rw [List.length_append, List.length_map, List.length_cons, V.hexes_length, List.length_take, List.length_replicate]; omega
theorem outs_step {l : List UInt8} {k : Nat} {b : UInt8} (hb : l[k]? = some b) : ((outs l k).set (1 + 2 * k) (byteV (V.dgt (b.toNat / 16)))).set (2 + 2 * k) (byteV (V.dgt (b.toNat % 16))) = outs l (k + 1) := by
  have hk := (List.getElem?_eq_some_iff.1 hb).1
  unfold outs
  have hl : ((120 :: V.hexes (l.take k)).map byteV).length = 1 + 2 * k := by
    rw [List.length_map, List.length_cons, V.hexes_length, List.length_take]; omega
  rw [show 2 * (l.length - k) = 2 * (l.length - (k + 1)) + 1 + 1 by omega, List.replicate_succ, List.replicate_succ]
  rw [List.set_append_right (1 + 2 * k) _ (by omega), List.set_append_right (2 + 2 * k) _ (by omega), hl, show 1 + 2 * k - (1 + 2 * k) = 0 by omega, show 2 + 2 * k - (1 + 2 * k) = 1 by omega]
  rw [List.take_add_one, hb, V.hexes_append]
  show _ ++ (byteV _ :: byteV _ :: List.replicate _ _) = _
  rw [show V.hexes (some b).toList = [V.dgt (b.toNat / 16), V.dgt (b.toNat % 16)] from rfl]
  simp

set_option maxHeartbeats 1000000 in
theorem vshow_text (hd : Digs W) {n : Int} {s : ByteArray} (hr : Val.right ⟨true, n, s⟩ = true) (x : Lt W) : Calls Tryd.prog 17 #[.agg #[.bool true, .int .i64 n, .string s]] x.1 fun e w' => e = .returned (.string ⟨(120 :: V.hexes s.data.toList).toArray⟩) ∧ ∃ y : Lt W, w' = y.1 := by
  have HD := Lib.hid hd
  have HR := Lib.hid hr
  have hs12 : s.size ≤ 12 := (right_text (v := ⟨true, n, s⟩) rfl hr).2
  clear hd hr
  obtain ⟨L, hL⟩ : ∃ L : List UInt8, 120 :: V.hexes s.data.toList = L := ⟨_, rfl⟩
  have HLL := Lib.hid hL
  rw [hL]
  clear hL
  obtain ⟨z, hz⟩ : ∃ z, s.size = z := ⟨_, rfl⟩
  have hz2 : s.data.toList.length = z := by rw [Array.length_toList]; exact hz
  obtain ⟨m, hm⟩ : ∃ m, 1 + 2 * z = m := ⟨_, rfl⟩
  have hmk : ∀ w : World, (Instr.makeSlice 45 (.int .i64 (1 + 2 * (z : Int))) (.int .i64 (1 + 2 * (z : Int)))).run Tryd.prog w = .ok (.slice (some ⟨w.heap.size, 0, none⟩) m m) (w.alloc (.cells (madeCells #[.int .u8 0] m) 5)) := fun w => by
    have h := run_make_row' 45 5 (.int .u8 0) 1 Tryd.underlying45 info_byte rfl .i64 .i64 m (by omega) (by omega) w
    rwa [show (m : Int) = 1 + 2 * (z : Int) by omega] at h
  have m0 : (0 : Int) < (m : Int) := by omega
  go_enter Tryd.func17, Tryd.ntmps17
  go_wp2_with fail
  refine calls_here fun W1 hW1 => ?_
  have hb1 : Below W.heap.size W W1 := by rw [hW1]; exact x.more _
  have hV : Blk W1 x.1.heap.size [.bool true, .int .i64 n, .string s] := by rw [hW1]; exact Blk.new' (l := #[.bool true, .int .i64 n, .string s]) rfl
  have hg := x.2.size
  clear hW1
  obtain ⟨g, hgg⟩ : ∃ g, x.1.heap.size = g := ⟨_, rfl⟩
  rw [hgg] at hV hg ⊢
  clear hgg
  refine (vright_is (v := ⟨true, n, s⟩) HR.out (Lt.base W1)).mono ?_; rintro e w' ⟨rfl, y, rfl⟩
  have hV2 := hV.below y.2
  have v0 := hV2.cell 0 _ rfl
  have v2 := hV2.cell 2 _ rfl
  obtain ⟨o, ho⟩ : ∃ o, y.1.heap.size = o := ⟨_, rfl⟩
  have hmz : (madeCells #[Value.int .u8 0] m).toList = List.replicate m (.int .u8 0) := toList_madeCells_one _ _
  go_upto_region 6 with fail
  refine wp_here fun W2 hW2 => ?_
  have hb2 : Below W.heap.size W W2 := by rw [hW2]; exact below_then (below_then hb1 y.2) (below_alloc _)
  have hB : Blk W2 g [.bool true, .int .i64 n, .string s] := by rw [hW2]; exact hV2.alloc _
  have hO : Blk W2 o (List.replicate m (.int .u8 0)) := by rw [hW2, ← hmz]; exact Blk.new' ho.symm
  have hgo : g < o := by have := hV2.lt; omega
  clear hW2 hmk hmz ho v0 v2
  have o0 := hO.cell 0 (.int .u8 0) (by rw [List.getElem?_replicate, if_pos (by omega)])
  have of := hO.free
  have b2 := hB.cell 2 _ rfl
  have hn2 : ¬ o = g := by omega
  have hn3 : ¬ g = o := by omega
  go_upto_region 7 with fail
  refine wp_here fun W3 hW3 => ?_
  have hb3 : Below W.heap.size W W3 := by rw [hW3]; exact hb2.setCell (by show _ ≤ o; omega) _
  have hB3 : Blk W3 g [.bool true, .int .i64 n, .string s] := by rw [hW3]; exact hB.setOther (by show g ≠ o; omega) _
  have hO3 : Blk W3 o (outs s.data.toList 0) := by
    rw [hW3]
    have h := hO.set1 (j := 0) (by rw [List.length_replicate]; omega) (.int .u8 120)
    rw [← hm, show 1 + 2 * z = 2 * z + 1 by omega, List.replicate_succ, List.set_cons_zero] at h
    unfold outs
    rw [hz2]
    exact h
  clear hW3 hb2 hB hO o0 of b2
  have b2 := hB3.cell 2 _ rfl
  go_wp2_with fail
  go_loopw [25, 4] (fun i _ wr => ∃ k : Nat, i = .int .i64 k ∧ k ≤ z ∧ Below W.heap.size W wr ∧ Blk wr g [.bool true, .int .i64 n, .string s] ∧ Blk wr o (outs s.data.toList k)) (fun i _ _ => z - (intOf i).toNat)
  case atStart => exact ⟨0, rfl, by omega, hb3, hB3, hO3⟩
  case round =>
    rename_i wr
    obtain ⟨k, rfl, hk, hbW, hB, hO⟩ := hrel
    by_cases hlt : k < z
    · have i1 : (k : Int) < (z : Int) := by omega
      have b2 := hB.cell 2 _ rfl
      obtain ⟨b, hb⟩ : ∃ b, s[k]'(show k < s.size by omega) = b := ⟨_, rfl⟩
      have HBL := Lib.hid (show s.data.toList[k]? = some b by rw [← hb, Array.getElem?_toList]; exact Array.getElem?_eq_getElem (show k < s.data.size by rw [← Array.length_toList]; omega))
      have hbl := b.toNat_lt
      have c1 : wr.cell? ⟨0, b.toNat / 16, none⟩ = some (.int .u8 (V.tab.getD (b.toNat / 16) 0 : Nat)) := (HD.out.below hbW) _ (V.lt16 b)
      have c2 : wr.cell? ⟨0, b.toNat % 16, none⟩ = some (.int .u8 (V.tab.getD (b.toNat % 16) 0 : Nat)) := (HD.out.below hbW) _ (by omega)
      obtain ⟨t1, ht1⟩ : ∃ t, V.tab.getD (b.toNat / 16) 0 = t := ⟨_, rfl⟩
      obtain ⟨t2, ht2⟩ : ∃ t, V.tab.getD (b.toNat % 16) 0 = t := ⟨_, rfl⟩
      have HT1 := Lib.hid (show byteV (V.dgt (b.toNat / 16)) = .int .u8 (t1 : Nat) by unfold byteV; rw [V.dgt_nat (V.lt16 b), ht1])
      have HT2 := Lib.hid (show byteV (V.dgt (b.toNat % 16)) = .int .u8 (t2 : Nat) by unfold byteV; rw [V.dgt_nat (by omega), ht2])
      rw [ht1] at c1
      rw [ht2] at c2
      clear ht1 ht2
      have j1 : (b.toNat : Int) / 16 < 16 := by omega
      have j2 : (b.toNat : Int) % 16 < 16 := by omega
      have j3 : (1 : Int) + 2 * (k : Int) < (m : Int) := by omega
      have j4 : (2 : Int) + 2 * (k : Int) < (m : Int) := by omega
      have hz : 0 < W.heap.size := cell_lt (HD.out 0 (by omega))
      have hn0 : ¬ o = 0 := by omega
      have hn1 : ¬ 0 = o := by omega
      have hol : (outs s.data.toList k).length = m := by rw [outs_length (by omega)]; omega
      obtain ⟨p1, hp1⟩ : ∃ v, (outs s.data.toList k)[1 + 2 * k]? = some v := ⟨_, List.getElem?_eq_getElem (by omega)⟩
      obtain ⟨p2, hp2⟩ : ∃ v, (outs s.data.toList k)[2 + 2 * k]? = some v := ⟨_, List.getElem?_eq_getElem (by omega)⟩
      have o1 := hO.cell _ _ hp1
      have o2 := hO.cell _ _ hp2
      have of := hO.free
      clear hp1 hp2
      have HOL := Lib.hid hol
      clear hol
      go_wp2_with fail
      go_roundw
      case rel =>
        refine ⟨k + 1, by go_num, by omega, (hbW.setCell (by show _ ≤ o; omega) _).setCell (by show _ ≤ o; omega) _, (hB.setOther (by show g ≠ o; omega) _).setOther (by show g ≠ o; omega) _, ?_⟩
        have h := (hO.set1 (j := 1 + 2 * k) (by have := HOL.out; omega) (.int .u8 (t1 : Nat))).set1 (j := 2 + 2 * k) (by rw [List.length_set]; have := HOL.out; omega) (.int .u8 (t2 : Nat))
        rwa [← HT1.out, ← HT2.out, outs_step HBL.out, HT1.out, HT2.out] at h
      case measure => simp [intOf]; omega
    · obtain rfl : k = z := by omega
      have hLm : L.length = m := by rw [← HLL.out, List.length_cons, V.hexes_length]; omega
      have hO' : Blk wr o (L.map byteV) := by
        have h := hO
        unfold outs at h
        rw [List.take_of_length_le (by omega), show s.data.toList.length - k = 0 by omega, HLL.out] at h
        simpa using h
      have hcv : (convert 45 9 (.slice (some ⟨o, 0, none⟩) m m)).run Tryd.prog wr = .ok (.string ⟨L.toArray⟩) wr := by
        rw [← hLm]
        exact run_convert_bytes_back wr 45 9 5 ⟨o, 0, none⟩ L.length L Tryd.underlying45 Tryd.underlying5 Tryd.underlying9 (fun j hj => by
          rw [paddr, Nat.zero_add]
          refine hO'.cell j _ ?_
          rw [List.getElem?_map, List.getElem?_eq_getElem hj]; rfl)
      clear hLm
      go_wp2_with fail
      go_ret
      exact ⟨rfl, ⟨_, hbW⟩, rfl⟩

set_option maxHeartbeats 1000000 in
theorem vshow_any (hd : Digs W) (hp : Pows W) {v : Val} (hn : Num.is v.n = true) (x : Lt W) : Calls Tryd.prog 17 #[.agg #[.bool v.t, .int .i64 v.n, .string v.s]] x.1 fun e w' => e = .returned (.string ⟨v.shows.toArray⟩) ∧ ∃ y : Lt W, w' = y.1 := by
  obtain ⟨t, n, s⟩ := v
  obtain ⟨r, hr⟩ : ∃ r, Val.right ⟨t, n, s⟩ = r := ⟨_, rfl⟩
  cases r
  · rw [shows_wrong hr]
    have HR := Lib.hid hr
    clear hr
    go_enter Tryd.func17, Tryd.ntmps17
    go_wp2_with fail
    refine calls_here fun W1 hW1 => ?_
    have hb1 : Below W.heap.size W W1 := by rw [hW1]; exact x.more _
    clear hW1
    refine (vright_is (v := ⟨t, n, s⟩) HR.out (Lt.base W1)).mono ?_; rintro e w' ⟨rfl, y, rfl⟩
    go_wp2_with fail
    go_ret
    exact ⟨rfl, y.via hb1, rfl⟩
  · cases t
    · rw [shows_number (v := ⟨false, n, s⟩) rfl hr]
      have HR := Lib.hid hr
      have HP := Lib.hid hp
      have HN := Lib.hid hn
      clear hr hp hn
      go_enter Tryd.func17, Tryd.ntmps17
      go_wp2_with fail
      refine calls_here fun W1 hW1 => ?_
      have hb1 : Below W.heap.size W W1 := by rw [hW1]; exact x.more _
      have hV : Blk W1 x.1.heap.size [.bool false, .int .i64 n, .string s] := by rw [hW1]; exact Blk.new' (l := #[.bool false, .int .i64 n, .string s]) rfl
      clear hW1
      refine (vright_is (v := ⟨false, n, s⟩) HR.out (Lt.base W1)).mono ?_; rintro e w' ⟨rfl, y, rfl⟩
      have hV2 := hV.below y.2
      have v0 := hV2.cell 0 _ rfl
      have v1 := hV2.cell 1 _ rfl
      go_wp2_with fail
      refine (vformat_any (HP.out.below hb1) HN.out y).mono ?_; rintro e w' ⟨rfl, y2, rfl⟩
      go_wp2_with fail
      go_ret
      exact ⟨rfl, y2.via hb1, rfl⟩
    · rw [shows_text (v := ⟨true, n, s⟩) rfl hr]
      exact vshow_text hd hr x
end Go.Proofs.YtlfdiafpmlcmdaaDoor
