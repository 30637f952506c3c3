/-
  The document's Show, walked for any value. Conditions: a number is of 64 bits, a text has at most a thousand bytes.
-/
import Derived.Test.YtlfdiafpmlcmdaaDoorShow
import Derived.Deep.AppendLies
import Derived.Deep.RegionLaw
namespace Go.Proofs.YtlfdiafpmlcmdaaDoor
open Go.RowKit
variable {W : World}

theorem row_below {base : Nat} {t : TypeId} {size : Nat} {v : Value} {n : Nat} {xs : List Value} {w w' : World} (h : w.ownsRow base t size v n xs) (hb : Below w.heap.size w w') : w'.ownsRow base t size v n xs :=
  h.kept (row := none) ⟨hb.os, hb.tape, hb.output, hb.size, fun k hk _ => hb.block k hk⟩ (Classical.em _)
/-- Bytes laid behind one another in a row of one's own from block B on. -/
structure BInv (W : World) (B : Nat) (l : List UInt8) (n : Nat) (A : Option Addr) (ca : Nat) (wr : World) : Prop where
  below : Below W.heap.size W wr
  base : W.heap.size ≤ B ∧ B ≤ wr.heap.size
  len : l.length = n
  row : wr.ownsRow B 5 1 (.slice A n ca) n (l.map byteV)
theorem BInv.old {B : Nat} {l : List UInt8} {n : Nat} {A : Option Addr} {ca : Nat} {wr w4 w5 : World} (h : BInv W B l n A ca wr) (hb4 : Below wr.heap.size wr w4) {ob : Obj} (hgrow : (w4.alloc ob).grownBy w5 (Value.slice A n ca).ownBlock) : ∀ b, b < B → w5.heap[b]? = wr.heap[b]? := fun b hb => by
  have hs4 := hb4.size
  have hB := h.base
  have hne : (Value.slice A n ca).ownBlock ≠ some b := fun e => by have := (h.row.lt b e).1; omega
  rw [hgrow.block b (by simp; omega) (fun e => hne e.symm), (below_alloc ob).block b (by omega), hb4.block b (by omega)]
theorem BInv.step {B : Nat} {l : List UInt8} {n : Nat} {A : Option Addr} {ca : Nat} {wr : World} (h : BInv W B l n A ca wr) {news : List UInt8} {w4 w5 : World} (hb4 : Below wr.heap.size wr w4) {ob : Obj} {g cap m : Nat} (hm : news.length = m) (hrow5 : w5.ownsRow B 5 1 (.slice (some ⟨g, 0, none⟩) (n + m) cap) (n + m) (l.map byteV ++ news.map byteV)) (hgrow : (w4.alloc ob).grownBy w5 (Value.slice A n ca).ownBlock) : BInv W B (l ++ news) (n + m) (some ⟨g, 0, none⟩) cap w5 := by
  have e5 := h.old hb4 hgrow
  have hB := h.base
  have hs4 := hb4.size
  have hs5 := hgrow.size
  have hH : (w4.alloc ob).heap.size = w4.heap.size + 1 := by simp
  refine ⟨⟨?_, ?_, ?_, ?_, ?_⟩, ⟨hB.1, by omega⟩, by rw [List.length_append, h.len, hm], by rw [List.map_append]; exact hrow5⟩
  · exact hgrow.os.trans (hb4.os.trans h.below.os)
  · exact hgrow.tape.trans (hb4.tape.trans h.below.tape)
  · exact hgrow.output.trans (hb4.output.trans h.below.output)
  · have := h.below.size; omega
  · intro b hb
    rw [e5 b (by omega)]
    exact h.below.block b hb
theorem BInv.keep {B : Nat} {l : List UInt8} {n : Nat} {A : Option Addr} {ca : Nat} {wr w4 w5 : World} (h : BInv W B l n A ca wr) (hb4 : Below wr.heap.size wr w4) {ob : Obj} (hgrow : (w4.alloc ob).grownBy w5 (Value.slice A n ca).ownBlock) {g : Nat} {cs : List Value} (hg : Blk wr g cs) (hlt : g < B) : Blk w5 g cs :=
  hg.other (by have h1 := hgrow.size; have h2 := hb4.size; have h3 : (w4.alloc ob).heap.size = w4.heap.size + 1 := by simp
               omega) (h.old hb4 hgrow g hlt)
/-- A string out of such bytes. -/
theorem BInv.str {B : Nat} {l : List UInt8} {n : Nat} {A : Option Addr} {ca : Nat} {wr : World} (h : BInv W B l n A ca wr) : (convert 45 9 (.slice A n ca)).run Tryd.prog wr = .ok (.string ⟨l.toArray⟩) wr := by
  have hl := h.len
  rcases h.row.2 with ⟨e, hz⟩ | ⟨g, cap, cur, e, _⟩
  · injection e with e1 e2 e3
    subst e1
    obtain rfl : l = [] := List.length_eq_zero_iff.1 (by omega)
    subst hz; subst e3
    rw [run_convert_bytes_string wr 45 9 5 none 0 0 Tryd.underlying45 Tryd.underlying5 Tryd.underlying9]
    rfl
  · injection e with e1 e2 e3
    subst e1
    rw [← hl]
    exact run_convert_bytes_back wr 45 9 5 ⟨g, 0, none⟩ ca l Tryd.underlying45 Tryd.underlying5 Tryd.underlying9 (fun j hj => h.row.cells (g := g) rfl j _ (by rw [List.getElem?_map, List.getElem?_eq_getElem hj]; rfl))
theorem info_bytes : ∃ i, Tryd.prog.info? 5 = some i ∧ i.zero = some (.int .u8 0) ∧ i.size = 1 ∧ i.bytes = 1 := by
  obtain ⟨i, hi, h⟩ := Option.map_eq_some_iff.1 info_byte
  simp only [Prod.mk.injEq] at h
  exact ⟨i, hi, h.1, h.2.1, h.2.2⟩
theorem new_two {w : World} {t : TypeId} (a b : Value) (j : Nat) (u : Value) (h : [a, b][j]? = some u) : (w.alloc (.cells #[a, b] t)).cell? ((⟨w.heap.size, 0, none⟩ : Addr).add j) = some u := by
  rw [paddr, Nat.zero_add]
  exact (Blk.new' (w := w) (l := #[a, b]) (t := t) rfl).cell j u h

theorem one_two (a b : Int) : ∀ u ∈ [Value.int .u8 a, .int .u8 b], u.oneCell' = true := fun u hu => by
  rcases List.mem_cons.1 hu with rfl | hu
  · rfl
  · rw [List.mem_singleton] at hu; rw [hu]; rfl
theorem wrap_u8 {n : Int} (h0 : 0 ≤ n) (h1 : n < 256) : IntKind.u8.wrap n = n := by
  simp only [IntKind.wrap, IntKind.signed, IntKind.bits, Bool.false_and, Bool.false_eq_true, if_false]
  omega
theorem data_size (s : ByteArray) : s.data.toList.length = s.size := Array.length_toList
set_option maxHeartbeats 1000000 in
theorem rshow_text {n : Int} {s : ByteArray} (hs : s.size ≤ 1000) (hr : Val.right ⟨true, n, s⟩ = true) (x : Lt W) : Calls Tryd.prog 18 #[.agg #[.bool true, .int .i64 n, .string s]] x.1 fun e w' => e = .returned (.string ⟨(120 :: V.hexes s.data.toList).toArray⟩) ∧ ∃ y : Lt W, w' = y.1 := by
  have HR := Lib.hid hr
  clear hr
  obtain ⟨L, hL⟩ : ∃ L : List UInt8, 120 :: V.hexes s.data.toList = L := ⟨_, rfl⟩
  have HLL := Lib.hid hL
  rw [hL]
  clear hL
  obtain ⟨i0, hi, hz0, hz1, hz2⟩ := info_bytes
  obtain ⟨z, hz⟩ : ∃ z, s.size = z := ⟨_, rfl⟩
  have hz2' := data_size s
  rw [hz] at hz2'
  go_enter Tryd.func18, Tryd.ntmps18
  go_wp2_with fail
  refine calls_here fun W1 hW1 => ?_
  have hb1 : Below W.heap.size W W1 := by rw [hW1]; exact x.more _
  have hV : Blk W1 x.1.heap.size [.bool true, .int .i64 n, .string s] := by rw [hW1]; exact Blk.new' (l := #[.bool true, .int .i64 n, .string s]) rfl
  have hg := x.2.size
  clear hW1
  obtain ⟨g, hgg⟩ : ∃ g, x.1.heap.size = g := ⟨_, rfl⟩
  rw [hgg] at hV hg ⊢
  clear hgg
  refine (rvright_is (v := ⟨true, n, s⟩) HR.out (Lt.base W1)).mono ?_; rintro e w' ⟨rfl, y, rfl⟩
  have hV2 := hV.below y.2
  have v0 := hV2.cell 0 _ rfl
  have v2 := hV2.cell 2 _ rfl
  obtain ⟨o, ho⟩ : ∃ o, y.1.heap.size = o := ⟨_, rfl⟩
  go_upto_region 7 with fail
  refine wp_here fun W2 hW2 => ?_
  have hb2 : Below W.heap.size W W2 := by rw [hW2]; exact below_then (below_then hb1 y.2) (below_alloc _)
  have hB : Blk W2 g [.bool true, .int .i64 n, .string s] := by rw [hW2]; exact hV2.alloc _
  have hgo : g < o := by have := hV2.lt; omega
  have hin : BInv W o (120 :: V.hexes (s.data.toList.take 0)) (1 + 2 * 0) (some ⟨o, 0, none⟩) 1 W2 := by
    refine ⟨hb2, ⟨by have := hb1.size; have := y.2.size; omega, by rw [hW2]; simp; omega⟩, rfl, ?_⟩
    rw [hW2, ← ho]
    exact World.ownsRow_lit (base := y.1.heap.size) (size := 1) y.1 #[.int .u8 120] 1 (Nat.le_refl _) (by unfold maxLen; omega) rfl
  clear hW2 ho v0 v2
  go_wp2_with fail
  go_loopw [5, 4] (fun i sl wr => ∃ (k : Nat) (A : Option Addr) (ca : Nat), i = .int .i64 k ∧ k ≤ z ∧ sl = .slice A (1 + 2 * k) ca ∧ BInv W o (120 :: V.hexes (s.data.toList.take k)) (1 + 2 * k) A ca wr ∧ Blk wr g [.bool true, .int .i64 n, .string s]) (fun i _ _ => z - (intOf i).toNat)
  case atStart => exact ⟨0, some ⟨o, 0, none⟩, 1, rfl, by omega, rfl, hin, hB⟩
  case round =>
    clear hin hB
    rename_i wr
    obtain ⟨k, A, ca, rfl, hk, rfl, hin, hB⟩ := hrel
    have b2 := hB.cell 2 _ rfl
    by_cases hlt : k < z
    · have i1 : (k : Int) < (z : Int) := by omega
      have i0' : (0 : Int) ≤ (k : Int) := by omega
      obtain ⟨b, hb⟩ : ∃ b, s[k]'(show k < s.size by omega) = b := ⟨_, rfl⟩
      have HBL := Lib.hid (show s.data.toList[k]? = some b by rw [← hb, Array.getElem?_toList]; exact Array.getElem?_eq_getElem (show k < s.data.size by rw [← Array.length_toList]; omega))
      have hbl := b.toNat_lt
      obtain ⟨t1, ht1⟩ : ∃ t, V.tab.getD (b.toNat / 16) 0 = t := ⟨_, rfl⟩
      obtain ⟨t2, ht2⟩ : ∃ t, V.tab.getD (b.toNat % 16) 0 = t := ⟨_, rfl⟩
      have C1 := Lib.hid (show ∀ w : World, Calls Tryd.prog 32 #[.int .u8 (IntKind.u8.wrap ((b.toNat : Int) / 16))] w fun e w' => e = .returned (.int .u8 (t1 : Nat)) ∧ w' = w from fun w => by
        have h := rdigit_any (V.lt16 b) (Lt.base w); rw [ht1] at h; rw [wrap_u8 (by omega) (by omega)]; exact h)
      have C2 := Lib.hid (show ∀ w : World, Calls Tryd.prog 32 #[.int .u8 ((b.toNat : Int).tmod 16)] w fun e w' => e = .returned (.int .u8 (t2 : Nat)) ∧ w' = w from fun w => by
        have h := rdigit_any (k := b.toNat % 16) (by omega) (Lt.base w); rw [ht2] at h; rw [Int.tmod_eq_emod_of_nonneg (by omega)]; exact h)
      have HT1 := Lib.hid (show byteV (V.dgt (b.toNat / 16)) = .int .u8 (t1 : Nat) by unfold byteV; rw [V.dgt_nat (V.lt16 b), ht1])
      have HT2 := Lib.hid (show byteV (V.dgt (b.toNat % 16)) = .int .u8 (t2 : Nat) by unfold byteV; rw [V.dgt_nat (by omega), ht2])
      clear ht1 ht2
      have hrow4 := fun ob => row_below hin.row (below_then (below_alloc ob) (Below.refl _ _).drew)
      have HIN := Lib.hid hin
      have HB := Lib.hid hB
      have hov := hin.base.2
      have hk9 : k ≤ 1000 := by omega
      clear hin hB
      go_upto_region 10 with fail
      go_region_law (first
        | (refine step_append_lies _ (by rfl) (.tmp 24) (.tmp 37) 45 (by rfl) o 5 i0 _ 1 1 Tryd.underlying45 hi hz0 hz1 hz2 rfl (by omega) (.slice A (1 + 2 * k) ca) (1 + 2 * k) _ (by simp [Act.eval]) (hrow4 _) ⟨wr.heap.size, 0, none⟩ 2 2 [.int .u8 (t1 : Nat), .int .u8 (t2 : Nat)] (by simp [Act.eval]) rfl (new_two (w := wr) _ _) (one_two _ _) (by omega) (by unfold maxLen; omega) (by omega) (by simp [World.drew]; omega) _ rfl ?_; intro g5 cap w5 hrow5 hgrow5 hat5 hlt5)
        | (go_simp; go_at_call 32; with_reducible refine Calls.mono (C1.out _) ?_; rintro e w' ⟨rfl, rfl⟩)
        | (go_simp; go_at_call 32; with_reducible refine Calls.mono (C2.out _) ?_; rintro e w' ⟨rfl, rfl⟩))
      all_goals
        rw [← HT1.out, ← HT2.out] at hrow5
        go_wp2_with fail
        go_roundw
        case rel => exact ⟨k + 1, some ⟨g5, 0, none⟩, cap, by go_num, by omega, rfl, by
          have h := HIN.out.step (w4 := wr.drew) (Below.refl _ _).drew (news := [V.dgt (b.toNat / 16), V.dgt (b.toNat % 16)]) rfl hrow5 hgrow5
          rw [List.take_add_one, HBL.out, V.hexes_append]
          exact h, HIN.out.keep (w4 := wr.drew) (Below.refl _ _).drew hgrow5 HB.out hgo⟩
        case measure => simp [intOf]; omega
    · obtain rfl : k = z := by omega
      have hcv := hin.str
      rw [List.take_of_length_le (by omega), HLL.out] at hcv
      have hbW := hin.below
      clear hin hB
      go_wp2_with fail
      go_ret
      exact ⟨rfl, ⟨_, hbW⟩, rfl⟩

set_option maxHeartbeats 1000000 in
theorem rshow_any {v : Val} (hn : Num.is v.n = true) (hs : v.s.size ≤ 1000) (x : Lt W) : Calls Tryd.prog 18 #[.agg #[.bool v.t, .int .i64 v.n, .string v.s]] x.1 fun e w' => e = .returned (.string ⟨v.shows.toArray⟩) ∧ ∃ y : Lt W, w' = y.1 := by
  obtain ⟨t, n, s⟩ := v
  obtain ⟨r, hr⟩ : ∃ r, Val.right ⟨t, n, s⟩ = r := ⟨_, rfl⟩
  cases r
  · rw [shows_wrong hr]
    have HR := Lib.hid hr
    clear hr
    go_enter Tryd.func18, Tryd.ntmps18
    go_wp2_with fail
    refine calls_here fun W1 hW1 => ?_
    have hb1 : Below W.heap.size W W1 := by rw [hW1]; exact x.more _
    clear hW1
    refine (rvright_is (v := ⟨t, n, s⟩) HR.out (Lt.base W1)).mono ?_; rintro e w' ⟨rfl, y, rfl⟩
    go_wp2_with fail
    go_ret
    exact ⟨rfl, y.via hb1, rfl⟩
  · cases t
    · rw [shows_number (v := ⟨false, n, s⟩) rfl hr]
      have HR := Lib.hid hr
      have HN := Lib.hid hn
      clear hr hn
      go_enter Tryd.func18, Tryd.ntmps18
      go_wp2_with fail
      refine calls_here fun W1 hW1 => ?_
      have hb1 : Below W.heap.size W W1 := by rw [hW1]; exact x.more _
      have hV : Blk W1 x.1.heap.size [.bool false, .int .i64 n, .string s] := by rw [hW1]; exact Blk.new' (l := #[.bool false, .int .i64 n, .string s]) rfl
      clear hW1
      refine (rvright_is (v := ⟨false, n, s⟩) HR.out (Lt.base W1)).mono ?_; rintro e w' ⟨rfl, y, rfl⟩
      have hV2 := hV.below y.2
      have v0 := hV2.cell 0 _ rfl
      have v1 := hV2.cell 1 _ rfl
      go_wp2_with fail
      refine (rdigits_any HN.out y).mono ?_; rintro e w' ⟨rfl, y2, rfl⟩
      go_wp2_with fail
      go_ret
      exact ⟨rfl, y2.via hb1, rfl⟩
    · rw [shows_text (v := ⟨true, n, s⟩) rfl hr]
      exact rshow_text hs hr x
end Go.Proofs.YtlfdiafpmlcmdaaDoor
