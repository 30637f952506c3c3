/-
  The program's Read, walked for any text. Conditions: package value's table of digits holds what the program's text lays, strconv's tables and error variables too; the text has at most a thousand bytes.
-/
import Derived.Test.YtlfdiafpmlcmdaaDoorShow
namespace Go.Proofs.YtlfdiafpmlcmdaaDoor
open Go.RowKit
variable {W : World}

/-- What Read returns: a value, or none. -/
def readV : Option Val → Value
  | none => .tuple #[.agg #[.bool false, .int .i64 0, .string ⟨#[]⟩], .int .i64 10]
  | some v => .tuple #[.agg #[.bool v.t, .int .i64 v.n, .string v.s], .int .i64 0]
/-- The value of a text behind its x. -/
def textOf (l : List UInt8) : Option Val := if l.length % 2 = 0 ∧ l.length ≤ 24 ∧ ∀ c ∈ l, V.isHex (c.toNat : Int) = true then some ⟨true, 0, ⟨(V.pairs l).toArray⟩⟩ else none
def laid (l : List UInt8) (h k : Nat) : List Value := (V.pairs (l.take (2 * k))).map byteV ++ List.replicate (h - k) (.int .u8 0)
theorem V.pairs_length : ∀ (n : Nat) (l : List UInt8), l.length = 2 * n → (pairs l).length = n
  | 0, [], _ => rfl
  | n + 1, a :: b :: r, h => by rw [pairs, List.length_cons, pairs_length n r (by simp only [List.length_cons] at h; omega)]
theorem V.pairs_append : ∀ (n : Nat) (l r : List UInt8), l.length = 2 * n → pairs (l ++ r) = pairs l ++ pairs r
  | 0, [], r, _ => rfl
  | n + 1, a :: b :: l, r, h => by
    rw [List.cons_append, List.cons_append, pairs, pairs, pairs_append n l r (by simp only [List.length_cons] at h; omega)]; rfl
theorem take_two {l : List UInt8} {k : Nat} {a b : UInt8} (ha : l[2 * k]? = some a) (hb : l[2 * k + 1]? = some b) : l.take (2 * (k + 1)) = l.take (2 * k) ++ [a, b] := by
  rw [show 2 * (k + 1) = 2 * k + 1 + 1 by omega, List.take_add_one, List.take_add_one, ha, hb, List.append_assoc]; rfl
theorem laid_length {l : List UInt8} {h k : Nat} (hl : l.length = 2 * h) (hk : k ≤ h) : (laid l h k).length = h := by
  unfold laid
  rw [List.length_append, List.length_map, List.length_replicate, V.pairs_length k _ (by rw [List.length_take]; omega)]; omega
theorem laid_step {l : List UInt8} {h k : Nat} {a b : UInt8} (hl : l.length = 2 * h) (ha : l[2 * k]? = some a) (hb : l[2 * k + 1]? = some b) : (laid l h k).set k (byteV (V.two a b)) = laid l h (k + 1) := by
  have hk := (List.getElem?_eq_some_iff.1 hb).1
  have hn : ((V.pairs (l.take (2 * k))).map byteV).length = k := by rw [List.length_map, V.pairs_length k _ (by rw [List.length_take]; omega)]
  unfold laid
  rw [show h - k = h - (k + 1) + 1 by omega, List.replicate_succ, List.set_append_right k _ (by omega), hn, Nat.sub_self, List.set_cons_zero]
  rw [take_two ha hb, V.pairs_append k _ _ (by rw [List.length_take]; omega)]
  show _ = List.map byteV (_ ++ [V.two a b]) ++ _
  simp

theorem bits_or {a b : Nat} (ha : a < 16) (hb : b < 16) : bits .or .u8 ((a : Int) * 16) (b : Int) = ((a * 16 + b : Nat) : Int) :=
  (show ∀ a b : Fin 16, bits .or .u8 (((a : Nat) : Int) * 16) ((b : Nat) : Int) = (((a : Nat) * 16 + (b : Nat) : Nat) : Int) by decide +kernel) ⟨a, ha⟩ ⟨b, hb⟩
theorem bad_hex {l : List UInt8} {i : Nat} {c : UInt8} (hc : l[i]? = some c) (h : V.isHex (c.toNat : Int) = false) : textOf l = none := by
  unfold textOf
  rw [if_neg]
  rintro ⟨_, _, h3⟩
  have := h3 c (List.mem_of_getElem? hc)
  rw [h] at this; cases this
set_option maxHeartbeats 1000000 in
theorem text_any (hd : Digs W) {s : ByteArray} (hs : s.size ≤ 1000) (x : Lt W) : Calls Tryd.prog 27 #[.string s] x.1 fun e w' => e = .returned (readV (textOf s.data.toList)) ∧ ∃ y : Lt W, w' = y.1 := by
  have HD := Lib.hid hd
  clear hd
  obtain ⟨z, hz⟩ : ∃ z, s.size = z := ⟨_, rfl⟩
  have hz2 : s.data.toList.length = z := by rw [Array.length_toList]; exact hz
  have hg := x.2.size
  by_cases hodd : z % 2 = 0
  case neg =>
    have e0 : textOf s.data.toList = none := by unfold textOf; rw [if_neg (by rw [hz2]; omega)]
    rw [e0]
    have e1 : (z : Int) % 2 = 1 := by omega
    go_enter Tryd.func27, Tryd.ntmps27
    go_wp2_with fail
    have hB0 : Blk (x.1.alloc (.cells #[.bool false, .int .i64 0, .string ⟨#[]⟩] 23)) x.1.heap.size [.bool false, .int .i64 0, .string ⟨#[]⟩] := Blk.new' (l := #[.bool false, .int .i64 0, .string ⟨#[]⟩]) rfl
    have f0 := hB0.cell 0 _ rfl
    have f1 := hB0.cell 1 _ rfl
    have f2 := hB0.cell 2 _ rfl
    refine bodyPost_ret (v := readV none) ?_ rfl ⟨rfl, ⟨_, x.more _⟩, rfl⟩
    simp [readV, results, Tryd.results27, go_sem, f0, f1, f2]
  by_cases hlong : 24 < z
  · have e0 : textOf s.data.toList = none := by unfold textOf; rw [if_neg (by rw [hz2]; omega)]
    rw [e0]
    have e1 : (z : Int) % 2 = 0 := by omega
    have e2 : (24 : Int) < (z : Int) := by omega
    go_enter Tryd.func27, Tryd.ntmps27
    go_wp2_with fail
    have hB0 : Blk (x.1.alloc (.cells #[.bool false, .int .i64 0, .string ⟨#[]⟩] 23)) x.1.heap.size [.bool false, .int .i64 0, .string ⟨#[]⟩] := Blk.new' (l := #[.bool false, .int .i64 0, .string ⟨#[]⟩]) rfl
    have f0 := hB0.cell 0 _ rfl
    have f1 := hB0.cell 1 _ rfl
    have f2 := hB0.cell 2 _ rfl
    refine bodyPost_ret (v := readV none) ?_ rfl ⟨rfl, ⟨_, x.more _⟩, rfl⟩
    simp [readV, results, Tryd.results27, go_sem, f0, f1, f2]
  obtain ⟨h, hh⟩ : ∃ h, z = 2 * h := ⟨z / 2, by omega⟩
  subst hh
  have e2 : ¬ (24 : Int) < 2 * (h : Int) := by omega
  have e3 : decide ((24 : Int) < 2 * (h : Int)) = false := decide_eq_false e2
  have hmk : ∀ w : World, (Instr.makeSlice 45 (.int .i64 (h : Int)) (.int .i64 (h : Int))).run Tryd.prog w = .ok (.slice (some ⟨w.heap.size, 0, none⟩) h h) (w.alloc (.cells (madeCells #[.int .u8 0] h) 5)) := fun w =>
    run_make_row' 45 5 (.int .u8 0) 1 Tryd.underlying45 info_byte rfl .i64 .i64 h (by omega) (by omega) w
  have hmz : (madeCells #[Value.int .u8 0] h).toList = List.replicate h (.int .u8 0) := toList_madeCells_one _ _
  obtain ⟨l, hl⟩ : ∃ l, s.data.toList = l := ⟨_, rfl⟩
  have HLD := Lib.hid hl
  rw [hl]
  rw [hl] at hz2
  have HL2 := Lib.hid (show l.length = 2 * h by omega)
  clear hl
  obtain ⟨tv, htv⟩ : ∃ tv, textOf l = tv := ⟨_, rfl⟩
  have HTV := Lib.hid htv
  rw [htv]
  clear htv
  go_enter Tryd.func27, Tryd.ntmps27
  go_upto_region 4 with fail
  refine wp_here fun W1 hW1 => ?_
  obtain ⟨g, hgg⟩ : ∃ g, x.1.heap.size = g := ⟨_, rfl⟩
  have hb1 : Below W.heap.size W W1 := by rw [hW1]; exact below_then (x.more _) (below_alloc _)
  have hR : Blk W1 g [.bool false, .int .i64 0, .string ⟨#[]⟩] := by rw [hW1]; refine Blk.alloc ?_ _; exact Blk.new' (l := #[.bool false, .int .i64 0, .string ⟨#[]⟩]) hgg.symm
  have hO : Blk W1 (g + 1) (laid l h 0) := by
    rw [hW1]
    unfold laid
    show Blk _ _ ([] ++ List.replicate h _)
    rw [List.nil_append, ← hmz]; exact Blk.new' (by simp [hgg])
  rw [hgg] at hg ⊢
  clear hW1 hmk hmz hgg
  go_wp2_with fail
  go_loopw [26, 5, 6, 7, 8, 9] (fun i _ _ _ _ _ wr => ∃ k : Nat, i = .int .i64 k ∧ k ≤ h ∧ (∀ c ∈ l.take (2 * k), V.isHex (c.toNat : Int) = true) ∧ Below W.heap.size W wr ∧ Blk wr g [.bool false, .int .i64 0, .string ⟨#[]⟩] ∧ Blk wr (g + 1) (laid l h k)) (fun i _ _ _ _ _ _ => h - (intOf i).toNat)
  case atStart => exact ⟨0, rfl, by omega, by simp, hb1, hR, hO⟩
  case round =>
    rename_i wr
    obtain ⟨k, rfl, hk, hall, hbW, hR, hO⟩ := hrel
    have HALL := Lib.hid hall
    clear hall
    by_cases hlt : k < h
    · have i1 : (k : Int) < (h : Int) := by omega
      have i3 : 2 * (k : Int) < 2 * (h : Int) := by omega
      have i4 : 2 * (k : Int) + 1 < 2 * (h : Int) := by omega
      obtain ⟨a, ha⟩ : ∃ b, s[2 * k]'(show 2 * k < s.size by omega) = b := ⟨_, rfl⟩
      obtain ⟨b, hb⟩ : ∃ b, s[2 * k + 1]'(show 2 * k + 1 < s.size by omega) = b := ⟨_, rfl⟩
      have HLA := Lib.hid (show l[2 * k]? = some a by rw [← ha, ← HLD.out, Array.getElem?_toList]; exact Array.getElem?_eq_getElem (show 2 * k < s.data.size by have : s.data.size = 2 * h := hz; omega))
      have HLB := Lib.hid (show l[2 * k + 1]? = some b by rw [← hb, ← HLD.out, Array.getElem?_toList]; exact Array.getElem?_eq_getElem (show 2 * k + 1 < s.data.size by have : s.data.size = 2 * h := hz; omega))
      obtain ⟨ia, hia⟩ : ∃ i, V.isHex (a.toNat : Int) = i := ⟨_, rfl⟩
      obtain ⟨ib, hib⟩ : ∃ i, V.isHex (b.toNat : Int) = i := ⟨_, rfl⟩
      have C1 := Lib.hid (show ∀ y : Lt wr, _ from fun y => by have := half_any (HD.out.below hbW) (a.toNat : Int) y; rw [← V.num_int, hia] at this; exact this)
      have C2 := Lib.hid (show ∀ y : Lt wr, _ from fun y => by have := half_any (HD.out.below hbW) (b.toNat : Int) y; rw [← V.num_int, hib] at this; exact this)
      have HIA := Lib.hid hia
      have HIB := Lib.hid hib
      clear hia hib
      go_wp2_with fail
      refine (C1.out (Lt.base wr)).mono ?_; rintro e w' ⟨rfl, y1, rfl⟩
      go_wp2_with fail
      refine (C2.out y1).mono ?_; rintro e w' ⟨rfl, y2, rfl⟩
      have hR2 := hR.below y2.2
      have hO2 := hO.below y2.2
      have hbW2 := below_then hbW y2.2
      cases ia
      · have q0 := hR2.cell 0 _ rfl
        have q1 := hR2.cell 1 _ rfl
        have q2 := hR2.cell 2 _ rfl
        have qf := hR2.free
        have HTN := Lib.hid (show tv = none from HTV.out ▸ bad_hex HLA.out HIA.out)
        go_wp2_with fail
        obtain ⟨fb0, fb1⟩ : Below W.heap.size W (((y2.1.setCell ⟨g, 0, none⟩ (.bool false)).setCell ⟨g, 1, none⟩ (.int .i64 0)).setCell ⟨g, 2, none⟩ (.string ⟨#[]⟩)) ∧ True := ⟨((hbW2.setCell hg _).setCell hg _).setCell hg _, trivial⟩
        have fR := ((hR2.set1 (j := 0) (by simp) (.bool false)).set1 (j := 1) (by simp) (.int .i64 0)).set1 (j := 2) (by simp) (.string ⟨#[]⟩)
        have f0 := fR.cell 0 _ rfl
        have f1 := fR.cell 1 _ rfl
        have f2 := fR.cell 2 _ rfl
        refine bodyPost_ret (v := readV none) ?_ rfl ⟨by rw [HTN.out], ⟨_, fb0⟩, rfl⟩
        simp [readV, results, Tryd.results27, go_sem, f0, f1, f2]
      cases ib
      · have q0 := hR2.cell 0 _ rfl
        have q1 := hR2.cell 1 _ rfl
        have q2 := hR2.cell 2 _ rfl
        have qf := hR2.free
        have HTN := Lib.hid (show tv = none from HTV.out ▸ bad_hex HLB.out HIB.out)
        go_wp2_with fail
        obtain ⟨fb0, fb1⟩ : Below W.heap.size W (((y2.1.setCell ⟨g, 0, none⟩ (.bool false)).setCell ⟨g, 1, none⟩ (.int .i64 0)).setCell ⟨g, 2, none⟩ (.string ⟨#[]⟩)) ∧ True := ⟨((hbW2.setCell hg _).setCell hg _).setCell hg _, trivial⟩
        have fR := ((hR2.set1 (j := 0) (by simp) (.bool false)).set1 (j := 1) (by simp) (.int .i64 0)).set1 (j := 2) (by simp) (.string ⟨#[]⟩)
        have f0 := fR.cell 0 _ rfl
        have f1 := fR.cell 1 _ rfl
        have f2 := fR.cell 2 _ rfl
        refine bodyPost_ret (v := readV none) ?_ rfl ⟨by rw [HTN.out], ⟨_, fb0⟩, rfl⟩
        simp [readV, results, Tryd.results27, go_sem, f0, f1, f2]
      have nl1 := V.num_lt a
      have nl2 := V.num_lt b
      obtain ⟨p, hp⟩ : ∃ v, (laid l h k)[k]? = some v := ⟨_, List.getElem?_eq_getElem (by rw [laid_length HL2.out hk]; exact hlt)⟩
      have o1 := hO2.cell _ _ hp
      have of := hO2.free
      have hlk : k < (laid l h k).length := by rw [laid_length HL2.out hk]; exact hlt
      go_wp2_with fail
      go_roundw
      case rel =>
        refine ⟨k + 1, by go_num, by omega, ?_, hbW2.setCell (by show _ ≤ g + 1; omega) _, hR2.setOther (by show g ≠ g + 1; omega) _, ?_⟩
        · rw [take_two HLA.out HLB.out]
          intro c hc
          rcases List.mem_append.1 hc with h1 | h1
          · exact HALL.out c h1
          · rcases List.mem_cons.1 h1 with rfl | h1
            · exact HIA.out
            · rw [List.mem_singleton] at h1; subst h1; exact HIB.out
        · have hq := hO2.set1 (j := k) hlk (byteV (V.two a b))
          rw [laid_step HL2.out HLA.out HLB.out] at hq
          have e : byteV (V.two a b) = .int .u8 (bits .or .u8 ((V.num a : Int) * 16) (V.num b : Int)) := by
            unfold byteV; rw [V.two_nat, bits_or nl1 nl2]
          rwa [e] at hq
      case measure => simp [intOf]; omega
    · obtain rfl : k = h := by omega
      have hfull : l.take (2 * k) = l := List.take_of_length_le (by have := HL2.out; omega)
      have hO' : Blk wr (g + 1) ((V.pairs l).map byteV) := by
        have hq := hO
        unfold laid at hq
        rw [hfull, Nat.sub_self] at hq
        simpa using hq
      have hpl : (V.pairs l).length = k := V.pairs_length k l HL2.out
      have HTN := Lib.hid (show tv = some ⟨true, 0, ⟨(V.pairs l).toArray⟩⟩ by
        rw [← HTV.out]; unfold textOf
        rw [if_pos ⟨by have := HL2.out; omega, by have := HL2.out; omega, by have := HALL.out; rwa [hfull] at this⟩])
      have hcv : (convert 45 9 (.slice (some ⟨g + 1, 0, none⟩) k k)).run Tryd.prog wr = .ok (.string ⟨(V.pairs l).toArray⟩) wr := by
        rw [← hpl]
        exact run_convert_bytes_back wr 45 9 5 ⟨g + 1, 0, none⟩ (V.pairs l).length (V.pairs l) Tryd.underlying45 Tryd.underlying5 Tryd.underlying9 (fun j hj => by
          rw [paddr, Nat.zero_add]
          refine hO'.cell j _ ?_
          rw [List.getElem?_map, List.getElem?_eq_getElem hj]; rfl)
      have q0 := hR.cell 0 _ rfl
      have q1 := hR.cell 1 _ rfl
      have q2 := hR.cell 2 _ rfl
      have qf := hR.free
      clear hpl hfull hO'
      go_wp2_with fail
      have fR := ((hR.set1 (j := 0) (by simp) (.bool true)).set1 (j := 1) (by simp) (.int .i64 0)).set1 (j := 2) (by simp) (.string ⟨(V.pairs l).toArray⟩)
      have f0 := fR.cell 0 _ rfl
      have f1 := fR.cell 1 _ rfl
      have f2 := fR.cell 2 _ rfl
      refine bodyPost_ret (v := readV (some ⟨true, 0, ⟨(V.pairs l).toArray⟩⟩)) ?_ rfl ⟨by rw [HTN.out], ⟨_, ((hbW.setCell hg _).setCell hg _).setCell hg _⟩, rfl⟩
      simp [readV, results, Tryd.results27, go_sem, f0, f1, f2]

/-- Strconv's error variables lie there. -/
structure Errs (W : World) : Prop where
  syn : ∃ t p, W.cell? ⟨1, 0, none⟩ = some (.iface t p)
  ran : ∃ t p, W.cell? ⟨2, 0, none⟩ = some (.iface t p)
theorem Errs.below {W w : World} (h : Errs W) (hb : Below W.heap.size W w) : Errs w := by
  obtain ⟨⟨t, p, h1⟩, t', p', h2⟩ := h
  exact ⟨⟨t, p, (hb.cell (cell_lt h1)).trans h1⟩, t', p', (hb.cell (cell_lt h2)).trans h2⟩
theorem vparse_ok {s : ByteArray} (hs : s.size ≤ 100000) {v : Int} (h : Lib.parseIntB 64 s.data.toList = .ok v) (x : Lt W) : Calls Tryd.prog 28 #[.string s, .int .i64 10, .int .i64 64] x.1 fun e w' => e = .returned (.tuple #[.int .i64 v, .nilIface]) ∧ ∃ y : Lt W, w' = y.1 := by
  refine (parse10_ok s (by omega) v h x.1).mono ?_
  rintro e w' ⟨rfl, rfl | ⟨t, rfl⟩⟩
  · exact ⟨rfl, x, rfl⟩
  · exact ⟨rfl, x.end_ (Lib.bytesWorld_below _ _ _)⟩
theorem vparse_no (he : Errs W) {s : ByteArray} (hs : s.size ≤ 100000) (h : ∀ v, Lib.parseIntB 64 s.data.toList ≠ .ok v) (x : Lt W) : Calls Tryd.prog 28 #[.string s, .int .i64 10, .int .i64 64] x.1 fun e w' => ∃ u t p, e = .returned (.tuple #[.int .i64 u, .iface t (.pointer (some p))]) ∧ ∃ y : Lt W, w' = y.1 := by
  obtain ⟨⟨t1, p1, h1⟩, t2, p2, h2⟩ := he.below x.2
  refine (parse10_no s (by omega) h _ _ x.1 h1 (.inr ⟨t1, p1, rfl⟩) h2 (.inr ⟨t2, p2, rfl⟩)).mono ?_
  rintro e w' ⟨⟨u, t, p, rfl⟩, hb⟩
  exact ⟨u, t, p, rfl, x.end_ hb⟩
/-- The value of a text that begins otherwise. -/
def numOf (l : List UInt8) : Option Val := match Lib.parseIntB 64 l with
  | .ok v => if Lib.itoa v = l then some ⟨false, v, ⟨#[]⟩⟩ else none
  | _ => none
def readOf (l : List UInt8) : Option Val := if l.head? = some 120 then textOf l.tail else numOf l
theorem size_data (s : ByteArray) : s.data.toList.length = s.size := Array.length_toList

theorem extract_tail (s : ByteArray) : (s.extract 1 s.size).data.toList = s.data.toList.tail := by
  rw [ByteArray.data_extract, Array.toList_extract, ← size_data s]
  simp only [List.extract, List.drop_one]
  exact List.take_of_length_le (by rw [List.length_tail]; omega)

set_option maxHeartbeats 1000000 in
theorem read_text (hd : Digs W) {s : ByteArray} (hs : s.size ≤ 1000) (hx : s.data.toList.head? = some 120) (x : Lt W) : Calls Tryd.prog 15 #[.string s] x.1 fun e w' => e = .returned (readV (textOf s.data.toList.tail)) ∧ ∃ y : Lt W, w' = y.1 := by
  have HD := Lib.hid hd
  clear hd
  have h0 : 0 < s.size := by
    cases hq : s.data.toList with
    | nil => rw [hq] at hx; cases hx
    | cons c r => rw [← size_data, hq]; simp
  have hc0 : ((s[0]'h0).toNat == 120) = true := by
    have h1 : s.data.toList[0]? = some (s[0]'h0) := by rw [Array.getElem?_toList]; exact Array.getElem?_eq_getElem h0
    rw [← List.head?_eq_getElem?, hx] at h1
    injection h1 with h1
    rw [← h1]; rfl
  have hc1 : (((s[0]'h0).toNat : Int) == 120) = true := by
    rw [beq_iff_eq] at hc0 ⊢; omega
  have hie : s.toList.isEmpty = false := by rw [Lib.toList_data]; cases hq : s.data.toList with
    | nil => rw [hq] at hx; cases hx
    | cons c r => rfl
  have hex := extract_tail s
  obtain ⟨r, hr⟩ : ∃ r, s.extract 1 s.size = r := ⟨_, rfl⟩
  have hrs : r.size ≤ 1000 := by rw [← hr, ByteArray.size_extract]; omega
  rw [hr] at hex
  rw [← hex]
  clear hx hex hc0
  obtain ⟨tv, htv⟩ : ∃ tv, textOf r.data.toList = tv := ⟨_, rfl⟩
  have C := fun (W1 : World) (h : Below W.heap.size W W1) => text_any (HD.out.below h) hrs (Lt.base W1)
  rw [htv] at C ⊢
  have HC := Lib.hid C
  clear C htv
  have h1 : (1 : Int) ≤ (s.size : Int) := by omega
  go_enter Tryd.func15, Tryd.ntmps15
  go_wp2_with fail
  refine calls_here fun W1 hW1 => ?_
  have hb1 : Below W.heap.size W W1 := by rw [hW1]; exact x.more _
  obtain ⟨g, hgg⟩ : ∃ g, x.1.heap.size = g := ⟨_, rfl⟩
  have hR : Blk W1 g [.bool false, .int .i64 0, .string ⟨#[]⟩] := by rw [hW1]; exact Blk.new' (l := #[.bool false, .int .i64 0, .string ⟨#[]⟩]) hgg.symm
  have hg := x.2.size
  rw [hgg] at hg ⊢
  clear hW1 hgg
  refine (HC.out W1 hb1).mono ?_; rintro e w' ⟨rfl, y, rfl⟩
  have hb2 := below_then hb1 y.2
  cases tv with
  | none =>
    unfold readV
    have hR2 := hR.below y.2
    have q0 := hR2.cell 0 _ rfl
    have q1 := hR2.cell 1 _ rfl
    have q2 := hR2.cell 2 _ rfl
    have qf := hR2.free
    go_wp2_with fail
    have fR := ((hR2.set1 (j := 0) (by simp) (.bool false)).set1 (j := 1) (by simp) (.int .i64 0)).set1 (j := 2) (by simp) (.string ⟨#[]⟩)
    have f0 := fR.cell 0 _ rfl
    have f1 := fR.cell 1 _ rfl
    have f2 := fR.cell 2 _ rfl
    refine bodyPost_ret (v := readV none) ?_ rfl ⟨rfl, ⟨_, (((hb2).setCell hg _).setCell hg _).setCell hg _⟩, rfl⟩
    simp [readV, results, Tryd.results15, go_sem, f0, f1, f2]
  | some v =>
    unfold readV
    have hR2 := hR.below y.2
    have q0 := hR2.cell 0 _ rfl
    have q1 := hR2.cell 1 _ rfl
    have q2 := hR2.cell 2 _ rfl
    have qf := hR2.free
    go_wp2_with fail
    have fR := ((hR2.set1 (j := 0) (by simp) (.bool v.t)).set1 (j := 1) (by simp) (.int .i64 v.n)).set1 (j := 2) (by simp) (.string v.s)
    have f0 := fR.cell 0 _ rfl
    have f1 := fR.cell 1 _ rfl
    have f2 := fR.cell 2 _ rfl
    refine bodyPost_ret (v := readV (some v)) ?_ rfl ⟨rfl, ⟨_, (((hb2).setCell hg _).setCell hg _).setCell hg _⟩, rfl⟩
    simp [readV, results, Tryd.results15, go_sem, f0, f1, f2]

set_option maxHeartbeats 1000000 in
theorem read_num (hp : Pows W) (he : Errs W) {s : ByteArray} (hs : s.size ≤ 1000) (hx : s.data.toList.head? ≠ some 120) (x : Lt W) : Calls Tryd.prog 15 #[.string s] x.1 fun e w' => e = .returned (readV (numOf s.data.toList)) ∧ ∃ y : Lt W, w' = y.1 := by
  have HP := Lib.hid hp
  have HE := Lib.hid he
  clear hp he
  have hc : s.toList.isEmpty = true ∨ ∃ h0 : 0 < s.size, s.toList.isEmpty = false ∧ (((s[0]'h0).toNat : Int) == 120) = false := by
    by_cases h0 : 0 < s.size
    · refine .inr ⟨h0, ?_, ?_⟩
      · rw [Lib.toList_data]
        cases hq : s.data.toList with
        | nil => rw [← size_data, hq] at h0; exact absurd h0 (by simp)
        | cons c r => rfl
      · have h1 : s.data.toList[0]? = some (s[0]'h0) := by rw [Array.getElem?_toList]; exact Array.getElem?_eq_getElem h0
        rw [beq_eq_false_iff_ne]
        intro e
        rw [List.head?_eq_getElem?, h1] at hx
        exact hx (congrArg some (UInt8.toNat_inj.1 (show (s[0]'h0).toNat = 120 by omega)))
    · left
      rw [Lib.toList_data, List.isEmpty_iff]
      exact List.length_eq_zero_iff.1 (by rw [size_data]; omega)
  clear hx
  obtain ⟨nv, hnv⟩ : ∃ nv, numOf s.data.toList = nv := ⟨_, rfl⟩
  have HNV := Lib.hid hnv
  rw [hnv]
  clear hnv
  by_cases hok : ∃ v, Lib.parseIntB 64 s.data.toList = .ok v
  · obtain ⟨v, hv⟩ := hok
    have hvr := Lib.parseIntB_bounds hv
    have hvi : Num.is v = true := Num.is_iff.2 ⟨by have := hvr.1; omega, by have := hvr.2; omega⟩
    have HV := Lib.hid hv
    have HVI := Lib.hid hvi
    clear hv hvr hvi
    obtain ⟨sv, hsv⟩ : ∃ sv : ByteArray, ⟨(Lib.itoa v).toArray⟩ = sv := ⟨_, rfl⟩
    have HSV := Lib.hid hsv
    clear hsv
    by_cases hsame : sv.toList = s.toList
    · have hvq : nv = some ⟨false, v, ⟨#[]⟩⟩ := by
        rw [← HNV.out]; unfold numOf; rw [HV.out]
        rw [← HSV.out, Lib.toList_data, Lib.toList_data] at hsame
        exact if_pos (by simpa using hsame)
      subst hvq
      rcases hc with hie | ⟨h0, hie, hc0⟩
      all_goals
        go_enter Tryd.func15, Tryd.ntmps15
        go_wp2_with fail
        refine calls_here fun W1 hW1 => ?_
        have hb1 : Below W.heap.size W W1 := by rw [hW1]; exact x.more _
        obtain ⟨g, hgg⟩ : ∃ g, x.1.heap.size = g := ⟨_, rfl⟩
        have hR : Blk W1 g [.bool false, .int .i64 0, .string ⟨#[]⟩] := by rw [hW1]; exact Blk.new' (l := #[.bool false, .int .i64 0, .string ⟨#[]⟩]) hgg.symm
        have hg := x.2.size
        rw [hgg] at hg ⊢
        clear hW1 hgg
        refine (vparse_ok (W := W1) (by omega) HV.out (Lt.base W1)).mono ?_; rintro e w' ⟨rfl, y, rfl⟩
        go_wp2_with fail
        refine (vformat_any (HP.out.below hb1) HVI.out y).mono ?_; rintro e w' ⟨rfl, y2, rfl⟩
        rw [HSV.out]
        have hb2 := below_then hb1 y2.2
        have hR2 := hR.below y2.2
        have q0 := hR2.cell 0 _ rfl
        have q1 := hR2.cell 1 _ rfl
        have q2 := hR2.cell 2 _ rfl
        have qf := hR2.free
        go_wp2_with fail
        have fR := ((hR2.set1 (j := 0) (by simp) (.bool false)).set1 (j := 1) (by simp) (.int .i64 v)).set1 (j := 2) (by simp) (.string ⟨#[]⟩)
        have f0 := fR.cell 0 _ rfl
        have f1 := fR.cell 1 _ rfl
        have f2 := fR.cell 2 _ rfl
        refine bodyPost_ret (v := readV (some ⟨false, v, ⟨#[]⟩⟩)) ?_ rfl ⟨rfl, ⟨_, (((hb2).setCell hg _).setCell hg _).setCell hg _⟩, rfl⟩
        simp [readV, results, Tryd.results15, go_sem, f0, f1, f2]
    · have hvq : nv = none := by
        rw [← HNV.out]; unfold numOf; rw [HV.out]
        rw [← HSV.out, Lib.toList_data, Lib.toList_data] at hsame
        exact if_neg (by simpa using hsame)
      have hns : (sv.toList == s.toList) = false := by rw [beq_eq_false_iff_ne]; exact hsame
      subst hvq
      rcases hc with hie | ⟨h0, hie, hc0⟩
      all_goals
        go_enter Tryd.func15, Tryd.ntmps15
        go_wp2_with fail
        refine calls_here fun W1 hW1 => ?_
        have hb1 : Below W.heap.size W W1 := by rw [hW1]; exact x.more _
        obtain ⟨g, hgg⟩ : ∃ g, x.1.heap.size = g := ⟨_, rfl⟩
        have hR : Blk W1 g [.bool false, .int .i64 0, .string ⟨#[]⟩] := by rw [hW1]; exact Blk.new' (l := #[.bool false, .int .i64 0, .string ⟨#[]⟩]) hgg.symm
        have hg := x.2.size
        rw [hgg] at hg ⊢
        clear hW1 hgg
        refine (vparse_ok (W := W1) (by omega) HV.out (Lt.base W1)).mono ?_; rintro e w' ⟨rfl, y, rfl⟩
        go_wp2_with fail
        refine (vformat_any (HP.out.below hb1) HVI.out y).mono ?_; rintro e w' ⟨rfl, y2, rfl⟩
        rw [HSV.out]
        have hb2 := below_then hb1 y2.2
        have hR2 := hR.below y2.2
        have q0 := hR2.cell 0 _ rfl
        have q1 := hR2.cell 1 _ rfl
        have q2 := hR2.cell 2 _ rfl
        have qf := hR2.free
        go_wp2_with fail
        have fR := ((hR2.set1 (j := 0) (by simp) (.bool false)).set1 (j := 1) (by simp) (.int .i64 0)).set1 (j := 2) (by simp) (.string ⟨#[]⟩)
        have f0 := fR.cell 0 _ rfl
        have f1 := fR.cell 1 _ rfl
        have f2 := fR.cell 2 _ rfl
        refine bodyPost_ret (v := readV none) ?_ rfl ⟨rfl, ⟨_, (((hb2).setCell hg _).setCell hg _).setCell hg _⟩, rfl⟩
        simp [readV, results, Tryd.results15, go_sem, f0, f1, f2]
  · have hno : ∀ v, Lib.parseIntB 64 s.data.toList ≠ .ok v := fun v e => hok ⟨v, e⟩
    have hvq : nv = none := by
      rw [← HNV.out]; unfold numOf
      rcases hpp : Lib.parseIntB 64 s.data.toList with v | _ | _
      · exact absurd hpp (hno v)
      · rfl
      · rfl
    subst hvq
    have HNO := Lib.hid hno
    clear hno hok
    rcases hc with hie | ⟨h0, hie, hc0⟩
    all_goals
      go_enter Tryd.func15, Tryd.ntmps15
      go_wp2_with fail
      refine calls_here fun W1 hW1 => ?_
      have hb1 : Below W.heap.size W W1 := by rw [hW1]; exact x.more _
      obtain ⟨g, hgg⟩ : ∃ g, x.1.heap.size = g := ⟨_, rfl⟩
      have hR : Blk W1 g [.bool false, .int .i64 0, .string ⟨#[]⟩] := by rw [hW1]; exact Blk.new' (l := #[.bool false, .int .i64 0, .string ⟨#[]⟩]) hgg.symm
      have hg := x.2.size
      rw [hgg] at hg ⊢
      clear hW1 hgg
      refine (vparse_no (HE.out.below hb1) (by omega) HNO.out (Lt.base W1)).mono ?_; rintro e w' ⟨u, t, p, rfl, y, rfl⟩
      have hb2 := below_then hb1 y.2
      have hR2 := hR.below y.2
      have q0 := hR2.cell 0 _ rfl
      have q1 := hR2.cell 1 _ rfl
      have q2 := hR2.cell 2 _ rfl
      have qf := hR2.free
      go_wp2_with fail
      have fR := ((hR2.set1 (j := 0) (by simp) (.bool false)).set1 (j := 1) (by simp) (.int .i64 0)).set1 (j := 2) (by simp) (.string ⟨#[]⟩)
      have f0 := fR.cell 0 _ rfl
      have f1 := fR.cell 1 _ rfl
      have f2 := fR.cell 2 _ rfl
      refine bodyPost_ret (v := readV none) ?_ rfl ⟨rfl, ⟨_, (((hb2).setCell hg _).setCell hg _).setCell hg _⟩, rfl⟩
      simp [readV, results, Tryd.results15, go_sem, f0, f1, f2]

theorem vread_any (hd : Digs W) (hp : Pows W) (he : Errs W) {s : ByteArray} (hs : s.size ≤ 1000) (x : Lt W) : Calls Tryd.prog 15 #[.string s] x.1 fun e w' => e = .returned (readV (readOf s.data.toList)) ∧ ∃ y : Lt W, w' = y.1 := by
  unfold readOf
  by_cases hx : s.data.toList.head? = some 120
  · rw [if_pos hx]; exact read_text hd hs hx x
  · rw [if_neg hx]; exact read_num hp he hs hx x
end Go.Proofs.YtlfdiafpmlcmdaaDoor
