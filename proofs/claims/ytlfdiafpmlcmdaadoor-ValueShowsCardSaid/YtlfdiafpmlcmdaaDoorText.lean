/-
  The example's text, read and shown (value.text, value.Read, value.Show at one text). Conditions: package value's table of digits holds what the program's text lays.
-/
import Derived.Test.YtlfdiafpmlcmdaaDoorHalf
import Derived.Test.YtlfdiafpmlcmdaaDoorSpan
import Derived.Deep.OwnRows
import Derived.Laws.IdiomStrings
namespace Go.Proofs.YtlfdiafpmlcmdaaDoor
open Go.RowKit
variable {W : World}

theorem half_is (hd : Digs W) {c h : Int} (hx : V.isHex c = true ∧ V.hex c = h) (x : Lt W) : Calls Tryd.prog 36 #[.int .u8 c] x.1 fun e w' => e = .returned (.tuple #[.int .u8 h, .bool true]) ∧ ∃ y : Lt W, w' = y.1 := by
  have := half_any hd c x
  rwa [hx.1, hx.2] at this
theorem info_byte : (Tryd.prog.info? 5).map (fun i => (i.zero, i.size, i.bytes)) = some (some (.int .u8 0), 1, 1) := by kernel_rfl

set_option maxHeartbeats 1000000 in
theorem text_az (hd : Digs W) (x : Lt W) : Calls Tryd.prog 27 #[.string ⟨#[54, 49, 55, 97]⟩] x.1 fun e w' => e = .returned (.tuple #[.agg #[.bool true, .int .i64 0, .string ⟨#[97, 122]⟩], .int .i64 0]) ∧ ∃ y : Lt W, w' = y.1 := by
  have HD := Lib.hid hd
  clear hd
  have hmk : ∀ w : World, (Instr.makeSlice 45 (.int .i64 2) (.int .i64 2)).run Tryd.prog w = .ok (.slice (some ⟨w.heap.size, 0, none⟩) 2 2) (w.alloc (.cells #[.int .u8 0, .int .u8 0] 5)) := fun w => by
    have h := run_make_row' 45 5 (.int .u8 0) 1 Tryd.underlying45 info_byte rfl .i64 .i64 2 (by omega) (by omega) w
    rw [show madeCells #[Value.int .u8 0] 2 = #[.int .u8 0, .int .u8 0] by unfold madeCells; rw [show Array.range 2 = #[0, 1] by decide +kernel]; simp] at h
    exact h
  go_enter Tryd.func27, Tryd.ntmps27
  go_wp2_with fail
  refine wp_here fun W1 hW1 => ?_
  have hb1 : Below W.heap.size W W1 := by rw [hW1]; exact below_then (x.more _) (below_alloc _)
  have hR : Blk W1 x.1.heap.size [.bool false, .int .i64 0, .string ⟨#[]⟩] := by rw [hW1]; refine Blk.alloc ?_ _; exact Blk.new' (l := #[.bool false, .int .i64 0, .string ⟨#[]⟩]) rfl
  have hO : Blk W1 (x.1.heap.size + 1) [.int .u8 0, .int .u8 0] := by rw [hW1]; exact Blk.new' (l := #[.int .u8 0, .int .u8 0]) (by simp)
  have hg := x.2.size
  clear hW1 hmk
  obtain ⟨g, hgg⟩ : ∃ g, x.1.heap.size = g := ⟨_, rfl⟩
  rw [hgg] at hR hO hg ⊢
  clear hgg
  go_loopw [26, 5, 6, 7, 8, 9] (fun i _ _ _ _ _ wr => ∃ (k : Nat) (l : List Value), i = .int .i64 k ∧ (k = 0 ∧ l = [.int .u8 0, .int .u8 0] ∨ k = 1 ∧ l = [.int .u8 97, .int .u8 0] ∨ k = 2 ∧ l = [.int .u8 97, .int .u8 122]) ∧ Below W.heap.size W wr ∧ Blk wr g [.bool false, .int .i64 0, .string ⟨#[]⟩] ∧ Blk wr (g + 1) l) (fun i _ _ _ _ _ _ => 2 - (intOf i).toNat)
  case atStart => exact ⟨0, _, rfl, .inl ⟨rfl, rfl⟩, hb1, hR, hO⟩
  case round =>
    rename_i wr
    obtain ⟨k, l, rfl, hk, hbW, hR, hO⟩ := hrel
    rcases hk with ⟨rfl, rfl⟩ | ⟨rfl, rfl⟩ | ⟨rfl, rfl⟩
    · have C1 := Lib.hid (fun z : Lt wr => half_is (HD.out.below hbW) (c := 54) (h := 6) (by decide) z)
      have C2 := Lib.hid (fun z : Lt wr => half_is (HD.out.below hbW) (c := 49) (h := 1) (by decide) z)
      go_wp2_with fail
      refine (C1.out (Lt.base wr)).mono ?_; rintro e w' ⟨rfl, y1, rfl⟩
      go_wp2_with fail
      refine (C2.out y1).mono ?_; rintro e w' ⟨rfl, y2, rfl⟩
      have hO2 := hO.below y2.2
      have o0 := hO2.cell 0 _ rfl
      have o1 := hO2.cell 1 _ rfl
      have of := hO2.free
      go_wp2_with fail
      go_roundw
      case rel => exact ⟨1, [.int .u8 97, .int .u8 0], by go_num, .inr (.inl ⟨rfl, rfl⟩), (below_then hbW y2.2).setCell (by show _ ≤ g + 1; omega) _, (hR.below y2.2).setOther (by show g ≠ g + 1; omega) _, hO2.set1 (j := 0) (by simp) (.int .u8 97)⟩
      case measure => simp [intOf]
    · have C1 := Lib.hid (fun z : Lt wr => half_is (HD.out.below hbW) (c := 55) (h := 7) (by decide) z)
      have C2 := Lib.hid (fun z : Lt wr => half_is (HD.out.below hbW) (c := 97) (h := 10) (by decide) z)
      go_wp2_with fail
      refine (C1.out (Lt.base wr)).mono ?_; rintro e w' ⟨rfl, y1, rfl⟩
      go_wp2_with fail
      refine (C2.out y1).mono ?_; rintro e w' ⟨rfl, y2, rfl⟩
      have hO2 := hO.below y2.2
      have o0 := hO2.cell 0 _ rfl
      have o1 := hO2.cell 1 _ rfl
      have of := hO2.free
      go_wp2_with fail
      go_roundw
      case rel => exact ⟨2, [.int .u8 97, .int .u8 122], by go_num, .inr (.inr ⟨rfl, rfl⟩), (below_then hbW y2.2).setCell (by show _ ≤ g + 1; omega) _, (hR.below y2.2).setOther (by show g ≠ g + 1; omega) _, hO2.set1 (j := 1) (by simp) (.int .u8 122)⟩
      case measure => simp [intOf]
    · have r0 := hR.cell 0 _ rfl
      have r1 := hR.cell 1 _ rfl
      have r2 := hR.cell 2 _ rfl
      have rf := hR.free
      have hcv : (convert 45 9 (.slice (some ⟨g + 1, 0, none⟩) 2 2)).run Tryd.prog wr = .ok (.string ⟨#[97, 122]⟩) wr := run_convert_bytes_back wr 45 9 5 ⟨g + 1, 0, none⟩ 2 [97, 122] Tryd.underlying45 Tryd.underlying5 Tryd.underlying9 (fun j hj => by
        match j, hj with
        | 0, _ => exact hO.cell 0 _ rfl
        | 1, _ => exact hO.cell 1 _ rfl)
      go_wp2_with fail
      have f0 : (((wr.setCell ⟨g, 0, none⟩ (.bool true)).setCell ⟨g, 1, none⟩ (.int .i64 0)).setCell ⟨g, 2, none⟩ (.string ⟨#[97, 122]⟩)).cell? ⟨g, 0, none⟩ = some (.bool true) := (((hR.set1 (j := 0) (by simp) _).set1 (j := 1) (by simp) _).set1 (j := 2) (by simp) _).cell 0 _ rfl
      have f1 : (((wr.setCell ⟨g, 0, none⟩ (.bool true)).setCell ⟨g, 1, none⟩ (.int .i64 0)).setCell ⟨g, 2, none⟩ (.string ⟨#[97, 122]⟩)).cell? ⟨g, 1, none⟩ = some (.int .i64 0) := (((hR.set1 (j := 0) (by simp) _).set1 (j := 1) (by simp) _).set1 (j := 2) (by simp) _).cell 1 _ rfl
      have f2 : (((wr.setCell ⟨g, 0, none⟩ (.bool true)).setCell ⟨g, 1, none⟩ (.int .i64 0)).setCell ⟨g, 2, none⟩ (.string ⟨#[97, 122]⟩)).cell? ⟨g, 2, none⟩ = some (.string ⟨#[97, 122]⟩) := (((hR.set1 (j := 0) (by simp) _).set1 (j := 1) (by simp) _).set1 (j := 2) (by simp) _).cell 2 _ rfl
      refine bodyPost_ret (v := .tuple #[.agg #[.bool true, .int .i64 0, .string ⟨#[97, 122]⟩], .int .i64 0]) ?_ rfl ⟨rfl, ⟨_, ((hbW.setCell hg _).setCell hg _).setCell hg _⟩, rfl⟩
      simp [results, Tryd.results27, go_sem, f0, f1, f2]

set_option maxHeartbeats 1000000 in
theorem read_az (hd : Digs W) (x : Lt W) : Calls Tryd.prog 15 #[.string ⟨#[120, 54, 49, 55, 97]⟩] x.1 fun e w' => e = .returned (.tuple #[.agg #[.bool true, .int .i64 0, .string ⟨#[97, 122]⟩], .int .i64 0]) ∧ ∃ y : Lt W, w' = y.1 := by
  have HD := Lib.hid hd
  clear hd
  go_enter Tryd.func15, Tryd.ntmps15
  go_wp2_with fail
  rw [show (ByteArray.mk #[120, 54, 49, 55, 97]).extract 1 5 = ⟨#[54, 49, 55, 97]⟩ by decide +kernel]
  refine calls_here fun W1 hW1 => ?_
  have hb1 : Below W.heap.size W W1 := by rw [hW1]; exact x.more _
  have hR : Blk W1 x.1.heap.size [.bool false, .int .i64 0, .string ⟨#[]⟩] := by rw [hW1]; exact Blk.new' (l := #[.bool false, .int .i64 0, .string ⟨#[]⟩]) rfl
  have hg := x.2.size
  clear hW1
  refine (text_az (HD.out.below hb1) (Lt.base W1)).mono ?_; rintro e w' ⟨rfl, y, rfl⟩
  have hR2 := hR.below y.2
  have r0 := hR2.cell 0 _ rfl
  have r1 := hR2.cell 1 _ rfl
  have r2 := hR2.cell 2 _ rfl
  have rf := hR2.free
  go_wp2_with fail
  have f0 : (((y.1.setCell ⟨x.1.heap.size, 0, none⟩ (.bool true)).setCell ⟨x.1.heap.size, 1, none⟩ (.int .i64 0)).setCell ⟨x.1.heap.size, 2, none⟩ (.string ⟨#[97, 122]⟩)).cell? ⟨x.1.heap.size, 0, none⟩ = some (.bool true) := (((hR2.set1 (j := 0) (by simp) _).set1 (j := 1) (by simp) _).set1 (j := 2) (by simp) _).cell 0 _ rfl
  have f1 : (((y.1.setCell ⟨x.1.heap.size, 0, none⟩ (.bool true)).setCell ⟨x.1.heap.size, 1, none⟩ (.int .i64 0)).setCell ⟨x.1.heap.size, 2, none⟩ (.string ⟨#[97, 122]⟩)).cell? ⟨x.1.heap.size, 1, none⟩ = some (.int .i64 0) := (((hR2.set1 (j := 0) (by simp) _).set1 (j := 1) (by simp) _).set1 (j := 2) (by simp) _).cell 1 _ rfl
  have f2 : (((y.1.setCell ⟨x.1.heap.size, 0, none⟩ (.bool true)).setCell ⟨x.1.heap.size, 1, none⟩ (.int .i64 0)).setCell ⟨x.1.heap.size, 2, none⟩ (.string ⟨#[97, 122]⟩)).cell? ⟨x.1.heap.size, 2, none⟩ = some (.string ⟨#[97, 122]⟩) := (((hR2.set1 (j := 0) (by simp) _).set1 (j := 1) (by simp) _).set1 (j := 2) (by simp) _).cell 2 _ rfl
  refine bodyPost_ret (v := .tuple #[.agg #[.bool true, .int .i64 0, .string ⟨#[97, 122]⟩], .int .i64 0]) ?_ rfl ⟨rfl, ⟨_, (((below_then hb1 y.2).setCell hg _).setCell hg _).setCell hg _⟩, rfl⟩
  simp [results, Tryd.results15, go_sem, f0, f1, f2]

set_option maxHeartbeats 1000000 in
theorem show_az (hd : Digs W) (x : Lt W) : Calls Tryd.prog 17 #[.agg #[.bool true, .int .i64 0, .string ⟨#[97, 122]⟩]] x.1 fun e w' => e = .returned (.string ⟨#[120, 54, 49, 55, 97]⟩) ∧ ∃ y : Lt W, w' = y.1 := by
  have HD := Lib.hid hd
  clear hd
  have hmk : ∀ w : World, (Instr.makeSlice 45 (.int .i64 5) (.int .i64 5)).run Tryd.prog w = .ok (.slice (some ⟨w.heap.size, 0, none⟩) 5 5) (w.alloc (.cells #[.int .u8 0, .int .u8 0, .int .u8 0, .int .u8 0, .int .u8 0] 5)) := fun w => by
    have h := run_make_row' 45 5 (.int .u8 0) 1 Tryd.underlying45 info_byte rfl .i64 .i64 5 (by omega) (by omega) w
    rw [show madeCells #[Value.int .u8 0] 5 = #[.int .u8 0, .int .u8 0, .int .u8 0, .int .u8 0, .int .u8 0] by unfold madeCells; rw [show Array.range 5 = #[0, 1, 2, 3, 4] by decide +kernel]; simp] at h
    exact h
  go_enter Tryd.func17, Tryd.ntmps17
  go_wp2_with fail
  refine calls_here fun W1 hW1 => ?_
  have hb1 : Below W.heap.size W W1 := by rw [hW1]; exact x.more _
  have hV : Blk W1 x.1.heap.size [.bool true, .int .i64 0, .string ⟨#[97, 122]⟩] := by rw [hW1]; exact Blk.new' (l := #[.bool true, .int .i64 0, .string ⟨#[97, 122]⟩]) rfl
  have hg := x.2.size
  clear hW1
  obtain ⟨g, hgg⟩ : ∃ g, x.1.heap.size = g := ⟨_, rfl⟩
  rw [hgg] at hV hg ⊢
  clear hgg
  refine (vright_is (v := ⟨true, 0, ⟨#[97, 122]⟩⟩) (b := true) (by decide +kernel) (Lt.base W1)).mono ?_; rintro e w' ⟨rfl, y, rfl⟩
  have hV2 := hV.below y.2
  have v0 := hV2.cell 0 _ rfl
  have v2 := hV2.cell 2 _ rfl
  have vo := fun o => cell_old (o := o) v2
  obtain ⟨n, hn⟩ : ∃ n, y.1.heap.size = n := ⟨_, rfl⟩
  go_wp2_with fail
  refine wp_here fun W2 hW2 => ?_
  have hb2 : Below W.heap.size W W2 := by rw [hW2]; exact below_then (below_then hb1 y.2) (below_alloc _)
  have hB : Blk W2 g [.bool true, .int .i64 0, .string ⟨#[97, 122]⟩] := by rw [hW2]; exact hV2.alloc _
  have hO : Blk W2 n [.int .u8 120, .int .u8 0, .int .u8 0, .int .u8 0, .int .u8 0] := by rw [hW2]; exact Blk.new' (l := #[.int .u8 120, .int .u8 0, .int .u8 0, .int .u8 0, .int .u8 0]) hn.symm
  have hgn : g < n := by have := hV2.lt; omega
  clear hW2 hmk hn v0 v2 vo
  go_loopw [25, 4] (fun i _ wr => ∃ (k : Nat) (l : List Value), i = .int .i64 k ∧ (k = 0 ∧ l = [.int .u8 120, .int .u8 0, .int .u8 0, .int .u8 0, .int .u8 0] ∨ k = 1 ∧ l = [.int .u8 120, .int .u8 54, .int .u8 49, .int .u8 0, .int .u8 0] ∨ k = 2 ∧ l = [.int .u8 120, .int .u8 54, .int .u8 49, .int .u8 55, .int .u8 97]) ∧ Below W.heap.size W wr ∧ Blk wr g [.bool true, .int .i64 0, .string ⟨#[97, 122]⟩] ∧ Blk wr n l) (fun i _ _ => 2 - (intOf i).toNat)
  case atStart => exact ⟨0, _, rfl, .inl ⟨rfl, rfl⟩, hb2, hB, hO⟩
  case round =>
    rename_i wr
    obtain ⟨k, l, rfl, hk, hbW, hB, hO⟩ := hrel
    have b2 := hB.cell 2 _ rfl
    have d6 : wr.cell? ⟨0, 6, none⟩ = some (.int .u8 54) := (HD.out.below hbW) 6 (by omega)
    have d1 : wr.cell? ⟨0, 1, none⟩ = some (.int .u8 49) := (HD.out.below hbW) 1 (by omega)
    have d7 : wr.cell? ⟨0, 7, none⟩ = some (.int .u8 55) := (HD.out.below hbW) 7 (by omega)
    have d10 : wr.cell? ⟨0, 10, none⟩ = some (.int .u8 97) := (HD.out.below hbW) 10 (by omega)
    have hz : 0 < W.heap.size := cell_lt (HD.out 0 (by omega))
    have hn0 : ¬ n = 0 := by omega
    have hn1 : ¬ 0 = n := by omega
    have hn2 : ¬ n = g := by omega
    have hn3 : ¬ g = n := by omega
    have y0 : ((⟨#[97, 122]⟩ : ByteArray)[0]'(by decide +kernel)).toNat = 97 := by rfl
    have y1 : ((⟨#[97, 122]⟩ : ByteArray)[1]'(by decide +kernel)).toNat = 122 := by rfl
    rcases hk with ⟨rfl, rfl⟩ | ⟨rfl, rfl⟩ | ⟨rfl, rfl⟩
    · have o0 := hO.cell 0 _ rfl
      have o1 := hO.cell 1 _ rfl
      have o2 := hO.cell 2 _ rfl
      have o3 := hO.cell 3 _ rfl
      have o4 := hO.cell 4 _ rfl
      have of := hO.free
      go_wp2_with fail
      go_roundw
      case rel => exact ⟨1, _, by go_num, .inr (.inl ⟨rfl, rfl⟩), (hbW.setCell (by show _ ≤ n; omega) _).setCell (by show _ ≤ n; omega) _, (hB.setOther (by show g ≠ n; omega) _).setOther (by show g ≠ n; omega) _, (hO.set1 (j := 1) (by simp) (.int .u8 54)).set1 (j := 2) (by simp) (.int .u8 49)⟩
      case measure => simp [intOf]
    · have o0 := hO.cell 0 _ rfl
      have o1 := hO.cell 1 _ rfl
      have o2 := hO.cell 2 _ rfl
      have o3 := hO.cell 3 _ rfl
      have o4 := hO.cell 4 _ rfl
      have of := hO.free
      go_wp2_with fail
      go_roundw
      case rel => exact ⟨2, _, by go_num, .inr (.inr ⟨rfl, rfl⟩), (hbW.setCell (by show _ ≤ n; omega) _).setCell (by show _ ≤ n; omega) _, (hB.setOther (by show g ≠ n; omega) _).setOther (by show g ≠ n; omega) _, (hO.set1 (j := 3) (by simp) (.int .u8 55)).set1 (j := 4) (by simp) (.int .u8 97)⟩
      case measure => simp [intOf]
    · have hcv : (convert 45 9 (.slice (some ⟨n, 0, none⟩) 5 5)).run Tryd.prog wr = .ok (.string ⟨#[120, 54, 49, 55, 97]⟩) wr := run_convert_bytes_back wr 45 9 5 ⟨n, 0, none⟩ 5 [120, 54, 49, 55, 97] Tryd.underlying45 Tryd.underlying5 Tryd.underlying9 (fun j hj => by
        match j, hj with
        | 0, _ => exact hO.cell 0 _ rfl
        | 1, _ => rw [paddr]; exact hO.cell 1 _ rfl
        | 2, _ => rw [paddr]; exact hO.cell 2 _ rfl
        | 3, _ => rw [paddr]; exact hO.cell 3 _ rfl
        | 4, _ => rw [paddr]; exact hO.cell 4 _ rfl)
      go_wp2_with fail
      go_ret
      exact ⟨rfl, ⟨_, hbW⟩, rfl⟩
end Go.Proofs.YtlfdiafpmlcmdaaDoor
