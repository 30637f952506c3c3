/-
  A predicate without PNot, walked on the program's side: push and its closure. Conditions: its parts are of the right numbers; it lies in memory as it reads; at most a billion parts.
-/
import Derived.Test.YtppoefbfepehpaaRowInv
import Derived.Deep.DeepCutAuto
namespace Go.Proofs.Ytppoefbfepehpaa
open Go.RowKit

theorem undrewp {w w' : World} (h : Below w.drew.heap.size w.drew w') : Below w.heap.size w w' := ⟨h.os, h.tape, h.output, h.size, h.block⟩

set_option maxHeartbeats 2000000 in
theorem all_any {l : List Pr} {not : Bool} (ih : ∀ q ∈ l, ∀ (W : World) (A : Option Addr) (ca : Nat), q.At W A ca → Calls Try.prog 29 #[q.arg A ca, .bool not] W (PFresh W (q.push not))) (hlen : l.length ≤ 1000000000) (op : Int) {o c : Int} {v w : Val} (W : World) (A : Option Addr) (ca : Nat)
    (hat : (Pr.mk o c v w l).At W A ca) (gp gn : Nat) (hp : W.cell? ⟨gp, 8, none⟩ = some (.slice A l.length ca)) (hn : W.cell? ⟨gn, 0, none⟩ = some (.bool not)) :
    Calls Try.prog 46 #[.int .i64 op, .pointer (some ⟨gp, 0, none⟩), .pointer (some ⟨gn, 0, none⟩)] W (PFresh W (.mk op 0 Pr.zv Pr.zv (l.map fun q => q.push not))) := by
  have IH := Lib.hid ih
  clear ih
  obtain ⟨L, hL⟩ : ∃ L, (l.map fun q => q.push not) = L := ⟨_, rfl⟩
  have HLEN := Lib.hid (show L.length = l.length by rw [← hL, List.length_map])
  have HL := Lib.hid (show ∀ (k : Nat) (x : Pr), l[k]? = some x → L[k]? = some (x.push not) from fun k x hx => by rw [← hL, List.getElem?_map, hx]; rfl)
  rw [hL]
  clear hL
  obtain ⟨i0, hi, hz0, hz1, hz2⟩ := info_parts info_pr
  have hp2 := fun o1 o2 => cell_old (o := o2) (cell_old (o := o1) hp)
  go_enter Try.func46, Try.ntmps46
  go_wp2_with fail
  refine wp_here fun w3 hw3 => ?_
  have hres3 : OwnP w3 W.heap.size [⟨.mk 0 0 Pr.zv Pr.zv [], none, 0⟩] := by rw [hw3]; exact (OwnP.one (w := W) (t := 29) ⟨.mk 0 0 Pr.zv Pr.zv [], none, 0⟩ rfl).below (below_alloc _)
  have hinv : RowInv W (W.heap.size + 2) (W.heap.size + 1) w3 op L 0 [] none 0 w3 := by
    have hb3 : Below W.heap.size W w3 := by rw [hw3]; exact below_then (below_alloc _) (below_alloc _)
    have hbox : OwnP w3 (W.heap.size + 1) [⟨.mk op 0 Pr.zv Pr.zv [], none, 0⟩] := by rw [hw3]; exact OwnP.one (t := 29) ⟨.mk op 0 Pr.zv Pr.zv [], none, 0⟩ (by simp)
    exact ⟨by omega, by omega, by rw [hw3]; simp, hb3, fun _ _ _ => rfl, rfl, hbox, World.ownsRow_nil _ _ _ _, fun x hx => by simp at hx⟩
  clear hw3
  have HAT := Lib.hid hat
  have HN := Lib.hid hn
  have HR := Lib.hid hres3
  clear hat hn hp hp2 hres3
  go_loopw [13] (fun i wr => ∃ (k : Nat) (K : List PK) (A2 : Option Addr) (ca2 : Nat), i = .int .i64 k ∧ k ≤ l.length ∧ RowInv W (W.heap.size + 2) (W.heap.size + 1) w3 op L k K A2 ca2 wr) (fun i _ => l.length - (intOf i).toNat)
  case atStart => exact ⟨0, [], none, 0, rfl, by omega, hinv⟩
  case round =>
    rename_i wr
    obtain ⟨k, K, A2, ca2, rfl, hk, hin⟩ := hrel
    have HIN := Lib.hid hin
    have hsz := hin.size
    have hb8 : wr.cell? ⟨W.heap.size + 1, 8, none⟩ = some (.slice A2 k ca2) := by
      have := hin.box.first.2.2.2.2.2.2.2.2
      simp only [Nat.zero_add] at this
      rw [this]
      show some (Value.slice A2 (L.take k).length ca2) = _
      rw [List.length_take, HLEN.out, Nat.min_eq_left hk]
    by_cases hlt : k < l.length
    · obtain ⟨x, hx⟩ : ∃ x, l[k]? = some x := ⟨_, List.getElem?_eq_getElem hlt⟩
      have hxl : x ∈ l := List.mem_of_getElem? hx
      obtain ⟨b, off, hA, hkids⟩ := (Pr.at_mk.1 HAT.out).2 (fun e => by subst e; simp at hlt)
      obtain ⟨A', ca', hc, hxat0⟩ := hkids k x hx
      have hxat := hxat0.below hin.below
      obtain ⟨c0, c1, c2, c3, c4, c5, c6, c7, c8⟩ := hc.below hin.below
      have hnot : wr.cell? ⟨gn, 0, none⟩ = some (.bool not) := (hin.below.cell (cell_lt HN.out)).trans HN.out
      have hnota := fun ob => cell_old (o := ob) hnot
      subst hA
      have hrow := hin.row
      have hbf := hin.box.free
      have HX := Lib.hid (HL.out k x hx)
      have hob : ∀ b, (Value.slice A2 k ca2).ownBlock = some b → W.heap.size + 2 ≤ b := fun b e => (hrow.lt b e).1
      have hnb : some (W.heap.size + 1) ≠ (Value.slice A2 k ca2).ownBlock := fun e => by have := hob _ e.symm; omega
      have hcell5 : ∀ (w4 w5 : World) (ob : Obj), Below wr.heap.size wr w4 → (w4.alloc ob).grownBy w5 (Value.slice A2 k ca2).ownBlock → w5.cell? ⟨W.heap.size + 1, 8, none⟩ = some (.slice A2 k ca2) ∧ w5.frozen? ⟨W.heap.size + 1, 8, none⟩ = false := fun w4 w5 ob h4 h5 => by
        have hs4 := h4.size
        have e5 : w5.heap[W.heap.size + 1]? = wr.heap[W.heap.size + 1]? := by
          rw [h5.block _ (by simp; omega) hnb, (below_alloc ob).block _ (by omega), h4.block _ (by omega)]
        exact ⟨(World.cell?_of_block (a := ⟨W.heap.size + 1, 8, none⟩) e5).trans hb8, (World.frozen?_of_block (a := ⟨W.heap.size + 1, 8, none⟩) e5).trans (hbf 8)⟩
      have hb8o := fun ob => cell_old (o := ob) hb8
      have hnews4 : ∀ (w4 : World) (q : Pr) (A4 : Option Addr) (ca4 : Nat) (t : TypeId) (j : Nat) (u : Value), (PK.cells ⟨q, A4, ca4⟩)[j]? = some u → (w4.alloc (.cells #[.int .i64 q.op, .int .i64 q.col, .bool q.v.t, .int .i64 q.v.n, .string q.v.s, .bool q.w.t, .int .i64 q.w.n, .string q.w.s, .slice A4 q.l.length ca4] t)).cell? ((⟨w4.heap.size, 0, none⟩ : Addr).add j) = some u := fun w4 q A4 ca4 t j u hu => PKs.news (OwnP.one (w := w4) (t := t) ⟨q, A4, ca4⟩ rfl).cell j u (by rw [pcells_cons]; simpa [pcells] using hu)
      have hones4 : ∀ (q : Pr) (A4 : Option Addr) (ca4 : Nat), ∀ u ∈ PK.cells ⟨q, A4, ca4⟩, u.oneCell' = true := fun q A4 ca4 u hu => pcells_one [⟨q, A4, ca4⟩] u (by rw [pcells_cons]; simpa [pcells] using hu)
      have i1 : (0 : Int) ≤ (k : Int) := by omega
      have i2 : (k : Int) < (l.length : Int) := by omega
      clear hx hkids hc hxat0 hin hinv
      go_wp2_with fail
      obtain ⟨qq, hqq⟩ : ∃ qq, x.push not = qq := ⟨_, rfl⟩
      have IH2 := Lib.hid (show ∀ (W : World) (A : Option Addr) (ca : Nat), x.At W A ca → Calls Try.prog 29 #[x.arg A ca, .bool not] W (PFresh W qq) from hqq ▸ IH.out x hxl)
      rw [hqq] at HX
      clear hqq
      go_region_law (first
        | (refine step_append_lies _ (by rfl) (.tmp 18) (.tmp 22) 27 (by rfl) (W.heap.size + 2) 29 i0 _ 9 104 Try.underlying27 hi hz0 hz1 hz2 rfl (by omega) (.slice A2 k ca2) k (pcells K) (by simp [Act.eval]) (hrow4 _) ⟨w4.heap.size, 0, none⟩ 1 1 (PK.cells ⟨qq, A4, ca4⟩) (by simp [Act.eval]) rfl (hnews4 w4 qq A4 ca4 _) (hones4 qq A4 ca4) (by omega) (by unfold maxLen; omega) (by omega) (by simp; omega) _ rfl ?_; intro g cap w5 hrow5 hgrow5 hat5 hlt5; obtain ⟨b85, bf5⟩ := hcell5 _ _ _ hbx4 hgrow5)
        | (go_simp; go_at_call 29; refine (IH2.out _ _ _ (hxat.below (below_alloc _).drew)).mono ?_; rintro e w4 ⟨A4, ca4, rfl, hat4, hown4', hb4⟩; have hbx4 := below_then (below_alloc _) (undrewp hb4); have hown4 : qq.Own (fun b => wr.heap.size ≤ b) w4 A4 := hown4'.mono (fun b hb => Nat.le_trans (by simp [World.drew]) hb); have hb84 := (hbx4.cell (cell_lt hb8)).trans hb8; have hb8a : ∀ ob, (w4.alloc ob).cell? ⟨W.heap.size + 1, 8, none⟩ = some (.slice A2 k ca2) := fun ob => cell_old hb84; have hrow4 := fun ob => (row_below hrow hbx4).alloc ob; have hs4 := hbx4.size))
      all_goals
        go_wp2_with fail
        go_roundw
        case rel => exact ⟨k + 1, K ++ [⟨qq, A4, ca4⟩], some ⟨g, 0, none⟩, cap, by go_num, by omega, HIN.out.step HX.out hbx4 hat4 hown4 hrow5 hgrow5 hat5⟩
        case measure => simp [intOf]; omega
    · obtain rfl : k = L.length := by rw [HLEN.out]; omega
      have hboxr : OwnP wr (W.heap.size + 1) [⟨.mk op 0 Pr.zv Pr.zv L, A2, ca2⟩] := by have := hin.box; rwa [List.take_length] at this
      have hresr : OwnP wr W.heap.size [⟨.mk 0 0 Pr.zv Pr.zv [], none, 0⟩] := HR.out.rest (by omega) (hin.rest W.heap.size (by omega) (by omega))
      have hbW := hin.below
      obtain ⟨b0, b1, b2, b3, b4, b5, b6, b7, b8⟩ := hboxr.first
      obtain ⟨r0, r1, r2, r3, r4, r5, r6, r7, r8⟩ := hresr.first
      have rf := hresr.free
      simp only [Nat.zero_add, Pr.op, Pr.col, Pr.v, Pr.w, Pr.l] at b0 b1 b2 b3 b4 b5 b6 b7 b8 r0 r1 r2 r3 r4 r5 r6 r7 r8
      have hge : ¬ L.length < l.length := by rw [HLEN.out]; omega
      clear hin hk hlt hb8
      go_wp2_with fail
      have hend := HIN.out.end_ (gr := W.heap.size) (w6 := pput wr W.heap.size ⟨.mk op 0 Pr.zv Pr.zv L, A2, ca2⟩) (by omega) (by rw [pput_size]; exact Nat.le_refl _) (fun b hb => pput_other _ _ hb)
      have hfin : PFresh W (.mk op 0 Pr.zv Pr.zv L) (.returned (.agg #[.int .i64 op, .int .i64 0, .bool false, .int .i64 0, .string ⟨#[]⟩, .bool false, .int .i64 0, .string ⟨#[]⟩, .slice A2 L.length ca2])) (pput wr W.heap.size ⟨.mk op 0 Pr.zv Pr.zv L, A2, ca2⟩) := ⟨A2, ca2, rfl, hend.1, hend.2, pput_below hbW (Nat.le_refl _) _⟩
      exact bodyPost_ret (pr_out rfl rfl (pput_own hresr ⟨.mk op 0 Pr.zv Pr.zv L, A2, ca2⟩)) rfl hfin
end Go.Proofs.Ytppoefbfepehpaa
