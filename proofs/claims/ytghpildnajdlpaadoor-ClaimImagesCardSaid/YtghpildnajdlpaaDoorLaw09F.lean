/-
  The statement ClaimImages, walked: it returns true. Conditions: the claims lie in memory as they read; the table of modes lies there.
-/
import Derived.Test.YtghpildnajdlpaaDoorAwk09
import Derived.Test.YtghpildnajdlpaaDoorApRow
namespace Go.Proofs.YtghpildnajdlpaaDoor
open Go.RowKit
variable {W : World}

theorem drop_rev {l : List (List Val)} {m : Nat} {r : List Val} (h : l[m]? = some r) : (l.drop m).reverse = (l.drop (m + 1)).reverse ++ [r] := by
  rw [List.drop_eq_getElem_cons (List.getElem?_eq_some_iff.1 h).1, List.reverse_cons, (List.getElem?_eq_some_iff.1 h).2]
set_option maxHeartbeats 4000000 in
theorem claimImages_any (hT : Tabs W) {a b : Cl} {A P A' P' : Option Addr} {ca pa ca' pa' : Nat} (ha : a.At W A ca P pa) (sa : ∀ r ∈ a.im, ∀ u ∈ r, u.s.size ≤ maxLen) (hb : b.At W A' ca' P' pa') (sb : ∀ r ∈ b.im, ∀ u ∈ r, u.s.size ≤ maxLen) (x : Lt W) : Calls Tryd.prog 10 #[a.arg A ca P pa, b.arg A' ca' P' pa'] x.1 fun e w' => e = .returned (.bool true) ∧ ∃ y : Lt W, w' = y.1 := by
  have HT := Lib.hid hT
  have HA := Lib.hid ha
  have Za := Lib.hid sa
  have HB := Lib.hid hb
  have Zb := Lib.hid sb
  clear hT ha sa hb sb
  unfold Cl.arg
  go_enter Tryd.func10, Tryd.ntmps10
  go_wp2_with fail
  refine calls_here fun W1 hW1 => ?_
  have B1 : Below W.heap.size W W1 := by rw [hW1]; exact below_then (x.more _) (below_alloc _)
  have ka : Blk W1 (x.1.heap.size) (a.cells A ca P pa) := by rw [hW1]; refine Blk.alloc ?_ _; exact Blk.new' (l := #[.int .i64 a.kind, .int .i64 a.table, .int .i64 a.mode, .bool a.key.t, .int .i64 a.key.n, .string a.key.s, .slice A a.im.length ca, .int .i64 a.p.op, .int .i64 a.p.col, .bool a.p.v.t, .int .i64 a.p.v.n, .string a.p.v.s, .bool a.p.w.t, .int .i64 a.p.w.n, .string a.p.w.s, .slice P a.p.l.length pa]) (by simp)
  have kb : Blk W1 (x.1.heap.size + 1) (b.cells A' ca' P' pa') := by rw [hW1]; exact Blk.new' (l := #[.int .i64 b.kind, .int .i64 b.table, .int .i64 b.mode, .bool b.key.t, .int .i64 b.key.n, .string b.key.s, .slice A' b.im.length ca', .int .i64 b.p.op, .int .i64 b.p.col, .bool b.p.v.t, .int .i64 b.p.v.n, .string b.p.v.s, .bool b.p.w.t, .int .i64 b.p.w.n, .string b.p.w.s, .slice P' b.p.l.length pa']) (by simp)
  clear hW1
  have HT1 := Lib.hid (show Tabs W1 from fun i hi => (B1.cell (cell_lt (HT.out i hi))).trans (HT.out i hi))
  have Aa := Lib.hid (HA.out.below B1)
  have Ab := Lib.hid (HB.out.below B1)
  refine (awake_any HT1.out (Lt.base W1)).mono ?_; rintro e w' ⟨rfl, y1, rfl⟩
  obtain ⟨fa, hfa⟩ : ∃ f, a.few = f := ⟨_, rfl⟩
  have Ca := cfew_any Aa.out y1
  rw [hfa] at Ca
  have HFa := Lib.hid hfa
  have HCa := Lib.hid Ca
  clear hfa Ca
  go_wp2_with (first | (refine claim_load (by rfl) _ (by rfl) (by rfl) (ka.below y1.2) ?_))
  refine HCa.out.mono ?_; rintro e w' ⟨rfl, y2, rfl⟩
  obtain ⟨fb, hfb⟩ : ∃ f, b.few = f := ⟨_, rfl⟩
  have Cb := cfew_any Ab.out y2
  rw [hfb] at Cb
  have HFb := Lib.hid hfb
  have HCb := Lib.hid Cb
  clear hfb Cb
  go_wp2_with (first | (refine claim_load (by rfl) _ (by rfl) (by rfl) (kb.below y2.2) ?_))
  refine HCb.out.mono ?_; rintro e w' ⟨rfl, y3, rfl⟩
  cases fa
  · go_wp2_with fail
    go_ret
    exact ⟨rfl, y3.via B1, rfl⟩
  cases fb
  · go_wp2_with fail
    go_ret
    exact ⟨rfl, y3.via B1, rfl⟩
  have Fa := Lib.hid (Cl.few_fits HFa.out Za.out)
  have Fb := Lib.hid (Cl.few_fits HFb.out Zb.out)
  have HB2 := HB
  have hlA := ka.lt
  have hlB := kb.lt
  obtain ⟨i0, hi, hz0, hz1, hz2⟩ := info_parts info_row
  obtain ⟨gc, hgc⟩ : ∃ g, y3.1.heap.size = g := ⟨_, rfl⟩
  go_upto_region 9 with (first | (refine claim_load (by rfl) _ (by rfl) (by rfl) (ka.below y3.2) ?_) | (refine claim_store (c := a) (A := A) (ca := ca) (P := P) (pa := pa) (by rfl) _ _ (by rfl) (by rfl) (Blk.new' hgc.symm) rfl (by rfl) ?_; intro V1 hV1))
  have hgW : W1.heap.size ≤ gc := by rw [← hgc]; exact y3.2.size
  have bV1 : Below W1.heap.size W1 V1 := by rw [hV1]; exact puts_below (below_then y3.2 (below_alloc _)) hgW _ _
  have kc : Blk V1 gc (a.cells A ca P pa) := by rw [hV1]; exact (Blk.new' hgc.symm).puts0 rfl
  have hsV : V1.heap.size = gc + 1 := by rw [hV1, puts_size]; simp [hgc]
  clear hV1 hgc
  replace ka := ka.below bV1
  replace kb := kb.below bV1
  have kc6 := kc.cell 6 _ rfl
  have kcf := kc.free
  go_upto_region 10 with fail
  refine wp_here fun V hV => ?_
  have bV : Below W1.heap.size W1 V := by rw [hV]; exact bV1.setCell hgW _
  have hga : x.1.heap.size ≠ gc := by omega
  have hgb : x.1.heap.size + 1 ≠ gc := by omega
  have ka0 : Blk V x.1.heap.size (a.cells A ca P pa) := by rw [hV]; exact ka.setOther hga _
  have kb0 : Blk V (x.1.heap.size + 1) (b.cells A' ca' P' pa') := by rw [hV]; exact kb.setOther hgb _
  have hbox0 : Blk V gc (a.box none 0 0 P pa) := by rw [hV]; exact kc.set1 (j := 6) (by show 6 < 16; omega) _
  have hst : ApInv W V gc [] 0 [] none 0 V := ApInv.start (below_then B1 bV) (Nat.le_trans B1.size hgW) (by rw [hV]; simp [World.setCell, hsV])
  clear hV kc kc6 kcf ka kb bV1 hsV
  have ka := ka0
  have kb := kb0
  clear ka0 kb0
  have ka6 := ka.cell 6 _ rfl
  have hal : a.im.length ≤ 1000000 := Fa.out.im
  go_wp2_with fail
  clear ka6
  go_loopw [9] (fun i wr => ∃ (k n : Nat) (K : List RK) (A2 : Option Addr) (ca2 : Nat), i = .int .i64 ((k : Int) - 1) ∧ k ≤ a.im.length ∧ ApInv W V gc (a.im.drop k).reverse n K A2 ca2 wr ∧ Blk wr gc (a.box A2 n ca2 P pa)) (fun i _ => (intOf i + 1).toNat)
  case atStart => exact ⟨a.im.length, 0, [], none, 0, by go_num, by omega, by rw [List.drop_length]; exact hst, hbox0⟩
  case round =>
    clear hst hbox0
    rename_i wr
    obtain ⟨k, n, K, A2, ca2, rfl, hk, hin, hbox⟩ := hrel
    have hn9 : n ≤ 1000000 := by have h1 := hin.len; rw [List.length_reverse, List.length_drop] at h1; omega
    by_cases hlt : 0 < k
    · obtain ⟨m, rfl⟩ : ∃ m, k = m + 1 := ⟨k - 1, by omega⟩
      obtain ⟨z, hz⟩ : ∃ z : Int, ((m + 1 : Nat) : Int) - 1 = z := ⟨_, rfl⟩
      obtain rfl : (m : Int) = z := by omega
      simp only [hz]
      have i1 : (0 : Int) ≤ (m : Int) := by omega
      have i2 : (m : Int) < (a.im.length : Int) := by omega
      obtain ⟨bb, off, r, A4, ca4, hx, hmem, hAe, hc0, hxat, hxn⟩ := HA.out.im.at_ (show m < a.im.length by omega)
      have HX := Lib.hid hx
      have HXN := Lib.hid hxn
      have HXA := Lib.hid hxat
      have h6 : wr.cell? ⟨gc, 6, none⟩ = some (.slice A2 n ca2) := hbox.cell 6 _ rfl
      have h6a := (hin.keep ka hga).cell 6 _ rfl
      have hel := (hin.below.cell (cell_lt hc0)).trans hc0
      have h6o : ∀ ob, (wr.alloc ob).cell? ⟨gc, 6, none⟩ = some (.slice A2 n ca2) := fun ob => cell_old h6
      have hrow4 := fun ob => row_below hin.row (below_then (below_alloc ob) (Below.refl _ _).drew)
      have hbf := hbox.free
      have HIN := Lib.hid hin
      have HB := Lib.hid hbox
      have hgv := hin.base.2.1
      have hvw := hin.base.2.2
      have hcell5 : ∀ (w5 : World) (ob : Obj), ((wr.alloc ob).drew).grownBy w5 (Value.slice A2 n ca2).ownBlock → w5.cell? ⟨gc, 6, none⟩ = some (.slice A2 n ca2) ∧ w5.frozen? ⟨gc, 6, none⟩ = false := fun w5 ob h5 => by
        have e5 := HIN.out.old (w4 := wr.drew) (Below.refl _ _).drew h5 gc hgv
        exact ⟨(World.cell?_of_block (a := ⟨gc, 6, none⟩) e5).trans h6, (World.frozen?_of_block (a := ⟨gc, 6, none⟩) e5).trans (hbf 6)⟩
      clear hx hmem hxat hxn hc0 hin hbox
      obtain rfl := hAe
      go_wp2_with fail
      go_region_law (first
        | (refine step_append_lies _ (by rfl) (.tmp 35) (.tmp 41) 26 (by rfl) V.heap.size 43 i0 _ 1 24 Tryd.underlying26 hi hz0 hz1 hz2 rfl (by omega) (.slice A2 n ca2) n (rcells K) (by simp [Act.eval]) (hrow4 _) ⟨wr.heap.size, 0, none⟩ 1 1 [.slice A4 r.length ca4] (by simp [Act.eval]) rfl (new_lit (w := wr) _) (fun u hu => by rw [List.mem_singleton] at hu; rw [hu]; rfl) (by omega) (by unfold maxLen; omega) (by omega) (by simp [World.drew]; omega) _ rfl ?_; intro g cap w5 hrow5 hgrow5 hat5 hlt5; obtain ⟨b85, bf5⟩ := hcell5 _ _ hgrow5))
      all_goals
        go_wp2_with fail
        go_roundw
        case rel => exact ⟨m, n + 1, K ++ [⟨r, A4, ca4⟩], some ⟨g, 0, none⟩, cap, by go_num, by omega, by
          rw [drop_rev HX.out]
          exact (HIN.out.step HXA.out HXN.out (w4 := wr.drew) (Below.refl _ _).drew hrow5 hgrow5).set 6 _, by
          have e5 := HIN.out.old (w4 := wr.drew) (Below.refl _ _).drew hgrow5 gc hgv
          exact (HB.out.other (by have h1 := hgrow5.size; simp [World.drew] at h1; omega) e5).set1 (j := 6) (by show 6 < 16; omega) _⟩
        case measure => simp [intOf]
    · obtain rfl : k = 0 := by omega
      obtain ⟨z, hz⟩ : ∃ z : Int, ((0 : Nat) : Int) - 1 = z := ⟨_, rfl⟩
      obtain rfl : (-1 : Int) = z := by omega
      simp only [hz]
      rw [List.drop_zero] at hin
      have hst : ApInv W V gc (a.im.reverse ++ a.im.take 0) n K A2 ca2 wr := by rw [List.take_zero, List.append_nil]; exact hin
      clear hin hn9 hz hlt hk
      go_wp2_with fail
      go_loopw [10] (fun i wr => ∃ (k n : Nat) (K : List RK) (A2 : Option Addr) (ca2 : Nat), i = .int .i64 k ∧ k ≤ a.im.length ∧ ApInv W V gc (a.im.reverse ++ a.im.take k) n K A2 ca2 wr ∧ Blk wr gc (a.box A2 n ca2 P pa)) (fun i _ => a.im.length - (intOf i).toNat)
      case atStart => exact ⟨0, n, K, A2, ca2, rfl, by omega, hst, hbox⟩
      case round =>
        clear hst hbox
        rename_i wr
        obtain ⟨k, n, K, A2, ca2, rfl, hk, hin, hbox⟩ := hrel
        have hn9 : n ≤ 2000000 := by have h1 := hin.len; rw [List.length_append, List.length_reverse, List.length_take] at h1; omega
        by_cases hlt : k < a.im.length
        · have i1 : (0 : Int) ≤ (k : Int) := by omega
          have i2 : (k : Int) < (a.im.length : Int) := by omega
          obtain ⟨bb, off, r, A4, ca4, hx, hmem, hAe, hc0, hxat, hxn⟩ := HA.out.im.at_ hlt
          have HX := Lib.hid hx
          have HXN := Lib.hid hxn
          have HXA := Lib.hid hxat
          have h6 : wr.cell? ⟨gc, 6, none⟩ = some (.slice A2 n ca2) := hbox.cell 6 _ rfl
          have h6a := (hin.keep ka hga).cell 6 _ rfl
          have hel := (hin.below.cell (cell_lt hc0)).trans hc0
          have h6o : ∀ ob, (wr.alloc ob).cell? ⟨gc, 6, none⟩ = some (.slice A2 n ca2) := fun ob => cell_old h6
          have hrow4 := fun ob => row_below hin.row (below_then (below_alloc ob) (Below.refl _ _).drew)
          have hbf := hbox.free
          have HIN := Lib.hid hin
          have HB := Lib.hid hbox
          have hgv := hin.base.2.1
          have hvw := hin.base.2.2
          have hcell5 : ∀ (w5 : World) (ob : Obj), ((wr.alloc ob).drew).grownBy w5 (Value.slice A2 n ca2).ownBlock → w5.cell? ⟨gc, 6, none⟩ = some (.slice A2 n ca2) ∧ w5.frozen? ⟨gc, 6, none⟩ = false := fun w5 ob h5 => by
            have e5 := HIN.out.old (w4 := wr.drew) (Below.refl _ _).drew h5 gc hgv
            exact ⟨(World.cell?_of_block (a := ⟨gc, 6, none⟩) e5).trans h6, (World.frozen?_of_block (a := ⟨gc, 6, none⟩) e5).trans (hbf 6)⟩
          clear hx hmem hxat hxn hc0 hin hbox
          obtain rfl := hAe
          go_wp2_with fail
          go_region_law (first
        | (refine step_append_lies _ (by rfl) (.tmp 52) (.tmp 58) 26 (by rfl) V.heap.size 43 i0 _ 1 24 Tryd.underlying26 hi hz0 hz1 hz2 rfl (by omega) (.slice A2 n ca2) n (rcells K) (by simp [Act.eval]) (hrow4 _) ⟨wr.heap.size, 0, none⟩ 1 1 [.slice A4 r.length ca4] (by simp [Act.eval]) rfl (new_lit (w := wr) _) (fun u hu => by rw [List.mem_singleton] at hu; rw [hu]; rfl) (by omega) (by unfold maxLen; omega) (by omega) (by simp [World.drew]; omega) _ rfl ?_; intro g cap w5 hrow5 hgrow5 hat5 hlt5; obtain ⟨b85, bf5⟩ := hcell5 _ _ hgrow5))
          all_goals
            go_wp2_with fail
            go_roundw
            case rel => exact ⟨k + 1, n + 1, K ++ [⟨r, A4, ca4⟩], some ⟨g, 0, none⟩, cap, by go_num, by omega, by
              rw [List.take_add_one, HX.out, ← List.append_assoc]
              exact (HIN.out.step HXA.out HXN.out (w4 := wr.drew) (Below.refl _ _).drew hrow5 hgrow5).set 6 _, by
              have e5 := HIN.out.old (w4 := wr.drew) (Below.refl _ _).drew hgrow5 gc hgv
              exact (HB.out.other (by have h1 := hgrow5.size; simp [World.drew] at h1; omega) e5).set1 (j := 6) (by show 6 < 16; omega) _⟩
            case measure => simp [intOf]; omega
        · obtain rfl : k = a.im.length := by omega
          rw [List.take_length] at hin
          obtain rfl := hin.len
          have kc : Blk wr gc (({ a with im := a.im.reverse ++ a.im } : Cl).cells A2 ca2 P pa) := hbox
          have ka9 := hin.keep ka hga
          have kb9 := hin.keep kb hgb
          have B9 := hin.below
          have h6a := ka9.cell 6 _ rfl
          have hci := hin.at_
          clear hin hbox hlt hk
          have HT9 : Tabs wr := fun i hi => (B9.cell (cell_lt (HT.out i hi))).trans (HT.out i hi)
          have Ac : ({ a with im := a.im.reverse ++ a.im } : Cl).At wr A2 ca2 P pa := ⟨hci, (HA.out.below B9).p⟩
          have Fc : ({ a with im := a.im.reverse ++ a.im } : Cl).Fits := ⟨by show (a.im.reverse ++ a.im).length ≤ 1000000; rw [List.length_append, List.length_reverse]; have := Cl.few_len HFa.out; omega, fun r hr => Fa.out.row r (by rcases List.mem_append.1 hr with h | h; exact List.mem_reverse.1 h; exact h), fun r hr => Fa.out.fit r (by rcases List.mem_append.1 hr with h | h; exact List.mem_reverse.1 h; exact h), Fa.out.p⟩
          have hmm : ∀ r, r ∈ ({ a with im := a.im.reverse ++ a.im } : Cl).im ↔ r ∈ a.im := fun r => by
            show r ∈ a.im.reverse ++ a.im ↔ _
            rw [List.mem_append, List.mem_reverse, or_self]
          have e1 := Cl.conf_images (a := a) (c := { a with im := a.im.reverse ++ a.im }) rfl rfl rfl rfl rfl hmm b
          have e2 := Cl.covers_images (a := a) (c := { a with im := a.im.reverse ++ a.im }) rfl rfl rfl rfl rfl hmm b
          have K1 := fun z : Lt wr => conf_any HT9 Ac (HB2.out.below B9) Fc Fb.out z
          have K2 := fun z : Lt wr => conf_any HT9 (HA.out.below B9) (HB2.out.below B9) Fa.out Fb.out z
          have K3 := fun z : Lt wr => ccov_any HT9 Ac (HB2.out.below B9) Fc Fb.out z
          have K4 := fun z : Lt wr => ccov_any HT9 (HA.out.below B9) (HB2.out.below B9) Fa.out Fb.out z
          have K5 := fun z : Lt wr => ccov_any HT9 (HB2.out.below B9) Ac Fb.out Fc z
          have K6 := fun z : Lt wr => ccov_any HT9 (HB2.out.below B9) (HA.out.below B9) Fb.out Fa.out z
          rw [e1] at K1
          rw [e2.1] at K3
          rw [e2.2] at K5
          clear e1 e2 hmm Fc Ac HT9 hci
          obtain ⟨v1, hv1⟩ : ∃ v, a.conf b = v := ⟨_, rfl⟩
          obtain ⟨v2, hv2⟩ : ∃ v, a.covers b = v := ⟨_, rfl⟩
          obtain ⟨v3, hv3⟩ : ∃ v, b.covers a = v := ⟨_, rfl⟩
          rw [hv1] at K1 K2
          rw [hv2] at K3 K4
          rw [hv3] at K5 K6
          clear hv1 hv2 hv3
          replace K1 := Lib.hid K1
          replace K2 := Lib.hid K2
          replace K3 := Lib.hid K3
          replace K4 := Lib.hid K4
          replace K5 := Lib.hid K5
          replace K6 := Lib.hid K6
          go_upto_region 18 with fail
          clear h6a
          refine wp_region_pure (Lt.base wr) (by kernel_rfl) (by kernel_rfl) ?_
          cases v1 <;> cases v2 <;> cases v3
          all_goals
            repeat (first | (first | (refine claim_loadq (by rfl) _ (by rfl) (by rfl) (kc) ?_; simp only [Act.put, List.setIfInBounds_toArray, List.set_cons_succ, List.set_cons_zero]) | (refine claim_loadq (by rfl) _ (by rfl) (by rfl) (kb9) ?_; simp only [Act.put, List.setIfInBounds_toArray, List.set_cons_succ, List.set_cons_zero]) | (refine claim_loadq (by rfl) _ (by rfl) (by rfl) (ka9) ?_; simp only [Act.put, List.setIfInBounds_toArray, List.set_cons_succ, List.set_cons_zero])) | go_big_quiet_step ((first | (go_at_call 17; first | (with_reducible exact K1.out _) | (with_reducible exact K2.out _)) | (go_at_call 19; first | (with_reducible exact K3.out _) | (with_reducible exact K4.out _) | (with_reducible exact K5.out _) | (with_reducible exact K6.out _)))))
            refine wpQuiet_nil ?_; intro _ hw'; obtain ⟨z, rfl⟩ := hw'
            go_wp2_with fail
            go_ret
            exact ⟨rfl, z.via B9, rfl⟩
end Go.Proofs.YtghpildnajdlpaaDoor
