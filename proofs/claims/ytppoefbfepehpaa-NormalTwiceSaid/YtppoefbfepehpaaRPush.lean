/-
  A predicate without PNot, walked on the document's side. Conditions: its parts are of the right numbers; it lies in memory as it reads; at most a billion parts.
-/
import Derived.Test.YtppoefbfepehpaaPushAll
import Derived.Test.YtppoefbfepehpaaOpp
namespace Go.Proofs.Ytppoefbfepehpaa
open Go.RowKit

set_option maxHeartbeats 2000000 in
theorem rpush_all : ∀ p : Pr, p.shape = true → p.size ≤ 1000000000 → ∀ (not : Bool) (W : World) (A : Option Addr) (ca : Nat), p.At W A ca → Calls Try.prog 30 #[p.arg A ca, .bool not] W (PFresh W (p.push not)) := by
  refine Pr.ind fun p ih hs hsz not W A ca hat => ?_
  obtain ⟨o, c, v, w, l⟩ := p
  have IH := Lib.hid (show ∀ q ∈ l, q.shape = true → ∀ (not : Bool) (W : World) (A : Option Addr) (ca : Nat), q.At W A ca → Calls Try.prog 30 #[q.arg A ca, .bool not] W (PFresh W (q.push not)) from fun q hq hs => ih q hq hs (by have := Pr.size_kid (p := .mk o c v w l) hq; omega))
  have hlen : l.length ≤ 1000000000 := by have h1 := Pr.len_le l; have h2 := Pr.size_mk o c v w l; omega
  have hn : A = none → ca = 0 := (Pr.at_mk.1 hat).1.1
  clear ih hsz
  show Calls Try.prog 30 #[.agg #[.int .i64 o, .int .i64 c, .bool v.t, .int .i64 v.n, .string v.s, .bool w.t, .int .i64 w.n, .string w.s, .slice A l.length ca], .bool not] W _
  have HAT := Lib.hid hat
  clear hat
  rcases Pr.shape_cases hs with ⟨h1, h9, rfl⟩ | ⟨rfl, q, rfl, hq⟩ | ⟨ho, hne, hl⟩
  · have HT := Lib.hid (fun (W : World) => opposite_any o c v w W A ca ⟨h1, h9⟩)
    have HP := Lib.hid (Pr.push_leaf (c := c) (v := v) (w := w) ⟨h1, h9⟩ not)
    have o10 : (o == 10) = false := by rw [beq_eq_false_iff_ne]; omega
    have o11 : (o == 11) = false := by rw [beq_eq_false_iff_ne]; omega
    have o12 : (o == 12) = false := by rw [beq_eq_false_iff_ne]; omega
    clear hs hlen IH
    have W1F : ∀ W1 : World, W1 = (W.alloc (.cells #[.int .i64 o, .int .i64 c, .bool v.t, .int .i64 v.n, .string v.s, .bool w.t, .int .i64 w.n, .string w.s, .slice A 0 ca] 29)).alloc (.cells #[.int .i64 0, .int .i64 0, .bool false, .int .i64 0, .string ⟨#[]⟩, .bool false, .int .i64 0, .string ⟨#[]⟩, .slice none 0 0] 29) → Below W.heap.size W W1 ∧ W1.heap.size = W.heap.size + 1 + 1 ∧ OwnP W1 (W.heap.size + 1) [⟨.mk 0 0 Pr.zv Pr.zv [], none, 0⟩] := fun W1 h => by
      rw [h]
      exact ⟨below_then (below_alloc _) (below_alloc _), by simp, OwnP.one (t := 29) ⟨.mk 0 0 Pr.zv Pr.zv [], none, 0⟩ (by simp)⟩
    cases not
    · by_cases h2 : o ≤ 2
      · have HP2 := Lib.hid (show (Pr.mk o c v w []).push false = Pr.mk o 0 Pr.zv Pr.zv [] by rw [HP.out, if_neg (by simp), if_pos h2])
        obtain rfl | rfl : o = 1 ∨ o = 2 := by omega
        all_goals
          rw [HP2.out]
          go_enter Try.func30, Try.ntmps30
          go_wp2_with fail
        · refine bodyPost_ret (v := .agg #[.int .i64 1, .int .i64 0, .bool false, .int .i64 0, .string ⟨#[]⟩, .bool false, .int .i64 0, .string ⟨#[]⟩, .slice none 0 0]) ?_ rfl (PFresh.leaf 1 0 Pr.zv Pr.zv (fun _ => rfl) ?_)
          · simp [results, Try.results30, go_sem]
          · repeat (first | with_reducible exact Below.refl _ _ | refine below_then ?_ (below_alloc _) | refine Below.drew ?_)
        · refine bodyPost_ret (v := .agg #[.int .i64 2, .int .i64 0, .bool false, .int .i64 0, .string ⟨#[]⟩, .bool false, .int .i64 0, .string ⟨#[]⟩, .slice none 0 0]) ?_ rfl (PFresh.leaf 2 0 Pr.zv Pr.zv (fun _ => rfl) ?_)
          · simp [results, Try.results30, go_sem]
          · repeat (first | with_reducible exact Below.refl _ _ | refine below_then ?_ (below_alloc _) | refine Below.drew ?_)
      · have HP2 := Lib.hid (show (Pr.mk o c v w []).push false = Pr.mk o c v w [] by rw [HP.out, if_neg (by simp), if_neg h2])
        have o1 : (o == 1) = false := by rw [beq_eq_false_iff_ne]; omega
        have o2 : ¬ o ≤ 2 := h2
        clear h1 h9 h2
        rw [HP2.out]
        go_enter Try.func30, Try.ntmps30
        go_wp2_with fail
        refine bodyPost_ret (v := .agg #[.int .i64 o, .int .i64 c, .bool v.t, .int .i64 v.n, .string v.s, .bool w.t, .int .i64 w.n, .string w.s, .slice A 0 ca]) ?_ rfl (PFresh.leaf o c v w hn ?_)
        · simp [results, Try.results30, go_sem]
        · repeat (first | with_reducible exact Below.refl _ _ | refine below_then ?_ (below_alloc _) | refine Below.drew ?_)
    · have HP2 := Lib.hid (show (Pr.mk o c v w []).push true = Pr.turned o c v w by rw [HP.out, if_pos rfl])
      clear h1 h9
      rw [HP2.out]
      obtain ⟨qq, hqq⟩ : ∃ qq, Pr.turned o c v w = qq := ⟨_, rfl⟩
      rw [hqq] at HT ⊢
      clear hqq HP HP2
      go_enter Try.func30, Try.ntmps30
      go_wp2_with fail
      refine calls_here fun W1 hW1 => ?_
      obtain ⟨hb1, hs1, hr1⟩ := W1F W1 hW1
      clear hW1
      refine (HT.out W1).mono ?_; rintro e w4 ⟨A', ca', rfl, hat4, hown4, hb4⟩
      have hr4 := hr1.below hb4
      obtain ⟨r0, r1, r2, r3, r4, r5, r6, r7, r8⟩ := hr4.first
      have rf := hr4.free
      simp only [Nat.zero_add, Pr.op, Pr.col, Pr.v, Pr.w] at r0 r1 r2 r3 r4 r5 r6 r7 r8
      go_wp2_with fail
      exact bodyPost_ret (pr_out rfl rfl (pput_own hr4 ⟨qq, A', ca'⟩)) rfl (put_fresh (W1 := W1) (gr := W.heap.size + 1) (by omega) (by omega) (below_then hb1 hb4) hat4 hown4)
  · obtain ⟨b, off, q', A', ca', hq', _, hA, hc, hqat⟩ := HAT.out.kid (k := 0) (by simp)
    obtain rfl : q = q' := by simpa using hq'
    subst hA
    obtain ⟨qq, hqq⟩ : ∃ qq, q.push (!not) = qq := ⟨_, rfl⟩
    have IHQ := Lib.hid (show ∀ (W : World) (A : Option Addr) (ca : Nat), q.At W A ca → Calls Try.prog 30 #[q.arg A ca, .bool (!not)] W (PFresh W qq) from hqq ▸ IH.out q (by simp) hq (!not))
    rw [Pr.push_not, hqq]
    clear hq' hqq IH hs hlen hn hq HAT
    simp only [List.length_cons, List.length_nil, Nat.zero_add]
    have W1F : ∀ W1 : World, W1 = (W.alloc (.cells #[.int .i64 10, .int .i64 c, .bool v.t, .int .i64 v.n, .string v.s, .bool w.t, .int .i64 w.n, .string w.s, .slice (some ⟨b, off, none⟩) 1 ca] 29)).alloc (.cells #[.int .i64 0, .int .i64 0, .bool false, .int .i64 0, .string ⟨#[]⟩, .bool false, .int .i64 0, .string ⟨#[]⟩, .slice none 0 0] 29) → Below W.heap.size W W1 ∧ W1.heap.size = W.heap.size + 1 + 1 ∧ OwnP W1 (W.heap.size + 1) [⟨.mk 0 0 Pr.zv Pr.zv [], none, 0⟩] ∧ W1.cell? ⟨W.heap.size, 8, none⟩ = some (.slice (some ⟨b, off, none⟩) 1 ca) := fun W1 h => by
      rw [h]
      exact ⟨below_then (below_alloc _) (below_alloc _), by simp, OwnP.one (t := 29) ⟨.mk 0 0 Pr.zv Pr.zv [], none, 0⟩ (by simp), cell_old (by rw [cell_new rfl]; rfl)⟩
    obtain ⟨d0, d1, d2, d3, d4, d5, d6, d7, d8⟩ := hc
    simp only [Nat.zero_mul, Nat.add_zero] at d0 d1 d2 d3 d4 d5 d6 d7 d8
    have c0 := fun o1 o2 => cell_old (o := o2) (cell_old (o := o1) d0)
    have c1 := fun o1 o2 => cell_old (o := o2) (cell_old (o := o1) d1)
    have c2 := fun o1 o2 => cell_old (o := o2) (cell_old (o := o1) d2)
    have c3 := fun o1 o2 => cell_old (o := o2) (cell_old (o := o1) d3)
    have c4 := fun o1 o2 => cell_old (o := o2) (cell_old (o := o1) d4)
    have c5 := fun o1 o2 => cell_old (o := o2) (cell_old (o := o1) d5)
    have c6 := fun o1 o2 => cell_old (o := o2) (cell_old (o := o1) d6)
    have c7 := fun o1 o2 => cell_old (o := o2) (cell_old (o := o1) d7)
    have c8 := fun o1 o2 => cell_old (o := o2) (cell_old (o := o1) d8)
    clear d0 d1 d2 d3 d4 d5 d6 d7 d8
    go_enter Try.func30, Try.ntmps30
    go_wp2_with fail
    refine calls_here fun W1 hW1 => ?_
    obtain ⟨hb1, hs1, hr1, hp1⟩ := W1F W1 hW1
    clear hW1 W1F c0 c1 c2 c3 c4 c5 c6 c7 c8
    refine (IHQ.out W1 _ _ (hqat.below hb1)).mono ?_; rintro e w4 ⟨A4, ca4, rfl, hat4, hown4, hb4⟩
    have hr4 := hr1.below hb4
    obtain ⟨r0, r1, r2, r3, r4, r5, r6, r7, r8⟩ := hr4.first
    have rf := hr4.free
    simp only [Nat.zero_add, Pr.op, Pr.col, Pr.v, Pr.w] at r0 r1 r2 r3 r4 r5 r6 r7 r8
    go_wp2_with fail
    exact bodyPost_ret (pr_out rfl rfl (pput_own hr4 ⟨qq, A4, ca4⟩)) rfl (put_fresh (W1 := W1) (gr := W.heap.size + 1) (by omega) (by omega) (below_then hb1 hb4) hat4 hown4)
  · have IHN := Lib.hid (fun (q : Pr) (hq : q ∈ l) => IH.out q hq (hl q hq) not)
    rw [Pr.push_list ho]
    obtain ⟨L, hL⟩ : ∃ L, (l.map fun q => q.push not) = L := ⟨_, rfl⟩
    have HLEN := Lib.hid (show L.length = l.length by rw [← hL, List.length_map])
    have HL := Lib.hid (show ∀ (k : Nat) (x : Pr), l[k]? = some x → L[k]? = some (x.push not) from fun k x hx => by rw [← hL, List.getElem?_map, hx]; rfl)
    rw [hL]
    obtain ⟨i0, hi, hz0, hz1, hz2⟩ := info_parts info_pr
    clear hL hs hl hne IH hn
    rcases ho with rfl | rfl <;> cases not
    · go_enter Try.func30, Try.ntmps30
      go_wp2_with fail
      refine wp_here fun w3 hw3 => ?_
      have hres3 : OwnP w3 (W.heap.size + 1) [⟨.mk 0 0 Pr.zv Pr.zv [], none, 0⟩] := by rw [hw3]; exact (OwnP.one (t := 29) ⟨.mk 0 0 Pr.zv Pr.zv [], none, 0⟩ (by simp)).below (below_alloc _)
      have hinv : RowInv W (W.heap.size + 3) (W.heap.size + 2) w3 11 L 0 [] none 0 w3 := by
        have hb3 : Below W.heap.size W w3 := by rw [hw3]; exact below_then (below_then (below_alloc _) (below_alloc _)) (below_alloc _)
        have hbox : OwnP w3 (W.heap.size + 2) [⟨.mk 11 0 Pr.zv Pr.zv [], none, 0⟩] := by rw [hw3]; exact OwnP.one (t := 29) ⟨.mk 11 0 Pr.zv Pr.zv [], none, 0⟩ (by simp)
        exact ⟨by omega, by omega, by rw [hw3]; simp, hb3, fun _ _ _ => rfl, rfl, hbox, World.ownsRow_nil _ _ _ _, fun x hx => by simp at hx⟩
      have HP := Lib.hid (show w3.cell? ⟨W.heap.size, 8, none⟩ = some (.slice A l.length ca) by rw [hw3]; exact cell_old (cell_old (by rw [cell_new rfl]; rfl)))
      clear hw3
      have HR := Lib.hid hres3
      clear hres3
      go_loopw [6] (fun i wr => ∃ (k : Nat) (K : List PK) (A2 : Option Addr) (ca2 : Nat), i = .int .i64 k ∧ k ≤ l.length ∧ RowInv W (W.heap.size + 3) (W.heap.size + 2) w3 11 L k K A2 ca2 wr) (fun i _ => l.length - (intOf i).toNat)
      case atStart => exact ⟨0, [], none, 0, rfl, by omega, hinv⟩
      case round =>
        rename_i wr
        obtain ⟨k, K, A2, ca2, rfl, hk, hin⟩ := hrel
        have HIN := Lib.hid hin
        have hsz := hin.size
        have hp8 : wr.cell? ⟨W.heap.size, 8, none⟩ = some (.slice A l.length ca) := (World.cell?_of_block (a := ⟨W.heap.size, 8, none⟩) (hin.rest W.heap.size (by omega) (by omega))).trans HP.out
        have hb8 : wr.cell? ⟨W.heap.size + 2, 8, none⟩ = some (.slice A2 k ca2) := by
          have := hin.box.first.2.2.2.2.2.2.2.2
          simp only [Nat.zero_add] at this
          rw [this]
          show some (Value.slice A2 (L.take k).length ca2) = _
          rw [List.length_take, HLEN.out, Nat.min_eq_left hk]
        by_cases hlt : k < l.length
        · obtain ⟨x, hx⟩ : ∃ x, l[k]? = some x := ⟨_, List.getElem?_eq_getElem hlt⟩
          have hxl : x ∈ l := List.mem_of_getElem? hx
          obtain ⟨b, off, hA, hkids⟩ := (Pr.at_mk.1 HAT.out).2 (fun e => by subst e; simp at hlt)
          obtain ⟨A', ca', hc, hxat0⟩ := hkids k x hx
          have hxat := hxat0.below hin.below
          obtain ⟨c0, c1, c2, c3, c4, c5, c6, c7, c8⟩ := hc.below hin.below
          subst hA
          have hrow := hin.row
          have hbf := hin.box.free
          have HX := Lib.hid (HL.out k x hx)
          have hob : ∀ b, (Value.slice A2 k ca2).ownBlock = some b → W.heap.size + 3 ≤ b := fun b e => (hrow.lt b e).1
          have hnb : some (W.heap.size + 2) ≠ (Value.slice A2 k ca2).ownBlock := fun e => by have := hob _ e.symm; omega
          have hcell5 : ∀ (w4 w5 : World) (ob : Obj), Below wr.heap.size wr w4 → (w4.alloc ob).grownBy w5 (Value.slice A2 k ca2).ownBlock → w5.cell? ⟨W.heap.size + 2, 8, none⟩ = some (.slice A2 k ca2) ∧ w5.frozen? ⟨W.heap.size + 2, 8, none⟩ = false := fun w4 w5 ob h4 h5 => by
            have hs4 := h4.size
            have e5 : w5.heap[W.heap.size + 2]? = wr.heap[W.heap.size + 2]? := by
              rw [h5.block _ (by simp; omega) hnb, (below_alloc ob).block _ (by omega), h4.block _ (by omega)]
            exact ⟨(World.cell?_of_block (a := ⟨W.heap.size + 2, 8, none⟩) e5).trans hb8, (World.frozen?_of_block (a := ⟨W.heap.size + 2, 8, none⟩) e5).trans (hbf 8)⟩
          have hnews4 : ∀ (w4 : World) (q : Pr) (A4 : Option Addr) (ca4 : Nat) (t : TypeId) (j : Nat) (u : Value), (PK.cells ⟨q, A4, ca4⟩)[j]? = some u → (w4.alloc (.cells #[.int .i64 q.op, .int .i64 q.col, .bool q.v.t, .int .i64 q.v.n, .string q.v.s, .bool q.w.t, .int .i64 q.w.n, .string q.w.s, .slice A4 q.l.length ca4] t)).cell? ((⟨w4.heap.size, 0, none⟩ : Addr).add j) = some u := fun w4 q A4 ca4 t j u hu => PKs.news (OwnP.one (w := w4) (t := t) ⟨q, A4, ca4⟩ rfl).cell j u (by rw [pcells_cons]; simpa [pcells] using hu)
          have hones4 : ∀ (q : Pr) (A4 : Option Addr) (ca4 : Nat), ∀ u ∈ PK.cells ⟨q, A4, ca4⟩, u.oneCell' = true := fun q A4 ca4 u hu => pcells_one [⟨q, A4, ca4⟩] u (by rw [pcells_cons]; simpa [pcells] using hu)
          have i1 : (0 : Int) ≤ (k : Int) := by omega
          have i2 : (k : Int) < (l.length : Int) := by omega
          clear hx hkids hc hxat0 hin hinv
          go_wp2_with fail
          obtain ⟨qq, hqq⟩ : ∃ qq, x.push false = qq := ⟨_, rfl⟩
          have IH2 := Lib.hid (show ∀ (W : World) (A : Option Addr) (ca : Nat), x.At W A ca → Calls Try.prog 30 #[x.arg A ca, .bool false] W (PFresh W qq) from hqq ▸ IHN.out x hxl)
          rw [hqq] at HX
          clear hqq
          go_region_law (first
            | (refine step_append_lies _ (by rfl) (.tmp 37) (.tmp 45) 27 (by rfl) (W.heap.size + 3) 29 i0 _ 9 104 Try.underlying27 hi hz0 hz1 hz2 rfl (by omega) (.slice A2 k ca2) k (pcells K) (by simp [Act.eval]) (hrow4 _) ⟨w4.heap.size, 0, none⟩ 1 1 (PK.cells ⟨qq, A4, ca4⟩) (by simp [Act.eval]) rfl (hnews4 w4 qq A4 ca4 _) (hones4 qq A4 ca4) (by omega) (by unfold maxLen; omega) (by omega) (by simp; omega) _ rfl ?_; intro g cap w5 hrow5 hgrow5 hat5 hlt5; obtain ⟨b85, bf5⟩ := hcell5 _ _ _ hbx4 hgrow5)
            | (go_simp; go_at_call 30; refine (IH2.out _ _ _ (hxat.below (Below.refl _ _).drew)).mono ?_; rintro e w4 ⟨A4, ca4, rfl, hat4, hown4', hb4⟩; have hbx4 := undrewp hb4; have hown4 : qq.Own (fun b => wr.heap.size ≤ b) w4 A4 := hown4'.mono (fun b hb => hb); have hb84 := (hbx4.cell (cell_lt hb8)).trans hb8; have hb8a : ∀ ob, (w4.alloc ob).cell? ⟨W.heap.size + 2, 8, none⟩ = some (.slice A2 k ca2) := fun ob => cell_old hb84; have hrow4 := fun ob => (row_below hrow hbx4).alloc ob; have hs4 := hbx4.size))
          all_goals
            go_wp2_with fail
            go_roundw
            case rel => exact ⟨k + 1, K ++ [⟨qq, A4, ca4⟩], some ⟨g, 0, none⟩, cap, by go_num, by omega, HIN.out.step HX.out hbx4 hat4 hown4 hrow5 hgrow5 hat5⟩
            case measure => simp [intOf]; omega
        · obtain rfl : k = L.length := by rw [HLEN.out]; omega
          have hboxr : OwnP wr (W.heap.size + 2) [⟨.mk 11 0 Pr.zv Pr.zv L, A2, ca2⟩] := by have := hin.box; rwa [List.take_length] at this
          have hresr : OwnP wr (W.heap.size + 1) [⟨.mk 0 0 Pr.zv Pr.zv [], none, 0⟩] := HR.out.rest (by omega) (hin.rest (W.heap.size + 1) (by omega) (by omega))
          have hbW := hin.below
          obtain ⟨b0, b1, b2, b3, b4, b5, b6, b7, b8⟩ := hboxr.first
          obtain ⟨r0, r1, r2, r3, r4, r5, r6, r7, r8⟩ := hresr.first
          have rf := hresr.free
          simp only [Nat.zero_add, Pr.op, Pr.col, Pr.v, Pr.w, Pr.l] at b0 b1 b2 b3 b4 b5 b6 b7 b8 r0 r1 r2 r3 r4 r5 r6 r7 r8
          have hge : ¬ L.length < l.length := by rw [HLEN.out]; omega
          clear hin hk hlt hb8
          go_wp2_with fail
          have hend := HIN.out.end_ (gr := W.heap.size + 1) (w6 := pput wr (W.heap.size + 1) ⟨.mk 11 0 Pr.zv Pr.zv L, A2, ca2⟩) (by omega) (by rw [pput_size]; exact Nat.le_refl _) (fun b hb => pput_other _ _ hb)
          have hfin : PFresh W (.mk 11 0 Pr.zv Pr.zv L) (.returned (.agg #[.int .i64 11, .int .i64 0, .bool false, .int .i64 0, .string ⟨#[]⟩, .bool false, .int .i64 0, .string ⟨#[]⟩, .slice A2 L.length ca2])) (pput wr (W.heap.size + 1) ⟨.mk 11 0 Pr.zv Pr.zv L, A2, ca2⟩) := ⟨A2, ca2, rfl, hend.1, hend.2, pput_below hbW (by omega) _⟩
          exact bodyPost_ret (pr_out rfl rfl (pput_own hresr ⟨.mk 11 0 Pr.zv Pr.zv L, A2, ca2⟩)) rfl hfin
    · go_enter Try.func30, Try.ntmps30
      go_wp2_with fail
      refine wp_here fun w3 hw3 => ?_
      have hres3 : OwnP w3 (W.heap.size + 1) [⟨.mk 0 0 Pr.zv Pr.zv [], none, 0⟩] := by rw [hw3]; exact (OwnP.one (t := 29) ⟨.mk 0 0 Pr.zv Pr.zv [], none, 0⟩ (by simp)).below (below_alloc _)
      have hinv : RowInv W (W.heap.size + 3) (W.heap.size + 2) w3 12 L 0 [] none 0 w3 := by
        have hb3 : Below W.heap.size W w3 := by rw [hw3]; exact below_then (below_then (below_alloc _) (below_alloc _)) (below_alloc _)
        have hbox : OwnP w3 (W.heap.size + 2) [⟨.mk 12 0 Pr.zv Pr.zv [], none, 0⟩] := by rw [hw3]; exact OwnP.one (t := 29) ⟨.mk 12 0 Pr.zv Pr.zv [], none, 0⟩ (by simp)
        exact ⟨by omega, by omega, by rw [hw3]; simp, hb3, fun _ _ _ => rfl, rfl, hbox, World.ownsRow_nil _ _ _ _, fun x hx => by simp at hx⟩
      have HP := Lib.hid (show w3.cell? ⟨W.heap.size, 8, none⟩ = some (.slice A l.length ca) by rw [hw3]; exact cell_old (cell_old (by rw [cell_new rfl]; rfl)))
      clear hw3
      have HR := Lib.hid hres3
      clear hres3
      go_loopw [6] (fun i wr => ∃ (k : Nat) (K : List PK) (A2 : Option Addr) (ca2 : Nat), i = .int .i64 k ∧ k ≤ l.length ∧ RowInv W (W.heap.size + 3) (W.heap.size + 2) w3 12 L k K A2 ca2 wr) (fun i _ => l.length - (intOf i).toNat)
      case atStart => exact ⟨0, [], none, 0, rfl, by omega, hinv⟩
      case round =>
        rename_i wr
        obtain ⟨k, K, A2, ca2, rfl, hk, hin⟩ := hrel
        have HIN := Lib.hid hin
        have hsz := hin.size
        have hp8 : wr.cell? ⟨W.heap.size, 8, none⟩ = some (.slice A l.length ca) := (World.cell?_of_block (a := ⟨W.heap.size, 8, none⟩) (hin.rest W.heap.size (by omega) (by omega))).trans HP.out
        have hb8 : wr.cell? ⟨W.heap.size + 2, 8, none⟩ = some (.slice A2 k ca2) := by
          have := hin.box.first.2.2.2.2.2.2.2.2
          simp only [Nat.zero_add] at this
          rw [this]
          show some (Value.slice A2 (L.take k).length ca2) = _
          rw [List.length_take, HLEN.out, Nat.min_eq_left hk]
        by_cases hlt : k < l.length
        · obtain ⟨x, hx⟩ : ∃ x, l[k]? = some x := ⟨_, List.getElem?_eq_getElem hlt⟩
          have hxl : x ∈ l := List.mem_of_getElem? hx
          obtain ⟨b, off, hA, hkids⟩ := (Pr.at_mk.1 HAT.out).2 (fun e => by subst e; simp at hlt)
          obtain ⟨A', ca', hc, hxat0⟩ := hkids k x hx
          have hxat := hxat0.below hin.below
          obtain ⟨c0, c1, c2, c3, c4, c5, c6, c7, c8⟩ := hc.below hin.below
          subst hA
          have hrow := hin.row
          have hbf := hin.box.free
          have HX := Lib.hid (HL.out k x hx)
          have hob : ∀ b, (Value.slice A2 k ca2).ownBlock = some b → W.heap.size + 3 ≤ b := fun b e => (hrow.lt b e).1
          have hnb : some (W.heap.size + 2) ≠ (Value.slice A2 k ca2).ownBlock := fun e => by have := hob _ e.symm; omega
          have hcell5 : ∀ (w4 w5 : World) (ob : Obj), Below wr.heap.size wr w4 → (w4.alloc ob).grownBy w5 (Value.slice A2 k ca2).ownBlock → w5.cell? ⟨W.heap.size + 2, 8, none⟩ = some (.slice A2 k ca2) ∧ w5.frozen? ⟨W.heap.size + 2, 8, none⟩ = false := fun w4 w5 ob h4 h5 => by
            have hs4 := h4.size
            have e5 : w5.heap[W.heap.size + 2]? = wr.heap[W.heap.size + 2]? := by
              rw [h5.block _ (by simp; omega) hnb, (below_alloc ob).block _ (by omega), h4.block _ (by omega)]
            exact ⟨(World.cell?_of_block (a := ⟨W.heap.size + 2, 8, none⟩) e5).trans hb8, (World.frozen?_of_block (a := ⟨W.heap.size + 2, 8, none⟩) e5).trans (hbf 8)⟩
          have hnews4 : ∀ (w4 : World) (q : Pr) (A4 : Option Addr) (ca4 : Nat) (t : TypeId) (j : Nat) (u : Value), (PK.cells ⟨q, A4, ca4⟩)[j]? = some u → (w4.alloc (.cells #[.int .i64 q.op, .int .i64 q.col, .bool q.v.t, .int .i64 q.v.n, .string q.v.s, .bool q.w.t, .int .i64 q.w.n, .string q.w.s, .slice A4 q.l.length ca4] t)).cell? ((⟨w4.heap.size, 0, none⟩ : Addr).add j) = some u := fun w4 q A4 ca4 t j u hu => PKs.news (OwnP.one (w := w4) (t := t) ⟨q, A4, ca4⟩ rfl).cell j u (by rw [pcells_cons]; simpa [pcells] using hu)
          have hones4 : ∀ (q : Pr) (A4 : Option Addr) (ca4 : Nat), ∀ u ∈ PK.cells ⟨q, A4, ca4⟩, u.oneCell' = true := fun q A4 ca4 u hu => pcells_one [⟨q, A4, ca4⟩] u (by rw [pcells_cons]; simpa [pcells] using hu)
          have i1 : (0 : Int) ≤ (k : Int) := by omega
          have i2 : (k : Int) < (l.length : Int) := by omega
          clear hx hkids hc hxat0 hin hinv
          go_wp2_with fail
          obtain ⟨qq, hqq⟩ : ∃ qq, x.push true = qq := ⟨_, rfl⟩
          have IH2 := Lib.hid (show ∀ (W : World) (A : Option Addr) (ca : Nat), x.At W A ca → Calls Try.prog 30 #[x.arg A ca, .bool true] W (PFresh W qq) from hqq ▸ IHN.out x hxl)
          rw [hqq] at HX
          clear hqq
          go_region_law (first
            | (refine step_append_lies _ (by rfl) (.tmp 37) (.tmp 45) 27 (by rfl) (W.heap.size + 3) 29 i0 _ 9 104 Try.underlying27 hi hz0 hz1 hz2 rfl (by omega) (.slice A2 k ca2) k (pcells K) (by simp [Act.eval]) (hrow4 _) ⟨w4.heap.size, 0, none⟩ 1 1 (PK.cells ⟨qq, A4, ca4⟩) (by simp [Act.eval]) rfl (hnews4 w4 qq A4 ca4 _) (hones4 qq A4 ca4) (by omega) (by unfold maxLen; omega) (by omega) (by simp; omega) _ rfl ?_; intro g cap w5 hrow5 hgrow5 hat5 hlt5; obtain ⟨b85, bf5⟩ := hcell5 _ _ _ hbx4 hgrow5)
            | (go_simp; go_at_call 30; refine (IH2.out _ _ _ (hxat.below (Below.refl _ _).drew)).mono ?_; rintro e w4 ⟨A4, ca4, rfl, hat4, hown4', hb4⟩; have hbx4 := undrewp hb4; have hown4 : qq.Own (fun b => wr.heap.size ≤ b) w4 A4 := hown4'.mono (fun b hb => hb); have hb84 := (hbx4.cell (cell_lt hb8)).trans hb8; have hb8a : ∀ ob, (w4.alloc ob).cell? ⟨W.heap.size + 2, 8, none⟩ = some (.slice A2 k ca2) := fun ob => cell_old hb84; have hrow4 := fun ob => (row_below hrow hbx4).alloc ob; have hs4 := hbx4.size))
          all_goals
            go_wp2_with fail
            go_roundw
            case rel => exact ⟨k + 1, K ++ [⟨qq, A4, ca4⟩], some ⟨g, 0, none⟩, cap, by go_num, by omega, HIN.out.step HX.out hbx4 hat4 hown4 hrow5 hgrow5 hat5⟩
            case measure => simp [intOf]; omega
        · obtain rfl : k = L.length := by rw [HLEN.out]; omega
          have hboxr : OwnP wr (W.heap.size + 2) [⟨.mk 12 0 Pr.zv Pr.zv L, A2, ca2⟩] := by have := hin.box; rwa [List.take_length] at this
          have hresr : OwnP wr (W.heap.size + 1) [⟨.mk 0 0 Pr.zv Pr.zv [], none, 0⟩] := HR.out.rest (by omega) (hin.rest (W.heap.size + 1) (by omega) (by omega))
          have hbW := hin.below
          obtain ⟨b0, b1, b2, b3, b4, b5, b6, b7, b8⟩ := hboxr.first
          obtain ⟨r0, r1, r2, r3, r4, r5, r6, r7, r8⟩ := hresr.first
          have rf := hresr.free
          simp only [Nat.zero_add, Pr.op, Pr.col, Pr.v, Pr.w, Pr.l] at b0 b1 b2 b3 b4 b5 b6 b7 b8 r0 r1 r2 r3 r4 r5 r6 r7 r8
          have hge : ¬ L.length < l.length := by rw [HLEN.out]; omega
          clear hin hk hlt hb8
          go_wp2_with fail
          have hend := HIN.out.end_ (gr := W.heap.size + 1) (w6 := pput wr (W.heap.size + 1) ⟨.mk 12 0 Pr.zv Pr.zv L, A2, ca2⟩) (by omega) (by rw [pput_size]; exact Nat.le_refl _) (fun b hb => pput_other _ _ hb)
          have hfin : PFresh W (.mk 12 0 Pr.zv Pr.zv L) (.returned (.agg #[.int .i64 12, .int .i64 0, .bool false, .int .i64 0, .string ⟨#[]⟩, .bool false, .int .i64 0, .string ⟨#[]⟩, .slice A2 L.length ca2])) (pput wr (W.heap.size + 1) ⟨.mk 12 0 Pr.zv Pr.zv L, A2, ca2⟩) := ⟨A2, ca2, rfl, hend.1, hend.2, pput_below hbW (by omega) _⟩
          exact bodyPost_ret (pr_out rfl rfl (pput_own hresr ⟨.mk 12 0 Pr.zv Pr.zv L, A2, ca2⟩)) rfl hfin
    · go_enter Try.func30, Try.ntmps30
      go_wp2_with fail
      refine wp_here fun w3 hw3 => ?_
      have hres3 : OwnP w3 (W.heap.size + 1) [⟨.mk 0 0 Pr.zv Pr.zv [], none, 0⟩] := by rw [hw3]; exact (OwnP.one (t := 29) ⟨.mk 0 0 Pr.zv Pr.zv [], none, 0⟩ (by simp)).below (below_alloc _)
      have hinv : RowInv W (W.heap.size + 3) (W.heap.size + 2) w3 12 L 0 [] none 0 w3 := by
        have hb3 : Below W.heap.size W w3 := by rw [hw3]; exact below_then (below_then (below_alloc _) (below_alloc _)) (below_alloc _)
        have hbox : OwnP w3 (W.heap.size + 2) [⟨.mk 12 0 Pr.zv Pr.zv [], none, 0⟩] := by rw [hw3]; exact OwnP.one (t := 29) ⟨.mk 12 0 Pr.zv Pr.zv [], none, 0⟩ (by simp)
        exact ⟨by omega, by omega, by rw [hw3]; simp, hb3, fun _ _ _ => rfl, rfl, hbox, World.ownsRow_nil _ _ _ _, fun x hx => by simp at hx⟩
      have HP := Lib.hid (show w3.cell? ⟨W.heap.size, 8, none⟩ = some (.slice A l.length ca) by rw [hw3]; exact cell_old (cell_old (by rw [cell_new rfl]; rfl)))
      clear hw3
      have HR := Lib.hid hres3
      clear hres3
      go_loopw [6] (fun i wr => ∃ (k : Nat) (K : List PK) (A2 : Option Addr) (ca2 : Nat), i = .int .i64 k ∧ k ≤ l.length ∧ RowInv W (W.heap.size + 3) (W.heap.size + 2) w3 12 L k K A2 ca2 wr) (fun i _ => l.length - (intOf i).toNat)
      case atStart => exact ⟨0, [], none, 0, rfl, by omega, hinv⟩
      case round =>
        rename_i wr
        obtain ⟨k, K, A2, ca2, rfl, hk, hin⟩ := hrel
        have HIN := Lib.hid hin
        have hsz := hin.size
        have hp8 : wr.cell? ⟨W.heap.size, 8, none⟩ = some (.slice A l.length ca) := (World.cell?_of_block (a := ⟨W.heap.size, 8, none⟩) (hin.rest W.heap.size (by omega) (by omega))).trans HP.out
        have hb8 : wr.cell? ⟨W.heap.size + 2, 8, none⟩ = some (.slice A2 k ca2) := by
          have := hin.box.first.2.2.2.2.2.2.2.2
          simp only [Nat.zero_add] at this
          rw [this]
          show some (Value.slice A2 (L.take k).length ca2) = _
          rw [List.length_take, HLEN.out, Nat.min_eq_left hk]
        by_cases hlt : k < l.length
        · obtain ⟨x, hx⟩ : ∃ x, l[k]? = some x := ⟨_, List.getElem?_eq_getElem hlt⟩
          have hxl : x ∈ l := List.mem_of_getElem? hx
          obtain ⟨b, off, hA, hkids⟩ := (Pr.at_mk.1 HAT.out).2 (fun e => by subst e; simp at hlt)
          obtain ⟨A', ca', hc, hxat0⟩ := hkids k x hx
          have hxat := hxat0.below hin.below
          obtain ⟨c0, c1, c2, c3, c4, c5, c6, c7, c8⟩ := hc.below hin.below
          subst hA
          have hrow := hin.row
          have hbf := hin.box.free
          have HX := Lib.hid (HL.out k x hx)
          have hob : ∀ b, (Value.slice A2 k ca2).ownBlock = some b → W.heap.size + 3 ≤ b := fun b e => (hrow.lt b e).1
          have hnb : some (W.heap.size + 2) ≠ (Value.slice A2 k ca2).ownBlock := fun e => by have := hob _ e.symm; omega
          have hcell5 : ∀ (w4 w5 : World) (ob : Obj), Below wr.heap.size wr w4 → (w4.alloc ob).grownBy w5 (Value.slice A2 k ca2).ownBlock → w5.cell? ⟨W.heap.size + 2, 8, none⟩ = some (.slice A2 k ca2) ∧ w5.frozen? ⟨W.heap.size + 2, 8, none⟩ = false := fun w4 w5 ob h4 h5 => by
            have hs4 := h4.size
            have e5 : w5.heap[W.heap.size + 2]? = wr.heap[W.heap.size + 2]? := by
              rw [h5.block _ (by simp; omega) hnb, (below_alloc ob).block _ (by omega), h4.block _ (by omega)]
            exact ⟨(World.cell?_of_block (a := ⟨W.heap.size + 2, 8, none⟩) e5).trans hb8, (World.frozen?_of_block (a := ⟨W.heap.size + 2, 8, none⟩) e5).trans (hbf 8)⟩
          have hnews4 : ∀ (w4 : World) (q : Pr) (A4 : Option Addr) (ca4 : Nat) (t : TypeId) (j : Nat) (u : Value), (PK.cells ⟨q, A4, ca4⟩)[j]? = some u → (w4.alloc (.cells #[.int .i64 q.op, .int .i64 q.col, .bool q.v.t, .int .i64 q.v.n, .string q.v.s, .bool q.w.t, .int .i64 q.w.n, .string q.w.s, .slice A4 q.l.length ca4] t)).cell? ((⟨w4.heap.size, 0, none⟩ : Addr).add j) = some u := fun w4 q A4 ca4 t j u hu => PKs.news (OwnP.one (w := w4) (t := t) ⟨q, A4, ca4⟩ rfl).cell j u (by rw [pcells_cons]; simpa [pcells] using hu)
          have hones4 : ∀ (q : Pr) (A4 : Option Addr) (ca4 : Nat), ∀ u ∈ PK.cells ⟨q, A4, ca4⟩, u.oneCell' = true := fun q A4 ca4 u hu => pcells_one [⟨q, A4, ca4⟩] u (by rw [pcells_cons]; simpa [pcells] using hu)
          have i1 : (0 : Int) ≤ (k : Int) := by omega
          have i2 : (k : Int) < (l.length : Int) := by omega
          clear hx hkids hc hxat0 hin hinv
          go_wp2_with fail
          obtain ⟨qq, hqq⟩ : ∃ qq, x.push false = qq := ⟨_, rfl⟩
          have IH2 := Lib.hid (show ∀ (W : World) (A : Option Addr) (ca : Nat), x.At W A ca → Calls Try.prog 30 #[x.arg A ca, .bool false] W (PFresh W qq) from hqq ▸ IHN.out x hxl)
          rw [hqq] at HX
          clear hqq
          go_region_law (first
            | (refine step_append_lies _ (by rfl) (.tmp 37) (.tmp 45) 27 (by rfl) (W.heap.size + 3) 29 i0 _ 9 104 Try.underlying27 hi hz0 hz1 hz2 rfl (by omega) (.slice A2 k ca2) k (pcells K) (by simp [Act.eval]) (hrow4 _) ⟨w4.heap.size, 0, none⟩ 1 1 (PK.cells ⟨qq, A4, ca4⟩) (by simp [Act.eval]) rfl (hnews4 w4 qq A4 ca4 _) (hones4 qq A4 ca4) (by omega) (by unfold maxLen; omega) (by omega) (by simp; omega) _ rfl ?_; intro g cap w5 hrow5 hgrow5 hat5 hlt5; obtain ⟨b85, bf5⟩ := hcell5 _ _ _ hbx4 hgrow5)
            | (go_simp; go_at_call 30; refine (IH2.out _ _ _ (hxat.below (Below.refl _ _).drew)).mono ?_; rintro e w4 ⟨A4, ca4, rfl, hat4, hown4', hb4⟩; have hbx4 := undrewp hb4; have hown4 : qq.Own (fun b => wr.heap.size ≤ b) w4 A4 := hown4'.mono (fun b hb => hb); have hb84 := (hbx4.cell (cell_lt hb8)).trans hb8; have hb8a : ∀ ob, (w4.alloc ob).cell? ⟨W.heap.size + 2, 8, none⟩ = some (.slice A2 k ca2) := fun ob => cell_old hb84; have hrow4 := fun ob => (row_below hrow hbx4).alloc ob; have hs4 := hbx4.size))
          all_goals
            go_wp2_with fail
            go_roundw
            case rel => exact ⟨k + 1, K ++ [⟨qq, A4, ca4⟩], some ⟨g, 0, none⟩, cap, by go_num, by omega, HIN.out.step HX.out hbx4 hat4 hown4 hrow5 hgrow5 hat5⟩
            case measure => simp [intOf]; omega
        · obtain rfl : k = L.length := by rw [HLEN.out]; omega
          have hboxr : OwnP wr (W.heap.size + 2) [⟨.mk 12 0 Pr.zv Pr.zv L, A2, ca2⟩] := by have := hin.box; rwa [List.take_length] at this
          have hresr : OwnP wr (W.heap.size + 1) [⟨.mk 0 0 Pr.zv Pr.zv [], none, 0⟩] := HR.out.rest (by omega) (hin.rest (W.heap.size + 1) (by omega) (by omega))
          have hbW := hin.below
          obtain ⟨b0, b1, b2, b3, b4, b5, b6, b7, b8⟩ := hboxr.first
          obtain ⟨r0, r1, r2, r3, r4, r5, r6, r7, r8⟩ := hresr.first
          have rf := hresr.free
          simp only [Nat.zero_add, Pr.op, Pr.col, Pr.v, Pr.w, Pr.l] at b0 b1 b2 b3 b4 b5 b6 b7 b8 r0 r1 r2 r3 r4 r5 r6 r7 r8
          have hge : ¬ L.length < l.length := by rw [HLEN.out]; omega
          clear hin hk hlt hb8
          go_wp2_with fail
          have hend := HIN.out.end_ (gr := W.heap.size + 1) (w6 := pput wr (W.heap.size + 1) ⟨.mk 12 0 Pr.zv Pr.zv L, A2, ca2⟩) (by omega) (by rw [pput_size]; exact Nat.le_refl _) (fun b hb => pput_other _ _ hb)
          have hfin : PFresh W (.mk 12 0 Pr.zv Pr.zv L) (.returned (.agg #[.int .i64 12, .int .i64 0, .bool false, .int .i64 0, .string ⟨#[]⟩, .bool false, .int .i64 0, .string ⟨#[]⟩, .slice A2 L.length ca2])) (pput wr (W.heap.size + 1) ⟨.mk 12 0 Pr.zv Pr.zv L, A2, ca2⟩) := ⟨A2, ca2, rfl, hend.1, hend.2, pput_below hbW (by omega) _⟩
          exact bodyPost_ret (pr_out rfl rfl (pput_own hresr ⟨.mk 12 0 Pr.zv Pr.zv L, A2, ca2⟩)) rfl hfin
    · go_enter Try.func30, Try.ntmps30
      go_wp2_with fail
      refine wp_here fun w3 hw3 => ?_
      have hres3 : OwnP w3 (W.heap.size + 1) [⟨.mk 0 0 Pr.zv Pr.zv [], none, 0⟩] := by rw [hw3]; exact (OwnP.one (t := 29) ⟨.mk 0 0 Pr.zv Pr.zv [], none, 0⟩ (by simp)).below (below_alloc _)
      have hinv : RowInv W (W.heap.size + 3) (W.heap.size + 2) w3 11 L 0 [] none 0 w3 := by
        have hb3 : Below W.heap.size W w3 := by rw [hw3]; exact below_then (below_then (below_alloc _) (below_alloc _)) (below_alloc _)
        have hbox : OwnP w3 (W.heap.size + 2) [⟨.mk 11 0 Pr.zv Pr.zv [], none, 0⟩] := by rw [hw3]; exact OwnP.one (t := 29) ⟨.mk 11 0 Pr.zv Pr.zv [], none, 0⟩ (by simp)
        exact ⟨by omega, by omega, by rw [hw3]; simp, hb3, fun _ _ _ => rfl, rfl, hbox, World.ownsRow_nil _ _ _ _, fun x hx => by simp at hx⟩
      have HP := Lib.hid (show w3.cell? ⟨W.heap.size, 8, none⟩ = some (.slice A l.length ca) by rw [hw3]; exact cell_old (cell_old (by rw [cell_new rfl]; rfl)))
      clear hw3
      have HR := Lib.hid hres3
      clear hres3
      go_loopw [6] (fun i wr => ∃ (k : Nat) (K : List PK) (A2 : Option Addr) (ca2 : Nat), i = .int .i64 k ∧ k ≤ l.length ∧ RowInv W (W.heap.size + 3) (W.heap.size + 2) w3 11 L k K A2 ca2 wr) (fun i _ => l.length - (intOf i).toNat)
      case atStart => exact ⟨0, [], none, 0, rfl, by omega, hinv⟩
      case round =>
        rename_i wr
        obtain ⟨k, K, A2, ca2, rfl, hk, hin⟩ := hrel
        have HIN := Lib.hid hin
        have hsz := hin.size
        have hp8 : wr.cell? ⟨W.heap.size, 8, none⟩ = some (.slice A l.length ca) := (World.cell?_of_block (a := ⟨W.heap.size, 8, none⟩) (hin.rest W.heap.size (by omega) (by omega))).trans HP.out
        have hb8 : wr.cell? ⟨W.heap.size + 2, 8, none⟩ = some (.slice A2 k ca2) := by
          have := hin.box.first.2.2.2.2.2.2.2.2
          simp only [Nat.zero_add] at this
          rw [this]
          show some (Value.slice A2 (L.take k).length ca2) = _
          rw [List.length_take, HLEN.out, Nat.min_eq_left hk]
        by_cases hlt : k < l.length
        · obtain ⟨x, hx⟩ : ∃ x, l[k]? = some x := ⟨_, List.getElem?_eq_getElem hlt⟩
          have hxl : x ∈ l := List.mem_of_getElem? hx
          obtain ⟨b, off, hA, hkids⟩ := (Pr.at_mk.1 HAT.out).2 (fun e => by subst e; simp at hlt)
          obtain ⟨A', ca', hc, hxat0⟩ := hkids k x hx
          have hxat := hxat0.below hin.below
          obtain ⟨c0, c1, c2, c3, c4, c5, c6, c7, c8⟩ := hc.below hin.below
          subst hA
          have hrow := hin.row
          have hbf := hin.box.free
          have HX := Lib.hid (HL.out k x hx)
          have hob : ∀ b, (Value.slice A2 k ca2).ownBlock = some b → W.heap.size + 3 ≤ b := fun b e => (hrow.lt b e).1
          have hnb : some (W.heap.size + 2) ≠ (Value.slice A2 k ca2).ownBlock := fun e => by have := hob _ e.symm; omega
          have hcell5 : ∀ (w4 w5 : World) (ob : Obj), Below wr.heap.size wr w4 → (w4.alloc ob).grownBy w5 (Value.slice A2 k ca2).ownBlock → w5.cell? ⟨W.heap.size + 2, 8, none⟩ = some (.slice A2 k ca2) ∧ w5.frozen? ⟨W.heap.size + 2, 8, none⟩ = false := fun w4 w5 ob h4 h5 => by
            have hs4 := h4.size
            have e5 : w5.heap[W.heap.size + 2]? = wr.heap[W.heap.size + 2]? := by
              rw [h5.block _ (by simp; omega) hnb, (below_alloc ob).block _ (by omega), h4.block _ (by omega)]
            exact ⟨(World.cell?_of_block (a := ⟨W.heap.size + 2, 8, none⟩) e5).trans hb8, (World.frozen?_of_block (a := ⟨W.heap.size + 2, 8, none⟩) e5).trans (hbf 8)⟩
          have hnews4 : ∀ (w4 : World) (q : Pr) (A4 : Option Addr) (ca4 : Nat) (t : TypeId) (j : Nat) (u : Value), (PK.cells ⟨q, A4, ca4⟩)[j]? = some u → (w4.alloc (.cells #[.int .i64 q.op, .int .i64 q.col, .bool q.v.t, .int .i64 q.v.n, .string q.v.s, .bool q.w.t, .int .i64 q.w.n, .string q.w.s, .slice A4 q.l.length ca4] t)).cell? ((⟨w4.heap.size, 0, none⟩ : Addr).add j) = some u := fun w4 q A4 ca4 t j u hu => PKs.news (OwnP.one (w := w4) (t := t) ⟨q, A4, ca4⟩ rfl).cell j u (by rw [pcells_cons]; simpa [pcells] using hu)
          have hones4 : ∀ (q : Pr) (A4 : Option Addr) (ca4 : Nat), ∀ u ∈ PK.cells ⟨q, A4, ca4⟩, u.oneCell' = true := fun q A4 ca4 u hu => pcells_one [⟨q, A4, ca4⟩] u (by rw [pcells_cons]; simpa [pcells] using hu)
          have i1 : (0 : Int) ≤ (k : Int) := by omega
          have i2 : (k : Int) < (l.length : Int) := by omega
          clear hx hkids hc hxat0 hin hinv
          go_wp2_with fail
          obtain ⟨qq, hqq⟩ : ∃ qq, x.push true = qq := ⟨_, rfl⟩
          have IH2 := Lib.hid (show ∀ (W : World) (A : Option Addr) (ca : Nat), x.At W A ca → Calls Try.prog 30 #[x.arg A ca, .bool true] W (PFresh W qq) from hqq ▸ IHN.out x hxl)
          rw [hqq] at HX
          clear hqq
          go_region_law (first
            | (refine step_append_lies _ (by rfl) (.tmp 37) (.tmp 45) 27 (by rfl) (W.heap.size + 3) 29 i0 _ 9 104 Try.underlying27 hi hz0 hz1 hz2 rfl (by omega) (.slice A2 k ca2) k (pcells K) (by simp [Act.eval]) (hrow4 _) ⟨w4.heap.size, 0, none⟩ 1 1 (PK.cells ⟨qq, A4, ca4⟩) (by simp [Act.eval]) rfl (hnews4 w4 qq A4 ca4 _) (hones4 qq A4 ca4) (by omega) (by unfold maxLen; omega) (by omega) (by simp; omega) _ rfl ?_; intro g cap w5 hrow5 hgrow5 hat5 hlt5; obtain ⟨b85, bf5⟩ := hcell5 _ _ _ hbx4 hgrow5)
            | (go_simp; go_at_call 30; refine (IH2.out _ _ _ (hxat.below (Below.refl _ _).drew)).mono ?_; rintro e w4 ⟨A4, ca4, rfl, hat4, hown4', hb4⟩; have hbx4 := undrewp hb4; have hown4 : qq.Own (fun b => wr.heap.size ≤ b) w4 A4 := hown4'.mono (fun b hb => hb); have hb84 := (hbx4.cell (cell_lt hb8)).trans hb8; have hb8a : ∀ ob, (w4.alloc ob).cell? ⟨W.heap.size + 2, 8, none⟩ = some (.slice A2 k ca2) := fun ob => cell_old hb84; have hrow4 := fun ob => (row_below hrow hbx4).alloc ob; have hs4 := hbx4.size))
          all_goals
            go_wp2_with fail
            go_roundw
            case rel => exact ⟨k + 1, K ++ [⟨qq, A4, ca4⟩], some ⟨g, 0, none⟩, cap, by go_num, by omega, HIN.out.step HX.out hbx4 hat4 hown4 hrow5 hgrow5 hat5⟩
            case measure => simp [intOf]; omega
        · obtain rfl : k = L.length := by rw [HLEN.out]; omega
          have hboxr : OwnP wr (W.heap.size + 2) [⟨.mk 11 0 Pr.zv Pr.zv L, A2, ca2⟩] := by have := hin.box; rwa [List.take_length] at this
          have hresr : OwnP wr (W.heap.size + 1) [⟨.mk 0 0 Pr.zv Pr.zv [], none, 0⟩] := HR.out.rest (by omega) (hin.rest (W.heap.size + 1) (by omega) (by omega))
          have hbW := hin.below
          obtain ⟨b0, b1, b2, b3, b4, b5, b6, b7, b8⟩ := hboxr.first
          obtain ⟨r0, r1, r2, r3, r4, r5, r6, r7, r8⟩ := hresr.first
          have rf := hresr.free
          simp only [Nat.zero_add, Pr.op, Pr.col, Pr.v, Pr.w, Pr.l] at b0 b1 b2 b3 b4 b5 b6 b7 b8 r0 r1 r2 r3 r4 r5 r6 r7 r8
          have hge : ¬ L.length < l.length := by rw [HLEN.out]; omega
          clear hin hk hlt hb8
          go_wp2_with fail
          have hend := HIN.out.end_ (gr := W.heap.size + 1) (w6 := pput wr (W.heap.size + 1) ⟨.mk 11 0 Pr.zv Pr.zv L, A2, ca2⟩) (by omega) (by rw [pput_size]; exact Nat.le_refl _) (fun b hb => pput_other _ _ hb)
          have hfin : PFresh W (.mk 11 0 Pr.zv Pr.zv L) (.returned (.agg #[.int .i64 11, .int .i64 0, .bool false, .int .i64 0, .string ⟨#[]⟩, .bool false, .int .i64 0, .string ⟨#[]⟩, .slice A2 L.length ca2])) (pput wr (W.heap.size + 1) ⟨.mk 11 0 Pr.zv Pr.zv L, A2, ca2⟩) := ⟨A2, ca2, rfl, hend.1, hend.2, pput_below hbW (by omega) _⟩
          exact bodyPost_ret (pr_out rfl rfl (pput_own hresr ⟨.mk 11 0 Pr.zv Pr.zv L, A2, ca2⟩)) rfl hfin
end Go.Proofs.Ytppoefbfepehpaa
