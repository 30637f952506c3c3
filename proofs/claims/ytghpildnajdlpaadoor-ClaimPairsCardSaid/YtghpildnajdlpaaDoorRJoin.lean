/-
  What two claims join to by the document, walked. Conditions: the claims lie in memory as they read and are of a size that can be walked.
-/
import Derived.Test.YtghpildnajdlpaaDoorApRow
import Derived.Test.YtghpildnajdlpaaDoorClmJoin
import Derived.Test.YtghpildnajdlpaaDoorClmRefB
import Derived.Laws.AppendOwnNone
namespace Go.Proofs.YtghpildnajdlpaaDoor
open Go.RowKit
variable {W : World}

theorem row_puts {base : Nat} {t : TypeId} {size : Nat} {v : Value} {n : Nat} {xs : List Value} {w : World} (h : w.ownsRow base t size v n xs) {g : Nat} (hg : g < base) (o : Nat) (vs : List Value) : (puts w g o vs).ownsRow base t size v n xs := by
  induction vs generalizing w o with
  | nil => exact h
  | cons u vs ih => exact ih (row_set h (a := ⟨g, o, none⟩) hg u) (o + 1)
theorem choose_rows {P : Nat → RK → Prop} : ∀ n, (∀ i, i < n → ∃ a, P i a) → ∃ l : List RK, l.length = n ∧ ∀ i a, l[i]? = some a → P i a
  | 0, _ => ⟨[], rfl, fun i a h => by simp at h⟩
  | n + 1, h => by
    obtain ⟨l, hl, hp⟩ := choose_rows n (fun i hi => h i (by omega))
    obtain ⟨a, ha⟩ := h n (by omega)
    refine ⟨l ++ [a], by simp [hl], fun i b hb => ?_⟩
    rw [List.getElem?_append] at hb
    split at hb
    · exact hp i b hb
    · rename_i hi
      have : i = n := by
        have := (List.getElem?_eq_some_iff.1 hb).1
        simp at this; omega
      subst this
      simp [hl] at hb
      exact hb ▸ ha
/-- Rows and where they lie. -/
theorem ImgsAt.kids {W : World} {A : Option Addr} {ca : Nat} {l : List (List Val)} (h : ImgsAt W A ca l) : ∃ K : List RK, K.map RK.r = l ∧ (∀ x ∈ K, RowAt W x.A x.r ∧ (x.A = none → x.ca = 0)) ∧ (l ≠ [] → ∃ b o, A = some ⟨b, o, none⟩ ∧ ∀ (i : Nat) (k : RK), K[i]? = some k → W.cell? ⟨b, o + i, none⟩ = some (.slice k.A k.r.length k.ca)) := by
  by_cases hn : l = []
  · subst hn; exact ⟨[], rfl, fun x hx => by simp at hx, fun h => absurd rfl h⟩
  · obtain ⟨b, o, hA, hc⟩ := h.2 hn
    obtain ⟨K, hK, hp⟩ := choose_rows (P := fun i k => l[i]? = some k.r ∧ W.cell? ⟨b, o + i, none⟩ = some (.slice k.A k.r.length k.ca) ∧ RowAt W k.A k.r ∧ (k.A = none → k.ca = 0)) l.length (fun i hi => by
      obtain ⟨A', ca', h1, h2, h3⟩ := hc i l[i] (List.getElem?_eq_getElem hi)
      exact ⟨⟨l[i], A', ca'⟩, List.getElem?_eq_getElem hi, h1, h2, h3⟩)
    refine ⟨K, List.ext_getElem? fun i => ?_, fun x hx => ?_, fun _ => ⟨b, o, hA, fun i k hk => (hp i k hk).2.1⟩⟩
    · rw [List.getElem?_map]
      cases hi : K[i]? with
      | none =>
        have : K.length ≤ i := List.getElem?_eq_none_iff.1 hi
        exact (List.getElem?_eq_none_iff.2 (by omega)).symm
      | some k => exact (hp i k hi).1.symm
    · obtain ⟨i, hi⟩ := List.mem_iff_getElem?.1 hx
      exact (hp i x hi).2.2
theorem wpList_append_ims {W w : World} {gc : Nat} (hbW : Below W.heap.size W w) (hgc : W.heap.size ≤ gc) (hgw : gc < w.heap.size) {ops : Array Oper} {rest : List Oper} {o : Oper} {a : Act} {Q : Exit → Act → World → Prop} (hgd : o.guard = none) (s x : Operand)
    (ho : o.op = .call { callee := .builtin .append, args := #[s, x], argTypes := #[26, 26] }) (hs : a.eval s = .slice none 0 0)
    {B : Option Addr} {l : List (List Val)} {cb : Nat} (hx : a.eval x = .slice B l.length cb) (hr : ImgsAt W B cb l) (hl : l.length ≤ 1000000)
    (h : ∀ K A2 ca2 w', ApInv W w gc l l.length K A2 ca2 w' → (∀ b, b < w.heap.size → w'.heap[b]? = w.heap[b]?) → wpList Tryd.prog ops Q rest (a.put o.dst (.slice A2 l.length ca2)) w') : wpList Tryd.prog ops Q (o :: rest) a w := by
  obtain ⟨i0, hi, hz0, hz1, hz2⟩ := info_parts info_row
  have hown0 : w.ownsRow w.heap.size 43 1 (.slice none 0 0) 0 [] := World.ownsRow_nil _ _ _ _
  obtain ⟨K, hK, hkids, hcells⟩ := hr.kids
  have hKl : K.length = l.length := by rw [← hK, List.length_map]
  cases B with
  | none =>
    have hl0 : l = [] := by
      cases l with
      | nil => rfl
      | cons u r =>
        obtain ⟨b, o, hA, _⟩ := hcells (by simp)
        cases hA
    subst hl0
    obtain rfl := hr.1.1 rfl
    obtain rfl : K = [] := List.map_eq_nil_iff.1 hK
    exact wpList_append_own_none hgd s x 26 ho w.heap.size 43 i0 1 Tryd.underlying26 hi _ 0 [] hs hown0 hx (h [] none 0 w ⟨hbW, ⟨hgc, hgw, Nat.le_refl _⟩, fun _ _ _ => rfl, rfl, rfl, hown0, hkids⟩ (fun _ _ => rfl))
  | some ad =>
    have hnews : ∀ j c, (rcells K)[j]? = some c → w.cell? (ad.add j) = some c := by
      intro j c hj
      have hjl := (List.getElem?_eq_some_iff.1 hj).1
      rw [rcells_length] at hjl
      have hne : l ≠ [] := fun e => by subst e; rw [List.length_nil] at hKl; omega
      obtain ⟨b, o, hA, hc⟩ := hcells hne
      obtain rfl := Option.some.inj hA
      have hk : K[j]? = some K[j] := List.getElem?_eq_getElem hjl
      have h1 := hc j _ hk
      rw [rcells_get hk] at hj
      injection hj with hj
      rw [paddr, (hbW.cell (cell_lt h1)).trans h1, hj]
    refine wpList_append_own_at _ hgd s x 26 ho w.heap.size 43 i0 _ 1 24 Tryd.underlying26 hi hz0 hz1 hz2 rfl (by omega) _ 0 [] hs hown0 ad l.length cb (rcells K) hx (by rw [rcells_length]; omega) hnews (rcells_one K) (by unfold maxLen; omega) (by omega) (Nat.le_refl _) fun v' w2 hown hgrow _ _ => ?_
    rw [Nat.zero_add, List.nil_append] at hown
    have hgrow2 : w.grownBy w2 none := hgrow
    have hb2 : Below w.heap.size w w2 := (Below.refl _ _).grown hgrow2 (Nat.le_refl _) (fun k hk => by cases hk)
    have key : ∀ A2 ca2, w2.ownsRow w.heap.size 43 1 (.slice A2 l.length ca2) l.length (rcells K) → wpList Tryd.prog ops Q rest (a.put o.dst (.slice A2 l.length ca2)) w2 := fun A2 ca2 ho2 => h K A2 ca2 w2 ⟨below_then hbW hb2, ⟨hgc, hgw, hb2.size⟩, fun b hb _ => hb2.block b hb, rfl, hK, ho2, hkids⟩ (fun b hb => hb2.block b hb)
    rcases hown.2 with ⟨e, hz⟩ | ⟨g, cap, cur, e, _⟩
    · subst e
      have := key none 0 (by rw [hz] at hown ⊢; exact hown)
      rwa [hz] at this
    · subst e
      exact key _ _ hown
theorem imgs_of_row {W wr : World} {B n : Nat} {l : List (List Val)} {K : List RK} {A2 : Option Addr} {ca2 : Nat} (hb : Below W.heap.size W wr) (hln : l.length = n) (hmap : K.map RK.r = l) (hrow : wr.ownsRow B 43 1 (.slice A2 n ca2) n (rcells K)) (hkids : ∀ x ∈ K, RowAt W x.A x.r ∧ (x.A = none → x.ca = 0)) : ImgsAt wr A2 ca2 l := by
  have hkid : ∀ (i : Nat) (r : List Val), l[i]? = some r → ∃ x ∈ K, K[i]? = some x ∧ x.r = r := fun i r hr => by
    rw [← hmap, List.getElem?_map] at hr
    obtain ⟨x, hx, rfl⟩ := Option.map_eq_some_iff.1 hr
    exact ⟨x, List.mem_of_getElem? hx, hx, rfl⟩
  have hlen : K.length = n := by rw [← hln, ← hmap, List.length_map]
  rcases hrow.2 with ⟨e, hz⟩ | ⟨g, cap, cur, e, hbg, hg, hnc, _⟩
  · have hl0 : l = [] := List.eq_nil_of_length_eq_zero (by omega)
    injection e with e1 e2 e3
    exact ⟨⟨fun _ => e3, by rw [hl0]; exact Nat.zero_le _⟩, fun hn => absurd hl0 hn⟩
  · injection e with e1 e2 e3
    subst e1; subst e3
    refine ⟨⟨fun e => (by cases e), by omega⟩, fun _ => ⟨g, 0, rfl, fun i r hr => ?_⟩⟩
    obtain ⟨x, hx, hi, rfl⟩ := hkid i r hr
    obtain ⟨h1, h2⟩ := hkids x hx
    have hil := (List.getElem?_eq_some_iff.1 hi).1
    exact ⟨x.A, x.ca, by rw [Nat.zero_add, hrow.cellAt i (by omega)]; exact rcells_get hi, h1.below hb, h2⟩
/-- What the document's Join hands back: the claim, its rows' values where they lay. -/
def CJoined (W : World) (c : Cl) (P : Option Addr) (pa : Nat) (e : Ending) (w' : World) : Prop := ∃ (A : Option Addr) (ca : Nat), e = .returned (c.arg A ca P pa) ∧ c.At w' A ca P pa ∧ Below W.heap.size W w'
set_option maxHeartbeats 4000000 in
theorem rjoinc_any {a b : Cl} {A P A' P' : Option Addr} {ca pa ca' pa' : Nat} (W : World) (ha : a.At W A ca P pa) (hb : b.At W A' ca' P' pa') (fa : a.Fits) (fb : b.Fits) : Calls Tryd.prog 23 #[a.arg A ca P pa, b.arg A' ca' P' pa'] W (CJoined W (a.join b) P pa) := by
  obtain ⟨i0, hi, hz0, hz1, hz2⟩ := info_parts info_row
  have HA := Lib.hid ha
  have HB := Lib.hid hb
  have FA := Lib.hid fa
  have FB := Lib.hid fb
  clear ha hb fa fb
  have E1 : a.arg A ca P pa = .agg #[.int .i64 a.kind, .int .i64 a.table, .int .i64 a.mode, .bool a.key.t, .int .i64 a.key.n, .string a.key.s, .slice A a.im.length ca, .int .i64 a.p.op, .int .i64 a.p.col, .bool a.p.v.t, .int .i64 a.p.v.n, .string a.p.v.s, .bool a.p.w.t, .int .i64 a.p.w.n, .string a.p.w.s, .slice P a.p.l.length pa] := rfl
  have E2 : b.arg A' ca' P' pa' = .agg #[.int .i64 b.kind, .int .i64 b.table, .int .i64 b.mode, .bool b.key.t, .int .i64 b.key.n, .string b.key.s, .slice A' b.im.length ca', .int .i64 b.p.op, .int .i64 b.p.col, .bool b.p.v.t, .int .i64 b.p.v.n, .string b.p.v.s, .bool b.p.w.t, .int .i64 b.p.w.n, .string b.p.w.s, .slice P' b.p.l.length pa'] := rfl
  rw [E1, E2]
  clear E1 E2
  go_enter Tryd.func23, Tryd.ntmps23
  go_upto_region 1 with fail
  refine wp_here fun W1 hW1 => ?_
  have B1 : Below W.heap.size W W1 := by rw [hW1]; exact below_then (below_then (below_alloc _) (below_alloc _)) (below_alloc _)
  have ka : Blk W1 W.heap.size (a.cells A ca P pa) := by rw [hW1]; refine Blk.alloc ?_ _; refine Blk.alloc ?_ _; exact Blk.new' (l := #[.int .i64 a.kind, .int .i64 a.table, .int .i64 a.mode, .bool a.key.t, .int .i64 a.key.n, .string a.key.s, .slice A a.im.length ca, .int .i64 a.p.op, .int .i64 a.p.col, .bool a.p.v.t, .int .i64 a.p.v.n, .string a.p.v.s, .bool a.p.w.t, .int .i64 a.p.w.n, .string a.p.w.s, .slice P a.p.l.length pa]) rfl
  have kb : Blk W1 (W.heap.size + 1) (b.cells A' ca' P' pa') := by rw [hW1]; refine Blk.alloc ?_ _; exact Blk.new' (l := #[.int .i64 b.kind, .int .i64 b.table, .int .i64 b.mode, .bool b.key.t, .int .i64 b.key.n, .string b.key.s, .slice A' b.im.length ca', .int .i64 b.p.op, .int .i64 b.p.col, .bool b.p.v.t, .int .i64 b.p.v.n, .string b.p.v.s, .bool b.p.w.t, .int .i64 b.p.w.n, .string b.p.w.s, .slice P' b.p.l.length pa']) (by simp)
  have kr : Blk W1 (W.heap.size + 2) zeroC := by rw [hW1]; exact Blk.new' (l := #[.int .i64 0, .int .i64 0, .int .i64 0, .bool false, .int .i64 0, .string ⟨#[]⟩, .slice none 0 0, .int .i64 0, .int .i64 0, .bool false, .int .i64 0, .string ⟨#[]⟩, .bool false, .int .i64 0, .string ⟨#[]⟩, .slice none 0 0]) (by simp)
  clear hW1
  obtain ⟨sm, hsm⟩ : ∃ sm, a.same b = sm := ⟨_, rfl⟩
  have key := rcsame_any (a := a) (b := b) (A := A) (A' := A') (ca := ca) (ca' := ca') (HA.out.p.below B1) (HB.out.p.below B1) (by have := FA.out.p; omega) (Lt.base W1)
  rw [hsm] at key
  go_wp2_with (first | (refine claim_load (by rfl) _ (by rfl) (by rfl) (ka) ?_) | (refine claim_load (by rfl) _ (by rfl) (by rfl) (kb) ?_))
  refine key.mono ?_; rintro e w' ⟨rfl, y, rfl⟩
  clear key
  cases sm
  · have kr2 := kr.below y.2
    have ka2 := ka.below y.2
    have HJ := Lib.hid (Cl.join_no hsm)
    clear hsm
    go_wp2_with (first | (refine claim_load (by rfl) _ (by rfl) (by rfl) ka2 ?_) | (refine claim_store (c := a) (A := A) (ca := ca) (P := P) (pa := pa) (by rfl) _ _ (by rfl) (by rfl) kr2 rfl (by rfl) ?_; intro V3 hV3))
    have hfin : Blk V3 (W.heap.size + 2) (a.cells A ca P pa) := by rw [hV3]; exact kr2.puts0 rfl
    have hb9 : Below W.heap.size W V3 := by rw [hV3]; exact puts_below (below_then B1 y.2) (by omega) 0 _
    have hpost : CJoined W (a.join b) P pa (.returned (a.arg A ca P pa)) V3 := by
      rw [HJ.out]
      exact ⟨A, ca, rfl, HA.out.below hb9, hb9⟩
    exact bodyPost_ret (claim_out rfl rfl hfin) rfl hpost
  · have HJ := Lib.hid (Cl.join_yes hsm)
    clear hsm
    have aw2 := ka.cell 2 _ rfl
    have bw2 := kb.cell 2 _ rfl
    have az2 := fun z : Lt W1 => z.cell aw2
    have bz2 := fun z : Lt W1 => z.cell bw2
    clear aw2 bw2
    go_wp2_with fail
    refine (mrjoin_any a.mode b.mode y).mono ?_; rintro e w' ⟨rfl, y2, rfl⟩
    have af := (ka.below y2.2).free
    go_upto_region 5 with fail
    refine wp_here fun V2 hV2 => ?_
    have ka2 : Blk V2 W.heap.size (({ a with mode := M.join a.mode b.mode } : Cl).cells A ca P pa) := by rw [hV2]; exact (ka.below y2.2).set1 (j := 2) (by show 2 < 16; omega) _
    have kb2 : Blk V2 (W.heap.size + 1) (b.cells A' ca' P' pa') := by rw [hV2]; exact (kb.below y2.2).setOther (by show W.heap.size + 1 ≠ W.heap.size; omega) _
    have kr2 : Blk V2 (W.heap.size + 2) zeroC := by rw [hV2]; exact (kr.below y2.2).setOther (by show W.heap.size + 2 ≠ W.heap.size; omega) _
    have B2 : Below W.heap.size W V2 := by rw [hV2]; exact (below_then B1 y2.2).setCell (Nat.le_refl _) _
    clear hV2 af az2 bz2 ka kb kr
    have a6 := ka2.cell 6 _ rfl
    have hal := FA.out.im
    go_upto_region 7 with (at_builtin; refine wpList_append_ims (gc := W.heap.size) B2 (Nat.le_refl _) ka2.lt (by rfl) _ _ (by rfl) (by rfl) (by rfl) HA.out.im hal ?_; intro K A2 ca2 w3 hst hold)
    have hbox : Blk w3 W.heap.size (({ a with mode := M.join a.mode b.mode } : Cl).cells A ca P pa) := ka2.other hst.base.2.2 (hold _ ka2.lt)
    clear a6 hold
    have hst0 : ApInv W V2 W.heap.size (Cl.more a.im (b.im.take 0)) a.im.length K A2 ca2 w3 := hst
    clear hst
    go_wp2_with fail
    go_loopw [6, 7, 8] (fun lv iv _ wr => ∃ (k n : Nat) (K : List RK) (A2 : Option Addr) (ca2 : Nat), iv = .int .i64 k ∧ lv = .slice A2 n ca2 ∧ k ≤ b.im.length ∧ ApInv W V2 W.heap.size (Cl.more a.im (b.im.take k)) n K A2 ca2 wr ∧ Blk wr W.heap.size (({ a with mode := M.join a.mode b.mode } : Cl).cells A ca P pa)) (fun _ iv _ _ => b.im.length - (intOf iv).toNat)
    case atStart => exact ⟨0, _, K, A2, ca2, rfl, rfl, by omega, hst0, hbox⟩
    case round =>
      clear hst0 hbox
      rename_i wr
      obtain ⟨k, n, K, A2, ca2, rfl, rfl, hk, hin, hbox⟩ := hrel
      have hk9 : k ≤ 1000000 := by have := FB.out.im; omega
      have hbl := FB.out.im
      have hn9 : n ≤ 3000000 := by
        have h1 := hin.len
        have h2 := Cl.more_length (b.im.take k) a.im
        rw [List.length_take] at h2
        omega
      have b6 := (hin.keep kb2 (by omega)).cell 6 _ rfl
      have i1 : (0 : Int) ≤ (k : Int) := by omega
      by_cases hlt : k < b.im.length
      · obtain ⟨bb, off, x, AX, caX, hx, hmem, hAe, hc0, hxat, hxn⟩ := HB.out.im.at_ hlt
        have HX := Lib.hid hx
        have HXN := Lib.hid hxn
        have HXA := Lib.hid hxat
        have hel := (hin.below.cell (cell_lt hc0)).trans hc0
        have i2 : (k : Int) < (b.im.length : Int) := by omega
        obtain ⟨t, ht⟩ : ∃ t, Cl.has (Cl.more a.im (b.im.take k)) x = t := ⟨_, rfl⟩
        have HIN := Lib.hid hin
        have HBX := Lib.hid hbox
        have CI := Lib.hid (show Calls Tryd.prog 47 #[.slice A2 n ca2, .slice AX x.length caX] wr fun e w' => e = .returned (.bool t) ∧ ∃ y : Lt wr, w' = y.1 from by
          have h1 := rin_any (l := Cl.more a.im (b.im.take k)) (s := x) (ca := ca2) (cb := caX) (by rw [hin.len]; omega) (fun r hr => by
            rcases (Cl.more_mem (b.im.take k) a.im).1 hr with hr | hr
            · have := FA.out.row r hr; omega
            · have := FB.out.row r (List.mem_of_mem_take hr); omega) hin.at_ (hxat.below hin.below) (Lt.base wr)
          rw [hin.len] at h1
          rw [← ht]
          exact h1)
        have HT2 := Lib.hid ht
        have bz6 := fun z : Lt wr => z.cell b6
        have ez := fun z : Lt wr => z.cell hel
        clear hx hmem ht hxat hxn hc0 hin hbox
        obtain rfl := hAe
        go_wp2_with fail
        refine CI.out.mono ?_; rintro e w' ⟨rfl, y, rfl⟩
        clear CI b6 hel
        cases t
        · have hrow4 := fun ob => (row_below HIN.out.row y.2).alloc ob
          have hvw := HIN.out.base.2.2
          have hyw := y.2.size
          have hnew := fun (ob : Obj) => (new_lit (w := y.1) (t := 43) (.slice AX x.length caX))
          clear hnew
          go_upto_region 9 with (at_builtin; refine wpList_append_lies _ (by rfl) _ _ 26 (by rfl) V2.heap.size 43 i0 _ 1 24 Tryd.underlying26 hi hz0 hz1 hz2 rfl (by omega) (.slice A2 n ca2) n (rcells K) (by rfl) (hrow4 _) ⟨y.1.heap.size, 0, none⟩ 1 1 [.slice AX x.length caX] (by rfl) rfl (new_lit (w := y.1) _) (fun u hu => by rw [List.mem_singleton] at hu; rw [hu]; rfl) (by omega) (by unfold maxLen; omega) (by omega) (by simp; omega) _ rfl ?_; intro g cap w5 hrow5 hgrow5 hat5 hlt5)
          clear bz6 ez hrow4
          go_wp2_with fail
          go_roundw
          case rel => exact ⟨k + 1, n + 1, K ++ [⟨x, AX, caX⟩], some ⟨g, 0, none⟩, cap, by go_num, rfl, by omega, by
            rw [Cl.more_take HX.out, HT2.out]
            exact HIN.out.step HXA.out HXN.out y.2 hrow5 hgrow5, by
            have e5 := HIN.out.old y.2 hgrow5 W.heap.size ka2.lt
            exact HBX.out.other (by have h1 := hgrow5.size; simp at h1; omega) e5⟩
          case measure => simp [intOf]; omega
        · go_wp2_with fail
          go_roundw
          case rel => exact ⟨k + 1, n, K, A2, ca2, by go_num, rfl, by omega, by
            rw [Cl.more_take HX.out, HT2.out]
            exact HIN.out.below_ y.2, HBX.out.below y.2⟩
          case measure => simp [intOf]; omega
      · obtain rfl : k = b.im.length := by omega
        rw [List.take_length] at hin
        obtain rfl := hin.len
        have HIN := Lib.hid hin
        have bf := hbox.free
        have bc6 := hbox.cell 6 _ rfl
        clear hin hlt hk
        go_upto_region 14 with fail
        refine wp_here fun V4 hV4 => ?_
        have kb4 : Blk V4 W.heap.size (({ a with mode := M.join a.mode b.mode, im := Cl.more a.im b.im } : Cl).cells A2 ca2 P pa) := by rw [hV4]; exact hbox.set1 (j := 6) (by show 6 < 16; omega) _
        have kr4 : Blk V4 (W.heap.size + 2) zeroC := by rw [hV4]; exact (HIN.out.keep kr2 (by omega)).setOther (by show W.heap.size + 2 ≠ W.heap.size; omega) _
        have hV5 : V4 = wr.setCell ⟨W.heap.size, 6, none⟩ (.slice A2 (Cl.more a.im b.im).length ca2) := hV4
        clear hV4 bf bc6 b6
        go_wp2_with (first | (refine claim_load (by rfl) _ (by rfl) (by rfl) kb4 ?_) | (refine claim_store (c := { a with mode := M.join a.mode b.mode, im := Cl.more a.im b.im }) (A := A2) (ca := ca2) (P := P) (pa := pa) (by rfl) _ _ (by rfl) (by rfl) kr4 rfl (by rfl) ?_; intro V6 hV6))
        have hfin : Blk V6 (W.heap.size + 2) (({ a with mode := M.join a.mode b.mode, im := Cl.more a.im b.im } : Cl).cells A2 ca2 P pa) := by rw [hV6]; exact kr4.puts0 rfl
        have hpost : CJoined W (a.join b) P pa (.returned (({ a with mode := M.join a.mode b.mode, im := Cl.more a.im b.im } : Cl).arg A2 ca2 P pa)) V6 := by
          rw [HJ.out]
          have h4 := HIN.out.set 6 (.slice A2 (Cl.more a.im b.im).length ca2)
          rw [← hV5] at h4
          have hb9 : Below W.heap.size W V6 := by rw [hV6]; exact puts_below h4.below (by omega) 0 _
          have hr9 : V6.ownsRow V2.heap.size 43 1 (.slice A2 (Cl.more a.im b.im).length ca2) (Cl.more a.im b.im).length (rcells K) := by rw [hV6]; exact row_puts h4.row kr2.lt _ _
          exact ⟨A2, ca2, rfl, ⟨imgs_of_row hb9 rfl h4.map hr9 h4.kids, (HA.out.below hb9).p⟩, hb9⟩
        exact bodyPost_ret (claim_out rfl rfl hfin) rfl hpost
end Go.Proofs.YtghpildnajdlpaaDoor
