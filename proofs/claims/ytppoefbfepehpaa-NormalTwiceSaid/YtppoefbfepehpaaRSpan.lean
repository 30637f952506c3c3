/-
  The span of a predicate's keys, walked on the document's side. Conditions: it may be a table's but for its size, it has no PNot; it lies in memory as it reads; at most a billion parts.
-/
import Derived.Test.YtppoefbfepehpaaKeys
import Derived.Test.YtppoefbfepehpaaSpanRHull
namespace Go.Proofs.Ytppoefbfepehpaa
open Go.RowKit

namespace Sp
theorem Fit.none : nothing.Fit := ⟨Nat.zero_le _, Nat.zero_le _⟩
theorem Fit.full : full.Fit := ⟨Nat.zero_le _, Nat.zero_le _⟩
theorem Fit.hullLo {A B : Sp} (h : A.Fit) (k : B.Fit) : (A.hullLo B).Fit := by
  unfold Sp.hullLo
  split
  · exact ⟨k.1, h.2⟩
  · split <;> exact h
theorem Fit.hullHi {A B : Sp} (h : A.Fit) (k : B.Fit) : (A.hullHi B).Fit := by
  unfold Sp.hullHi
  split
  · exact ⟨h.1, k.2⟩
  · split <;> exact h
theorem Fit.meet {a b : Sp} (h : a.Fit) (k : b.Fit) : (a.meet b).Fit := by
  unfold Sp.meet
  split
  · exact Fit.none
  · exact ((h.clean.meetLo k.clean).meetHi k.clean).clean
theorem Fit.hull {a b : Sp} (h : a.Fit) (k : b.Fit) : (a.hull b).Fit := by
  unfold Sp.hull
  split
  · exact k.clean
  · split
    · exact h.clean
    · have : (Sp.hullEnds (Sp.hullHi (Sp.hullLo a.clean b.clean) b.clean) b.clean).Fit := (h.clean.hullLo k.clean).hullHi k.clean
      exact this.clean
end Sp
theorem foldl_fit {f : Sp → Sp → Sp} (hf : ∀ a b : Sp, a.Fit → b.Fit → (f a b).Fit) : ∀ (l : List Sp) (a : Sp), a.Fit → (∀ s ∈ l, s.Fit) → (l.foldl f a).Fit
  | [], _, h, _ => h
  | s :: l, a, h, hl => foldl_fit hf l _ (hf a s h (hl s (by simp))) fun x hx => hl x (by simp [hx])
theorem acc_fit {f : Sp → Sp → Sp} (hf : ∀ a b : Sp, a.Fit → b.Fit → (f a b).Fit) {q : Pr} {l : List Pr} (hq : q.keys.Fit) (hl : ∀ x ∈ l, x.keys.Fit) (k : Nat) : (acc f q l k).Fit := by
  refine foldl_fit hf _ _ hq fun s hs => ?_
  obtain ⟨x, hx, rfl⟩ := List.mem_map.1 hs
  exact hl x (List.mem_of_mem_take hx)
theorem right_fit {v : Val} (h : v.right = true) : v.s.size ≤ maxLen := by
  unfold Val.right at h
  unfold maxLen
  split at h
  · rw [Bool.and_eq_true, decide_eq_true_iff, decide_eq_true_iff] at h; omega
  · rw [decide_eq_true_iff] at h; omega
theorem inCol_fit {t : List Bool} {c : Int} {v : Val} (h : Pr.inCol t c v = true) : v.s.size ≤ maxLen := by
  unfold Pr.inCol at h
  rw [Bool.and_eq_true, Bool.and_eq_true] at h
  exact right_fit h.2.2
theorem leaf_fit {t : List Bool} {o c : Int} {v u : Val} (ho : 1 ≤ o ∧ o ≤ 9) (h : Pr.partOk t o c v u 0 = true) : (Pr.leafSpan o v u).Fit := by
  have z0 : Pr.zv.s.size ≤ maxLen := Nat.zero_le _
  unfold Pr.partOk at h
  unfold Pr.leafSpan
  by_cases h9 : o = 9
  · subst h9
    rw [if_neg (by omega), if_neg (by omega), if_pos rfl, Bool.and_eq_true, Bool.and_eq_true] at h
    rw [if_neg (by omega), if_neg (by omega), if_neg (by omega), if_pos rfl]
    exact Sp.Fit.clean ⟨inCol_fit h.1.2, inCol_fit h.2⟩
  · by_cases h12 : o = 1 ∨ o = 2
    · rw [if_neg (by omega), if_neg (by omega), if_neg (by omega), if_neg h9]; exact Sp.Fit.full
    · rw [if_neg h12, if_pos (by omega), Bool.and_eq_true] at h
      have hv := inCol_fit h.2
      split
      · exact ⟨hv, hv⟩
      · split
        · exact ⟨z0, hv⟩
        · split
          · exact ⟨hv, z0⟩
          · exact Sp.Fit.full
/-- Of what may be a table's the span's texts are short. -/
theorem keys_fit {t : List Bool} : ∀ p : Pr, p.parts t = true → p.keys.Fit := by
  refine Pr.ind fun p ih h => ?_
  obtain ⟨o, c, v, u, l⟩ := p
  have hs := Pr.parts_shape _ h
  rw [Pr.parts_mk, Bool.and_eq_true, List.all_eq_true] at h
  rw [Pr.keys_mk]
  rcases Pr.shape_cases hs with ⟨h1, h9, rfl⟩ | ⟨rfl, q, rfl, _⟩ | ⟨ho, hne, hl⟩
  · split
    · exact Sp.Fit.none
    · rw [if_neg (by omega), if_neg (by omega)]
      split
      · exact Sp.Fit.full
      · exact leaf_fit ⟨h1, h9⟩ h.1
  · rw [if_neg (by omega), if_neg (by omega), if_neg (by omega)]
    split
    · exact Sp.Fit.full
    · exact Sp.Fit.full
  · have hk : ∀ x ∈ l, x.keys.Fit := fun x hx => ih x hx (h.2 x hx)
    obtain ⟨q, l, rfl⟩ := List.exists_cons_of_ne_nil hne
    rw [if_neg (by omega)]
    rcases ho with rfl | rfl
    · rw [if_pos rfl, ← acc_end]; exact acc_fit (fun _ _ h k => h.meet k) (hk q (by simp)) (fun x hx => hk x (by simp [hx])) _
    · rw [if_neg (by omega), if_pos rfl, ← acc_end]; exact acc_fit (fun _ _ h k => h.hull k) (hk q (by simp)) (fun x hx => hk x (by simp [hx])) _

theorem rmeet_from {a b : Sp} (ha : a.Fit) (hb : b.Fit) (w : World) : Calls Try.prog 20 #[a.val, b.val] w fun e w' => e = .returned (a.meet b).val ∧ Below w.heap.size w w' :=
  (rmeet_any a b ha hb (Lt.base w)).mono (by rintro e w' ⟨h1, y, rfl⟩; exact ⟨h1, y.2⟩)
theorem rhull_from {a b : Sp} (ha : a.Fit) (hb : b.Fit) (w : World) : Calls Try.prog 22 #[a.val, b.val] w fun e w' => e = .returned (a.hull b).val ∧ Below w.heap.size w w' :=
  (rhull_any a b ha hb (Lt.base w)).mono (by rintro e w' ⟨h1, y, rfl⟩; exact ⟨h1, y.2⟩)

set_option maxHeartbeats 1000000 in
theorem rspan_leaf {t : List Bool} {o : Int} (c : Int) (v u : Val) (A : Option Addr) (ca : Nat) (ho : 1 ≤ o ∧ o ≤ 9) (hok : Pr.partOk t o c v u 0 = true) (W : World) : Calls Try.prog 33 #[.agg #[.int .i64 o, .int .i64 c, .bool v.t, .int .i64 v.n, .string v.s, .bool u.t, .int .i64 u.n, .string u.s, .slice A 0 ca]] W fun e w' => e = .returned (if o = 2 then Sp.nothing else if c ≠ 0 then Sp.full else Pr.leafSpan o v u).val ∧ Below W.heap.size W w' := by
  by_cases h2 : o = 2
  · subst h2
    clear hok ho
    go_enter Try.func33, Try.ntmps33
    go_wp2_with fail
    refine bodyPost_ret (v := Sp.val Sp.nothing) ?_ rfl ⟨rfl, ?_⟩
    · simp [results, Try.results33, go_sem]
    · repeat (first | with_reducible exact Below.refl _ _ | refine below_then ?_ (below_alloc _) | refine Below.drew ?_)
  refine calls_to (a := if c ≠ 0 then Sp.full else Pr.leafSpan o v u) ?_ (if_neg h2).symm
  have o2 : (o == 2) = false := by rw [beq_eq_false_iff_ne]; omega
  have o11 : (o == 11) = false := by rw [beq_eq_false_iff_ne]; omega
  have o12 : (o == 12) = false := by rw [beq_eq_false_iff_ne]; omega
  by_cases hc : c = 0
  · subst hc
    refine calls_to (a := Pr.leafSpan o v u) ?_ (if_neg (by simp)).symm
    obtain rfl | rfl | rfl | rfl | rfl | rfl | rfl | rfl : o = 1 ∨ o = 3 ∨ o = 4 ∨ o = 5 ∨ o = 6 ∨ o = 7 ∨ o = 8 ∨ o = 9 := by omega
    · clear o2 o11 o12 h2 ho hok
      go_enter Try.func33, Try.ntmps33
      go_wp2_with fail
      refine bodyPost_ret (v := Sp.val Sp.full) ?_ rfl ⟨rfl, ?_⟩
      · simp [results, Try.results33, go_sem]
      · repeat (first | with_reducible exact Below.refl _ _ | refine below_then ?_ (below_alloc _) | refine Below.drew ?_)
    · clear o2 o11 o12 h2 ho hok
      go_enter Try.func33, Try.ntmps33
      go_wp2_with fail
      refine bodyPost_ret (v := Sp.val ⟨false, true, false, v, true, false, v⟩) ?_ rfl ⟨rfl, ?_⟩
      · simp [results, Try.results33, go_sem]
      · repeat (first | with_reducible exact Below.refl _ _ | refine below_then ?_ (below_alloc _) | refine Below.drew ?_)
    · clear o2 o11 o12 h2 ho hok
      go_enter Try.func33, Try.ntmps33
      go_wp2_with fail
      refine bodyPost_ret (v := Sp.val Sp.full) ?_ rfl ⟨rfl, ?_⟩
      · simp [results, Try.results33, go_sem]
      · repeat (first | with_reducible exact Below.refl _ _ | refine below_then ?_ (below_alloc _) | refine Below.drew ?_)
    · clear o2 o11 o12 h2 ho hok
      go_enter Try.func33, Try.ntmps33
      go_wp2_with fail
      refine bodyPost_ret (v := Sp.val ⟨false, false, false, Pr.zv, true, true, v⟩) ?_ rfl ⟨rfl, ?_⟩
      · simp [results, Try.results33, go_sem]
      · repeat (first | with_reducible exact Below.refl _ _ | refine below_then ?_ (below_alloc _) | refine Below.drew ?_)
    · clear o2 o11 o12 h2 ho hok
      go_enter Try.func33, Try.ntmps33
      go_wp2_with fail
      refine bodyPost_ret (v := Sp.val ⟨false, false, false, Pr.zv, true, false, v⟩) ?_ rfl ⟨rfl, ?_⟩
      · simp [results, Try.results33, go_sem]
      · repeat (first | with_reducible exact Below.refl _ _ | refine below_then ?_ (below_alloc _) | refine Below.drew ?_)
    · clear o2 o11 o12 h2 ho hok
      go_enter Try.func33, Try.ntmps33
      go_wp2_with fail
      refine bodyPost_ret (v := Sp.val ⟨false, true, true, v, false, false, Pr.zv⟩) ?_ rfl ⟨rfl, ?_⟩
      · simp [results, Try.results33, go_sem]
      · repeat (first | with_reducible exact Below.refl _ _ | refine below_then ?_ (below_alloc _) | refine Below.drew ?_)
    · clear o2 o11 o12 h2 ho hok
      go_enter Try.func33, Try.ntmps33
      go_wp2_with fail
      refine bodyPost_ret (v := Sp.val ⟨false, true, false, v, false, false, Pr.zv⟩) ?_ rfl ⟨rfl, ?_⟩
      · simp [results, Try.results33, go_sem]
      · repeat (first | with_reducible exact Below.refl _ _ | refine below_then ?_ (below_alloc _) | refine Below.drew ?_)
    · have hv : v.s.size ≤ maxLen := by
        unfold Pr.partOk at hok
        rw [if_neg (by omega), if_neg (by omega), if_pos rfl, Bool.and_eq_true, Bool.and_eq_true] at hok
        exact inCol_fit hok.1.2
      obtain ⟨s, hs⟩ : ∃ s, Sp.clean ⟨false, true, false, v, true, false, u⟩ = s := ⟨_, rfl⟩
      have CL := Lib.hid (fun (w : World) => rclean_is hs hv (Lt.base w))
      have HS := Lib.hid hs
      clear o2 o11 o12 h2 ho hok hs hv
      go_enter Try.func33, Try.ntmps33
      go_wp2_with fail
      refine calls_here fun W1 hW1 => ?_
      have hb : Below W.heap.size W W1 := by rw [hW1]; exact below_then (below_alloc _) (below_alloc _)
      have hO : Blk W1 (W.heap.size + 1) Sp.full.cells := by rw [hW1]; exact Blk.new' (by simp)
      clear hW1
      refine (CL.out W1).mono ?_; rintro e w' ⟨rfl, y, rfl⟩
      have hO2 := hO.below y.2
      obtain ⟨r0, r1, r2, r3, r4, r5, r6, r7, r8, r9, r10⟩ := hO2.c11
      have rf := hO2.free
      go_wp2_with fail
      exact bodyPost_ret (span_out rfl rfl (sput_blk hO2 s)) rfl ⟨ret_span HS.out.symm, sput_below (below_then hb y.2) (by omega) s⟩
  · refine calls_to (a := Sp.full) ?_ (if_pos hc).symm
    have hc' : (c == 0) = false := by rw [beq_eq_false_iff_ne]; exact hc
    clear h2 ho hc hok
    go_enter Try.func33, Try.ntmps33
    go_wp2_with fail
    refine bodyPost_ret (v := Sp.val Sp.full) ?_ rfl ⟨rfl, ?_⟩
    · simp [results, Try.results33, go_sem]
    · repeat (first | with_reducible exact Below.refl _ _ | refine below_then ?_ (below_alloc _) | refine Below.drew ?_)

set_option maxHeartbeats 2000000 in
theorem rspan_meet {l : List Pr} (ih : ∀ q ∈ l, ∀ (w : World) (A : Option Addr) (ca : Nat), q.At w A ca → Calls Try.prog 33 #[q.arg A ca] w fun e w' => e = .returned q.keys.val ∧ Below w.heap.size w w') (hfit : ∀ q ∈ l, q.keys.Fit) (hne : l ≠ []) (hlen : l.length ≤ 1000000000) (c : Int) (v u : Val) (W : World) (A : Option Addr) (ca : Nat) (hat : (Pr.mk 11 c v u l).At W A ca) :
    Calls Try.prog 33 #[.agg #[.int .i64 11, .int .i64 c, .bool v.t, .int .i64 v.n, .string v.s, .bool u.t, .int .i64 u.n, .string u.s, .slice A l.length ca]] W fun e w' => e = .returned (Pr.fold1 Sp.meet (l.map Pr.keys)).val ∧ Below W.heap.size W w' := by
  obtain ⟨q, l, rfl⟩ := List.exists_cons_of_ne_nil hne
  rw [List.length_cons] at hlen
  obtain ⟨b, off, hA, hkids⟩ := (Pr.at_mk.1 hat).2 (by simp)
  obtain ⟨A0, ca0, hc, hqat⟩ := hkids 0 q rfl
  subst hA
  have IHQ := Lib.hid (ih q (by simp))
  have IH := Lib.hid (show ∀ x ∈ l, ∀ (w : World) (A : Option Addr) (ca : Nat), x.At w A ca → Calls Try.prog 33 #[x.arg A ca] w fun e w' => e = .returned x.keys.val ∧ Below w.heap.size w w' from fun x hx => ih x (by simp [hx]))
  have HK := Lib.hid (show ∀ (k : Nat) (x : Pr), l[k]? = some x → ∃ A' ca', x.Cells W A' ca' b (off + (k + 1) * 9) ∧ x.At W A' ca' from fun k x hx => by
    obtain ⟨A', ca', h1, h2⟩ := hkids (k + 1) x (by simpa using hx)
    exact ⟨A', ca', h1, h2⟩)
  have HE := Lib.hid (acc_end Sp.meet q l)
  have HF := Lib.hid (fun k : Nat => acc_fit (f := Sp.meet) (q := q) (l := l) (fun _ _ h k => h.meet k) (hfit q (List.mem_cons_self ..)) (fun x hx => hfit x (List.mem_cons_of_mem _ hx)) k)
  have HFL := Lib.hid (show ∀ x ∈ l, x.keys.Fit from fun x hx => hfit x (by simp [hx]))
  obtain ⟨d0, d1, d2, d3, d4, d5, d6, d7, d8⟩ := hc
  simp only [Nat.zero_mul, Nat.add_zero] at d0 d1 d2 d3 d4 d5 d6 d7 d8
  have e0 := fun o o' => cell_old (o := o') (cell_old (o := o) d0)
  have e1 := fun o o' => cell_old (o := o') (cell_old (o := o) d1)
  have e2 := fun o o' => cell_old (o := o') (cell_old (o := o) d2)
  have e3 := fun o o' => cell_old (o := o') (cell_old (o := o) d3)
  have e4 := fun o o' => cell_old (o := o') (cell_old (o := o) d4)
  have e5 := fun o o' => cell_old (o := o') (cell_old (o := o) d5)
  have e6 := fun o o' => cell_old (o := o') (cell_old (o := o) d6)
  have e7 := fun o o' => cell_old (o := o') (cell_old (o := o) d7)
  have e8 := fun o o' => cell_old (o := o') (cell_old (o := o) d8)
  clear d0 d1 d2 d3 d4 d5 d6 d7 d8 hat hkids ih hne hfit
  obtain ⟨n, hn⟩ : ∃ n, (q :: l).length = n := ⟨_, rfl⟩
  have hn2 : n = l.length + 1 := by rw [← hn, List.length_cons]
  rw [hn]
  clear hn
  have hnz : (0 : Int) < (n : Int) := by omega
  have HN2 := Lib.hid hn2
  clear hn2
  go_enter Try.func33, Try.ntmps33
  go_wp2_with fail
  refine calls_here fun W1 hW1 => ?_
  have hb0 : Below W.heap.size W W1 := by rw [hW1]; exact below_then (below_alloc _) (below_alloc _)
  have hB1 : Blk W1 W.heap.size [.int .i64 11, .int .i64 c, .bool v.t, .int .i64 v.n, .string v.s, .bool u.t, .int .i64 u.n, .string u.s, .slice (some ⟨b, off, none⟩) n ca] := by rw [hW1]; refine Blk.alloc ?_ _; exact Blk.new' (l := #[.int .i64 11, .int .i64 c, .bool v.t, .int .i64 v.n, .string v.s, .bool u.t, .int .i64 u.n, .string u.s, .slice (some ⟨b, off, none⟩) n ca]) rfl
  have hO1 : Blk W1 (W.heap.size + 1) Sp.full.cells := by rw [hW1]; exact Blk.new' (by simp)
  clear hW1 e0 e1 e2 e3 e4 e5 e6 e7 e8
  refine (IHQ.out W1 A0 ca0 (hqat.below hb0)).mono ?_; rintro e w2 ⟨rfl, hb2⟩
  obtain ⟨g, hg⟩ : ∃ g, w2.heap.size = g := ⟨_, rfl⟩
  go_wp2_with fail
  refine wp_here fun w3 hw3 => ?_
  have hinv : Below W.heap.size W w3 ∧ Blk w3 W.heap.size [.int .i64 11, .int .i64 c, .bool v.t, .int .i64 v.n, .string v.s, .bool u.t, .int .i64 u.n, .string u.s, .slice (some ⟨b, off, none⟩) n ca] ∧ Blk w3 (W.heap.size + 1) Sp.full.cells ∧ Blk w3 g (acc Sp.meet q l 0).cells := by
    rw [hw3, acc_zero]
    exact ⟨below_then (below_then hb0 hb2) (below_alloc _), (hB1.below hb2).alloc _, (hO1.below hb2).alloc _, Blk.new' hg.symm⟩
  clear hw3
  have hgW : W.heap.size + 1 < g := by have := hO1.lt; have := hb2.size; omega
  clear hg
  go_loopw [4] (fun i wr => ∃ k : Nat, i = .int .i64 ((k + 1 : Nat) : Int) ∧ k ≤ l.length ∧ Below W.heap.size W wr ∧ Blk wr W.heap.size [.int .i64 11, .int .i64 c, .bool v.t, .int .i64 v.n, .string v.s, .bool u.t, .int .i64 u.n, .string u.s, .slice (some ⟨b, off, none⟩) n ca] ∧ Blk wr (W.heap.size + 1) Sp.full.cells ∧ Blk wr g (acc Sp.meet q l k).cells) (fun i _ => n - (intOf i).toNat)
  case atStart => exact ⟨0, rfl, by omega, hinv⟩
  case round =>
    rename_i wr
    obtain ⟨k, rfl, hk, hbW, hB, hO, hG⟩ := hrel
    have b0 := hB.cell 0 _ rfl
    have b8 := hB.cell 8 _ rfl
    by_cases hlt : k < l.length
    · obtain ⟨x, hx⟩ : ∃ x, l[k]? = some x := ⟨_, List.getElem?_eq_getElem hlt⟩
      have hxl : x ∈ l := List.mem_of_getElem? hx
      obtain ⟨A', ca', hc, hxat0⟩ := HK.out k x hx
      have hxat := hxat0.below hbW
      obtain ⟨c0, c1, c2, c3, c4, c5, c6, c7, c8⟩ := hc.below hbW
      obtain ⟨a, ha⟩ : ∃ a, acc Sp.meet q l k = a := ⟨_, rfl⟩
      obtain ⟨s, hs⟩ : ∃ s, x.keys = s := ⟨_, rfl⟩
      have HX := Lib.hid (show acc Sp.meet q l (k + 1) = a.meet s by rw [acc_succ _ _ hx, ha, hs])
      have CM := Lib.hid (rmeet_from (ha ▸ HF.out k) (hs ▸ HFL.out x hxl))
      rw [ha] at hG
      have IHX := Lib.hid (show ∀ (w : World) (A : Option Addr) (ca : Nat), x.At w A ca → Calls Try.prog 33 #[.agg #[.int .i64 x.op, .int .i64 x.col, .bool x.v.t, .int .i64 x.v.n, .string x.v.s, .bool x.w.t, .int .i64 x.w.n, .string x.w.s, .slice A x.l.length ca]] w fun e w' => e = .returned s.val ∧ Below w.heap.size w w' from hs ▸ IH.out x hxl)
      have i1 : (0 : Int) ≤ ((k + 1 : Nat) : Int) := by omega
      have i2 : ((k + 1 : Nat) : Int) < (n : Int) := by have := HN2.out; omega
      have i3 : k + 1 < n := by have := HN2.out; omega
      clear hx hc hxat0 ha hs
      go_wp2_with fail
      refine (IHX.out wr A' ca' hxat).mono ?_; rintro e w4 ⟨rfl, hb4⟩
      have hB4 := hB.below hb4
      have hG4 := hG.below hb4
      have f0 := fun ob => cell_old (o := ob) (hB4.cell 0 _ rfl)
      obtain ⟨a0, a1, a2, a3, a4, a5, a6, a7, a8, a9, a10⟩ := hG4.c11
      have t0 := fun o => cell_old (o := o) a0
      have t1 := fun o => cell_old (o := o) a1
      have t2 := fun o => cell_old (o := o) a2
      have t3 := fun o => cell_old (o := o) a3
      have t4 := fun o => cell_old (o := o) a4
      have t5 := fun o => cell_old (o := o) a5
      have t6 := fun o => cell_old (o := o) a6
      have t7 := fun o => cell_old (o := o) a7
      have t8 := fun o => cell_old (o := o) a8
      have t9 := fun o => cell_old (o := o) a9
      have t10 := fun o => cell_old (o := o) a10
      go_wp2_with fail
      refine calls_here fun W5 hW5 => ?_
      have hx5 : Below wr.heap.size wr W5 := by rw [hW5]; exact below_then hb4 (below_alloc _)
      clear hW5
      refine (CM.out W5).mono ?_; rintro e w6 ⟨rfl, hb6⟩
      have hx6 := below_then hx5 hb6
      have hG6 := hG.below hx6
      obtain ⟨r0, r1, r2, r3, r4, r5, r6, r7, r8, r9, r10⟩ := hG6.c11
      have rf := hG6.free
      have f8 := (hB.below hx6).cell 8 _ rfl
      go_wp2_with fail
      go_roundw
      case rel => exact ⟨k + 1, by go_num, by omega, sput_below (below_then hbW hx6) (by omega) _, sput_other (hB.below hx6) (by omega) _, sput_other (hO.below hx6) (by omega) _, HX.out ▸ sput_blk hG6 _⟩
      case measure => simp [intOf]; omega
    · obtain rfl : k = l.length := by omega
      obtain ⟨a0, a1, a2, a3, a4, a5, a6, a7, a8, a9, a10⟩ := hG.c11
      obtain ⟨r0, r1, r2, r3, r4, r5, r6, r7, r8, r9, r10⟩ := hO.c11
      have rf := hO.free
      have i3 : ¬ l.length + 1 < n := by have := HN2.out; omega
      clear hk hlt
      go_wp2_with fail
      exact bodyPost_ret (span_out rfl rfl (sput_blk hO (acc Sp.meet q l l.length))) rfl ⟨ret_span HE.out, sput_below hbW (by omega) _⟩

set_option maxHeartbeats 2000000 in
theorem rspan_hull {l : List Pr} (ih : ∀ q ∈ l, ∀ (w : World) (A : Option Addr) (ca : Nat), q.At w A ca → Calls Try.prog 33 #[q.arg A ca] w fun e w' => e = .returned q.keys.val ∧ Below w.heap.size w w') (hfit : ∀ q ∈ l, q.keys.Fit) (hne : l ≠ []) (hlen : l.length ≤ 1000000000) (c : Int) (v u : Val) (W : World) (A : Option Addr) (ca : Nat) (hat : (Pr.mk 12 c v u l).At W A ca) :
    Calls Try.prog 33 #[.agg #[.int .i64 12, .int .i64 c, .bool v.t, .int .i64 v.n, .string v.s, .bool u.t, .int .i64 u.n, .string u.s, .slice A l.length ca]] W fun e w' => e = .returned (Pr.fold1 Sp.hull (l.map Pr.keys)).val ∧ Below W.heap.size W w' := by
  obtain ⟨q, l, rfl⟩ := List.exists_cons_of_ne_nil hne
  rw [List.length_cons] at hlen
  obtain ⟨b, off, hA, hkids⟩ := (Pr.at_mk.1 hat).2 (by simp)
  obtain ⟨A0, ca0, hc, hqat⟩ := hkids 0 q rfl
  subst hA
  have IHQ := Lib.hid (ih q (by simp))
  have IH := Lib.hid (show ∀ x ∈ l, ∀ (w : World) (A : Option Addr) (ca : Nat), x.At w A ca → Calls Try.prog 33 #[x.arg A ca] w fun e w' => e = .returned x.keys.val ∧ Below w.heap.size w w' from fun x hx => ih x (by simp [hx]))
  have HK := Lib.hid (show ∀ (k : Nat) (x : Pr), l[k]? = some x → ∃ A' ca', x.Cells W A' ca' b (off + (k + 1) * 9) ∧ x.At W A' ca' from fun k x hx => by
    obtain ⟨A', ca', h1, h2⟩ := hkids (k + 1) x (by simpa using hx)
    exact ⟨A', ca', h1, h2⟩)
  have HE := Lib.hid (acc_end Sp.hull q l)
  have HF := Lib.hid (fun k : Nat => acc_fit (f := Sp.hull) (q := q) (l := l) (fun _ _ h k => h.hull k) (hfit q (List.mem_cons_self ..)) (fun x hx => hfit x (List.mem_cons_of_mem _ hx)) k)
  have HFL := Lib.hid (show ∀ x ∈ l, x.keys.Fit from fun x hx => hfit x (by simp [hx]))
  obtain ⟨d0, d1, d2, d3, d4, d5, d6, d7, d8⟩ := hc
  simp only [Nat.zero_mul, Nat.add_zero] at d0 d1 d2 d3 d4 d5 d6 d7 d8
  have e0 := fun o o' => cell_old (o := o') (cell_old (o := o) d0)
  have e1 := fun o o' => cell_old (o := o') (cell_old (o := o) d1)
  have e2 := fun o o' => cell_old (o := o') (cell_old (o := o) d2)
  have e3 := fun o o' => cell_old (o := o') (cell_old (o := o) d3)
  have e4 := fun o o' => cell_old (o := o') (cell_old (o := o) d4)
  have e5 := fun o o' => cell_old (o := o') (cell_old (o := o) d5)
  have e6 := fun o o' => cell_old (o := o') (cell_old (o := o) d6)
  have e7 := fun o o' => cell_old (o := o') (cell_old (o := o) d7)
  have e8 := fun o o' => cell_old (o := o') (cell_old (o := o) d8)
  clear d0 d1 d2 d3 d4 d5 d6 d7 d8 hat hkids ih hne hfit
  obtain ⟨n, hn⟩ : ∃ n, (q :: l).length = n := ⟨_, rfl⟩
  have hn2 : n = l.length + 1 := by rw [← hn, List.length_cons]
  rw [hn]
  clear hn
  have hnz : (0 : Int) < (n : Int) := by omega
  have HN2 := Lib.hid hn2
  clear hn2
  go_enter Try.func33, Try.ntmps33
  go_wp2_with fail
  refine calls_here fun W1 hW1 => ?_
  have hb0 : Below W.heap.size W W1 := by rw [hW1]; exact below_then (below_alloc _) (below_alloc _)
  have hB1 : Blk W1 W.heap.size [.int .i64 12, .int .i64 c, .bool v.t, .int .i64 v.n, .string v.s, .bool u.t, .int .i64 u.n, .string u.s, .slice (some ⟨b, off, none⟩) n ca] := by rw [hW1]; refine Blk.alloc ?_ _; exact Blk.new' (l := #[.int .i64 12, .int .i64 c, .bool v.t, .int .i64 v.n, .string v.s, .bool u.t, .int .i64 u.n, .string u.s, .slice (some ⟨b, off, none⟩) n ca]) rfl
  have hO1 : Blk W1 (W.heap.size + 1) Sp.full.cells := by rw [hW1]; exact Blk.new' (by simp)
  clear hW1 e0 e1 e2 e3 e4 e5 e6 e7 e8
  refine (IHQ.out W1 A0 ca0 (hqat.below hb0)).mono ?_; rintro e w2 ⟨rfl, hb2⟩
  obtain ⟨g, hg⟩ : ∃ g, w2.heap.size = g := ⟨_, rfl⟩
  go_wp2_with fail
  refine wp_here fun w3 hw3 => ?_
  have hinv : Below W.heap.size W w3 ∧ Blk w3 W.heap.size [.int .i64 12, .int .i64 c, .bool v.t, .int .i64 v.n, .string v.s, .bool u.t, .int .i64 u.n, .string u.s, .slice (some ⟨b, off, none⟩) n ca] ∧ Blk w3 (W.heap.size + 1) Sp.full.cells ∧ Blk w3 g (acc Sp.hull q l 0).cells := by
    rw [hw3, acc_zero]
    exact ⟨below_then (below_then hb0 hb2) (below_alloc _), (hB1.below hb2).alloc _, (hO1.below hb2).alloc _, Blk.new' hg.symm⟩
  clear hw3
  have hgW : W.heap.size + 1 < g := by have := hO1.lt; have := hb2.size; omega
  clear hg
  go_loopw [4] (fun i wr => ∃ k : Nat, i = .int .i64 ((k + 1 : Nat) : Int) ∧ k ≤ l.length ∧ Below W.heap.size W wr ∧ Blk wr W.heap.size [.int .i64 12, .int .i64 c, .bool v.t, .int .i64 v.n, .string v.s, .bool u.t, .int .i64 u.n, .string u.s, .slice (some ⟨b, off, none⟩) n ca] ∧ Blk wr (W.heap.size + 1) Sp.full.cells ∧ Blk wr g (acc Sp.hull q l k).cells) (fun i _ => n - (intOf i).toNat)
  case atStart => exact ⟨0, rfl, by omega, hinv⟩
  case round =>
    rename_i wr
    obtain ⟨k, rfl, hk, hbW, hB, hO, hG⟩ := hrel
    have b0 := hB.cell 0 _ rfl
    have b8 := hB.cell 8 _ rfl
    by_cases hlt : k < l.length
    · obtain ⟨x, hx⟩ : ∃ x, l[k]? = some x := ⟨_, List.getElem?_eq_getElem hlt⟩
      have hxl : x ∈ l := List.mem_of_getElem? hx
      obtain ⟨A', ca', hc, hxat0⟩ := HK.out k x hx
      have hxat := hxat0.below hbW
      obtain ⟨c0, c1, c2, c3, c4, c5, c6, c7, c8⟩ := hc.below hbW
      obtain ⟨a, ha⟩ : ∃ a, acc Sp.hull q l k = a := ⟨_, rfl⟩
      obtain ⟨s, hs⟩ : ∃ s, x.keys = s := ⟨_, rfl⟩
      have HX := Lib.hid (show acc Sp.hull q l (k + 1) = a.hull s by rw [acc_succ _ _ hx, ha, hs])
      have CM := Lib.hid (rhull_from (ha ▸ HF.out k) (hs ▸ HFL.out x hxl))
      rw [ha] at hG
      have IHX := Lib.hid (show ∀ (w : World) (A : Option Addr) (ca : Nat), x.At w A ca → Calls Try.prog 33 #[.agg #[.int .i64 x.op, .int .i64 x.col, .bool x.v.t, .int .i64 x.v.n, .string x.v.s, .bool x.w.t, .int .i64 x.w.n, .string x.w.s, .slice A x.l.length ca]] w fun e w' => e = .returned s.val ∧ Below w.heap.size w w' from hs ▸ IH.out x hxl)
      have i1 : (0 : Int) ≤ ((k + 1 : Nat) : Int) := by omega
      have i2 : ((k + 1 : Nat) : Int) < (n : Int) := by have := HN2.out; omega
      have i3 : k + 1 < n := by have := HN2.out; omega
      clear hx hc hxat0 ha hs
      go_wp2_with fail
      refine (IHX.out wr A' ca' hxat).mono ?_; rintro e w4 ⟨rfl, hb4⟩
      have hB4 := hB.below hb4
      have hG4 := hG.below hb4
      have f0 := fun ob => cell_old (o := ob) (hB4.cell 0 _ rfl)
      obtain ⟨a0, a1, a2, a3, a4, a5, a6, a7, a8, a9, a10⟩ := hG4.c11
      have t0 := fun o => cell_old (o := o) a0
      have t1 := fun o => cell_old (o := o) a1
      have t2 := fun o => cell_old (o := o) a2
      have t3 := fun o => cell_old (o := o) a3
      have t4 := fun o => cell_old (o := o) a4
      have t5 := fun o => cell_old (o := o) a5
      have t6 := fun o => cell_old (o := o) a6
      have t7 := fun o => cell_old (o := o) a7
      have t8 := fun o => cell_old (o := o) a8
      have t9 := fun o => cell_old (o := o) a9
      have t10 := fun o => cell_old (o := o) a10
      go_wp2_with fail
      refine calls_here fun W5 hW5 => ?_
      have hx5 : Below wr.heap.size wr W5 := by rw [hW5]; exact below_then hb4 (below_alloc _)
      clear hW5
      refine (CM.out W5).mono ?_; rintro e w6 ⟨rfl, hb6⟩
      have hx6 := below_then hx5 hb6
      have hG6 := hG.below hx6
      obtain ⟨r0, r1, r2, r3, r4, r5, r6, r7, r8, r9, r10⟩ := hG6.c11
      have rf := hG6.free
      have f8 := (hB.below hx6).cell 8 _ rfl
      go_wp2_with fail
      go_roundw
      case rel => exact ⟨k + 1, by go_num, by omega, sput_below (below_then hbW hx6) (by omega) _, sput_other (hB.below hx6) (by omega) _, sput_other (hO.below hx6) (by omega) _, HX.out ▸ sput_blk hG6 _⟩
      case measure => simp [intOf]; omega
    · obtain rfl : k = l.length := by omega
      obtain ⟨a0, a1, a2, a3, a4, a5, a6, a7, a8, a9, a10⟩ := hG.c11
      obtain ⟨r0, r1, r2, r3, r4, r5, r6, r7, r8, r9, r10⟩ := hO.c11
      have rf := hO.free
      have i3 : ¬ l.length + 1 < n := by have := HN2.out; omega
      clear hk hlt
      go_wp2_with fail
      exact bodyPost_ret (span_out rfl rfl (sput_blk hO (acc Sp.hull q l l.length))) rfl ⟨ret_span HE.out, sput_below hbW (by omega) _⟩

theorem rspan_all {t : List Bool} : ∀ p : Pr, p.parts t = true → p.bare = true → p.size ≤ 1000000000 → ∀ (W : World) (A : Option Addr) (ca : Nat), p.At W A ca → Calls Try.prog 33 #[p.arg A ca] W fun e w' => e = .returned p.keys.val ∧ Below W.heap.size W w' := by
  refine Pr.ind fun p ih hp hb hsz W A ca hat => ?_
  obtain ⟨o, c, v, u, l⟩ := p
  have hs := Pr.parts_shape _ hp
  have hlen : l.length ≤ 1000000000 := by have h1 := Pr.len_le l; have h2 := Pr.size_mk o c v u l; omega
  rw [Pr.bare_mk, Bool.and_eq_true, List.all_eq_true, decide_eq_true_iff] at hb
  rw [Pr.parts_mk, Bool.and_eq_true, List.all_eq_true] at hp
  show Calls Try.prog 33 #[.agg #[.int .i64 o, .int .i64 c, .bool v.t, .int .i64 v.n, .string v.s, .bool u.t, .int .i64 u.n, .string u.s, .slice A l.length ca]] W _
  rcases Pr.shape_cases hs with ⟨h1, h9, rfl⟩ | ⟨rfl, _⟩ | ⟨ho, hne, hl⟩
  · refine calls_to (rspan_leaf c v u A ca ⟨h1, h9⟩ hp.1 W) ?_
    rw [Pr.keys_mk, if_neg (by omega : ¬ o = 11), if_neg (by omega : ¬ o = 12)]
  · exact absurd rfl hb.2
  · have IH : ∀ q ∈ l, ∀ (w : World) (A : Option Addr) (ca : Nat), q.At w A ca → Calls Try.prog 33 #[q.arg A ca] w fun e w' => e = .returned q.keys.val ∧ Below w.heap.size w w' := fun q hq => ih q hq (hp.2 q hq) (hb.1 q hq) (by have := Pr.size_kid (p := .mk o c v u l) hq; omega)
    have HF : ∀ q ∈ l, q.keys.Fit := fun q hq => keys_fit q (hp.2 q hq)
    rcases ho with rfl | rfl
    · refine calls_to (rspan_meet IH HF hne hlen c v u W A ca hat) ?_
      rw [Pr.keys_mk, if_neg (by omega : ¬ (11 : Int) = 2), if_pos rfl]
    · refine calls_to (rspan_hull IH HF hne hlen c v u W A ca hat) ?_
      rw [Pr.keys_mk, if_neg (by omega : ¬ (12 : Int) = 2), if_neg (by omega : ¬ (12 : Int) = 11), if_pos rfl]
end Go.Proofs.Ytppoefbfepehpaa
