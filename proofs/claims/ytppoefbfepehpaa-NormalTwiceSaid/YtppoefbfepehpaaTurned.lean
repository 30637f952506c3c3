/-
  A leaf's opposite, walked on both sides. Conditions: its own list is empty.
-/
import Derived.Test.YtppoefbfepehpaaPushLaw
import Derived.Test.YtppoefbfepehpaaPrLit
import Derived.Deep.RegionLaw
import Derived.Deep.AppendLies
namespace Go.Proofs.Ytppoefbfepehpaa
open Go.RowKit

theorem info_pr : (Try.prog.info? 29).map (fun i => (i.zero, i.size, i.bytes)) = some (some (.agg #[.int .i64 0, .int .i64 0, .bool false, .int .i64 0, .string ⟨#[]⟩, .bool false, .int .i64 0, .string ⟨#[]⟩, .slice none 0 0]), 9, 104) := by kernel_rfl
/-- A predicate whose parts lie in new memory. -/
def PFresh (W : World) (p : Pr) (e : Ending) (w' : World) : Prop := ∃ (A' : Option Addr) (ca' : Nat), e = .returned (.agg #[.int .i64 p.op, .int .i64 p.col, .bool p.v.t, .int .i64 p.v.n, .string p.v.s, .bool p.w.t, .int .i64 p.w.n, .string p.w.s, .slice A' p.l.length ca']) ∧ p.At w' A' ca' ∧ p.Own (fun b => W.heap.size ≤ b) w' A' ∧ Below W.heap.size W w'
theorem Pr.own_nil {P : Nat → Prop} {W : World} {o c : Int} {v w : Val} {A : Option Addr} : (Pr.mk o c v w []).Own P W A := Pr.own_mk.2 fun h => absurd rfl h
theorem PFresh.leaf {W w' : World} (o c : Int) (v u : Val) {A : Option Addr} {ca : Nat} (hA : A = none → ca = 0) (hb : Below W.heap.size W w') : PFresh W (Pr.mk o c v u []) (.returned (.agg #[.int .i64 o, .int .i64 c, .bool v.t, .int .i64 v.n, .string v.s, .bool u.t, .int .i64 u.n, .string u.s, .slice A 0 ca])) w' :=
  ⟨A, ca, rfl, Pr.at_mk.2 ⟨⟨hA, Nat.zero_le _⟩, fun h => absurd rfl h⟩, Pr.own_nil, hb⟩
/-- A predicate's nine stores. -/
abbrev pput (w : World) (g : Nat) (k : PK) : World :=
  ((((((((w.setCell ⟨g, 0, none⟩ (.int .i64 k.p.op)).setCell ⟨g, 1, none⟩ (.int .i64 k.p.col)).setCell ⟨g, 2, none⟩ (.bool k.p.v.t)).setCell ⟨g, 3, none⟩ (.int .i64 k.p.v.n)).setCell ⟨g, 4, none⟩ (.string k.p.v.s)).setCell ⟨g, 5, none⟩ (.bool k.p.w.t)).setCell ⟨g, 6, none⟩ (.int .i64 k.p.w.n)).setCell
    ⟨g, 7, none⟩ (.string k.p.w.s)).setCell ⟨g, 8, none⟩ (.slice k.A k.p.l.length k.ca)
theorem pput_eq (w : World) (g : Nat) (k : PK) : pput w g k = puts w g 0 k.cells := rfl
theorem pput_own {w : World} {g : Nat} {k0 : PK} (h : OwnP w g [k0]) (k : PK) : OwnP (pput w g k) g [k] := by rw [pput_eq]; exact h.set (i := 0) (by simp) k
theorem pput_other {w : World} {g : Nat} (k : PK) (b : Nat) (hb : b ≠ g) : (pput w g k).heap[b]? = w.heap[b]? := by rw [pput_eq]; exact puts_block _ _ _ _ _ hb
theorem pput_size (w : World) (g : Nat) (k : PK) : (pput w g k).heap.size = w.heap.size := by rw [pput_eq, puts_size]
theorem pput_below {B : Nat} {w0 w : World} (h : Below B w0 w) {g : Nat} (hg : B ≤ g) (k : PK) : Below B w0 (pput w g k) := by rw [pput_eq]; exact puts_below h hg 0 _
/-- A predicate that a function hands back out of its block. -/
theorem pr_out {fn : Func} {k : Nat} (hr : fn.results = #[.cell k 29]) {tmps : Array Value} {g : Nat} (ht : tmps[k]? = some (.pointer (some ⟨g, 0, none⟩))) {w : World} {x : PK} (h : OwnP w g [x]) : (results fn tmps).run Try.prog w = .ok (.agg #[.int .i64 x.p.op, .int .i64 x.p.col, .bool x.p.v.t, .int .i64 x.p.v.n, .string x.p.v.s, .bool x.p.w.t, .int .i64 x.p.w.n, .string x.p.w.s, .slice x.A x.p.l.length x.ca]) w := by
  obtain ⟨f0, f1, f2, f3, f4, f5, f6, f7, f8⟩ := h.first
  simp only [Nat.zero_add] at f0 f1 f2 f3 f4 f5 f6 f7 f8
  simp [results, hr, ht, go_sem, f0, f1, f2, f3, f4, f5, f6, f7, f8]
/-- The parts of a row of one's own. -/
theorem row_own {w : World} {B g n cap : Nat} {t : TypeId} {K : List PK} (h : w.ownsRow B t 9 (.slice (some ⟨g, 0, none⟩) n cap) n (pcells K)) (hn : K.length = n) : OwnP w g K := by
  subst hn
  refine ⟨(h.lt g rfl).2, fun j => h.frozenAt j, fun i k hk => ?_⟩
  have hi := (List.getElem?_eq_some_iff.1 hk).1
  rw [Nat.zero_add]
  have e : ∀ m, m < 9 → w.cell? ⟨g, i * 9 + m, none⟩ = k.cells[m]? := fun m hm => by rw [h.cellAt _ (by omega)]; exact pcells_get K i k hk m hm
  exact ⟨e 0 (by omega), e 1 (by omega), e 2 (by omega), e 3 (by omega), e 4 (by omega), e 5 (by omega), e 6 (by omega), e 7 (by omega), e 8 (by omega)⟩
/-- Two leaves, one behind the other in a block of their own. -/
theorem own_two {P : Nat → Prop} {w : World} {c c' : Int} {v v' : Val} {o o' : Int} {n : Nat} {t : TypeId} (hn : n = w.heap.size) (hP : P n) (oo cc : Int) (vv ww : Val) :
    (Pr.mk oo cc vv ww [.mk o c v Pr.zv [], .mk o' c' v' Pr.zv []]).Own P (w.alloc (.cells #[.int .i64 o, .int .i64 c, .bool v.t, .int .i64 v.n, .string v.s, .bool false, .int .i64 0, .string ⟨#[]⟩, .slice none 0 0, .int .i64 o', .int .i64 c', .bool v'.t, .int .i64 v'.n, .string v'.s, .bool false, .int .i64 0, .string ⟨#[]⟩, .slice none 0 0] t)) (some ⟨n, 0, none⟩) := by
  subst hn
  refine Pr.own_mk.2 fun _ => ⟨_, rfl, hP, by simp, fun j => by simp, fun i x hx => ?_⟩
  match i, hx with
  | 0, hx =>
    simp at hx; subst hx
    exact ⟨o, c, v, Pr.zv, none, 0, ⟨by rw [cell_new rfl]; rfl, by rw [cell_new rfl]; rfl, by rw [cell_new rfl]; rfl, by rw [cell_new rfl]; rfl, by rw [cell_new rfl]; rfl, by rw [cell_new rfl]; rfl, by rw [cell_new rfl]; rfl, by rw [cell_new rfl]; rfl, by rw [cell_new rfl]; rfl⟩, Pr.own_nil⟩
  | 1, hx =>
    simp at hx; subst hx
    exact ⟨o', c', v', Pr.zv, none, 0, ⟨by rw [cell_new rfl]; rfl, by rw [cell_new rfl]; rfl, by rw [cell_new rfl]; rfl, by rw [cell_new rfl]; rfl, by rw [cell_new rfl]; rfl, by rw [cell_new rfl]; rfl, by rw [cell_new rfl]; rfl, by rw [cell_new rfl]; rfl, by rw [cell_new rfl]; rfl⟩, Pr.own_nil⟩
  | i + 2, hx => simp at hx

set_option maxHeartbeats 2000000 in
theorem turned_any (o c : Int) (v u : Val) (W : World) (A : Option Addr) (ca : Nat) (ho : 1 ≤ o ∧ o ≤ 9) : Calls Try.prog 47 #[.agg #[.int .i64 o, .int .i64 c, .bool v.t, .int .i64 v.n, .string v.s, .bool u.t, .int .i64 u.n, .string u.s, .slice A 0 ca]] W (PFresh W (Pr.turned o c v u)) := by
  obtain rfl | rfl | rfl | rfl | rfl | rfl | rfl | rfl | rfl : o = 1 ∨ o = 2 ∨ o = 3 ∨ o = 4 ∨ o = 5 ∨ o = 6 ∨ o = 7 ∨ o = 8 ∨ o = 9 := by omega
  · go_enter Try.func47, Try.ntmps47
    go_wp2_with fail
    refine bodyPost_ret (v := .agg #[.int .i64 2, .int .i64 0, .bool false, .int .i64 0, .string ⟨#[]⟩, .bool false, .int .i64 0, .string ⟨#[]⟩, .slice none 0 0]) ?_ rfl (PFresh.leaf 2 0 Pr.zv Pr.zv (fun _ => rfl) ?_)
    · simp [results, Try.results47, go_sem]
    · repeat (first | with_reducible exact Below.refl _ _ | refine below_then ?_ (below_alloc _) | refine Below.drew ?_)
  · go_enter Try.func47, Try.ntmps47
    go_wp2_with fail
    refine bodyPost_ret (v := .agg #[.int .i64 1, .int .i64 0, .bool false, .int .i64 0, .string ⟨#[]⟩, .bool false, .int .i64 0, .string ⟨#[]⟩, .slice none 0 0]) ?_ rfl (PFresh.leaf 1 0 Pr.zv Pr.zv (fun _ => rfl) ?_)
    · simp [results, Try.results47, go_sem]
    · repeat (first | with_reducible exact Below.refl _ _ | refine below_then ?_ (below_alloc _) | refine Below.drew ?_)
  · go_enter Try.func47, Try.ntmps47
    go_wp2_with fail
    refine bodyPost_ret (v := .agg #[.int .i64 4, .int .i64 c, .bool v.t, .int .i64 v.n, .string v.s, .bool false, .int .i64 0, .string ⟨#[]⟩, .slice none 0 0]) ?_ rfl (PFresh.leaf 4 c v Pr.zv (fun _ => rfl) ?_)
    · simp [results, Try.results47, go_sem]
    · repeat (first | with_reducible exact Below.refl _ _ | refine below_then ?_ (below_alloc _) | refine Below.drew ?_)
  · go_enter Try.func47, Try.ntmps47
    go_wp2_with fail
    refine bodyPost_ret (v := .agg #[.int .i64 3, .int .i64 c, .bool v.t, .int .i64 v.n, .string v.s, .bool false, .int .i64 0, .string ⟨#[]⟩, .slice none 0 0]) ?_ rfl (PFresh.leaf 3 c v Pr.zv (fun _ => rfl) ?_)
    · simp [results, Try.results47, go_sem]
    · repeat (first | with_reducible exact Below.refl _ _ | refine below_then ?_ (below_alloc _) | refine Below.drew ?_)
  · go_enter Try.func47, Try.ntmps47
    go_wp2_with fail
    refine bodyPost_ret (v := .agg #[.int .i64 8, .int .i64 c, .bool v.t, .int .i64 v.n, .string v.s, .bool false, .int .i64 0, .string ⟨#[]⟩, .slice none 0 0]) ?_ rfl (PFresh.leaf 8 c v Pr.zv (fun _ => rfl) ?_)
    · simp [results, Try.results47, go_sem]
    · repeat (first | with_reducible exact Below.refl _ _ | refine below_then ?_ (below_alloc _) | refine Below.drew ?_)
  · go_enter Try.func47, Try.ntmps47
    go_wp2_with fail
    refine bodyPost_ret (v := .agg #[.int .i64 7, .int .i64 c, .bool v.t, .int .i64 v.n, .string v.s, .bool false, .int .i64 0, .string ⟨#[]⟩, .slice none 0 0]) ?_ rfl (PFresh.leaf 7 c v Pr.zv (fun _ => rfl) ?_)
    · simp [results, Try.results47, go_sem]
    · repeat (first | with_reducible exact Below.refl _ _ | refine below_then ?_ (below_alloc _) | refine Below.drew ?_)
  · go_enter Try.func47, Try.ntmps47
    go_wp2_with fail
    refine bodyPost_ret (v := .agg #[.int .i64 6, .int .i64 c, .bool v.t, .int .i64 v.n, .string v.s, .bool false, .int .i64 0, .string ⟨#[]⟩, .slice none 0 0]) ?_ rfl (PFresh.leaf 6 c v Pr.zv (fun _ => rfl) ?_)
    · simp [results, Try.results47, go_sem]
    · repeat (first | with_reducible exact Below.refl _ _ | refine below_then ?_ (below_alloc _) | refine Below.drew ?_)
  · go_enter Try.func47, Try.ntmps47
    go_wp2_with fail
    refine bodyPost_ret (v := .agg #[.int .i64 5, .int .i64 c, .bool v.t, .int .i64 v.n, .string v.s, .bool false, .int .i64 0, .string ⟨#[]⟩, .slice none 0 0]) ?_ rfl (PFresh.leaf 5 c v Pr.zv (fun _ => rfl) ?_)
    · simp [results, Try.results47, go_sem]
    · repeat (first | with_reducible exact Below.refl _ _ | refine below_then ?_ (below_alloc _) | refine Below.drew ?_)
  · go_enter Try.func47, Try.ntmps47
    go_wp2_with fail
    refine bodyPost_ret (v := .agg #[.int .i64 12, .int .i64 0, .bool false, .int .i64 0, .string ⟨#[]⟩, .bool false, .int .i64 0, .string ⟨#[]⟩, .slice (some ⟨W.heap.size + 1 + 1 + 1, 0, none⟩) 2 2]) ?_ rfl ⟨some ⟨W.heap.size + 1 + 1 + 1, 0, none⟩, 2, rfl, ?_, ?_, ?_⟩
    · simp [results, Try.results47, go_sem]
    · exact Pr.at_two (by simp) (Pr.at_none _ 5 c v Pr.zv) (Pr.at_none _ 7 c u Pr.zv) (by omega) 12 0 Pr.zv Pr.zv
    · exact own_two (by simp) (by show W.heap.size ≤ W.heap.size + 1 + 1 + 1; omega) 12 0 Pr.zv Pr.zv
    · repeat (first | with_reducible exact Below.refl _ _ | refine below_then ?_ (below_alloc _) | refine Below.drew ?_)
end Go.Proofs.Ytppoefbfepehpaa
