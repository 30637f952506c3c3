/-
  Predicates written out: one or two parts in a block that was just made. No walk.
-/
import Derived.Test.YtppoefbfepehpaaPrOwn
namespace Go.Proofs.Ytppoefbfepehpaa
open Go.RowKit

theorem old_at {W w : World} (hb : Below W.heap.size W w) {a : Addr} {v : Value} (h : W.cell? a = some v) : w.cell? a = some v := (hb.cell (cell_lt h)).trans h
theorem Pr.at_none (W : World) (o c : Int) (v w : Val) : (Pr.mk o c v w []).At W none 0 := Pr.at_mk.2 ⟨⟨fun _ => rfl, Nat.le_refl _⟩, fun h => absurd rfl h⟩
theorem Pr.at_one {w : World} {p : Pr} {A : Option Addr} {ca n ca' : Nat} {t : TypeId} (hn : n = w.heap.size) (hp : p.At w A ca) (hca : 1 ≤ ca') (o c : Int) (v w' : Val) :
    (Pr.mk o c v w' [p]).At (w.alloc (.cells #[.int .i64 p.op, .int .i64 p.col, .bool p.v.t, .int .i64 p.v.n, .string p.v.s, .bool p.w.t, .int .i64 p.w.n, .string p.w.s, .slice A p.l.length ca] t)) (some ⟨n, 0, none⟩) ca' := by
  subst hn
  refine Pr.at_mk.2 ⟨⟨fun e => (by cases e), hca⟩, fun _ => ⟨_, 0, rfl, fun i q hq => ?_⟩⟩
  match i, hq with
  | 0, hq =>
    simp at hq; subst hq
    exact ⟨A, ca, ⟨by rw [cell_new rfl]; rfl, by rw [cell_new rfl]; rfl, by rw [cell_new rfl]; rfl, by rw [cell_new rfl]; rfl, by rw [cell_new rfl]; rfl, by rw [cell_new rfl]; rfl, by rw [cell_new rfl]; rfl, by rw [cell_new rfl]; rfl, by rw [cell_new rfl]; rfl⟩, hp.below (below_alloc _)⟩
  | i + 1, hq => simp at hq
theorem Pr.at_two {w : World} {p q : Pr} {A B : Option Addr} {ca cb n ca' : Nat} {t : TypeId} (hn : n = w.heap.size) (hp : p.At w A ca) (hq : q.At w B cb) (hca : 2 ≤ ca') (o c : Int) (v w' : Val) :
    (Pr.mk o c v w' [p, q]).At (w.alloc (.cells #[.int .i64 p.op, .int .i64 p.col, .bool p.v.t, .int .i64 p.v.n, .string p.v.s, .bool p.w.t, .int .i64 p.w.n, .string p.w.s, .slice A p.l.length ca, .int .i64 q.op, .int .i64 q.col, .bool q.v.t, .int .i64 q.v.n, .string q.v.s, .bool q.w.t, .int .i64 q.w.n, .string q.w.s, .slice B q.l.length cb] t)) (some ⟨n, 0, none⟩) ca' := by
  subst hn
  refine Pr.at_mk.2 ⟨⟨fun e => (by cases e), hca⟩, fun _ => ⟨_, 0, rfl, fun i x hx => ?_⟩⟩
  match i, hx with
  | 0, hx =>
    simp at hx; subst hx
    exact ⟨A, ca, ⟨by rw [cell_new rfl]; rfl, by rw [cell_new rfl]; rfl, by rw [cell_new rfl]; rfl, by rw [cell_new rfl]; rfl, by rw [cell_new rfl]; rfl, by rw [cell_new rfl]; rfl, by rw [cell_new rfl]; rfl, by rw [cell_new rfl]; rfl, by rw [cell_new rfl]; rfl⟩, hp.below (below_alloc _)⟩
  | 1, hx =>
    simp at hx; subst hx
    exact ⟨B, cb, ⟨by rw [cell_new rfl]; rfl, by rw [cell_new rfl]; rfl, by rw [cell_new rfl]; rfl, by rw [cell_new rfl]; rfl, by rw [cell_new rfl]; rfl, by rw [cell_new rfl]; rfl, by rw [cell_new rfl]; rfl, by rw [cell_new rfl]; rfl, by rw [cell_new rfl]; rfl⟩, hq.below (below_alloc _)⟩
  | i + 2, hx => simp at hx
end Go.Proofs.Ytppoefbfepehpaa
