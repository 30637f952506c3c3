/-
  A copy of one's own: append onto nothing of a row, nil or not; and what a store elsewhere leaves. Conditions: the row lies in memory as it reads and has at most a billion values.
-/
import Derived.Test.YtpgbngmekfakkaaUpd
import Derived.Laws.AppendOwnNone
namespace Go.Proofs.Ytpgbngmekfakkaa
open Go.RowKit

theorem wpList_append_row {w : World} {ops : Array Oper} {rest : List Oper} {o : Oper} {a : Act} {Q : Exit → Act → World → Prop} (hgd : o.guard = none) (s x : Operand)
    (ho : o.op = .call { callee := .builtin .append, args := #[s, x], argTypes := #[26, 26] }) (hs : a.eval s = .slice none 0 0)
    {B : Option Addr} {r : List Val} {cb : Nat} (hx : a.eval x = .slice B r.length cb) (hr : RowAt w B r) (hn : B = none → cb = 0) (hl : r.length ≤ 1000000000)
    (h : ∀ v' w', OwnRow w.heap.size w' v' r → Below w.heap.size w w' → wpList Try.prog ops Q rest (a.put o.dst v') w') : wpList Try.prog ops Q (o :: rest) a w := by
  obtain ⟨i0, hi, hz0, hz1, hz2⟩ := info_parts info_val
  have hown0 : w.ownsRow w.heap.size 40 3 (.slice none 0 0) 0 [] := World.ownsRow_nil _ _ _ _
  cases B with
  | none =>
    have hr0 : r = [] := by
      cases r with
      | nil => rfl
      | cons u r =>
        obtain ⟨b, o, hA, _⟩ := hr (by simp)
        cases hA
    subst hr0
    obtain rfl := hn rfl
    exact wpList_append_own_none hgd s x 26 ho w.heap.size 40 i0 3 Try.underlying26 hi _ 0 [] hs hown0 hx (h _ _ (OwnRow.nil _ _) (Below.refl _ _))
  | some ad =>
    have hnews : ∀ j c, (cellsOf r)[j]? = some c → w.cell? (ad.add j) = some c := by
      intro j c hj
      have hne : r ≠ [] := fun e => by subst e; simp [cellsOf] at hj
      obtain ⟨b, o, hA, hc⟩ := hr hne
      obtain rfl := Option.some.inj hA
      exact RowAt.news hc j c hj
    refine wpList_append_own_at _ hgd s x 26 ho w.heap.size 40 i0 _ 3 32 Try.underlying26 hi hz0 hz1 hz2 rfl (by omega) _ 0 [] hs hown0 ad r.length cb (cellsOf r) hx (cellsOf_length r) hnews (cellsOf_one r) (by unfold maxLen; omega) (by omega) (Nat.le_refl _) fun v' w2 hown hgrow _ _ => ?_
    have hown' : Owns w w2 v' r := by unfold Owns; simpa using hown
    have hgrow2 : w.grownBy w2 none := hgrow
    exact h v' w2 (OwnRow.of_owns hown') ((Below.refl _ _).grown hgrow2 (Nat.le_refl _) (fun k hk => by cases hk))

theorem OwnG.other {w : World} {g g2 : Nat} {r : List Val} (h : OwnG w g2 r) (hne : g ≠ g2) (j : Nat) (u : Value) : OwnG (w.setCell ⟨g, j, none⟩ u) g2 r := by
  have off : ∀ {a b : Nat}, (⟨g2, a, none⟩ : Addr) ≠ ⟨g, b, none⟩ := fun e => hne (by injection e with e1; exact e1.symm)
  refine ⟨by have := h.lt; simp [World.setCell]; omega, fun j => ?_, fun k v hv => ?_⟩
  · rw [World.frozen?_setCell]; exact h.free j
  · obtain ⟨d0, d1, d2⟩ := h.cell k v hv
    exact ⟨by rw [World.cell?_setCell_other _ _ _ _ off.symm]; exact d0, by rw [World.cell?_setCell_other _ _ _ _ off.symm]; exact d1, by rw [World.cell?_setCell_other _ _ _ _ off.symm]; exact d2⟩
theorem OwnRow.other {B : Nat} {w : World} {v : Value} {r : List Val} (h : OwnRow B w v r) {g : Nat} (hg : g < B) (j : Nat) (u : Value) : OwnRow B (w.setCell ⟨g, j, none⟩ u) v r := by
  obtain ⟨A, ca, hv, hn, hr⟩ := h
  refine ⟨A, ca, hv, hn, fun hne => ?_⟩
  obtain ⟨g2, hA, hB, ho⟩ := hr hne
  exact ⟨g2, hA, hB, ho.other (by omega) j u⟩
end Go.Proofs.Ytpgbngmekfakkaa
