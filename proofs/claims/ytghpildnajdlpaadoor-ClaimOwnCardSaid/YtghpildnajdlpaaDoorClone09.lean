/-
  A row of one's own: slices.Clone and row.Clone, and the document's append onto nothing, hand back the row's values in new memory. Conditions: the row lies in memory as it reads and has at most a billion values.
-/
import Derived.Test.YtghpildnajdlpaaDoorRowFnB09
import Derived.Maps.AppendAt
import Derived.Laws.AppendOwnNone
import Derived.Lib.SliceRun
namespace Go.Proofs.YtghpildnajdlpaaDoor
open Go.RowKit

/-- A row's cells. -/
def cellsOf (r : List Val) : List Value := r.flatMap fun u => [.bool u.t, .int .i64 u.n, .string u.s]
theorem cellsOf_cons (u : Val) (r : List Val) : cellsOf (u :: r) = .bool u.t :: .int .i64 u.n :: .string u.s :: cellsOf r := rfl
theorem cellsOf_length (r : List Val) : (cellsOf r).length = r.length * 3 := by
  induction r with
  | nil => rfl
  | cons u r ih => rw [cellsOf_cons]; simp [ih]; omega
theorem cellsOf_one (r : List Val) : ∀ u ∈ cellsOf r, u.oneCell' = true := by
  intro u hu
  simp only [cellsOf, List.mem_flatMap] at hu
  obtain ⟨v, _, hv⟩ := hu
  simp at hv
  rcases hv with rfl | rfl | rfl <;> rfl
theorem cellsOf_get (r : List Val) : ∀ (i : Nat) (u : Val), r[i]? = some u → (cellsOf r)[i * 3]? = some (.bool u.t) ∧ (cellsOf r)[i * 3 + 1]? = some (.int .i64 u.n) ∧ (cellsOf r)[i * 3 + 2]? = some (.string u.s) := by
  induction r with
  | nil => intro i u h; simp at h
  | cons v r ih =>
    intro i u h
    rw [cellsOf_cons]
    match i, h with
    | 0, h => simp at h; subst h; simp
    | i + 1, h =>
      have := ih i u (by simpa using h)
      rw [show (i + 1) * 3 = i * 3 + 3 by omega]
      simpa using this
theorem cellsOf_at (r : List Val) (j : Nat) (c : Value) (h : (cellsOf r)[j]? = some c) : ∃ u, r[j / 3]? = some u ∧ ((j % 3 = 0 ∧ c = .bool u.t) ∨ (j % 3 = 1 ∧ c = .int .i64 u.n) ∨ (j % 3 = 2 ∧ c = .string u.s)) := by
  have hj : j < (cellsOf r).length := (List.getElem?_eq_some_iff.1 h).1
  rw [cellsOf_length] at hj
  have hi : j / 3 < r.length := by omega
  have hu : r[j / 3]? = some r[j / 3] := List.getElem?_eq_getElem hi
  obtain ⟨h0, h1, h2⟩ := cellsOf_get r _ _ hu
  refine ⟨_, hu, ?_⟩
  have hm : j % 3 = 0 ∨ j % 3 = 1 ∨ j % 3 = 2 := by omega
  rcases hm with hm | hm | hm
  · rw [show j / 3 * 3 = j by omega, h] at h0; exact .inl ⟨hm, by injection h0⟩
  · rw [show j / 3 * 3 + 1 = j by omega, h] at h1; exact .inr (.inl ⟨hm, by injection h1⟩)
  · rw [show j / 3 * 3 + 2 = j by omega, h] at h2; exact .inr (.inr ⟨hm, by injection h2⟩)
theorem add_mk (b o j : Nat) : (⟨b, o, none⟩ : Addr).add j = ⟨b, o + j, none⟩ := by
  unfold Addr.add
  split
  · rename_i h; subst h; rfl
  · rfl
theorem RowAt.news {w : World} {b o : Nat} {r : List Val} (h : ∀ i u, r[i]? = some u → w.cell? ⟨b, o + i * 3, none⟩ = some (.bool u.t) ∧ w.cell? ⟨b, o + i * 3 + 1, none⟩ = some (.int .i64 u.n) ∧ w.cell? ⟨b, o + i * 3 + 2, none⟩ = some (.string u.s)) :
    ∀ j c, (cellsOf r)[j]? = some c → w.cell? ((⟨b, o, none⟩ : Addr).add j) = some c := by
  intro j c hj
  obtain ⟨u, hu, hc⟩ := cellsOf_at r j c hj
  obtain ⟨h0, h1, h2⟩ := h _ u hu
  rw [add_mk]
  rcases hc with ⟨hm, rfl⟩ | ⟨hm, rfl⟩ | ⟨hm, rfl⟩
  · rw [show o + j = o + j / 3 * 3 by omega]; exact h0
  · rw [show o + j = o + j / 3 * 3 + 1 by omega]; exact h1
  · rw [show o + j = o + j / 3 * 3 + 2 by omega]; exact h2

theorem info_val : (Tryd.prog.info? 25).map (fun i => (i.zero, i.size, i.bytes)) = some (some (.agg #[.bool false, .int .i64 0, .string ⟨#[]⟩]), 3, 32) := by kernel_rfl

/-- A slice of values that is the call's own: new memory behind w0. -/
def Owns (w0 w : World) (v : Value) (r : List Val) : Prop := w.ownsRow w0.heap.size 25 3 v r.length (cellsOf r)

set_option maxHeartbeats 1000000 in
theorem sclone_any {A : Option Addr} {r : List Val} {ca : Nat} (w : World) (hr : RowAt w A r) (hn : A = none → ca = 0) (hl : r.length ≤ 1000000000) :
    Calls Tryd.prog 72 #[.slice A r.length ca] w fun e w' => ∃ v, e = .returned v ∧ Owns w w' v r ∧ Below w.heap.size w w' := by
  obtain ⟨i0, hi, hz0, hz1, hz2⟩ := info_parts info_val
  cases A with
  | none =>
    have hr0 : r = [] := by
      cases r with
      | nil => rfl
      | cons u r =>
        obtain ⟨b, o, hA, _⟩ := hr (by simp)
        cases hA
    subst hr0
    obtain rfl := hn rfl
    clear hr hn
    have heq := fun wx : World => Lib.run_eql_slice_nil (P := Tryd.prog) wx 43 25 none 0 0 0 0 Tryd.underlying43
    go_enter Tryd.func72, Tryd.ntmps72
    go_wp2
    go_ret
    exact ⟨_, rfl, ⟨by simp [cellsOf], .inl ⟨rfl, rfl⟩⟩, Below.refl _ _⟩
  | some ad =>
    have hnews : ∀ j c, (cellsOf r)[j]? = some c → ∀ ob, (w.alloc ob).cell? (ad.add j) = some c := by
      intro j c hj ob
      have hne : r ≠ [] := fun e => by subst e; simp [cellsOf] at hj
      obtain ⟨b, o, hA, hc⟩ := hr hne
      obtain rfl := Option.some.inj hA
      have := RowAt.news hc j c hj
      rw [World.cell?_alloc_lt _ _ _ (cell_lt this)]
      exact this
    have HN := Lib.hid hnews
    clear hnews hr hn
    have heq := fun wx : World => Lib.run_eql_slice_nil (P := Tryd.prog) wx 43 25 (some ad) r.length ca 0 0 Tryd.underlying43
    have hown0 := World.ownsRow_lit (e := 25) (size := 3) (base := w.heap.size) w #[] 0 (Nat.le_refl _) (by omega) (by simp)
    go_enter Tryd.func72, Tryd.ntmps72
    go_wp2_with (at_builtin; refine wpList_append_own_at _ rfl _ _ 43 rfl w.heap.size 25 i0 _ 3 32 Tryd.underlying43 hi hz0 hz1 hz2 rfl (by omega) _ 0 [] rfl hown0 ad r.length ca (cellsOf r) rfl (cellsOf_length r) (fun j u hu => HN.out j u hu _) (cellsOf_one r) (by unfold maxLen; omega) (by omega) (by simp) ?_; intro v' w1 hown1 hgrow1 _ hat1)
    go_ret
    refine ⟨v', rfl, by unfold Owns; simpa using hown1, ?_⟩
    have hgrow2 : (w.alloc (.cells #[] 25)).grownBy w1 (some w.heap.size) := hgrow1
    exact (below_alloc _).grown hgrow2 (by simp) (fun k hk => by injection hk with hk; omega)

theorem clone_any {A : Option Addr} {r : List Val} {ca : Nat} (w : World) (hr : RowAt w A r) (hn : A = none → ca = 0) (hl : r.length ≤ 1000000000) :
    Calls Tryd.prog 50 #[.slice A r.length ca] w fun e w' => ∃ v, e = .returned v ∧ Owns w w' v r ∧ Below w.heap.size w w' := by
  go_enter Tryd.func50, Tryd.ntmps50
  go_wp2_with fail
  refine (sclone_any w hr hn hl).mono ?_; rintro e w' ⟨v, rfl, hown, hb⟩
  go_wp2_with fail
  go_ret
  exact ⟨v, rfl, hown, hb⟩
end Go.Proofs.YtghpildnajdlpaaDoor
