/-
  Arguments, opened: rows behind one another, a claim, tables, claims behind one another that read as data lie in memory as the walks ask.
-/
import Derived.Test.YtghpildnajdlpaaDoorOpenP
import Derived.Test.YtghpildnajdlpaaDoorClmMem
import Derived.Test.YtghpildnajdlpaaDoorClmMay
namespace Go.Proofs.YtghpildnajdlpaaDoor
open Go.RowKit Go.ChangeShapes Go.WideShapes Go.ChangeAt Go.Deep

theorem cRow : Tryd.prog.cellsOf 43 = 1 := by kernel_rfl
theorem cMode : Tryd.prog.cellsOf 23 = 1 := by kernel_rfl
theorem cIms : Tryd.prog.cellsOf 26 = 1 := by kernel_rfl
theorem cClm : Tryd.prog.cellsOf 31 = 16 := by kernel_rfl
theorem add_nil {a : Addr} {j : Nat} (h : a.spot = none) : a.add j = ⟨a.block, a.off + j, none⟩ := by
  obtain ⟨b, o, s⟩ := a
  obtain rfl : s = none := h
  exact paddr b o j
section
variable {H : Type} {enc : TypeId × Value → H} {w : World} {base : Nat} {spare : Nat → Bool} {held : Bool}
/-- Rows behind one another that read. -/
theorem open_images {fuel : Nat} {cs : List Value} {x : DataW H × List MemPlace} (h : DataW.trod enc Tryd.prog w base spare held fuel 26 cs = some x) :
    ∃ A ca l, cs = [.slice A l.length ca] ∧ ImgsAt w A ca l ∧ ∀ r ∈ l, Fit r := by
  cases fuel with
  | zero => simp [DataW.trod] at h
  | succ fuel =>
  rcases slice_elems Tryd.underlying26 h with rfl | ⟨a, len, cap, rfl, _, hlc, hi⟩
  · exact ⟨none, 0, [], rfl, ImgsAt.nil w, fun r hr => by simp at hr⟩
  · obtain ⟨l, hl, hp⟩ := choose_list (P := fun i (r : List Val) => ∃ A' ca', w.cell? (a.add i) = some (.slice A' r.length ca') ∧ RowAt w A' r ∧ (A' = none → ca' = 0) ∧ Fit r) len (fun i hil => by
      obtain ⟨cs', y, hc, ht⟩ := hi i hil
      rw [cRow] at hc
      obtain ⟨A', ca', r, rfl, h1, h2, h3⟩ := open_row ht
      obtain ⟨_, _, hat⟩ := World.cells?_some hc
      have h0 := hat 0 (by omega)
      rw [p_add_add, Nat.mul_one] at h0
      exact ⟨r, A', ca', h0, h1, h3, h2⟩)
    subst hl
    refine ⟨some a, cap, l, rfl, ⟨⟨fun e => (by cases e), hlc⟩, fun hne => ?_⟩, fun r hr => ?_⟩
    · have hp0 : 0 < l.length := List.length_pos_iff.2 hne
      obtain ⟨_, _, h0, _⟩ := hp 0 _ (List.getElem?_eq_getElem hp0)
      have hspot := spot_none (by omega) h0
      obtain ⟨b, o, s⟩ := a
      obtain rfl : s = none := hspot
      refine ⟨b, o, rfl, fun i r hr => ?_⟩
      obtain ⟨A', ca', h0, h1, h2, _⟩ := hp i r hr
      rw [paddr] at h0
      exact ⟨A', ca', h0, h1, h2⟩
    · obtain ⟨i, hi2⟩ := List.mem_iff_getElem?.1 hr
      obtain ⟨_, _, _, _, _, h⟩ := hp i r hi2
      exact h
/-- Tables behind one another that read. -/
theorem open_tables {fuel : Nat} {cs : List Value} {x : DataW H × List MemPlace} (h : DataW.trod enc Tryd.prog w base spare held fuel 22 cs = some x) :
    ∃ A ca l, cs = [.slice A l.length ca] ∧ TabsAt w A l := by
  cases fuel with
  | zero => simp [DataW.trod] at h
  | succ fuel =>
  rcases slice_elems Tryd.underlying22 h with rfl | ⟨a, len, cap, rfl, _, hlc, hi⟩
  · exact ⟨none, 0, [], rfl, fun e => absurd rfl e⟩
  · obtain ⟨l, hl, hp⟩ := choose_list (P := fun i (t : List Bool) => ∃ A' ca', w.cell? (a.add i) = some (.slice A' t.length ca') ∧ ColsAt w A' t) len (fun i hil => by
      obtain ⟨cs', y, hc, ht⟩ := hi i hil
      rw [cTable] at hc
      obtain ⟨xs, n, _, _, hl0, hxl, hg⟩ := DataW.trod_struct Tryd.underlying50 ht
      obtain ⟨hlen, _, hat⟩ := World.cells?_some hc
      rw [cTable] at hl0
      match cs', hl0 with
      | [c0], _ =>
        match xs, hxl with
        | [y0], _ =>
          have h0 : DataW.trod enc Tryd.prog w base spare held n 48 ([c0].take (Tryd.prog.cellsOf 48)) = some y0 := hg 0 _ rfl
          rw [cCols] at h0
          obtain ⟨A', ca', t, e0, h1⟩ := open_cols h0
          simp at e0; subst e0
          have h0 := hat 0 (by omega)
          rw [p_add_add, Nat.mul_one] at h0
          exact ⟨t, A', ca', h0, h1⟩)
    subst hl
    refine ⟨some a, cap, l, rfl, fun hne => ?_⟩
    have hp0 : 0 < l.length := List.length_pos_iff.2 hne
    obtain ⟨_, _, h0, _⟩ := hp 0 _ (List.getElem?_eq_getElem hp0)
    have hspot := spot_none (by omega) h0
    obtain ⟨b, o, s⟩ := a
    obtain rfl : s = none := hspot
    refine ⟨b, o, rfl, fun i r hr => ?_⟩
    obtain ⟨A', ca', h0, h1⟩ := hp i r hr
    rw [paddr] at h0
    exact ⟨A', ca', h0, h1⟩
/-- A claim that reads. -/
theorem open_claim {fuel : Nat} {cs : List Value} {x : DataW H × List MemPlace} (h : DataW.trod enc Tryd.prog w base spare held fuel 31 cs = some x) :
    ∃ (c : Cl) (A : Option Addr) (ca : Nat) (P : Option Addr) (pa : Nat), cs = c.cells A ca P pa ∧ c.At w A ca P pa ∧ ∀ r ∈ c.im, Fit r := by
  obtain ⟨xs, n, _, _, hl, hxl, hf⟩ := DataW.trod_struct Tryd.underlying31 h
  rw [cClm] at hl
  match cs, hl with
  | [c0, c1, c2, c3, c4, c5, c6, c7, c8, c9, c10, c11, c12, c13, c14, c15], _ =>
    match xs, hxl with
    | [y0, y1, y2, y3, y4, y5], _ =>
      have h0 : DataW.trod enc Tryd.prog w base spare held n 3 ([c0, c1, c2, c3, c4, c5, c6, c7, c8, c9, c10, c11, c12, c13, c14, c15].take (Tryd.prog.cellsOf 3)) = some y0 := hf 0 _ rfl
      have h1 : DataW.trod enc Tryd.prog w base spare held n 3 ([c1, c2, c3, c4, c5, c6, c7, c8, c9, c10, c11, c12, c13, c14, c15].take (Tryd.prog.cellsOf 3)) = some y1 := hf 1 _ rfl
      have h2 : DataW.trod enc Tryd.prog w base spare held n 23 ([c2, c3, c4, c5, c6, c7, c8, c9, c10, c11, c12, c13, c14, c15].take (Tryd.prog.cellsOf 23)) = some y2 := hf 2 _ rfl
      have h3 : DataW.trod enc Tryd.prog w base spare held n 25 ([c3, c4, c5, c6, c7, c8, c9, c10, c11, c12, c13, c14, c15].take (Tryd.prog.cellsOf 25)) = some y3 := hf 3 _ rfl
      have h4 : DataW.trod enc Tryd.prog w base spare held n 26 ([c6, c7, c8, c9, c10, c11, c12, c13, c14, c15].take (Tryd.prog.cellsOf 26)) = some y4 := hf 4 _ rfl
      have h5 : DataW.trod enc Tryd.prog w base spare held n 29 ([c7, c8, c9, c10, c11, c12, c13, c14, c15].take (Tryd.prog.cellsOf 29)) = some y5 := hf 5 _ rfl
      rw [cInt] at h0 h1
      rw [cMode] at h2
      rw [cVal] at h3
      rw [cIms] at h4
      rw [cPr] at h5
      obtain ⟨z0, e0, _⟩ := DataW.trod_int Tryd.underlying3 h0
      obtain ⟨z1, e1, _⟩ := DataW.trod_int Tryd.underlying3 h1
      obtain ⟨z2, e2, _⟩ := DataW.trod_int Tryd.underlying23 h2
      obtain ⟨u, e3, _⟩ := open_val h3
      obtain ⟨A, ca, l, e4, hi, hfit⟩ := open_images h4
      obtain ⟨p, P, pa, e5, hp⟩ := open_pred n h5
      simp at e0 e1 e2 e3 e4 e5
      obtain ⟨rfl, rfl, rfl⟩ := e3
      obtain ⟨rfl, rfl, rfl, rfl, rfl, rfl, rfl, rfl, rfl⟩ := e5
      subst e0; subst e1; subst e2; subst e4
      exact ⟨⟨z0, z1, z2, u, l, p⟩, A, ca, P, pa, rfl, ⟨hi, hp⟩, hfit⟩
end

/-- Claims lie behind an address, sixteen cells each. -/
def ClsAt (W : World) (A : Option Addr) (l : List Cl) : Prop := l ≠ [] → ∃ b o, A = some ⟨b, o, none⟩ ∧ ∀ (i : Nat) (c : Cl), l[i]? = some c → ∃ A' ca' P' pa', W.rangeAt b (o + i * 16) (c.cells A' ca' P' pa') ∧ c.At W A' ca' P' pa'
theorem open_claims {H : Type} {enc : TypeId × Value → H} {w : World} {base : Nat} {spare : Nat → Bool} {held : Bool} {fuel : Nat} {cs : List Value} {x : DataW H × List MemPlace} (h : DataW.trod enc Tryd.prog w base spare held fuel 39 cs = some x) :
    ∃ A ca l, cs = [.slice A l.length ca] ∧ ClsAt w A l ∧ ∀ c ∈ l, ∀ r ∈ c.im, Fit r := by
  cases fuel with
  | zero => simp [DataW.trod] at h
  | succ fuel =>
  rcases slice_elems Tryd.underlying39 h with rfl | ⟨a, len, cap, rfl, _, hlc, hi⟩
  · exact ⟨none, 0, [], rfl, fun e => absurd rfl e, fun c hc => by simp at hc⟩
  · obtain ⟨l, hl, hp⟩ := choose_list (P := fun i (c : Cl) => (∃ A' ca' P' pa', (∀ j v, (c.cells A' ca' P' pa')[j]? = some v → w.cell? (a.add (i * 16 + j)) = some v) ∧ c.At w A' ca' P' pa') ∧ ∀ r ∈ c.im, Fit r) len (fun i hil => by
      obtain ⟨cs', y, hc, ht⟩ := hi i hil
      rw [cClm] at hc
      obtain ⟨c, A', ca', P', pa', rfl, h1, h2⟩ := open_claim ht
      obtain ⟨_, _, hat⟩ := World.cells?_some hc
      refine ⟨c, ⟨A', ca', P', pa', fun j v hv => ?_, h1⟩, h2⟩
      have hj : j < 16 := (List.getElem?_eq_some_iff.1 hv).1
      have h0 := hat j (by omega)
      rw [p_add_add] at h0
      rw [h0, ← hv])
    subst hl
    refine ⟨some a, cap, l, rfl, fun hne => ?_, fun c hc => ?_⟩
    · have hp0 : 0 < l.length := List.length_pos_iff.2 hne
      obtain ⟨⟨_, _, _, _, h0, _⟩, _⟩ := hp 0 _ (List.getElem?_eq_getElem hp0)
      have hspot := spot_none (by omega) (h0 0 _ rfl)
      obtain ⟨b, o, s⟩ := a
      obtain rfl : s = none := hspot
      refine ⟨b, o, rfl, fun i c hc => ?_⟩
      obtain ⟨⟨A', ca', P', pa', h0, h1⟩, _⟩ := hp i c hc
      exact ⟨A', ca', P', pa', fun j v hv => by have := h0 j v hv; rwa [paddr, ← Nat.add_assoc] at this, h1⟩
    · obtain ⟨i, hi2⟩ := List.mem_iff_getElem?.1 hc
      exact (hp i c hi2).2
variable {H : Type} {enc : TypeId × Value → H} {W : World}
theorem arg_claim {r : Reach} {b0 : Nat} {v : Value} {d : DataW H} {p : List MemPlace} (hv : Value.okWide Tryd.prog W r b0 31 v) (h : DataW.Trod enc Tryd.prog W 0 (fun _ => true) true 31 v d p) :
    ∃ (c : Cl) (A : Option Addr) (ca : Nat) (P : Option Addr) (pa : Nat), v = c.arg A ca P pa ∧ c.At W A ca P pa ∧ ∀ r ∈ c.im, ∀ u ∈ r, u.s.size ≤ maxLen := by
  obtain ⟨cs, rfl, hsz⟩ := okWide_struct Tryd.underlying31 hv
  obtain ⟨l⟩ := cs
  obtain ⟨fuel, hf⟩ := h
  obtain ⟨c, A, ca, P, pa, hcs, h1, h2⟩ := open_claim hf
  have hcs : l = c.cells A ca P pa := hcs
  exact ⟨c, A, ca, P, pa, by rw [hcs]; rfl, h1, h2⟩
theorem arg_tables {r : Reach} {b0 : Nat} {v : Value} {d : DataW H} {p : List MemPlace} (hv : Value.okWide Tryd.prog W r b0 22 v) (h : DataW.Trod enc Tryd.prog W 0 (fun _ => true) true 22 v d p) :
    ∃ A ca l, v = .slice A l.length ca ∧ TabsAt W A l := by
  obtain ⟨a0, len, cap, rfl⟩ := okWide_slice Tryd.underlying22 hv
  obtain ⟨fuel, hf⟩ := h
  obtain ⟨A, ca, l, hcs, h1⟩ := open_tables hf
  exact ⟨A, ca, l, by simpa [Value.cells] using hcs, h1⟩
theorem arg_claims {r : Reach} {b0 : Nat} {v : Value} {d : DataW H} {p : List MemPlace} (hv : Value.okWide Tryd.prog W r b0 39 v) (h : DataW.Trod enc Tryd.prog W 0 (fun _ => true) true 39 v d p) :
    ∃ A ca l, v = .slice A l.length ca ∧ ClsAt W A l ∧ ∀ c ∈ l, ∀ r ∈ c.im, ∀ u ∈ r, u.s.size ≤ maxLen := by
  obtain ⟨a0, len, cap, rfl⟩ := okWide_slice Tryd.underlying39 hv
  obtain ⟨fuel, hf⟩ := h
  obtain ⟨A, ca, l, hcs, h1, h2⟩ := open_claims hf
  exact ⟨A, ca, l, by simpa [Value.cells] using hcs, h1, h2⟩
end Go.Proofs.YtghpildnajdlpaaDoor
