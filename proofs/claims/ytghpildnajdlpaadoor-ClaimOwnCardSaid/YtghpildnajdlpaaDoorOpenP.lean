/-
  Arguments, opened: a table, a row, a value, a predicate that read as data lie in memory as the walks ask.
-/
import Derived.Test.YtghpildnajdlpaaDoorPrSize
import Derived.Test.YtghpildnajdlpaaDoorRowAt
import Derived.Test.YtghpildnajdlpaaDoorRow
import Derived.Deep.Slices
namespace Go.Proofs.YtghpildnajdlpaaDoor
open Go.RowKit Go.ChangeShapes Go.WideShapes Go.ChangeAt Go.Deep

theorem cVal : Tryd.prog.cellsOf 25 = 3 := by kernel_rfl
theorem cBool : Tryd.prog.cellsOf 4 = 1 := by kernel_rfl
theorem cInt : Tryd.prog.cellsOf 3 = 1 := by kernel_rfl
theorem cInt64 : Tryd.prog.cellsOf 2 = 1 := by kernel_rfl
theorem cStr : Tryd.prog.cellsOf 9 = 1 := by kernel_rfl
theorem cPr : Tryd.prog.cellsOf 29 = 9 := by kernel_rfl
theorem cPrs : Tryd.prog.cellsOf 27 = 1 := by kernel_rfl
theorem cTable : Tryd.prog.cellsOf 50 = 1 := by kernel_rfl
theorem cCols : Tryd.prog.cellsOf 48 = 1 := by kernel_rfl

/-- All of a row's texts are of a length that an int holds. -/
def Fit (r : List Val) : Prop := ∀ u ∈ r, u.s.size ≤ maxLen
theorem p_add_add (a : Addr) (i j : Nat) : (a.add i).add j = a.add (i + j) := add_add a i j
theorem choose_list {α : Type} {P : Nat → α → Prop} : ∀ n, (∀ i, i < n → ∃ a, P i a) → ∃ l : List α, l.length = n ∧ ∀ i a, l[i]? = some a → P i a
  | 0, _ => ⟨[], rfl, fun i a h => by simp at h⟩
  | n + 1, h => by
    obtain ⟨l, hl, hp⟩ := choose_list n (fun i hi => h i (by omega))
    obtain ⟨a, ha⟩ := h n (by omega)
    refine ⟨l ++ [a], by simp [hl], fun i b hb => ?_⟩
    rw [List.getElem?_append] at hb
    split at hb
    · exact hp i b hb
    · rename_i hi
      have : i = n := by
        have := (List.getElem?_eq_some_iff.1 hb).1
        simp at this; omega
      subst this
      simp [hl] at hb
      exact hb ▸ ha

section
variable {H : Type} {enc : TypeId × Value → H} {w : World} {base : Nat} {spare : Nat → Bool} {held : Bool}

theorem spot_none {a : Addr} {j : Nat} {v : Value} (hj : j = 0) (h : w.cell? (a.add j) = some v) : a.spot = none := by
  subst hj
  have := World.cell?_spot h
  simpa [Addr.add] using this

/-- A slice that reads: its elements, each with less fuel. -/
theorem slice_elems {P : Program} {t e : TypeId} {fuel : Nat} {cs : List Value} {x : DataW H × List MemPlace} (ht : P.underlying t = some (.slice e)) (h : DataW.trod enc P w base spare held (fuel + 1) t cs = some x) :
    cs = [.slice none 0 0] ∨ ∃ (a : Addr) (len cap : Nat), cs = [.slice (some a) len cap] ∧ cap ≤ maxLen ∧ len ≤ cap ∧ ∀ i, i < len → ∃ cs' y, w.cells? base (a.add (i * P.cellsOf e)) (P.cellsOf e) = some cs' ∧ DataW.trod enc P w base spare held fuel e cs' = some y := by
  rcases DataW.trod_slice ht h with ⟨rfl, _⟩ | ⟨a, len, cap, elems, rest, n, hn, rfl, _, _, hl, hm, hlen, hel, _, _⟩
  · exact .inl rfl
  · refine .inr ⟨a, len, cap, rfl, hm, hl, fun i hi => ?_⟩
    obtain rfl : fuel = n := by omega
    have := hel i hi
    rw [List.getElem?_eq_getElem (by omega)] at this
    obtain ⟨cs', h1, h2⟩ := Option.bind_eq_some_iff.1 this
    exact ⟨cs', _, h1, h2⟩

/-- A value that reads. -/
theorem open_val {fuel : Nat} {cs : List Value} {x : DataW H × List MemPlace} (h : DataW.trod enc Tryd.prog w base spare held fuel 25 cs = some x) :
    ∃ u : Val, cs = [.bool u.t, .int .i64 u.n, .string u.s] ∧ u.s.size ≤ maxLen := by
  obtain ⟨xs, n, _, _, hl, hxl, hf⟩ := DataW.trod_struct Tryd.underlying25 h
  rw [cVal] at hl
  match cs, hl with
  | [c0, c1, c2], _ =>
    match xs, hxl with
    | [y0, y1, y2], _ =>
      have h0 : DataW.trod enc Tryd.prog w base spare held n 4 ([c0, c1, c2].take (Tryd.prog.cellsOf 4)) = some y0 := hf 0 _ rfl
      have h1 : DataW.trod enc Tryd.prog w base spare held n 2 ([c1, c2].take (Tryd.prog.cellsOf 2)) = some y1 := hf 1 _ rfl
      have h2 : DataW.trod enc Tryd.prog w base spare held n 9 ([c2].take (Tryd.prog.cellsOf 9)) = some y2 := hf 2 _ rfl
      rw [cBool] at h0
      rw [cInt64] at h1
      rw [cStr] at h2
      obtain ⟨b, hb, _⟩ := DataW.trod_bool Tryd.underlying4 h0
      obtain ⟨z, hz, _, _⟩ := DataW.trod_int Tryd.underlying2 h1
      obtain ⟨s, hs, _, hsz⟩ := DataW.trod_string Tryd.underlying9 h2
      simp at hb hz hs
      subst hb; subst hz; subst hs
      exact ⟨⟨b, z, s⟩, rfl, hsz⟩

/-- A row that reads. -/
theorem open_row {fuel : Nat} {cs : List Value} {x : DataW H × List MemPlace} (h : DataW.trod enc Tryd.prog w base spare held fuel 43 cs = some x) :
    ∃ A ca r, cs = [.slice A r.length ca] ∧ RowAt w A r ∧ Fit r ∧ (A = none → ca = 0) := by
  cases fuel with
  | zero => simp [DataW.trod] at h
  | succ fuel =>
  rcases slice_elems Tryd.underlying43 h with rfl | ⟨a, len, cap, rfl, _, _, hi⟩
  · exact ⟨none, 0, [], rfl, fun e => absurd rfl e, fun u hu => by simp at hu, fun _ => rfl⟩
  · obtain ⟨r, hr, hp⟩ := choose_list (P := fun i (u : Val) => (w.cell? (a.add (i * 3)) = some (.bool u.t) ∧ w.cell? (a.add (i * 3 + 1)) = some (.int .i64 u.n) ∧ w.cell? (a.add (i * 3 + 2)) = some (.string u.s)) ∧ u.s.size ≤ maxLen) len (fun i hil => by
      obtain ⟨cs', y, hc, ht⟩ := hi i hil
      rw [cVal] at hc
      obtain ⟨u, rfl, hu⟩ := open_val ht
      obtain ⟨_, _, hat⟩ := World.cells?_some hc
      have h0 := hat 0 (by omega)
      have h1 := hat 1 (by omega)
      have h2 := hat 2 (by omega)
      rw [p_add_add] at h0 h1 h2
      exact ⟨u, ⟨h0, h1, h2⟩, hu⟩)
    subst hr
    refine ⟨some a, cap, r, rfl, fun hne => ?_, fun u hu => ?_, fun e => (by cases e)⟩
    · have hp0 : 0 < r.length := by
        rcases Nat.eq_zero_or_pos r.length with h0 | h0
        · exact absurd (List.eq_nil_of_length_eq_zero h0) hne
        · exact h0
      have hspot := spot_none (by omega) (hp 0 _ (List.getElem?_eq_getElem hp0)).1.1
      obtain ⟨b, o, s⟩ := a
      obtain rfl : s = none := hspot
      refine ⟨b, o, rfl, fun i u hu => ?_⟩
      obtain ⟨⟨h0, h1, h2⟩, _⟩ := hp i u hu
      rw [paddr] at h0 h1 h2
      exact ⟨h0, h1, h2⟩
    · obtain ⟨i, hi2⟩ := List.mem_iff_getElem?.1 hu
      exact (hp i u hi2).2

/-- Columns that read. -/
theorem open_cols {fuel : Nat} {cs : List Value} {x : DataW H × List MemPlace} (h : DataW.trod enc Tryd.prog w base spare held fuel 48 cs = some x) :
    ∃ A ca c, cs = [.slice A c.length ca] ∧ ColsAt w A c := by
  cases fuel with
  | zero => simp [DataW.trod] at h
  | succ fuel =>
  rcases slice_elems Tryd.underlying48 h with rfl | ⟨a, len, cap, rfl, _, _, hi⟩
  · exact ⟨none, 0, [], rfl, fun e => absurd rfl e⟩
  · obtain ⟨r, hr, hp⟩ := choose_list (P := fun i (b : Bool) => w.cell? (a.add i) = some (.bool b)) len (fun i hil => by
      obtain ⟨cs', y, hc, ht⟩ := hi i hil
      rw [cBool] at hc
      obtain ⟨b, rfl, _⟩ := DataW.trod_bool Tryd.underlying4 ht
      obtain ⟨_, _, hat⟩ := World.cells?_some hc
      have h0 := hat 0 (by omega)
      rw [p_add_add, Nat.mul_one] at h0
      exact ⟨b, h0⟩)
    subst hr
    refine ⟨some a, cap, r, rfl, fun hne => ?_⟩
    have hp0 : 0 < r.length := by
      rcases Nat.eq_zero_or_pos r.length with h0 | h0
      · exact absurd (List.eq_nil_of_length_eq_zero h0) hne
      · exact h0
    have hspot := spot_none (by omega) (hp 0 _ (List.getElem?_eq_getElem hp0))
    obtain ⟨b, o, s⟩ := a
    obtain rfl : s = none := hspot
    refine ⟨b, o, rfl, fun i u hu => ?_⟩
    have h0 := hp i u hu
    rw [paddr] at h0
    exact h0

/-- A predicate that reads. -/
theorem open_pred : ∀ (fuel : Nat) {cs : List Value} {x : DataW H × List MemPlace}, DataW.trod enc Tryd.prog w base spare held fuel 29 cs = some x →
    ∃ (p : Pr) (A : Option Addr) (ca : Nat), cs = [.int .i64 p.op, .int .i64 p.col, .bool p.v.t, .int .i64 p.v.n, .string p.v.s, .bool p.w.t, .int .i64 p.w.n, .string p.w.s, .slice A p.l.length ca] ∧ p.At w A ca := by
  intro fuel
  induction fuel using Nat.strongRecOn with
  | _ fuel ih =>
  intro cs x h
  obtain ⟨xs, n, hn, _, hl, hxl, hf⟩ := DataW.trod_struct Tryd.underlying29 h
  rw [cPr] at hl
  match cs, hl with
  | [c0, c1, c2, c3, c4, c5, c6, c7, c8], _ =>
    match xs, hxl with
    | [y0, y1, y2, y3, y4], _ =>
      have h0 : DataW.trod enc Tryd.prog w base spare held n 3 ([c0, c1, c2, c3, c4, c5, c6, c7, c8].take (Tryd.prog.cellsOf 3)) = some y0 := hf 0 _ rfl
      have h1 : DataW.trod enc Tryd.prog w base spare held n 3 ([c1, c2, c3, c4, c5, c6, c7, c8].take (Tryd.prog.cellsOf 3)) = some y1 := hf 1 _ rfl
      have h2 : DataW.trod enc Tryd.prog w base spare held n 25 ([c2, c3, c4, c5, c6, c7, c8].take (Tryd.prog.cellsOf 25)) = some y2 := hf 2 _ rfl
      have h3 : DataW.trod enc Tryd.prog w base spare held n 25 ([c5, c6, c7, c8].take (Tryd.prog.cellsOf 25)) = some y3 := hf 3 _ rfl
      have h4 : DataW.trod enc Tryd.prog w base spare held n 27 ([c8].take (Tryd.prog.cellsOf 27)) = some y4 := hf 4 _ rfl
      rw [cInt] at h0 h1
      rw [cVal] at h2 h3
      rw [cPrs] at h4
      obtain ⟨z0, e0, _⟩ := DataW.trod_int Tryd.underlying3 h0
      obtain ⟨z1, e1, _⟩ := DataW.trod_int Tryd.underlying3 h1
      obtain ⟨u, e2, _⟩ := open_val h2
      obtain ⟨u', e3, _⟩ := open_val h3
      simp at e0 e1 e2 e3
      obtain ⟨f2, f3, f4⟩ := e2
      obtain ⟨f5, f6, f7⟩ := e3
      subst e0; subst e1; subst f2; subst f3; subst f4; subst f5; subst f6; subst f7
      cases n with
      | zero => simp [DataW.trod] at h4
      | succ n =>
      rcases slice_elems Tryd.underlying27 h4 with e4 | ⟨a, len, cap, e4, _, _, hi⟩
      · simp at e4; subst e4
        exact ⟨.mk z0 z1 u u' [], none, 0, rfl, Pr.at_mk.2 ⟨⟨fun _ => rfl, Nat.le_refl _⟩, fun h => absurd rfl h⟩⟩
      · simp at e4; subst e4
        obtain ⟨l, hl2, hp⟩ := choose_list (P := fun i (q : Pr) => ∃ A' ca', (w.cell? (a.add (i * 9)) = some (.int .i64 q.op) ∧ w.cell? (a.add (i * 9 + 1)) = some (.int .i64 q.col) ∧ w.cell? (a.add (i * 9 + 2)) = some (.bool q.v.t) ∧ w.cell? (a.add (i * 9 + 3)) = some (.int .i64 q.v.n) ∧ w.cell? (a.add (i * 9 + 4)) = some (.string q.v.s) ∧
            w.cell? (a.add (i * 9 + 5)) = some (.bool q.w.t) ∧ w.cell? (a.add (i * 9 + 6)) = some (.int .i64 q.w.n) ∧ w.cell? (a.add (i * 9 + 7)) = some (.string q.w.s) ∧ w.cell? (a.add (i * 9 + 8)) = some (.slice A' q.l.length ca')) ∧ q.At w A' ca') len (fun i hil => by
          obtain ⟨cs', y, hc, ht⟩ := hi i hil
          rw [cPr] at hc
          obtain ⟨q, A', ca', rfl, hq⟩ := ih n (by omega) ht
          obtain ⟨_, _, hat⟩ := World.cells?_some hc
          have g0 := hat 0 (by omega)
          have g1 := hat 1 (by omega)
          have g2 := hat 2 (by omega)
          have g3 := hat 3 (by omega)
          have g4 := hat 4 (by omega)
          have g5 := hat 5 (by omega)
          have g6 := hat 6 (by omega)
          have g7 := hat 7 (by omega)
          have g8 := hat 8 (by omega)
          rw [p_add_add] at g0 g1 g2 g3 g4 g5 g6 g7 g8
          exact ⟨q, A', ca', ⟨g0, g1, g2, g3, g4, g5, g6, g7, g8⟩, hq⟩)
        subst hl2
        refine ⟨.mk z0 z1 u u' l, some a, cap, rfl, Pr.at_mk.2 ⟨⟨fun e => (by cases e), by omega⟩, fun hne => ?_⟩⟩
        have hp0 : 0 < l.length := by
          rcases Nat.eq_zero_or_pos l.length with h0 | h0
          · exact absurd (List.eq_nil_of_length_eq_zero h0) hne
          · exact h0
        obtain ⟨_, _, hq0, _⟩ := hp 0 _ (List.getElem?_eq_getElem hp0)
        have hspot := spot_none (by omega) hq0.1
        obtain ⟨b, off, s⟩ := a
        obtain rfl : s = none := hspot
        refine ⟨b, off, rfl, fun i q hq => ?_⟩
        obtain ⟨A', ca', ⟨g0, g1, g2, g3, g4, g5, g6, g7, g8⟩, hqa⟩ := hp i q hq
        rw [paddr] at g0 g1 g2 g3 g4 g5 g6 g7 g8
        exact ⟨A', ca', ⟨g0, g1, g2, g3, g4, g5, g6, g7, g8⟩, hqa⟩
end

variable {H : Type} {enc : TypeId × Value → H} {W : World}
/-- The arguments, as values. -/
theorem arg_row {r : Reach} {b0 : Nat} {v : Value} {d : DataW H} {p : List MemPlace} (hv : Value.okWide Tryd.prog W r b0 43 v) (h : DataW.Trod enc Tryd.prog W 0 (fun _ => true) true 43 v d p) :
    ∃ A ca r, v = .slice A r.length ca ∧ RowAt W A r ∧ Fit r ∧ (A = none → ca = 0) := by
  obtain ⟨a0, len, cap, rfl⟩ := okWide_slice Tryd.underlying43 hv
  obtain ⟨fuel, hf⟩ := h
  obtain ⟨A, ca, r, hcs, h1, h2, h3⟩ := open_row hf
  exact ⟨A, ca, r, by simpa [Value.cells] using hcs, h1, h2, h3⟩
theorem arg_table {r : Reach} {b0 : Nat} {v : Value} {d : DataW H} {p : List MemPlace} (hv : Value.okWide Tryd.prog W r b0 50 v) (h : DataW.Trod enc Tryd.prog W 0 (fun _ => true) true 50 v d p) :
    ∃ A ca c, v = .agg #[.slice A c.length ca] ∧ ColsAt W A c := by
  obtain ⟨cs, rfl, hsz⟩ := okWide_struct Tryd.underlying50 hv
  obtain ⟨l⟩ := cs
  match l, hsz.trans cTable with
  | [c0], _ =>
    obtain ⟨fuel, hf⟩ := h
    obtain ⟨xs, n, _, _, _, hxl, hg⟩ := DataW.trod_struct Tryd.underlying50 hf
    match xs, hxl with
    | [y0], _ =>
      have h0 : DataW.trod enc Tryd.prog W 0 (fun _ => true) true n 48 ([c0].take (Tryd.prog.cellsOf 48)) = some y0 := hg 0 _ rfl
      rw [cCols] at h0
      obtain ⟨A, ca, c, hcs, h1⟩ := open_cols h0
      simp at hcs
      exact ⟨A, ca, c, by rw [hcs], h1⟩
theorem arg_val {r : Reach} {b0 : Nat} {v : Value} {d : DataW H} {p : List MemPlace} (hv : Value.okWide Tryd.prog W r b0 25 v) (h : DataW.Trod enc Tryd.prog W 0 (fun _ => true) true 25 v d p) :
    ∃ u : Val, v = .agg #[.bool u.t, .int .i64 u.n, .string u.s] ∧ u.s.size ≤ maxLen := by
  obtain ⟨cs, rfl, hsz⟩ := okWide_struct Tryd.underlying25 hv
  obtain ⟨l⟩ := cs
  obtain ⟨fuel, hf⟩ := h
  obtain ⟨u, hcs, hu⟩ := open_val hf
  exact ⟨u, by simpa [Value.cells] using hcs, hu⟩
theorem arg_pred {r : Reach} {b0 : Nat} {v : Value} {d : DataW H} {p : List MemPlace} (hv : Value.okWide Tryd.prog W r b0 29 v) (h : DataW.Trod enc Tryd.prog W 0 (fun _ => true) true 29 v d p) :
    ∃ (q : Pr) (A : Option Addr) (ca : Nat), v = q.arg A ca ∧ q.At W A ca := by
  obtain ⟨cs, rfl, hsz⟩ := okWide_struct Tryd.underlying29 hv
  obtain ⟨l⟩ := cs
  obtain ⟨fuel, hf⟩ := h
  obtain ⟨q, A, ca, hcs, hq⟩ := open_pred fuel hf
  exact ⟨q, A, ca, by simpa [Value.cells, Pr.arg] using hcs, hq⟩
end Go.Proofs.YtghpildnajdlpaaDoor
