/-
  Arguments, opened: a table, a row, an update, a value that read as data lie in memory as the walks ask.
-/
import Derived.Test.YtpgbngmekfakkaaAwake02
import Derived.Test.YtpgbngmekfakkaaRow
import Derived.Deep.Slices
namespace Go.Proofs.Ytpgbngmekfakkaa
open Go.RowKit Go.ChangeShapes Go.WideShapes Go.ChangeAt Go.Deep

theorem cVal : Try.prog.cellsOf 40 = 3 := by kernel_rfl
theorem cSet : Try.prog.cellsOf 42 = 7 := by kernel_rfl
theorem cTable : Try.prog.cellsOf 24 = 1 := by kernel_rfl
theorem cCols : Try.prog.cellsOf 22 = 1 := by kernel_rfl
theorem cBool : Try.prog.cellsOf 4 = 1 := by kernel_rfl
theorem cInt : Try.prog.cellsOf 3 = 1 := by kernel_rfl
theorem cInt64 : Try.prog.cellsOf 2 = 1 := by kernel_rfl
theorem cStr : Try.prog.cellsOf 9 = 1 := by kernel_rfl

section
variable {H : Type} {enc : TypeId × Value → H} {w : World} {base : Nat} {spare : Nat → Bool} {held : Bool}

/-- A value that reads. -/
theorem open_val {fuel : Nat} {cs : List Value} {x : DataW H × List MemPlace} (h : DataW.trod enc Try.prog w base spare held fuel 40 cs = some x) :
    ∃ u : Val, cs = [.bool u.t, .int .i64 u.n, .string u.s] ∧ Num.is u.n = true := by
  obtain ⟨xs, n, _, _, hl, hxl, hf⟩ := DataW.trod_struct Try.underlying40 h
  rw [cVal] at hl
  match cs, hl with
  | [c0, c1, c2], _ =>
    match xs, hxl with
    | [y0, y1, y2], _ =>
      have h0 : DataW.trod enc Try.prog w base spare held n 4 ([c0, c1, c2].take (Try.prog.cellsOf 4)) = some y0 := hf 0 _ rfl
      have h1 : DataW.trod enc Try.prog w base spare held n 2 ([c1, c2].take (Try.prog.cellsOf 2)) = some y1 := hf 1 _ rfl
      have h2 : DataW.trod enc Try.prog w base spare held n 9 ([c2].take (Try.prog.cellsOf 9)) = some y2 := hf 2 _ rfl
      rw [cBool] at h0
      rw [cInt64] at h1
      rw [cStr] at h2
      obtain ⟨b, hb, _⟩ := DataW.trod_bool Try.underlying4 h0
      obtain ⟨z, hz, _, hwf⟩ := DataW.trod_int Try.underlying2 h1
      obtain ⟨s, hs, _⟩ := DataW.trod_string Try.underlying9 h2
      simp at hb hz hs
      subst hb; subst hz; subst hs
      exact ⟨⟨b, z, s⟩, rfl, Num.is_iff.2 (bounds_i64 hwf)⟩

/-- A set that reads. -/
theorem open_set {fuel : Nat} {cs : List Value} {x : DataW H × List MemPlace} (h : DataW.trod enc Try.prog w base spare held fuel 42 cs = some x) :
    ∃ s : SetV, cs = [.int .i64 s.col, .int .i64 s.op, .int .i64 s.src, .int .i64 s.oth, .bool s.v.t, .int .i64 s.v.n, .string s.v.s] ∧ Num.is s.v.n = true := by
  obtain ⟨xs, n, _, _, hl, hxl, hf⟩ := DataW.trod_struct Try.underlying42 h
  rw [cSet] at hl
  match cs, hl with
  | [c0, c1, c2, c3, c4, c5, c6], _ =>
    match xs, hxl with
    | [y0, y1, y2, y3, y4], _ =>
      have h0 : DataW.trod enc Try.prog w base spare held n 3 ([c0, c1, c2, c3, c4, c5, c6].take (Try.prog.cellsOf 3)) = some y0 := hf 0 _ rfl
      have h1 : DataW.trod enc Try.prog w base spare held n 3 ([c1, c2, c3, c4, c5, c6].take (Try.prog.cellsOf 3)) = some y1 := hf 1 _ rfl
      have h2 : DataW.trod enc Try.prog w base spare held n 3 ([c2, c3, c4, c5, c6].take (Try.prog.cellsOf 3)) = some y2 := hf 2 _ rfl
      have h3 : DataW.trod enc Try.prog w base spare held n 3 ([c3, c4, c5, c6].take (Try.prog.cellsOf 3)) = some y3 := hf 3 _ rfl
      have h4 : DataW.trod enc Try.prog w base spare held n 40 ([c4, c5, c6].take (Try.prog.cellsOf 40)) = some y4 := hf 4 _ rfl
      rw [cInt] at h0 h1 h2 h3
      rw [cVal] at h4
      obtain ⟨z0, e0, _⟩ := DataW.trod_int Try.underlying3 h0
      obtain ⟨z1, e1, _⟩ := DataW.trod_int Try.underlying3 h1
      obtain ⟨z2, e2, _⟩ := DataW.trod_int Try.underlying3 h2
      obtain ⟨z3, e3, _⟩ := DataW.trod_int Try.underlying3 h3
      obtain ⟨u, e4, hu⟩ := open_val h4
      simp at e0 e1 e2 e3 e4
      obtain ⟨f4, f5, f6⟩ := e4
      subst e0; subst e1; subst e2; subst e3; subst f4; subst f5; subst f6
      exact ⟨⟨z0, z1, z2, z3, u⟩, rfl, hu⟩

theorem choose_list {α : Type} {P : Nat → α → Prop} : ∀ n, (∀ i, i < n → ∃ a, P i a) → ∃ l : List α, l.length = n ∧ ∀ i a, l[i]? = some a → P i a
  | 0, _ => ⟨[], rfl, fun i a h => by simp at h⟩
  | n + 1, h => by
    obtain ⟨l, hl, hp⟩ := choose_list n (fun i hi => h i (by omega))
    obtain ⟨a, ha⟩ := h n (by omega)
    refine ⟨l ++ [a], by simp [hl], fun i b hb => ?_⟩
    rw [List.getElem?_append] at hb
    split at hb
    · exact hp i b hb
    · rename_i hi
      have : i = n := by
        have := (List.getElem?_eq_some_iff.1 hb).1
        simp at this; omega
      subst this
      simp [hl] at hb
      exact hb ▸ ha
theorem spot_none {a : Addr} {j : Nat} {v : Value} (hj : j = 0) (h : w.cell? (a.add j) = some v) : a.spot = none := by
  subst hj
  have := World.cell?_spot h
  simpa [Addr.add] using this

/-- A row that reads. -/
theorem open_row {fuel : Nat} {cs : List Value} {x : DataW H × List MemPlace} (h : DataW.trod enc Try.prog w base spare held fuel 26 cs = some x) :
    ∃ A ca r, cs = [.slice A r.length ca] ∧ RowAt w A r ∧ Nums r ∧ (A = none → ca = 0) ∧ r.length ≤ maxLen := by
  rcases open_slice Try.underlying26 h with ⟨rfl, _⟩ | ⟨a, len, cap, m, n, D, Pl, rfl, _, hl, hm, hmm, _, hi⟩
  · exact ⟨none, 0, [], rfl, fun e => absurd rfl e, fun u hu => by simp at hu, fun _ => rfl, by simp⟩
  · have hle : len ≤ m := by rw [hmm]; split <;> omega
    obtain ⟨r, hr, hp⟩ := choose_list (P := fun i (u : Val) => (w.cell? (a.add (i * 3)) = some (.bool u.t) ∧ w.cell? (a.add (i * 3 + 1)) = some (.int .i64 u.n) ∧ w.cell? (a.add (i * 3 + 2)) = some (.string u.s)) ∧ Num.is u.n = true) len (fun i hil => by
      obtain ⟨cs', hc, ht⟩ := hi i (by omega)
      rw [cVal] at hc
      obtain ⟨u, rfl, hu⟩ := open_val ht
      obtain ⟨_, _, hat⟩ := World.cells?_some hc
      have h0 := hat 0 (by omega)
      have h1 := hat 1 (by omega)
      have h2 := hat 2 (by omega)
      rw [add_add] at h0 h1 h2
      exact ⟨u, ⟨h0, h1, h2⟩, hu⟩)
    subst hr
    refine ⟨some a, cap, r, rfl, fun hne => ?_, fun u hu => ?_, fun e => (by cases e), by omega⟩
    · have hp0 : 0 < r.length := by
        rcases Nat.eq_zero_or_pos r.length with h0 | h0
        · exact absurd (List.eq_nil_of_length_eq_zero h0) hne
        · exact h0
      have hspot := spot_none (by omega) (hp 0 _ (List.getElem?_eq_getElem hp0)).1.1
      obtain ⟨b, o, s⟩ := a
      obtain rfl : s = none := hspot
      refine ⟨b, o, rfl, fun i u hu => ?_⟩
      obtain ⟨⟨h0, h1, h2⟩, _⟩ := hp i u hu
      rw [add_mk] at h0 h1 h2
      exact ⟨h0, h1, h2⟩
    · obtain ⟨i, hi2⟩ := List.mem_iff_getElem?.1 hu
      exact (hp i u hi2).2

/-- An update that reads. -/
theorem open_sets {fuel : Nat} {cs : List Value} {x : DataW H × List MemPlace} (h : DataW.trod enc Try.prog w base spare held fuel 27 cs = some x) :
    ∃ A ca l, cs = [.slice A l.length ca] ∧ SetsAt w A l ∧ SetNums l ∧ (A = none → ca = 0) ∧ l.length ≤ maxLen := by
  rcases open_slice Try.underlying27 h with ⟨rfl, _⟩ | ⟨a, len, cap, m, n, D, Pl, rfl, _, hl, hm, hmm, _, hi⟩
  · exact ⟨none, 0, [], rfl, fun e => absurd rfl e, fun u hu => by simp at hu, fun _ => rfl, by simp⟩
  · have hle : len ≤ m := by rw [hmm]; split <;> omega
    obtain ⟨r, hr, hp⟩ := choose_list (P := fun i (s : SetV) => (w.cell? (a.add (i * 7)) = some (.int .i64 s.col) ∧ w.cell? (a.add (i * 7 + 1)) = some (.int .i64 s.op) ∧ w.cell? (a.add (i * 7 + 2)) = some (.int .i64 s.src) ∧ w.cell? (a.add (i * 7 + 3)) = some (.int .i64 s.oth) ∧
        w.cell? (a.add (i * 7 + 4)) = some (.bool s.v.t) ∧ w.cell? (a.add (i * 7 + 5)) = some (.int .i64 s.v.n) ∧ w.cell? (a.add (i * 7 + 6)) = some (.string s.v.s)) ∧ Num.is s.v.n = true) len (fun i hil => by
      obtain ⟨cs', hc, ht⟩ := hi i (by omega)
      rw [cSet] at hc
      obtain ⟨s, rfl, hu⟩ := open_set ht
      obtain ⟨_, _, hat⟩ := World.cells?_some hc
      have h0 := hat 0 (by omega)
      have h1 := hat 1 (by omega)
      have h2 := hat 2 (by omega)
      have h3 := hat 3 (by omega)
      have h4 := hat 4 (by omega)
      have h5 := hat 5 (by omega)
      have h6 := hat 6 (by omega)
      rw [add_add] at h0 h1 h2 h3 h4 h5 h6
      exact ⟨s, ⟨h0, h1, h2, h3, h4, h5, h6⟩, hu⟩)
    subst hr
    refine ⟨some a, cap, r, rfl, fun hne => ?_, fun u hu => ?_, fun e => (by cases e), by omega⟩
    · have hp0 : 0 < r.length := by
        rcases Nat.eq_zero_or_pos r.length with h0 | h0
        · exact absurd (List.eq_nil_of_length_eq_zero h0) hne
        · exact h0
      have hspot := spot_none (by omega) (hp 0 _ (List.getElem?_eq_getElem hp0)).1.1
      obtain ⟨b, o, s⟩ := a
      obtain rfl : s = none := hspot
      refine ⟨b, o, rfl, fun i u hu => ?_⟩
      obtain ⟨⟨h0, h1, h2, h3, h4, h5, h6⟩, _⟩ := hp i u hu
      rw [add_mk] at h0 h1 h2 h3 h4 h5 h6
      exact ⟨h0, h1, h2, h3, h4, h5, h6⟩
    · obtain ⟨i, hi2⟩ := List.mem_iff_getElem?.1 hu
      exact (hp i u hi2).2

/-- Columns that read. -/
theorem open_cols {fuel : Nat} {cs : List Value} {x : DataW H × List MemPlace} (h : DataW.trod enc Try.prog w base spare held fuel 22 cs = some x) :
    ∃ A ca c, cs = [.slice A c.length ca] ∧ ColsAt w A c ∧ c.length ≤ maxLen := by
  rcases open_slice Try.underlying22 h with ⟨rfl, _⟩ | ⟨a, len, cap, m, n, D, Pl, rfl, _, hl, hm, hmm, _, hi⟩
  · exact ⟨none, 0, [], rfl, fun e => absurd rfl e, by simp⟩
  · have hle : len ≤ m := by rw [hmm]; split <;> omega
    obtain ⟨r, hr, hp⟩ := choose_list (P := fun i (b : Bool) => w.cell? (a.add i) = some (.bool b)) len (fun i hil => by
      obtain ⟨cs', hc, ht⟩ := hi i (by omega)
      rw [cBool] at hc
      obtain ⟨b, rfl, _⟩ := DataW.trod_bool Try.underlying4 ht
      obtain ⟨_, _, hat⟩ := World.cells?_some hc
      have h0 := hat 0 (by omega)
      rw [add_add, Nat.mul_one] at h0
      exact ⟨b, h0⟩)
    subst hr
    refine ⟨some a, cap, r, rfl, fun hne => ?_, by omega⟩
    have hp0 : 0 < r.length := by
      rcases Nat.eq_zero_or_pos r.length with h0 | h0
      · exact absurd (List.eq_nil_of_length_eq_zero h0) hne
      · exact h0
    have hspot := spot_none (by omega) (hp 0 _ (List.getElem?_eq_getElem hp0))
    obtain ⟨b, o, s⟩ := a
    obtain rfl : s = none := hspot
    refine ⟨b, o, rfl, fun i u hu => ?_⟩
    have h0 := hp i u hu
    rw [add_mk] at h0
    exact h0
end

variable {H : Type} {enc : TypeId × Value → H} {W : World}
/-- The arguments, as values. -/
theorem arg_row {r : Reach} {b0 : Nat} {v : Value} {d : DataW H} {p : List MemPlace} (hv : Value.okWide Try.prog W r b0 26 v) (h : DataW.Trod enc Try.prog W 0 (fun _ => true) true 26 v d p) :
    ∃ A ca r, v = .slice A r.length ca ∧ RowAt W A r ∧ Nums r ∧ (A = none → ca = 0) ∧ r.length ≤ maxLen := by
  obtain ⟨a0, len, cap, rfl⟩ := okWide_slice Try.underlying26 hv
  obtain ⟨fuel, hf⟩ := h
  obtain ⟨A, ca, r, hcs, h1, h2, h3, h4⟩ := open_row hf
  exact ⟨A, ca, r, by simpa [Value.cells] using hcs, h1, h2, h3, h4⟩
theorem arg_sets {r : Reach} {b0 : Nat} {v : Value} {d : DataW H} {p : List MemPlace} (hv : Value.okWide Try.prog W r b0 27 v) (h : DataW.Trod enc Try.prog W 0 (fun _ => true) true 27 v d p) :
    ∃ A ca l, v = .slice A l.length ca ∧ SetsAt W A l ∧ SetNums l ∧ (A = none → ca = 0) ∧ l.length ≤ maxLen := by
  obtain ⟨a0, len, cap, rfl⟩ := okWide_slice Try.underlying27 hv
  obtain ⟨fuel, hf⟩ := h
  obtain ⟨A, ca, r, hcs, h1, h2, h3, h4⟩ := open_sets hf
  exact ⟨A, ca, r, by simpa [Value.cells] using hcs, h1, h2, h3, h4⟩
theorem arg_table {r : Reach} {b0 : Nat} {v : Value} {d : DataW H} {p : List MemPlace} (hv : Value.okWide Try.prog W r b0 24 v) (h : DataW.Trod enc Try.prog W 0 (fun _ => true) true 24 v d p) :
    ∃ A ca c, v = .agg #[.slice A c.length ca] ∧ ColsAt W A c ∧ c.length ≤ maxLen := by
  obtain ⟨cs, rfl, hsz⟩ := okWide_struct Try.underlying24 hv
  obtain ⟨l⟩ := cs
  match l, hsz.trans cTable with
  | [c0], _ =>
    obtain ⟨fuel, hf⟩ := h
    obtain ⟨xs, n, _, _, _, hxl, hg⟩ := DataW.trod_struct Try.underlying24 hf
    match xs, hxl with
    | [y0], _ =>
      have h0 : DataW.trod enc Try.prog W 0 (fun _ => true) true n 22 ([c0].take (Try.prog.cellsOf 22)) = some y0 := hg 0 _ rfl
      rw [cCols] at h0
      obtain ⟨A, ca, c, hcs, h1, h2⟩ := open_cols h0
      simp at hcs
      exact ⟨A, ca, c, by rw [hcs], h1, h2⟩
theorem arg_val {r : Reach} {b0 : Nat} {v : Value} {d : DataW H} {p : List MemPlace} (hv : Value.okWide Try.prog W r b0 40 v) (h : DataW.Trod enc Try.prog W 0 (fun _ => true) true 40 v d p) :
    ∃ u : Val, v = .agg #[.bool u.t, .int .i64 u.n, .string u.s] ∧ Num.is u.n = true := by
  obtain ⟨cs, rfl, hsz⟩ := okWide_struct Try.underlying40 hv
  obtain ⟨l⟩ := cs
  obtain ⟨fuel, hf⟩ := h
  obtain ⟨u, hcs, hu⟩ := open_val hf
  exact ⟨u, by simpa [Value.cells] using hcs, hu⟩
theorem arg_set {r : Reach} {b0 : Nat} {v : Value} {d : DataW H} {p : List MemPlace} (hv : Value.okWide Try.prog W r b0 42 v) (h : DataW.Trod enc Try.prog W 0 (fun _ => true) true 42 v d p) :
    ∃ s : SetV, v = .agg #[.int .i64 s.col, .int .i64 s.op, .int .i64 s.src, .int .i64 s.oth, .bool s.v.t, .int .i64 s.v.n, .string s.v.s] ∧ Num.is s.v.n = true := by
  obtain ⟨cs, rfl, hsz⟩ := okWide_struct Try.underlying42 hv
  obtain ⟨l⟩ := cs
  obtain ⟨fuel, hf⟩ := h
  obtain ⟨s, hcs, hu⟩ := open_set hf
  exact ⟨s, by simpa [Value.cells] using hcs, hu⟩
end Go.Proofs.Ytpgbngmekfakkaa
