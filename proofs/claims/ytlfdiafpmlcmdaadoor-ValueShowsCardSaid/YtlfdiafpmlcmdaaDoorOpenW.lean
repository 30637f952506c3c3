/-
  A value as an argument that reads, its number of 64 bits. No walk.
-/
import Derived.Test.YtlfdiafpmlcmdaaDoorOpenV
import Derived.Test.YtlfdiafpmlcmdaaDoorNum
namespace Go.Proofs.YtlfdiafpmlcmdaaDoor
open Go.RowKit Go.ChangeShapes Go.WideShapes Go.ChangeAt Go.Deep

section
variable {H : Type} {enc : TypeId × Value → H} {w : World} {base : Nat} {spare : Nat → Bool} {held : Bool}
/-- A value that reads. -/
theorem open_valn {fuel : Nat} {cs : List Value} {x : DataW H × List MemPlace} (h : DataW.trod enc Tryd.prog w base spare held fuel 23 cs = some x) :
    ∃ u : Val, cs = [.bool u.t, .int .i64 u.n, .string u.s] ∧ u.s.size ≤ maxLen ∧ Num.is u.n = true := by
  obtain ⟨xs, n, _, _, hl, hxl, hf⟩ := DataW.trod_struct Tryd.underlying23 h
  rw [cVal] at hl
  match cs, hl with
  | [c0, c1, c2], _ =>
    match xs, hxl with
    | [y0, y1, y2], _ =>
      have h0 : DataW.trod enc Tryd.prog w base spare held n 4 ([c0, c1, c2].take (Tryd.prog.cellsOf 4)) = some y0 := hf 0 _ rfl
      have h1 : DataW.trod enc Tryd.prog w base spare held n 2 ([c1, c2].take (Tryd.prog.cellsOf 2)) = some y1 := hf 1 _ rfl
      have h2 : DataW.trod enc Tryd.prog w base spare held n 9 ([c2].take (Tryd.prog.cellsOf 9)) = some y2 := hf 2 _ rfl
      rw [cBool] at h0
      rw [cInt64] at h1
      rw [cStr] at h2
      obtain ⟨b, hb, _⟩ := DataW.trod_bool Tryd.underlying4 h0
      obtain ⟨z, hz, _, hw⟩ := DataW.trod_int Tryd.underlying2 h1
      obtain ⟨s, hs, _, hsz⟩ := DataW.trod_string Tryd.underlying9 h2
      simp at hb hz hs
      subst hb; subst hz; subst hs
      exact ⟨⟨b, z, s⟩, rfl, hsz, Num.is_iff.2 (bounds_i64 hw)⟩
end

variable {H : Type} {enc : TypeId × Value → H} {W : World}
theorem arg_valn {r : Reach} {b0 : Nat} {v : Value} {d : DataW H} {p : List MemPlace} (hv : Value.okWide Tryd.prog W r b0 23 v) (h : DataW.Trod enc Tryd.prog W 0 (fun _ => true) true 23 v d p) :
    ∃ u : Val, v = .agg #[.bool u.t, .int .i64 u.n, .string u.s] ∧ u.s.size ≤ maxLen ∧ Num.is u.n = true := by
  obtain ⟨cs, rfl, hsz⟩ := okWide_struct Tryd.underlying23 hv
  obtain ⟨l⟩ := cs
  obtain ⟨fuel, hf⟩ := h
  obtain ⟨u, hcs, hu⟩ := open_valn hf
  exact ⟨u, by simpa [Value.cells] using hcs, hu⟩
end Go.Proofs.YtlfdiafpmlcmdaaDoor
