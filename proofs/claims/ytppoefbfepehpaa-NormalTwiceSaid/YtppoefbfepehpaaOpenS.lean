/-
  A span as an argument that reads. No walk.
-/
import Derived.Test.YtppoefbfepehpaaOpenP
import Derived.Test.YtppoefbfepehpaaSpanRef
namespace Go.Proofs.Ytppoefbfepehpaa
open Go.RowKit Go.ChangeShapes Go.WideShapes Go.ChangeAt Go.Deep
variable {H : Type} {enc : TypeId × Value → H} {W : World}
theorem cSpan : Try.prog.cellsOf 35 = 11 := by kernel_rfl
theorem arg_span {r : Reach} {b0 : Nat} {v : Value} {d : DataW H} {p : List MemPlace} (hv : Value.okWide Try.prog W r b0 35 v) (h : DataW.Trod enc Try.prog W 0 (fun _ => true) true 35 v d p) :
    ∃ s : Sp, v = s.val ∧ s.Fit := by
  obtain ⟨cs, rfl, hsz⟩ := okWide_struct Try.underlying35 hv
  obtain ⟨l⟩ := cs
  match l, hsz.trans cSpan with
  | [c0, c1, c2, c3, c4, c5, c6, c7, c8, c9, c10], _ =>
    obtain ⟨fuel, hf⟩ := h
    obtain ⟨xs, n, _, _, _, hxl, hg⟩ := DataW.trod_struct Try.underlying35 hf
    match xs, hxl with
    | [y0, y1, y2, y3, y4, y5, y6], _ =>
      have h0 : DataW.trod enc Try.prog W 0 (fun _ => true) true n 4 ([c0, c1, c2, c3, c4, c5, c6, c7, c8, c9, c10].take (Try.prog.cellsOf 4)) = some y0 := hg 0 _ rfl
      have h1 : DataW.trod enc Try.prog W 0 (fun _ => true) true n 4 ([c1, c2, c3, c4, c5, c6, c7, c8, c9, c10].take (Try.prog.cellsOf 4)) = some y1 := hg 1 _ rfl
      have h2 : DataW.trod enc Try.prog W 0 (fun _ => true) true n 4 ([c2, c3, c4, c5, c6, c7, c8, c9, c10].take (Try.prog.cellsOf 4)) = some y2 := hg 2 _ rfl
      have h3 : DataW.trod enc Try.prog W 0 (fun _ => true) true n 26 ([c3, c4, c5, c6, c7, c8, c9, c10].take (Try.prog.cellsOf 26)) = some y3 := hg 3 _ rfl
      have h4 : DataW.trod enc Try.prog W 0 (fun _ => true) true n 4 ([c6, c7, c8, c9, c10].take (Try.prog.cellsOf 4)) = some y4 := hg 4 _ rfl
      have h5 : DataW.trod enc Try.prog W 0 (fun _ => true) true n 4 ([c7, c8, c9, c10].take (Try.prog.cellsOf 4)) = some y5 := hg 5 _ rfl
      have h6 : DataW.trod enc Try.prog W 0 (fun _ => true) true n 26 ([c8, c9, c10].take (Try.prog.cellsOf 26)) = some y6 := hg 6 _ rfl
      rw [cBool] at h0 h1 h2 h4 h5
      rw [cVal] at h3 h6
      obtain ⟨a0, e0, _⟩ := DataW.trod_bool Try.underlying4 h0
      obtain ⟨a1, e1, _⟩ := DataW.trod_bool Try.underlying4 h1
      obtain ⟨a2, e2, _⟩ := DataW.trod_bool Try.underlying4 h2
      obtain ⟨a4, e4, _⟩ := DataW.trod_bool Try.underlying4 h4
      obtain ⟨a5, e5, _⟩ := DataW.trod_bool Try.underlying4 h5
      obtain ⟨u, e3, f3⟩ := open_val h3
      obtain ⟨u', e6, f6⟩ := open_val h6
      simp at e0 e1 e2 e3 e4 e5 e6
      obtain ⟨rfl, rfl, rfl⟩ := e3
      obtain ⟨rfl, rfl, rfl⟩ := e6
      subst e0; subst e1; subst e2; subst e4; subst e5
      exact ⟨⟨a0, a1, a2, u, a4, a5, u'⟩, rfl, f3, f6⟩
end Go.Proofs.Ytppoefbfepehpaa
