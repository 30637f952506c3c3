/-
  What the laid variable of chapter 09 holds, and a world for the witness. No walk.
-/
import Derived.Test.YtghpildnajdlpaaDoorCards
import Derived.Test.YtghpildnajdlpaaDoorTie
import Derived.Test.YtghpildnajdlpaaDoorRow
import Derived.Test.YtghpildnajdlpaaDoorMode09
namespace Go.Proofs.YtghpildnajdlpaaDoor
open Go.RowKit Go.ChangeShapes Go.WideShapes Go.ChangeAt

theorem own : ownKnob Tryd.prog.godebug = none := by kernel_rfl
theorem laidOut : laidOutB Tryd.prog = true := by kernel_rfl
theorem gAgainst : Tryd.prog.globalNamed "ratline/mode.against" = some 0 := by kernel_rfl
theorem gAgainstT : (Tryd.prog.globals[0]?).map (·.type) = some 79 := by kernel_rfl
theorem cA : Tryd.prog.cellsOf 79 = 7 := by kernel_rfl
theorem c8 : Tryd.prog.cellsOf 5 = 1 := by kernel_rfl
theorem tabs_of_laid {W : World} (h : laidMet Tryd.prog [("ratline/mode.against", Rows.laid_ratline_mode_against)] W) : Tabs W := by
  intro i hi
  obtain ⟨v, d, q, m, h1, h2, h3⟩ := laid_arr gAgainst gAgainstT Tryd.underlying79 c8 cA h i hi
  rw [h1]
  obtain ⟨z, hz, hd, _⟩ := DataW.trod_int Tryd.underlying5 h3
  obtain rfl : v = .int .u8 z := by simpa using hz
  simp only [Prod.mk.injEq] at hd
  obtain ⟨rfl, _⟩ := hd
  match i, hi with
  | 0, _ | 1, _ | 2, _ | 3, _ | 4, _ | 5, _ | 6, _ => simpa [M.tab] using h2.symm
def lay0 : Obj → Obj
  | .cells _ t frozen => .cells #[.int .u8 0, .int .u8 64, .int .u8 120, .int .u8 84, .int .u8 124, .int .u8 116, .int .u8 126] t frozen
  | o => o
noncomputable def laidWorld (os : Os) : World :=
  { World.holding Tryd.prog os ⟨#[], #[], []⟩ with heap := (World.holding Tryd.prog os ⟨#[], #[], []⟩).heap.modify 0 lay0 }
end Go.Proofs.YtghpildnajdlpaaDoor
