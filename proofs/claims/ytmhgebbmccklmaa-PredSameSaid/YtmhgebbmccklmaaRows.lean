/-
  NARROWER THAN 'FOR EVERY INPUT', by the rows' own cells (each row's printed sentence says how): PredHolds: loops · PredChecks: loops · PredSame: loops · PredTurned: loops · PredSizes: loops.
  DERIVED. THE GIVEN ROWS OF THIS SEAT. 8 by the template 'for every input the law returns true; each argument reads behind the call as it read before'; 0 by the template 'total and deterministic' (their statements: YtmhgebbmccklmaaTotals.lean).
  GIVEN WITH THE SEED: the statements are not yours to turn. If you find one false, say at which input.
  Laid BY PROGRAM, IN A SANDBOX (cutbox-rows.mjs): the forced cells as the released guide's own fill.sh prints them over the translation b620e508f21f0b0f… (all of the seat's roots in one cut). By AI agents, Wed Nov 11 2026. No macro, syntax, notation, axiom, sorry.
-/
import Derived.Test.YtmhgebbmccklmaaChecked
import GoSem.Claim
import GoSem.ClaimJoined
import GoSem.ClaimMapViews
import Derived.JoinedTies
import Derived.KernelRfl
namespace Go.Proofs.Ytmhgebbmccklmaa
/- THE CELL 'sum', in the pinned program and in every row, IS THE sha256 OF THE DUMP (.gsa) THAT YtmhgebbmccklmaaProg.lean LOADS. Nothing in Lean hashes anything: it is a label: what it is worth is what the hold of that sum in a sandbox is worth. -/
noncomputable def Try.pinned : Pinned := { name := "ytmhgebbmccklmaa", sum := "b620e508f21f0b0f57d2d6eef6a6c6ee6c42e8a86cc3ddb0810d3000aefbbf97", checked := Try.checked }
namespace Rows
def none {H : Type} : Left H := { results := [], args := [] }

/-- 'ratlinelaw03.PredHolds': WHATEVER THE INPUT: true; the input reads as it did. -/
def predHoldsSpec : ChangeSpec := { name := "predHolds", fn := fun _ => fun
  | [d1, d2] => { results := [.lit (.bool true)], args := [d1, d2] }
  | _ => none }
def predHoldsRow : OpenClaim := { program := "ytmhgebbmccklmaa", sum := "b620e508f21f0b0f57d2d6eef6a6c6ee6c42e8a86cc3ddb0810d3000aefbbf97", func := "ratline/ratlinelaw03.PredHolds", spec := "predHolds", unfollowed := true, recurses := true, loops := true, apart := false }
def PredHoldsSaid : Prop := predHoldsRow.holds Try.pinned (OpenSpec.ofChange predHoldsSpec)

/-- ITS FALSE NEIGHBOUR: 'it returns false'. Refute it at one input. -/
def predHoldsWrong : ChangeSpec := { name := "predHolds", fn := fun _ => fun
  | [d1, d2] => { results := [.lit (.bool false)], args := [d1, d2] }
  | _ => none }
def PredHoldsWrongFalsely : Prop := predHoldsRow.holds Try.pinned (OpenSpec.ofChange predHoldsWrong)

/-- 'ratlinelaw03.PredChecks': WHATEVER THE INPUT: true; the input reads as it did. -/
def predChecksSpec : ChangeSpec := { name := "predChecks", fn := fun _ => fun
  | [d1, d2] => { results := [.lit (.bool true)], args := [d1, d2] }
  | _ => none }
def predChecksRow : OpenClaim := { program := "ytmhgebbmccklmaa", sum := "b620e508f21f0b0f57d2d6eef6a6c6ee6c42e8a86cc3ddb0810d3000aefbbf97", func := "ratline/ratlinelaw03.PredChecks", spec := "predChecks", unfollowed := true, recurses := true, loops := true, apart := false }
def PredChecksSaid : Prop := predChecksRow.holds Try.pinned (OpenSpec.ofChange predChecksSpec)

/-- ITS FALSE NEIGHBOUR: 'it returns false'. Refute it at one input. -/
def predChecksWrong : ChangeSpec := { name := "predChecks", fn := fun _ => fun
  | [d1, d2] => { results := [.lit (.bool false)], args := [d1, d2] }
  | _ => none }
def PredChecksWrongFalsely : Prop := predChecksRow.holds Try.pinned (OpenSpec.ofChange predChecksWrong)

/-- 'ratlinelaw03.PredSame': WHATEVER THE INPUT: true; the input reads as it did. -/
def predSameSpec : ChangeSpec := { name := "predSame", fn := fun _ => fun
  | [d1, d2] => { results := [.lit (.bool true)], args := [d1, d2] }
  | _ => none }
def predSameRow : OpenClaim := { program := "ytmhgebbmccklmaa", sum := "b620e508f21f0b0f57d2d6eef6a6c6ee6c42e8a86cc3ddb0810d3000aefbbf97", func := "ratline/ratlinelaw03.PredSame", spec := "predSame", unfollowed := true, recurses := true, loops := true, apart := false }
def PredSameSaid : Prop := predSameRow.holds Try.pinned (OpenSpec.ofChange predSameSpec)

/-- ITS FALSE NEIGHBOUR: 'it returns false'. Refute it at one input. -/
def predSameWrong : ChangeSpec := { name := "predSame", fn := fun _ => fun
  | [d1, d2] => { results := [.lit (.bool false)], args := [d1, d2] }
  | _ => none }
def PredSameWrongFalsely : Prop := predSameRow.holds Try.pinned (OpenSpec.ofChange predSameWrong)

/-- 'ratlinelaw03.PredOrders': WHATEVER THE INPUT: true; the input reads as it did. -/
def predOrdersSpec : ChangeSpec := { name := "predOrders", fn := fun _ => fun
  | [d1, d2, d3] => { results := [.lit (.bool true)], args := [d1, d2, d3] }
  | _ => none }
def predOrdersRow : OpenClaim := { program := "ytmhgebbmccklmaa", sum := "b620e508f21f0b0f57d2d6eef6a6c6ee6c42e8a86cc3ddb0810d3000aefbbf97", func := "ratline/ratlinelaw03.PredOrders", spec := "predOrders", unfollowed := true, recurses := true, apart := false }
def PredOrdersSaid : Prop := predOrdersRow.holds Try.pinned (OpenSpec.ofChange predOrdersSpec)

/-- ITS FALSE NEIGHBOUR: 'it returns false'. Refute it at one input. -/
def predOrdersWrong : ChangeSpec := { name := "predOrders", fn := fun _ => fun
  | [d1, d2, d3] => { results := [.lit (.bool false)], args := [d1, d2, d3] }
  | _ => none }
def PredOrdersWrongFalsely : Prop := predOrdersRow.holds Try.pinned (OpenSpec.ofChange predOrdersWrong)

/-- 'ratlinelaw03.PredTurned': WHATEVER THE INPUT: true; the input reads as it did. -/
def predTurnedSpec : ChangeSpec := { name := "predTurned", fn := fun _ => fun
  | [d1, d2, d3] => { results := [.lit (.bool true)], args := [d1, d2, d3] }
  | _ => none }
def predTurnedRow : OpenClaim := { program := "ytmhgebbmccklmaa", sum := "b620e508f21f0b0f57d2d6eef6a6c6ee6c42e8a86cc3ddb0810d3000aefbbf97", func := "ratline/ratlinelaw03.PredTurned", spec := "predTurned", unfollowed := true, recurses := true, loops := true, apart := false }
def PredTurnedSaid : Prop := predTurnedRow.holds Try.pinned (OpenSpec.ofChange predTurnedSpec)

/-- ITS FALSE NEIGHBOUR: 'it returns false'. Refute it at one input. -/
def predTurnedWrong : ChangeSpec := { name := "predTurned", fn := fun _ => fun
  | [d1, d2, d3] => { results := [.lit (.bool false)], args := [d1, d2, d3] }
  | _ => none }
def PredTurnedWrongFalsely : Prop := predTurnedRow.holds Try.pinned (OpenSpec.ofChange predTurnedWrong)

/-- 'ratlinelaw03.PredSizes': WHATEVER THE INPUT: true; the input reads as it did. -/
def predSizesSpec : ChangeSpec := { name := "predSizes", fn := fun _ => fun
  | [d1, d2, d3] => { results := [.lit (.bool true)], args := [d1, d2, d3] }
  | _ => none }
def predSizesRow : OpenClaim := { program := "ytmhgebbmccklmaa", sum := "b620e508f21f0b0f57d2d6eef6a6c6ee6c42e8a86cc3ddb0810d3000aefbbf97", func := "ratline/ratlinelaw03.PredSizes", spec := "predSizes", unfollowed := true, recurses := true, loops := true, apart := false }
def PredSizesSaid : Prop := predSizesRow.holds Try.pinned (OpenSpec.ofChange predSizesSpec)

/-- ITS FALSE NEIGHBOUR: 'it returns false'. Refute it at one input. -/
def predSizesWrong : ChangeSpec := { name := "predSizes", fn := fun _ => fun
  | [d1, d2, d3] => { results := [.lit (.bool false)], args := [d1, d2, d3] }
  | _ => none }
def PredSizesWrongFalsely : Prop := predSizesRow.holds Try.pinned (OpenSpec.ofChange predSizesWrong)

/-- 'ratlinelaw03.PredRange': WHATEVER THE INPUT: true; the input reads as it did. -/
def predRangeSpec : ChangeSpec := { name := "predRange", fn := fun _ => fun
  | [d1, d2, d3] => { results := [.lit (.bool true)], args := [d1, d2, d3] }
  | _ => none }
def predRangeRow : OpenClaim := { program := "ytmhgebbmccklmaa", sum := "b620e508f21f0b0f57d2d6eef6a6c6ee6c42e8a86cc3ddb0810d3000aefbbf97", func := "ratline/ratlinelaw03.PredRange", spec := "predRange", unfollowed := true, recurses := true, apart := false }
def PredRangeSaid : Prop := predRangeRow.holds Try.pinned (OpenSpec.ofChange predRangeSpec)

/-- ITS FALSE NEIGHBOUR: 'it returns false'. Refute it at one input. -/
def predRangeWrong : ChangeSpec := { name := "predRange", fn := fun _ => fun
  | [d1, d2, d3] => { results := [.lit (.bool false)], args := [d1, d2, d3] }
  | _ => none }
def PredRangeWrongFalsely : Prop := predRangeRow.holds Try.pinned (OpenSpec.ofChange predRangeWrong)

/-- 'ratlinelaw03.PredAbove': WHATEVER THE INPUT: true; the input reads as it did. -/
def predAboveSpec : ChangeSpec := { name := "predAbove", fn := fun _ => fun
  | [d1, d2] => { results := [.lit (.bool true)], args := [d1, d2] }
  | _ => none }
def predAboveRow : OpenClaim := { program := "ytmhgebbmccklmaa", sum := "b620e508f21f0b0f57d2d6eef6a6c6ee6c42e8a86cc3ddb0810d3000aefbbf97", func := "ratline/ratlinelaw03.PredAbove", spec := "predAbove", unfollowed := true, recurses := true, apart := false }
def PredAboveSaid : Prop := predAboveRow.holds Try.pinned (OpenSpec.ofChange predAboveSpec)

/-- ITS FALSE NEIGHBOUR: 'it returns false'. Refute it at one input. -/
def predAboveWrong : ChangeSpec := { name := "predAbove", fn := fun _ => fun
  | [d1, d2] => { results := [.lit (.bool false)], args := [d1, d2] }
  | _ => none }
def PredAboveWrongFalsely : Prop := predAboveRow.holds Try.pinned (OpenSpec.ofChange predAboveWrong)

/- THE SECOND FORM. 'bulk': how many values and letters a reading holds, each counted each time it is reached (what is shared counts as often as it is met; a slice's spare places count too). A statement '..UptoSaid' is the law's where the arguments, and the package variables that the reading takes, are together of bulk at most 1048576: NARROWER than '..Said'. Prove '..Said' where nothing that the law and all that it calls make is longer than what came in: it says more and counts as full. Else prove '..UptoSaid'. A law counts once. -/
mutual
def uptoBulk {H : Type} : DataW H → Nat
  | .lit (.string bytes) => bytes.length + 1
  | .lit _ => 1
  | .nil => 1
  | .ptr d => uptoBulk d + 1
  | .slice elems spare => uptoBulkAll elems + uptoBulkAll spare + 1
  | .agg parts => uptoBulkAll parts + 1
  | .iface _ d => uptoBulk d + 1
  | .map entries => uptoBulkEntries entries + 1
  | .held _ => 1
def uptoBulkAll {H : Type} : List (DataW H) → Nat
  | [] => 0
  | d :: r => uptoBulk d + uptoBulkAll r
def uptoBulkEntries {H : Type} : List (Lit × DataW H) → Nat
  | [] => 0
  | x :: r => uptoBulkEntry x + uptoBulkEntries r
def uptoBulkEntry {H : Type} : Lit × DataW H → Nat
  | (.string bytes, d) => bytes.length + uptoBulk d + 1
  | (_, d) => uptoBulk d + 1
 end
def uptoSmall : (H : Type) → List (DataW H) → Bool := fun _ ds => decide (uptoBulkAll ds ≤ 1048576)
def OpenSpec.upto (s : _root_.Go.ChangeSpec) : _root_.Go.OpenSpec := { _root_.Go.OpenSpec.ofChange s with cond := some uptoSmall }

/-- 'ratlinelaw03.PredHolds', WHERE WHAT IT READS IS OF BULK AT MOST 1048576: true; the input reads as it did. -/
def predHoldsUptoRow : OpenClaim := { program := "ytmhgebbmccklmaa", sum := "b620e508f21f0b0f57d2d6eef6a6c6ee6c42e8a86cc3ddb0810d3000aefbbf97", func := "ratline/ratlinelaw03.PredHolds", spec := "predHolds", unfollowed := true, recurses := true, loops := true, apart := false, narrowed := true }
def PredHoldsUptoSaid : Prop := predHoldsUptoRow.holds Try.pinned (OpenSpec.upto predHoldsSpec)

/-- 'ratlinelaw03.PredChecks', WHERE WHAT IT READS IS OF BULK AT MOST 1048576: true; the input reads as it did. -/
def predChecksUptoRow : OpenClaim := { program := "ytmhgebbmccklmaa", sum := "b620e508f21f0b0f57d2d6eef6a6c6ee6c42e8a86cc3ddb0810d3000aefbbf97", func := "ratline/ratlinelaw03.PredChecks", spec := "predChecks", unfollowed := true, recurses := true, loops := true, apart := false, narrowed := true }
def PredChecksUptoSaid : Prop := predChecksUptoRow.holds Try.pinned (OpenSpec.upto predChecksSpec)

/-- 'ratlinelaw03.PredSame', WHERE WHAT IT READS IS OF BULK AT MOST 1048576: true; the input reads as it did. -/
def predSameUptoRow : OpenClaim := { program := "ytmhgebbmccklmaa", sum := "b620e508f21f0b0f57d2d6eef6a6c6ee6c42e8a86cc3ddb0810d3000aefbbf97", func := "ratline/ratlinelaw03.PredSame", spec := "predSame", unfollowed := true, recurses := true, loops := true, apart := false, narrowed := true }
def PredSameUptoSaid : Prop := predSameUptoRow.holds Try.pinned (OpenSpec.upto predSameSpec)

/-- 'ratlinelaw03.PredOrders', WHERE WHAT IT READS IS OF BULK AT MOST 1048576: true; the input reads as it did. -/
def predOrdersUptoRow : OpenClaim := { program := "ytmhgebbmccklmaa", sum := "b620e508f21f0b0f57d2d6eef6a6c6ee6c42e8a86cc3ddb0810d3000aefbbf97", func := "ratline/ratlinelaw03.PredOrders", spec := "predOrders", unfollowed := true, recurses := true, apart := false, narrowed := true }
def PredOrdersUptoSaid : Prop := predOrdersUptoRow.holds Try.pinned (OpenSpec.upto predOrdersSpec)

/-- 'ratlinelaw03.PredTurned', WHERE WHAT IT READS IS OF BULK AT MOST 1048576: true; the input reads as it did. -/
def predTurnedUptoRow : OpenClaim := { program := "ytmhgebbmccklmaa", sum := "b620e508f21f0b0f57d2d6eef6a6c6ee6c42e8a86cc3ddb0810d3000aefbbf97", func := "ratline/ratlinelaw03.PredTurned", spec := "predTurned", unfollowed := true, recurses := true, loops := true, apart := false, narrowed := true }
def PredTurnedUptoSaid : Prop := predTurnedUptoRow.holds Try.pinned (OpenSpec.upto predTurnedSpec)

/-- 'ratlinelaw03.PredSizes', WHERE WHAT IT READS IS OF BULK AT MOST 1048576: true; the input reads as it did. -/
def predSizesUptoRow : OpenClaim := { program := "ytmhgebbmccklmaa", sum := "b620e508f21f0b0f57d2d6eef6a6c6ee6c42e8a86cc3ddb0810d3000aefbbf97", func := "ratline/ratlinelaw03.PredSizes", spec := "predSizes", unfollowed := true, recurses := true, loops := true, apart := false, narrowed := true }
def PredSizesUptoSaid : Prop := predSizesUptoRow.holds Try.pinned (OpenSpec.upto predSizesSpec)

/-- 'ratlinelaw03.PredRange', WHERE WHAT IT READS IS OF BULK AT MOST 1048576: true; the input reads as it did. -/
def predRangeUptoRow : OpenClaim := { program := "ytmhgebbmccklmaa", sum := "b620e508f21f0b0f57d2d6eef6a6c6ee6c42e8a86cc3ddb0810d3000aefbbf97", func := "ratline/ratlinelaw03.PredRange", spec := "predRange", unfollowed := true, recurses := true, apart := false, narrowed := true }
def PredRangeUptoSaid : Prop := predRangeUptoRow.holds Try.pinned (OpenSpec.upto predRangeSpec)

/-- 'ratlinelaw03.PredAbove', WHERE WHAT IT READS IS OF BULK AT MOST 1048576: true; the input reads as it did. -/
def predAboveUptoRow : OpenClaim := { program := "ytmhgebbmccklmaa", sum := "b620e508f21f0b0f57d2d6eef6a6c6ee6c42e8a86cc3ddb0810d3000aefbbf97", func := "ratline/ratlinelaw03.PredAbove", spec := "predAbove", unfollowed := true, recurses := true, apart := false, narrowed := true }
def PredAboveUptoSaid : Prop := predAboveUptoRow.holds Try.pinned (OpenSpec.upto predAboveSpec)

end Rows
end Go.Proofs.Ytmhgebbmccklmaa
