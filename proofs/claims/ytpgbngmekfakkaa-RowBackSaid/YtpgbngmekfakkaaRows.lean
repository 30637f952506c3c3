/-
  No cell of these rows narrows 'for every input' (looked for: loops, veiled, ifaces, maps, wideKeys, modest, calm, conditions, laid).
  DERIVED. THE GIVEN ROWS OF THIS SEAT. 7 by the template 'for every input the law returns true; each argument reads behind the call as it read before'; 0 by the template 'total and deterministic' (their statements: YtpgbngmekfakkaaTotals.lean).
  GIVEN WITH THE SEED: the statements are not yours to turn. If you find one false, say at which input.
  Laid BY PROGRAM, IN A SANDBOX (cutbox-rows.mjs): the forced cells as the released guide's own fill.sh prints them over the translation d3e398771839a962… (all of the seat's roots in one cut). By AI agents, Wed Nov 11 2026. No macro, syntax, notation, axiom, sorry.
-/
import Derived.Test.YtpgbngmekfakkaaChecked
import GoSem.Claim
import GoSem.ClaimJoined
import GoSem.ClaimMapViews
import Derived.JoinedTies
import Derived.KernelRfl
namespace Go.Proofs.Ytpgbngmekfakkaa
/- THE CELL 'sum', in the pinned program and in every row, IS THE sha256 OF THE DUMP (.gsa) THAT YtpgbngmekfakkaaProg.lean LOADS. Nothing in Lean hashes anything: it is a label: what it is worth is what the hold of that sum in a sandbox is worth. -/
noncomputable def Try.pinned : Pinned := { name := "ytpgbngmekfakkaa", sum := "d3e398771839a9621755782d126822edb5d2bfbd80464d3fb7c24e786cb239f6", checked := Try.checked }
namespace Rows
def none {H : Type} : Left H := { results := [], args := [] }

/-- 'ratlinelaw02.RowFits': WHATEVER THE INPUT: true; the input reads as it did. -/
def rowFitsSpec : ChangeSpec := { name := "rowFits", fn := fun _ => fun
  | [d1, d2, d3] => { results := [.lit (.bool true)], args := [d1, d2, d3] }
  | _ => none }
def rowFitsRow : OpenClaim := { program := "ytpgbngmekfakkaa", sum := "d3e398771839a9621755782d126822edb5d2bfbd80464d3fb7c24e786cb239f6", func := "ratline/ratlinelaw02.RowFits", spec := "rowFits", apart := false }
def RowFitsSaid : Prop := rowFitsRow.holds Try.pinned (OpenSpec.ofChange rowFitsSpec)

/-- ITS FALSE NEIGHBOUR: 'it returns false'. Refute it at one input. -/
def rowFitsWrong : ChangeSpec := { name := "rowFits", fn := fun _ => fun
  | [d1, d2, d3] => { results := [.lit (.bool false)], args := [d1, d2, d3] }
  | _ => none }
def RowFitsWrongFalsely : Prop := rowFitsRow.holds Try.pinned (OpenSpec.ofChange rowFitsWrong)

/-- 'ratlinelaw02.RowUpdates': WHATEVER THE INPUT: true; the input reads as it did. -/
def rowUpdatesSpec : ChangeSpec := { name := "rowUpdates", fn := fun _ => fun
  | [d1, d2, d3] => { results := [.lit (.bool true)], args := [d1, d2, d3] }
  | _ => none }
def rowUpdatesRow : OpenClaim := { program := "ytpgbngmekfakkaa", sum := "d3e398771839a9621755782d126822edb5d2bfbd80464d3fb7c24e786cb239f6", func := "ratline/ratlinelaw02.RowUpdates", spec := "rowUpdates", apart := false }
def RowUpdatesSaid : Prop := rowUpdatesRow.holds Try.pinned (OpenSpec.ofChange rowUpdatesSpec)

/-- ITS FALSE NEIGHBOUR: 'it returns false'. Refute it at one input. -/
def rowUpdatesWrong : ChangeSpec := { name := "rowUpdates", fn := fun _ => fun
  | [d1, d2, d3] => { results := [.lit (.bool false)], args := [d1, d2, d3] }
  | _ => none }
def RowUpdatesWrongFalsely : Prop := rowUpdatesRow.holds Try.pinned (OpenSpec.ofChange rowUpdatesWrong)

/-- 'ratlinelaw02.RowStays': WHATEVER THE INPUT: true; the input reads as it did. -/
def rowStaysSpec : ChangeSpec := { name := "rowStays", fn := fun _ => fun
  | [d1, d2, d3] => { results := [.lit (.bool true)], args := [d1, d2, d3] }
  | _ => none }
def rowStaysRow : OpenClaim := { program := "ytpgbngmekfakkaa", sum := "d3e398771839a9621755782d126822edb5d2bfbd80464d3fb7c24e786cb239f6", func := "ratline/ratlinelaw02.RowStays", spec := "rowStays", apart := false }
def RowStaysSaid : Prop := rowStaysRow.holds Try.pinned (OpenSpec.ofChange rowStaysSpec)

/-- ITS FALSE NEIGHBOUR: 'it returns false'. Refute it at one input. -/
def rowStaysWrong : ChangeSpec := { name := "rowStays", fn := fun _ => fun
  | [d1, d2, d3] => { results := [.lit (.bool false)], args := [d1, d2, d3] }
  | _ => none }
def RowStaysWrongFalsely : Prop := rowStaysRow.holds Try.pinned (OpenSpec.ofChange rowStaysWrong)

/-- 'ratlinelaw02.RowTurned': WHATEVER THE INPUT: true; the input reads as it did. -/
def rowTurnedSpec : ChangeSpec := { name := "rowTurned", fn := fun _ => fun
  | [d1, d2, d3] => { results := [.lit (.bool true)], args := [d1, d2, d3] }
  | _ => none }
def rowTurnedRow : OpenClaim := { program := "ytpgbngmekfakkaa", sum := "d3e398771839a9621755782d126822edb5d2bfbd80464d3fb7c24e786cb239f6", func := "ratline/ratlinelaw02.RowTurned", spec := "rowTurned", apart := false }
def RowTurnedSaid : Prop := rowTurnedRow.holds Try.pinned (OpenSpec.ofChange rowTurnedSpec)

/-- ITS FALSE NEIGHBOUR: 'it returns false'. Refute it at one input. -/
def rowTurnedWrong : ChangeSpec := { name := "rowTurned", fn := fun _ => fun
  | [d1, d2, d3] => { results := [.lit (.bool false)], args := [d1, d2, d3] }
  | _ => none }
def RowTurnedWrongFalsely : Prop := rowTurnedRow.holds Try.pinned (OpenSpec.ofChange rowTurnedWrong)

/-- 'ratlinelaw02.RowBack': WHATEVER THE INPUT: true; the input reads as it did. -/
def rowBackSpec : ChangeSpec := { name := "rowBack", fn := fun _ => fun
  | [d1, d2, d3] => { results := [.lit (.bool true)], args := [d1, d2, d3] }
  | _ => none }
def rowBackRow : OpenClaim := { program := "ytpgbngmekfakkaa", sum := "d3e398771839a9621755782d126822edb5d2bfbd80464d3fb7c24e786cb239f6", func := "ratline/ratlinelaw02.RowBack", spec := "rowBack", apart := false }
def RowBackSaid : Prop := rowBackRow.holds Try.pinned (OpenSpec.ofChange rowBackSpec)

/-- ITS FALSE NEIGHBOUR: 'it returns false'. Refute it at one input. -/
def rowBackWrong : ChangeSpec := { name := "rowBack", fn := fun _ => fun
  | [d1, d2, d3] => { results := [.lit (.bool false)], args := [d1, d2, d3] }
  | _ => none }
def RowBackWrongFalsely : Prop := rowBackRow.holds Try.pinned (OpenSpec.ofChange rowBackWrong)

/-- 'ratlinelaw02.RowCopies': WHATEVER THE INPUT: true; the input reads as it did. -/
def rowCopiesSpec : ChangeSpec := { name := "rowCopies", fn := fun _ => fun
  | [d1, d2, d3] => { results := [.lit (.bool true)], args := [d1, d2, d3] }
  | _ => none }
def rowCopiesRow : OpenClaim := { program := "ytpgbngmekfakkaa", sum := "d3e398771839a9621755782d126822edb5d2bfbd80464d3fb7c24e786cb239f6", func := "ratline/ratlinelaw02.RowCopies", spec := "rowCopies", apart := false }
def RowCopiesSaid : Prop := rowCopiesRow.holds Try.pinned (OpenSpec.ofChange rowCopiesSpec)

/-- ITS FALSE NEIGHBOUR: 'it returns false'. Refute it at one input. -/
def rowCopiesWrong : ChangeSpec := { name := "rowCopies", fn := fun _ => fun
  | [d1, d2, d3] => { results := [.lit (.bool false)], args := [d1, d2, d3] }
  | _ => none }
def RowCopiesWrongFalsely : Prop := rowCopiesRow.holds Try.pinned (OpenSpec.ofChange rowCopiesWrong)

/-- 'ratlinelaw02.RowSame': WHATEVER THE INPUT: true; the input reads as it did. -/
def rowSameSpec : ChangeSpec := { name := "rowSame", fn := fun _ => fun
  | [d1, d2, d3] => { results := [.lit (.bool true)], args := [d1, d2, d3] }
  | _ => none }
def rowSameRow : OpenClaim := { program := "ytpgbngmekfakkaa", sum := "d3e398771839a9621755782d126822edb5d2bfbd80464d3fb7c24e786cb239f6", func := "ratline/ratlinelaw02.RowSame", spec := "rowSame", apart := false }
def RowSameSaid : Prop := rowSameRow.holds Try.pinned (OpenSpec.ofChange rowSameSpec)

/-- ITS FALSE NEIGHBOUR: 'it returns false'. Refute it at one input. -/
def rowSameWrong : ChangeSpec := { name := "rowSame", fn := fun _ => fun
  | [d1, d2, d3] => { results := [.lit (.bool false)], args := [d1, d2, d3] }
  | _ => none }
def RowSameWrongFalsely : Prop := rowSameRow.holds Try.pinned (OpenSpec.ofChange rowSameWrong)

/- THE SECOND FORM. 'bulk': how many values and letters a reading holds, each counted each time it is reached (what is shared counts as often as it is met; a slice's spare places count too). A statement '..UptoSaid' is the law's where the arguments, and the package variables that the reading takes, are together of bulk at most 1048576: NARROWER than '..Said'. Prove '..Said' where nothing that the law and all that it calls make is longer than what came in: it says more and counts as full. Else prove '..UptoSaid'. A law counts once. -/
mutual
def uptoBulk {H : Type} : DataW H → Nat
  | .lit (.string bytes) => bytes.length + 1
  | .lit _ => 1
  | .nil => 1
  | .ptr d => uptoBulk d + 1
  | .slice elems spare => uptoBulkAll elems + uptoBulkAll spare + 1
  | .agg parts => uptoBulkAll parts + 1
  | .iface _ d => uptoBulk d + 1
  | .map entries => uptoBulkEntries entries + 1
  | .held _ => 1
def uptoBulkAll {H : Type} : List (DataW H) → Nat
  | [] => 0
  | d :: r => uptoBulk d + uptoBulkAll r
def uptoBulkEntries {H : Type} : List (Lit × DataW H) → Nat
  | [] => 0
  | x :: r => uptoBulkEntry x + uptoBulkEntries r
def uptoBulkEntry {H : Type} : Lit × DataW H → Nat
  | (.string bytes, d) => bytes.length + uptoBulk d + 1
  | (_, d) => uptoBulk d + 1
 end
def uptoSmall : (H : Type) → List (DataW H) → Bool := fun _ ds => decide (uptoBulkAll ds ≤ 1048576)
def OpenSpec.upto (s : _root_.Go.ChangeSpec) : _root_.Go.OpenSpec := { _root_.Go.OpenSpec.ofChange s with cond := some uptoSmall }

/-- 'ratlinelaw02.RowFits', WHERE WHAT IT READS IS OF BULK AT MOST 1048576: true; the input reads as it did. -/
def rowFitsUptoRow : OpenClaim := { program := "ytpgbngmekfakkaa", sum := "d3e398771839a9621755782d126822edb5d2bfbd80464d3fb7c24e786cb239f6", func := "ratline/ratlinelaw02.RowFits", spec := "rowFits", apart := false, narrowed := true }
def RowFitsUptoSaid : Prop := rowFitsUptoRow.holds Try.pinned (OpenSpec.upto rowFitsSpec)

/-- 'ratlinelaw02.RowUpdates', WHERE WHAT IT READS IS OF BULK AT MOST 1048576: true; the input reads as it did. -/
def rowUpdatesUptoRow : OpenClaim := { program := "ytpgbngmekfakkaa", sum := "d3e398771839a9621755782d126822edb5d2bfbd80464d3fb7c24e786cb239f6", func := "ratline/ratlinelaw02.RowUpdates", spec := "rowUpdates", apart := false, narrowed := true }
def RowUpdatesUptoSaid : Prop := rowUpdatesUptoRow.holds Try.pinned (OpenSpec.upto rowUpdatesSpec)

/-- 'ratlinelaw02.RowStays', WHERE WHAT IT READS IS OF BULK AT MOST 1048576: true; the input reads as it did. -/
def rowStaysUptoRow : OpenClaim := { program := "ytpgbngmekfakkaa", sum := "d3e398771839a9621755782d126822edb5d2bfbd80464d3fb7c24e786cb239f6", func := "ratline/ratlinelaw02.RowStays", spec := "rowStays", apart := false, narrowed := true }
def RowStaysUptoSaid : Prop := rowStaysUptoRow.holds Try.pinned (OpenSpec.upto rowStaysSpec)

/-- 'ratlinelaw02.RowTurned', WHERE WHAT IT READS IS OF BULK AT MOST 1048576: true; the input reads as it did. -/
def rowTurnedUptoRow : OpenClaim := { program := "ytpgbngmekfakkaa", sum := "d3e398771839a9621755782d126822edb5d2bfbd80464d3fb7c24e786cb239f6", func := "ratline/ratlinelaw02.RowTurned", spec := "rowTurned", apart := false, narrowed := true }
def RowTurnedUptoSaid : Prop := rowTurnedUptoRow.holds Try.pinned (OpenSpec.upto rowTurnedSpec)

/-- 'ratlinelaw02.RowBack', WHERE WHAT IT READS IS OF BULK AT MOST 1048576: true; the input reads as it did. -/
def rowBackUptoRow : OpenClaim := { program := "ytpgbngmekfakkaa", sum := "d3e398771839a9621755782d126822edb5d2bfbd80464d3fb7c24e786cb239f6", func := "ratline/ratlinelaw02.RowBack", spec := "rowBack", apart := false, narrowed := true }
def RowBackUptoSaid : Prop := rowBackUptoRow.holds Try.pinned (OpenSpec.upto rowBackSpec)

/-- 'ratlinelaw02.RowCopies', WHERE WHAT IT READS IS OF BULK AT MOST 1048576: true; the input reads as it did. -/
def rowCopiesUptoRow : OpenClaim := { program := "ytpgbngmekfakkaa", sum := "d3e398771839a9621755782d126822edb5d2bfbd80464d3fb7c24e786cb239f6", func := "ratline/ratlinelaw02.RowCopies", spec := "rowCopies", apart := false, narrowed := true }
def RowCopiesUptoSaid : Prop := rowCopiesUptoRow.holds Try.pinned (OpenSpec.upto rowCopiesSpec)

/-- 'ratlinelaw02.RowSame', WHERE WHAT IT READS IS OF BULK AT MOST 1048576: true; the input reads as it did. -/
def rowSameUptoRow : OpenClaim := { program := "ytpgbngmekfakkaa", sum := "d3e398771839a9621755782d126822edb5d2bfbd80464d3fb7c24e786cb239f6", func := "ratline/ratlinelaw02.RowSame", spec := "rowSame", apart := false, narrowed := true }
def RowSameUptoSaid : Prop := rowSameUptoRow.holds Try.pinned (OpenSpec.upto rowSameSpec)

end Rows
end Go.Proofs.Ytpgbngmekfakkaa
