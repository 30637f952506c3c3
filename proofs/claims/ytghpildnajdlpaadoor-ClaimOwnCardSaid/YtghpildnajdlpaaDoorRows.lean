/-
  NARROWER THAN 'FOR EVERY INPUT', by the rows' own cells (each row's printed sentence says how): ClaimChecks: loops, laid · ClaimPairs: loops, laid · ClaimTurned: loops, laid · ClaimJoins: loops, laid · ClaimOwn: loops, laid · ClaimRows: laid · ClaimTables: loops, laid · ClaimImages: loops, laid.
  DERIVED. THE GIVEN ROWS OF THIS SEAT. 8 by the template 'for every input the law returns true; each argument reads behind the call as it read before'; 0 by the template 'total and deterministic' (their statements: YtghpildnajdlpaaDoorTotals.lean).
  GIVEN WITH THE SEED: the statements are not yours to turn. If you find one false, say at which input.
  Laid BY PROGRAM, IN A SANDBOX (cutbox-rows.mjs): the forced cells as the released guide's own fill.sh prints them over the translation 9eb793bb7614cc5e… (all of the seat's roots in one cut). By AI agents, Wed Nov 11 2026. No macro, syntax, notation, axiom, sorry.
-/
import Derived.Test.YtghpildnajdlpaaDoorChecked
import GoSem.Claim
import GoSem.ClaimJoined
import GoSem.ClaimMapViews
import Derived.JoinedTies
import Derived.KernelRfl
namespace Go.Proofs.YtghpildnajdlpaaDoor
/- THE CELL 'sum', in the pinned program and in every row, IS THE sha256 OF THE DUMP (.gsa) THAT YtghpildnajdlpaaDoorProg.lean LOADS. Nothing in Lean hashes anything: it is a label: what it is worth is what the hold of that sum in a sandbox is worth. -/
noncomputable def Tryd.pinned : Pinned := { name := "ytghpildnajdlpaadoor", sum := "9eb793bb7614cc5e8459230d07250535cff432f6fc511d945cc3ca23c1c2a181", checked := Tryd.checked }
namespace Rows
def none {H : Type} : Left H := { results := [], args := [] }

/- WHAT THE LISTED PACKAGE-LEVEL VARIABLES READ AS WHEN THE CALL BEGINS. Each datum BY PROGRAM (the guide's laid-datum.mjs) off the statement by which the dump's own 'gosem.cut.vars' lays the variable. In a bare row this is a premise. The card (YtghpildnajdlpaaDoorCards.lean) ties it to the program's text. -/
def laid_ratline_mode_against {H : Type} : DataW H := .agg [.lit (.int .u8 0), .lit (.int .u8 64), .lit (.int .u8 120), .lit (.int .u8 84), .lit (.int .u8 124), .lit (.int .u8 116), .lit (.int .u8 126)]

/-- 'ratlinelaw09.ClaimChecks': WHATEVER THE INPUT: true; the input reads as it did. -/
def claimChecksSpec : ChangeSpec := { name := "claimChecks", fn := fun _ => fun
  | [d1, d2] => { results := [.lit (.bool true)], args := [d1, d2] }
  | _ => none }
def claimChecksRow : OpenClaim := { program := "ytghpildnajdlpaadoor", sum := "9eb793bb7614cc5e8459230d07250535cff432f6fc511d945cc3ca23c1c2a181", func := "ratline/ratlinelaw09.ClaimChecks", spec := "claimChecks", unfollowed := true, recurses := true, named := ["ratline/mode.against"], loops := true, apart := false, laid := [("ratline/mode.against", laid_ratline_mode_against)] }
def ClaimChecksSaid : Prop := claimChecksRow.holds Tryd.pinned (OpenSpec.ofChange claimChecksSpec)

/-- ITS FALSE NEIGHBOUR: 'it returns false'. Refute it at one input. -/
def claimChecksWrong : ChangeSpec := { name := "claimChecks", fn := fun _ => fun
  | [d1, d2] => { results := [.lit (.bool false)], args := [d1, d2] }
  | _ => none }
def ClaimChecksWrongFalsely : Prop := claimChecksRow.holds Tryd.pinned (OpenSpec.ofChange claimChecksWrong)

/-- 'ratlinelaw09.ClaimPairs': WHATEVER THE INPUT: true; the input reads as it did. -/
def claimPairsSpec : ChangeSpec := { name := "claimPairs", fn := fun _ => fun
  | [d1, d2] => { results := [.lit (.bool true)], args := [d1, d2] }
  | _ => none }
def claimPairsRow : OpenClaim := { program := "ytghpildnajdlpaadoor", sum := "9eb793bb7614cc5e8459230d07250535cff432f6fc511d945cc3ca23c1c2a181", func := "ratline/ratlinelaw09.ClaimPairs", spec := "claimPairs", unfollowed := true, recurses := true, named := ["ratline/mode.against"], loops := true, apart := false, laid := [("ratline/mode.against", laid_ratline_mode_against)] }
def ClaimPairsSaid : Prop := claimPairsRow.holds Tryd.pinned (OpenSpec.ofChange claimPairsSpec)

/-- ITS FALSE NEIGHBOUR: 'it returns false'. Refute it at one input. -/
def claimPairsWrong : ChangeSpec := { name := "claimPairs", fn := fun _ => fun
  | [d1, d2] => { results := [.lit (.bool false)], args := [d1, d2] }
  | _ => none }
def ClaimPairsWrongFalsely : Prop := claimPairsRow.holds Tryd.pinned (OpenSpec.ofChange claimPairsWrong)

/-- 'ratlinelaw09.ClaimTurned': WHATEVER THE INPUT: true; the input reads as it did. -/
def claimTurnedSpec : ChangeSpec := { name := "claimTurned", fn := fun _ => fun
  | [d1, d2] => { results := [.lit (.bool true)], args := [d1, d2] }
  | _ => none }
def claimTurnedRow : OpenClaim := { program := "ytghpildnajdlpaadoor", sum := "9eb793bb7614cc5e8459230d07250535cff432f6fc511d945cc3ca23c1c2a181", func := "ratline/ratlinelaw09.ClaimTurned", spec := "claimTurned", unfollowed := true, recurses := true, named := ["ratline/mode.against"], loops := true, apart := false, laid := [("ratline/mode.against", laid_ratline_mode_against)] }
def ClaimTurnedSaid : Prop := claimTurnedRow.holds Tryd.pinned (OpenSpec.ofChange claimTurnedSpec)

/-- ITS FALSE NEIGHBOUR: 'it returns false'. Refute it at one input. -/
def claimTurnedWrong : ChangeSpec := { name := "claimTurned", fn := fun _ => fun
  | [d1, d2] => { results := [.lit (.bool false)], args := [d1, d2] }
  | _ => none }
def ClaimTurnedWrongFalsely : Prop := claimTurnedRow.holds Tryd.pinned (OpenSpec.ofChange claimTurnedWrong)

/-- 'ratlinelaw09.ClaimJoins': WHATEVER THE INPUT: true; the input reads as it did. -/
def claimJoinsSpec : ChangeSpec := { name := "claimJoins", fn := fun _ => fun
  | [d1, d2, d3] => { results := [.lit (.bool true)], args := [d1, d2, d3] }
  | _ => none }
def claimJoinsRow : OpenClaim := { program := "ytghpildnajdlpaadoor", sum := "9eb793bb7614cc5e8459230d07250535cff432f6fc511d945cc3ca23c1c2a181", func := "ratline/ratlinelaw09.ClaimJoins", spec := "claimJoins", unfollowed := true, recurses := true, named := ["ratline/mode.against"], loops := true, apart := false, laid := [("ratline/mode.against", laid_ratline_mode_against)] }
def ClaimJoinsSaid : Prop := claimJoinsRow.holds Tryd.pinned (OpenSpec.ofChange claimJoinsSpec)

/-- ITS FALSE NEIGHBOUR: 'it returns false'. Refute it at one input. -/
def claimJoinsWrong : ChangeSpec := { name := "claimJoins", fn := fun _ => fun
  | [d1, d2, d3] => { results := [.lit (.bool false)], args := [d1, d2, d3] }
  | _ => none }
def ClaimJoinsWrongFalsely : Prop := claimJoinsRow.holds Tryd.pinned (OpenSpec.ofChange claimJoinsWrong)

/-- 'ratlinelaw09.ClaimOwn': WHATEVER THE INPUT: true; the input reads as it did. -/
def claimOwnSpec : ChangeSpec := { name := "claimOwn", fn := fun _ => fun
  | [d1, d2, d3] => { results := [.lit (.bool true)], args := [d1, d2, d3] }
  | _ => none }
def claimOwnRow : OpenClaim := { program := "ytghpildnajdlpaadoor", sum := "9eb793bb7614cc5e8459230d07250535cff432f6fc511d945cc3ca23c1c2a181", func := "ratline/ratlinelaw09.ClaimOwn", spec := "claimOwn", unfollowed := true, recurses := true, named := ["ratline/mode.against"], loops := true, apart := false, laid := [("ratline/mode.against", laid_ratline_mode_against)] }
def ClaimOwnSaid : Prop := claimOwnRow.holds Tryd.pinned (OpenSpec.ofChange claimOwnSpec)

/-- ITS FALSE NEIGHBOUR: 'it returns false'. Refute it at one input. -/
def claimOwnWrong : ChangeSpec := { name := "claimOwn", fn := fun _ => fun
  | [d1, d2, d3] => { results := [.lit (.bool false)], args := [d1, d2, d3] }
  | _ => none }
def ClaimOwnWrongFalsely : Prop := claimOwnRow.holds Tryd.pinned (OpenSpec.ofChange claimOwnWrong)

/-- 'ratlinelaw09.ClaimRows': WHATEVER THE INPUT: true; the input reads as it did. -/
def claimRowsSpec : ChangeSpec := { name := "claimRows", fn := fun _ => fun
  | [d1, d2, d3] => { results := [.lit (.bool true)], args := [d1, d2, d3] }
  | _ => none }
def claimRowsRow : OpenClaim := { program := "ytghpildnajdlpaadoor", sum := "9eb793bb7614cc5e8459230d07250535cff432f6fc511d945cc3ca23c1c2a181", func := "ratline/ratlinelaw09.ClaimRows", spec := "claimRows", unfollowed := true, recurses := true, named := ["ratline/mode.against"], apart := false, laid := [("ratline/mode.against", laid_ratline_mode_against)] }
def ClaimRowsSaid : Prop := claimRowsRow.holds Tryd.pinned (OpenSpec.ofChange claimRowsSpec)

/-- ITS FALSE NEIGHBOUR: 'it returns false'. Refute it at one input. -/
def claimRowsWrong : ChangeSpec := { name := "claimRows", fn := fun _ => fun
  | [d1, d2, d3] => { results := [.lit (.bool false)], args := [d1, d2, d3] }
  | _ => none }
def ClaimRowsWrongFalsely : Prop := claimRowsRow.holds Tryd.pinned (OpenSpec.ofChange claimRowsWrong)

/-- 'ratlinelaw09.ClaimTables': WHATEVER THE INPUT: true; the input reads as it did. -/
def claimTablesSpec : ChangeSpec := { name := "claimTables", fn := fun _ => fun
  | [d1, d2, d3] => { results := [.lit (.bool true)], args := [d1, d2, d3] }
  | _ => none }
def claimTablesRow : OpenClaim := { program := "ytghpildnajdlpaadoor", sum := "9eb793bb7614cc5e8459230d07250535cff432f6fc511d945cc3ca23c1c2a181", func := "ratline/ratlinelaw09.ClaimTables", spec := "claimTables", unfollowed := true, recurses := true, named := ["ratline/mode.against"], loops := true, apart := false, laid := [("ratline/mode.against", laid_ratline_mode_against)] }
def ClaimTablesSaid : Prop := claimTablesRow.holds Tryd.pinned (OpenSpec.ofChange claimTablesSpec)

/-- ITS FALSE NEIGHBOUR: 'it returns false'. Refute it at one input. -/
def claimTablesWrong : ChangeSpec := { name := "claimTables", fn := fun _ => fun
  | [d1, d2, d3] => { results := [.lit (.bool false)], args := [d1, d2, d3] }
  | _ => none }
def ClaimTablesWrongFalsely : Prop := claimTablesRow.holds Tryd.pinned (OpenSpec.ofChange claimTablesWrong)

/-- 'ratlinelaw09.ClaimImages': WHATEVER THE INPUT: true; the input reads as it did. -/
def claimImagesSpec : ChangeSpec := { name := "claimImages", fn := fun _ => fun
  | [d1, d2] => { results := [.lit (.bool true)], args := [d1, d2] }
  | _ => none }
def claimImagesRow : OpenClaim := { program := "ytghpildnajdlpaadoor", sum := "9eb793bb7614cc5e8459230d07250535cff432f6fc511d945cc3ca23c1c2a181", func := "ratline/ratlinelaw09.ClaimImages", spec := "claimImages", unfollowed := true, recurses := true, named := ["ratline/mode.against"], loops := true, apart := false, laid := [("ratline/mode.against", laid_ratline_mode_against)] }
def ClaimImagesSaid : Prop := claimImagesRow.holds Tryd.pinned (OpenSpec.ofChange claimImagesSpec)

/-- ITS FALSE NEIGHBOUR: 'it returns false'. Refute it at one input. -/
def claimImagesWrong : ChangeSpec := { name := "claimImages", fn := fun _ => fun
  | [d1, d2] => { results := [.lit (.bool false)], args := [d1, d2] }
  | _ => none }
def ClaimImagesWrongFalsely : Prop := claimImagesRow.holds Tryd.pinned (OpenSpec.ofChange claimImagesWrong)

/- THE SECOND FORM. 'bulk': how many values and letters a reading holds, each counted each time it is reached (what is shared counts as often as it is met; a slice's spare places count too). A statement '..UptoSaid' is the law's where the arguments, and the package variables that the reading takes, are together of bulk at most 1048576: NARROWER than '..Said'. Prove '..Said' where nothing that the law and all that it calls make is longer than what came in: it says more and counts as full. Else prove '..UptoSaid'. A law counts once. -/
mutual
def uptoBulk {H : Type} : DataW H → Nat
  | .lit (.string bytes) => bytes.length + 1
  | .lit _ => 1
  | .nil => 1
  | .ptr d => uptoBulk d + 1
  | .slice elems spare => uptoBulkAll elems + uptoBulkAll spare + 1
  | .agg parts => uptoBulkAll parts + 1
  | .iface _ d => uptoBulk d + 1
  | .map entries => uptoBulkEntries entries + 1
  | .held _ => 1
def uptoBulkAll {H : Type} : List (DataW H) → Nat
  | [] => 0
  | d :: r => uptoBulk d + uptoBulkAll r
def uptoBulkEntries {H : Type} : List (Lit × DataW H) → Nat
  | [] => 0
  | x :: r => uptoBulkEntry x + uptoBulkEntries r
def uptoBulkEntry {H : Type} : Lit × DataW H → Nat
  | (.string bytes, d) => bytes.length + uptoBulk d + 1
  | (_, d) => uptoBulk d + 1
 end
def uptoSmall : (H : Type) → List (DataW H) → Bool := fun _ ds => decide (uptoBulkAll ds ≤ 1048576)
def OpenSpec.upto (s : _root_.Go.ChangeSpec) : _root_.Go.OpenSpec := { _root_.Go.OpenSpec.ofChange s with cond := some uptoSmall }

/-- 'ratlinelaw09.ClaimChecks', WHERE WHAT IT READS IS OF BULK AT MOST 1048576: true; the input reads as it did. -/
def claimChecksUptoRow : OpenClaim := { program := "ytghpildnajdlpaadoor", sum := "9eb793bb7614cc5e8459230d07250535cff432f6fc511d945cc3ca23c1c2a181", func := "ratline/ratlinelaw09.ClaimChecks", spec := "claimChecks", unfollowed := true, recurses := true, named := ["ratline/mode.against"], loops := true, apart := false, laid := [("ratline/mode.against", laid_ratline_mode_against)], narrowed := true }
def ClaimChecksUptoSaid : Prop := claimChecksUptoRow.holds Tryd.pinned (OpenSpec.upto claimChecksSpec)

/-- 'ratlinelaw09.ClaimPairs', WHERE WHAT IT READS IS OF BULK AT MOST 1048576: true; the input reads as it did. -/
def claimPairsUptoRow : OpenClaim := { program := "ytghpildnajdlpaadoor", sum := "9eb793bb7614cc5e8459230d07250535cff432f6fc511d945cc3ca23c1c2a181", func := "ratline/ratlinelaw09.ClaimPairs", spec := "claimPairs", unfollowed := true, recurses := true, named := ["ratline/mode.against"], loops := true, apart := false, laid := [("ratline/mode.against", laid_ratline_mode_against)], narrowed := true }
def ClaimPairsUptoSaid : Prop := claimPairsUptoRow.holds Tryd.pinned (OpenSpec.upto claimPairsSpec)

/-- 'ratlinelaw09.ClaimTurned', WHERE WHAT IT READS IS OF BULK AT MOST 1048576: true; the input reads as it did. -/
def claimTurnedUptoRow : OpenClaim := { program := "ytghpildnajdlpaadoor", sum := "9eb793bb7614cc5e8459230d07250535cff432f6fc511d945cc3ca23c1c2a181", func := "ratline/ratlinelaw09.ClaimTurned", spec := "claimTurned", unfollowed := true, recurses := true, named := ["ratline/mode.against"], loops := true, apart := false, laid := [("ratline/mode.against", laid_ratline_mode_against)], narrowed := true }
def ClaimTurnedUptoSaid : Prop := claimTurnedUptoRow.holds Tryd.pinned (OpenSpec.upto claimTurnedSpec)

/-- 'ratlinelaw09.ClaimJoins', WHERE WHAT IT READS IS OF BULK AT MOST 1048576: true; the input reads as it did. -/
def claimJoinsUptoRow : OpenClaim := { program := "ytghpildnajdlpaadoor", sum := "9eb793bb7614cc5e8459230d07250535cff432f6fc511d945cc3ca23c1c2a181", func := "ratline/ratlinelaw09.ClaimJoins", spec := "claimJoins", unfollowed := true, recurses := true, named := ["ratline/mode.against"], loops := true, apart := false, laid := [("ratline/mode.against", laid_ratline_mode_against)], narrowed := true }
def ClaimJoinsUptoSaid : Prop := claimJoinsUptoRow.holds Tryd.pinned (OpenSpec.upto claimJoinsSpec)

/-- 'ratlinelaw09.ClaimOwn', WHERE WHAT IT READS IS OF BULK AT MOST 1048576: true; the input reads as it did. -/
def claimOwnUptoRow : OpenClaim := { program := "ytghpildnajdlpaadoor", sum := "9eb793bb7614cc5e8459230d07250535cff432f6fc511d945cc3ca23c1c2a181", func := "ratline/ratlinelaw09.ClaimOwn", spec := "claimOwn", unfollowed := true, recurses := true, named := ["ratline/mode.against"], loops := true, apart := false, laid := [("ratline/mode.against", laid_ratline_mode_against)], narrowed := true }
def ClaimOwnUptoSaid : Prop := claimOwnUptoRow.holds Tryd.pinned (OpenSpec.upto claimOwnSpec)

/-- 'ratlinelaw09.ClaimRows', WHERE WHAT IT READS IS OF BULK AT MOST 1048576: true; the input reads as it did. -/
def claimRowsUptoRow : OpenClaim := { program := "ytghpildnajdlpaadoor", sum := "9eb793bb7614cc5e8459230d07250535cff432f6fc511d945cc3ca23c1c2a181", func := "ratline/ratlinelaw09.ClaimRows", spec := "claimRows", unfollowed := true, recurses := true, named := ["ratline/mode.against"], apart := false, laid := [("ratline/mode.against", laid_ratline_mode_against)], narrowed := true }
def ClaimRowsUptoSaid : Prop := claimRowsUptoRow.holds Tryd.pinned (OpenSpec.upto claimRowsSpec)

/-- 'ratlinelaw09.ClaimTables', WHERE WHAT IT READS IS OF BULK AT MOST 1048576: true; the input reads as it did. -/
def claimTablesUptoRow : OpenClaim := { program := "ytghpildnajdlpaadoor", sum := "9eb793bb7614cc5e8459230d07250535cff432f6fc511d945cc3ca23c1c2a181", func := "ratline/ratlinelaw09.ClaimTables", spec := "claimTables", unfollowed := true, recurses := true, named := ["ratline/mode.against"], loops := true, apart := false, laid := [("ratline/mode.against", laid_ratline_mode_against)], narrowed := true }
def ClaimTablesUptoSaid : Prop := claimTablesUptoRow.holds Tryd.pinned (OpenSpec.upto claimTablesSpec)

/-- 'ratlinelaw09.ClaimImages', WHERE WHAT IT READS IS OF BULK AT MOST 1048576: true; the input reads as it did. -/
def claimImagesUptoRow : OpenClaim := { program := "ytghpildnajdlpaadoor", sum := "9eb793bb7614cc5e8459230d07250535cff432f6fc511d945cc3ca23c1c2a181", func := "ratline/ratlinelaw09.ClaimImages", spec := "claimImages", unfollowed := true, recurses := true, named := ["ratline/mode.against"], loops := true, apart := false, laid := [("ratline/mode.against", laid_ratline_mode_against)], narrowed := true }
def ClaimImagesUptoSaid : Prop := claimImagesUptoRow.holds Tryd.pinned (OpenSpec.upto claimImagesSpec)

end Rows
end Go.Proofs.YtghpildnajdlpaaDoor
