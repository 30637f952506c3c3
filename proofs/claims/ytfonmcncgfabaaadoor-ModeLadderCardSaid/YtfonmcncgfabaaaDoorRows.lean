/-
  NARROWER THAN 'FOR EVERY INPUT', by the rows' own cells (each row's printed sentence says how): ModePairs: laid · ModeJoins: laid · ModeOrders: laid · ModeGrows: laid · ModeLadder: laid · ModeNames: laid · ModeTables: laid.
  DERIVED. THE GIVEN ROWS OF THIS SEAT. 7 by the template 'for every input the law returns true; each argument reads behind the call as it read before'; 0 by the template 'total and deterministic' (their statements: YtfonmcncgfabaaaDoorTotals.lean).
  GIVEN WITH THE SEED: the statements are not yours to turn. If you find one false, say at which input.
  Laid BY PROGRAM, IN A SANDBOX (cutbox-rows.mjs): the forced cells as the released guide's own fill.sh prints them over the translation dfc4340df89bfef3… (all of the seat's roots in one cut). By AI agents, Wed Nov 11 2026. No macro, syntax, notation, axiom, sorry.
-/
import Derived.Test.YtfonmcncgfabaaaDoorChecked
import GoSem.Claim
import GoSem.ClaimJoined
import GoSem.ClaimMapViews
import Derived.JoinedTies
import Derived.KernelRfl
namespace Go.Proofs.YtfonmcncgfabaaaDoor
/- THE CELL 'sum', in the pinned program and in every row, IS THE sha256 OF THE DUMP (.gsa) THAT YtfonmcncgfabaaaDoorProg.lean LOADS. Nothing in Lean hashes anything: it is a label: what it is worth is what the hold of that sum in a sandbox is worth. -/
noncomputable def Tryd.pinned : Pinned := { name := "ytfonmcncgfabaaadoor", sum := "dfc4340df89bfef3268c4b958032382ed2f83f659bbc633dc60728e4a5621762", checked := Tryd.checked }
namespace Rows
def none {H : Type} : Left H := { results := [], args := [] }

/- WHAT THE LISTED PACKAGE-LEVEL VARIABLES READ AS WHEN THE CALL BEGINS. Each datum BY PROGRAM (the guide's laid-datum.mjs) off the statement by which the dump's own 'gosem.cut.vars' lays the variable. In a bare row this is a premise. The card (YtfonmcncgfabaaaDoorCards.lean) ties it to the program's text. -/
def laid_ratline_mode_against {H : Type} : DataW H := .agg [.lit (.int .u8 0), .lit (.int .u8 64), .lit (.int .u8 120), .lit (.int .u8 84), .lit (.int .u8 124), .lit (.int .u8 116), .lit (.int .u8 126)]
def laid_ratline_mode_names {H : Type} : DataW H := .agg [.lit (.string [78, 76]), .lit (.string [73, 83]), .lit (.string [73, 88]), .lit (.string [83]), .lit (.string [83, 73, 88]), .lit (.string [85]), .lit (.string [88])]

/-- 'ratlinelaw08.ModePairs': WHATEVER THE INPUT: true; the input reads as it did. -/
def modePairsSpec : ChangeSpec := { name := "modePairs", fn := fun _ => fun
  | [d1, d2] => { results := [.lit (.bool true)], args := [d1, d2] }
  | _ => none }
def modePairsRow : OpenClaim := { program := "ytfonmcncgfabaaadoor", sum := "dfc4340df89bfef3268c4b958032382ed2f83f659bbc633dc60728e4a5621762", func := "ratline/ratlinelaw08.ModePairs", spec := "modePairs", named := ["ratline/mode.against", "ratline/mode.names"], apart := false, laid := [("ratline/mode.against", laid_ratline_mode_against), ("ratline/mode.names", laid_ratline_mode_names)] }
def ModePairsSaid : Prop := modePairsRow.holds Tryd.pinned (OpenSpec.ofChange modePairsSpec)

/-- ITS FALSE NEIGHBOUR: 'it returns false'. Refute it at one input. -/
def modePairsWrong : ChangeSpec := { name := "modePairs", fn := fun _ => fun
  | [d1, d2] => { results := [.lit (.bool false)], args := [d1, d2] }
  | _ => none }
def ModePairsWrongFalsely : Prop := modePairsRow.holds Tryd.pinned (OpenSpec.ofChange modePairsWrong)

/-- 'ratlinelaw08.ModeJoins': WHATEVER THE INPUT: true; the input reads as it did. -/
def modeJoinsSpec : ChangeSpec := { name := "modeJoins", fn := fun _ => fun
  | [d1, d2, d3] => { results := [.lit (.bool true)], args := [d1, d2, d3] }
  | _ => none }
def modeJoinsRow : OpenClaim := { program := "ytfonmcncgfabaaadoor", sum := "dfc4340df89bfef3268c4b958032382ed2f83f659bbc633dc60728e4a5621762", func := "ratline/ratlinelaw08.ModeJoins", spec := "modeJoins", named := ["ratline/mode.against", "ratline/mode.names"], apart := false, laid := [("ratline/mode.against", laid_ratline_mode_against), ("ratline/mode.names", laid_ratline_mode_names)] }
def ModeJoinsSaid : Prop := modeJoinsRow.holds Tryd.pinned (OpenSpec.ofChange modeJoinsSpec)

/-- ITS FALSE NEIGHBOUR: 'it returns false'. Refute it at one input. -/
def modeJoinsWrong : ChangeSpec := { name := "modeJoins", fn := fun _ => fun
  | [d1, d2, d3] => { results := [.lit (.bool false)], args := [d1, d2, d3] }
  | _ => none }
def ModeJoinsWrongFalsely : Prop := modeJoinsRow.holds Tryd.pinned (OpenSpec.ofChange modeJoinsWrong)

/-- 'ratlinelaw08.ModeOrders': WHATEVER THE INPUT: true; the input reads as it did. -/
def modeOrdersSpec : ChangeSpec := { name := "modeOrders", fn := fun _ => fun
  | [d1, d2, d3] => { results := [.lit (.bool true)], args := [d1, d2, d3] }
  | _ => none }
def modeOrdersRow : OpenClaim := { program := "ytfonmcncgfabaaadoor", sum := "dfc4340df89bfef3268c4b958032382ed2f83f659bbc633dc60728e4a5621762", func := "ratline/ratlinelaw08.ModeOrders", spec := "modeOrders", named := ["ratline/mode.against", "ratline/mode.names"], apart := false, laid := [("ratline/mode.against", laid_ratline_mode_against), ("ratline/mode.names", laid_ratline_mode_names)] }
def ModeOrdersSaid : Prop := modeOrdersRow.holds Tryd.pinned (OpenSpec.ofChange modeOrdersSpec)

/-- ITS FALSE NEIGHBOUR: 'it returns false'. Refute it at one input. -/
def modeOrdersWrong : ChangeSpec := { name := "modeOrders", fn := fun _ => fun
  | [d1, d2, d3] => { results := [.lit (.bool false)], args := [d1, d2, d3] }
  | _ => none }
def ModeOrdersWrongFalsely : Prop := modeOrdersRow.holds Tryd.pinned (OpenSpec.ofChange modeOrdersWrong)

/-- 'ratlinelaw08.ModeGrows': WHATEVER THE INPUT: true; the input reads as it did. -/
def modeGrowsSpec : ChangeSpec := { name := "modeGrows", fn := fun _ => fun
  | [d1, d2, d3] => { results := [.lit (.bool true)], args := [d1, d2, d3] }
  | _ => none }
def modeGrowsRow : OpenClaim := { program := "ytfonmcncgfabaaadoor", sum := "dfc4340df89bfef3268c4b958032382ed2f83f659bbc633dc60728e4a5621762", func := "ratline/ratlinelaw08.ModeGrows", spec := "modeGrows", named := ["ratline/mode.against", "ratline/mode.names"], apart := false, laid := [("ratline/mode.against", laid_ratline_mode_against), ("ratline/mode.names", laid_ratline_mode_names)] }
def ModeGrowsSaid : Prop := modeGrowsRow.holds Tryd.pinned (OpenSpec.ofChange modeGrowsSpec)

/-- ITS FALSE NEIGHBOUR: 'it returns false'. Refute it at one input. -/
def modeGrowsWrong : ChangeSpec := { name := "modeGrows", fn := fun _ => fun
  | [d1, d2, d3] => { results := [.lit (.bool false)], args := [d1, d2, d3] }
  | _ => none }
def ModeGrowsWrongFalsely : Prop := modeGrowsRow.holds Tryd.pinned (OpenSpec.ofChange modeGrowsWrong)

/-- 'ratlinelaw08.ModeLadder': WHATEVER THE INPUT: true; the input reads as it did. -/
def modeLadderSpec : ChangeSpec := { name := "modeLadder", fn := fun _ => fun
  | [d] => { results := [.lit (.bool true)], args := [d] }
  | _ => none }
def modeLadderRow : OpenClaim := { program := "ytfonmcncgfabaaadoor", sum := "dfc4340df89bfef3268c4b958032382ed2f83f659bbc633dc60728e4a5621762", func := "ratline/ratlinelaw08.ModeLadder", spec := "modeLadder", named := ["ratline/mode.against", "ratline/mode.names"], apart := false, laid := [("ratline/mode.against", laid_ratline_mode_against), ("ratline/mode.names", laid_ratline_mode_names)] }
def ModeLadderSaid : Prop := modeLadderRow.holds Tryd.pinned (OpenSpec.ofChange modeLadderSpec)

/-- ITS FALSE NEIGHBOUR: 'it returns false'. Refute it at one input. -/
def modeLadderWrong : ChangeSpec := { name := "modeLadder", fn := fun _ => fun
  | [d] => { results := [.lit (.bool false)], args := [d] }
  | _ => none }
def ModeLadderWrongFalsely : Prop := modeLadderRow.holds Tryd.pinned (OpenSpec.ofChange modeLadderWrong)

/-- 'ratlinelaw08.ModeNames': WHATEVER THE INPUT: true; the input reads as it did. -/
def modeNamesSpec : ChangeSpec := { name := "modeNames", fn := fun _ => fun
  | [d] => { results := [.lit (.bool true)], args := [d] }
  | _ => none }
def modeNamesRow : OpenClaim := { program := "ytfonmcncgfabaaadoor", sum := "dfc4340df89bfef3268c4b958032382ed2f83f659bbc633dc60728e4a5621762", func := "ratline/ratlinelaw08.ModeNames", spec := "modeNames", named := ["ratline/mode.against", "ratline/mode.names"], apart := false, laid := [("ratline/mode.against", laid_ratline_mode_against), ("ratline/mode.names", laid_ratline_mode_names)] }
def ModeNamesSaid : Prop := modeNamesRow.holds Tryd.pinned (OpenSpec.ofChange modeNamesSpec)

/-- ITS FALSE NEIGHBOUR: 'it returns false'. Refute it at one input. -/
def modeNamesWrong : ChangeSpec := { name := "modeNames", fn := fun _ => fun
  | [d] => { results := [.lit (.bool false)], args := [d] }
  | _ => none }
def ModeNamesWrongFalsely : Prop := modeNamesRow.holds Tryd.pinned (OpenSpec.ofChange modeNamesWrong)

/-- 'ratlinelaw08.ModeTables': WHATEVER THE INPUT: true; the input reads as it did. -/
def modeTablesSpec : ChangeSpec := { name := "modeTables", fn := fun _ => fun
  | [d1, d2] => { results := [.lit (.bool true)], args := [d1, d2] }
  | _ => none }
def modeTablesRow : OpenClaim := { program := "ytfonmcncgfabaaadoor", sum := "dfc4340df89bfef3268c4b958032382ed2f83f659bbc633dc60728e4a5621762", func := "ratline/ratlinelaw08.ModeTables", spec := "modeTables", named := ["ratline/mode.against", "ratline/mode.names"], apart := false, laid := [("ratline/mode.against", laid_ratline_mode_against), ("ratline/mode.names", laid_ratline_mode_names)] }
def ModeTablesSaid : Prop := modeTablesRow.holds Tryd.pinned (OpenSpec.ofChange modeTablesSpec)

/-- ITS FALSE NEIGHBOUR: 'it returns false'. Refute it at one input. -/
def modeTablesWrong : ChangeSpec := { name := "modeTables", fn := fun _ => fun
  | [d1, d2] => { results := [.lit (.bool false)], args := [d1, d2] }
  | _ => none }
def ModeTablesWrongFalsely : Prop := modeTablesRow.holds Tryd.pinned (OpenSpec.ofChange modeTablesWrong)

/- THE SECOND FORM. 'bulk': how many values and letters a reading holds, each counted each time it is reached (what is shared counts as often as it is met; a slice's spare places count too). A statement '..UptoSaid' is the law's where the arguments, and the package variables that the reading takes, are together of bulk at most 1048576: NARROWER than '..Said'. Prove '..Said' where nothing that the law and all that it calls make is longer than what came in: it says more and counts as full. Else prove '..UptoSaid'. A law counts once. -/
mutual
def uptoBulk {H : Type} : DataW H → Nat
  | .lit (.string bytes) => bytes.length + 1
  | .lit _ => 1
  | .nil => 1
  | .ptr d => uptoBulk d + 1
  | .slice elems spare => uptoBulkAll elems + uptoBulkAll spare + 1
  | .agg parts => uptoBulkAll parts + 1
  | .iface _ d => uptoBulk d + 1
  | .map entries => uptoBulkEntries entries + 1
  | .held _ => 1
def uptoBulkAll {H : Type} : List (DataW H) → Nat
  | [] => 0
  | d :: r => uptoBulk d + uptoBulkAll r
def uptoBulkEntries {H : Type} : List (Lit × DataW H) → Nat
  | [] => 0
  | x :: r => uptoBulkEntry x + uptoBulkEntries r
def uptoBulkEntry {H : Type} : Lit × DataW H → Nat
  | (.string bytes, d) => bytes.length + uptoBulk d + 1
  | (_, d) => uptoBulk d + 1
 end
def uptoSmall : (H : Type) → List (DataW H) → Bool := fun _ ds => decide (uptoBulkAll ds ≤ 1048576)
def OpenSpec.upto (s : _root_.Go.ChangeSpec) : _root_.Go.OpenSpec := { _root_.Go.OpenSpec.ofChange s with cond := some uptoSmall }

/-- 'ratlinelaw08.ModePairs', WHERE WHAT IT READS IS OF BULK AT MOST 1048576: true; the input reads as it did. -/
def modePairsUptoRow : OpenClaim := { program := "ytfonmcncgfabaaadoor", sum := "dfc4340df89bfef3268c4b958032382ed2f83f659bbc633dc60728e4a5621762", func := "ratline/ratlinelaw08.ModePairs", spec := "modePairs", named := ["ratline/mode.against", "ratline/mode.names"], apart := false, laid := [("ratline/mode.against", laid_ratline_mode_against), ("ratline/mode.names", laid_ratline_mode_names)], narrowed := true }
def ModePairsUptoSaid : Prop := modePairsUptoRow.holds Tryd.pinned (OpenSpec.upto modePairsSpec)

/-- 'ratlinelaw08.ModeJoins', WHERE WHAT IT READS IS OF BULK AT MOST 1048576: true; the input reads as it did. -/
def modeJoinsUptoRow : OpenClaim := { program := "ytfonmcncgfabaaadoor", sum := "dfc4340df89bfef3268c4b958032382ed2f83f659bbc633dc60728e4a5621762", func := "ratline/ratlinelaw08.ModeJoins", spec := "modeJoins", named := ["ratline/mode.against", "ratline/mode.names"], apart := false, laid := [("ratline/mode.against", laid_ratline_mode_against), ("ratline/mode.names", laid_ratline_mode_names)], narrowed := true }
def ModeJoinsUptoSaid : Prop := modeJoinsUptoRow.holds Tryd.pinned (OpenSpec.upto modeJoinsSpec)

/-- 'ratlinelaw08.ModeOrders', WHERE WHAT IT READS IS OF BULK AT MOST 1048576: true; the input reads as it did. -/
def modeOrdersUptoRow : OpenClaim := { program := "ytfonmcncgfabaaadoor", sum := "dfc4340df89bfef3268c4b958032382ed2f83f659bbc633dc60728e4a5621762", func := "ratline/ratlinelaw08.ModeOrders", spec := "modeOrders", named := ["ratline/mode.against", "ratline/mode.names"], apart := false, laid := [("ratline/mode.against", laid_ratline_mode_against), ("ratline/mode.names", laid_ratline_mode_names)], narrowed := true }
def ModeOrdersUptoSaid : Prop := modeOrdersUptoRow.holds Tryd.pinned (OpenSpec.upto modeOrdersSpec)

/-- 'ratlinelaw08.ModeGrows', WHERE WHAT IT READS IS OF BULK AT MOST 1048576: true; the input reads as it did. -/
def modeGrowsUptoRow : OpenClaim := { program := "ytfonmcncgfabaaadoor", sum := "dfc4340df89bfef3268c4b958032382ed2f83f659bbc633dc60728e4a5621762", func := "ratline/ratlinelaw08.ModeGrows", spec := "modeGrows", named := ["ratline/mode.against", "ratline/mode.names"], apart := false, laid := [("ratline/mode.against", laid_ratline_mode_against), ("ratline/mode.names", laid_ratline_mode_names)], narrowed := true }
def ModeGrowsUptoSaid : Prop := modeGrowsUptoRow.holds Tryd.pinned (OpenSpec.upto modeGrowsSpec)

/-- 'ratlinelaw08.ModeLadder', WHERE WHAT IT READS IS OF BULK AT MOST 1048576: true; the input reads as it did. -/
def modeLadderUptoRow : OpenClaim := { program := "ytfonmcncgfabaaadoor", sum := "dfc4340df89bfef3268c4b958032382ed2f83f659bbc633dc60728e4a5621762", func := "ratline/ratlinelaw08.ModeLadder", spec := "modeLadder", named := ["ratline/mode.against", "ratline/mode.names"], apart := false, laid := [("ratline/mode.against", laid_ratline_mode_against), ("ratline/mode.names", laid_ratline_mode_names)], narrowed := true }
def ModeLadderUptoSaid : Prop := modeLadderUptoRow.holds Tryd.pinned (OpenSpec.upto modeLadderSpec)

/-- 'ratlinelaw08.ModeNames', WHERE WHAT IT READS IS OF BULK AT MOST 1048576: true; the input reads as it did. -/
def modeNamesUptoRow : OpenClaim := { program := "ytfonmcncgfabaaadoor", sum := "dfc4340df89bfef3268c4b958032382ed2f83f659bbc633dc60728e4a5621762", func := "ratline/ratlinelaw08.ModeNames", spec := "modeNames", named := ["ratline/mode.against", "ratline/mode.names"], apart := false, laid := [("ratline/mode.against", laid_ratline_mode_against), ("ratline/mode.names", laid_ratline_mode_names)], narrowed := true }
def ModeNamesUptoSaid : Prop := modeNamesUptoRow.holds Tryd.pinned (OpenSpec.upto modeNamesSpec)

/-- 'ratlinelaw08.ModeTables', WHERE WHAT IT READS IS OF BULK AT MOST 1048576: true; the input reads as it did. -/
def modeTablesUptoRow : OpenClaim := { program := "ytfonmcncgfabaaadoor", sum := "dfc4340df89bfef3268c4b958032382ed2f83f659bbc633dc60728e4a5621762", func := "ratline/ratlinelaw08.ModeTables", spec := "modeTables", named := ["ratline/mode.against", "ratline/mode.names"], apart := false, laid := [("ratline/mode.against", laid_ratline_mode_against), ("ratline/mode.names", laid_ratline_mode_names)], narrowed := true }
def ModeTablesUptoSaid : Prop := modeTablesUptoRow.holds Tryd.pinned (OpenSpec.upto modeTablesSpec)

end Rows
end Go.Proofs.YtfonmcncgfabaaaDoor
