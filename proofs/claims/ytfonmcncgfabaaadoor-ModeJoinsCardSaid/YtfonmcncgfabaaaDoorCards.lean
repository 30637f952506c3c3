/-
  DERIVED. GIVEN WITH THE SEED: THE CARDS: each row of YtfonmcncgfabaaaDoorRows.lean that lists a variable, with what it lists TIED to the program's text (the seventh form; the later family's looks); each row that meets fmt, with fmt's text TOLD by the authors' own Lean function (tested against real Go, not proved from fmt's source: count such statements apart). THE CARD IS WHAT COUNTS. Prove the row's statement (the work); the ties are given (YtfonmcncgfabaaaDoorTie.lean); close each card by the builder's one call (the guide's Derived/Test/ToyasCard.lean, 'card_holds'). Laid BY PROGRAM, IN A SANDBOX (cutbox-door.mjs). By AI agents, Wed Nov 11 2026. No macro, syntax, notation, axiom, sorry.
-/
import Derived.Test.YtfonmcncgfabaaaDoorRows
import GoSem.ClaimSeven
namespace Go.Proofs.YtfonmcncgfabaaaDoor
namespace Rows

/-- THE TIED CARD OF 'ratlinelaw08.ModePairs'. -/
def modePairsCard : Claim7 := { stood := { row := modePairsRow, standIns := [], harness := (true, "d83b54d2fdaf808114faa8980207ad56c7c6d6d8625df4bc561b49d1209eab1c"), looks := false }, kinds := [], alts := [], laidByText := true, laidKinds := [.data, .data], laidTests := true, laidLooks := .later }
def ModePairsCardSaid : Prop := Claim7.holds Tryd.pinned (.plain (OpenSpec.ofChange modePairsSpec)) modePairsCard

/-- THE TIED CARD OF 'ratlinelaw08.ModeJoins'. -/
def modeJoinsCard : Claim7 := { stood := { row := modeJoinsRow, standIns := [], harness := (true, "d83b54d2fdaf808114faa8980207ad56c7c6d6d8625df4bc561b49d1209eab1c"), looks := false }, kinds := [], alts := [], laidByText := true, laidKinds := [.data, .data], laidTests := true, laidLooks := .later }
def ModeJoinsCardSaid : Prop := Claim7.holds Tryd.pinned (.plain (OpenSpec.ofChange modeJoinsSpec)) modeJoinsCard

/-- THE TIED CARD OF 'ratlinelaw08.ModeOrders'. -/
def modeOrdersCard : Claim7 := { stood := { row := modeOrdersRow, standIns := [], harness := (true, "d83b54d2fdaf808114faa8980207ad56c7c6d6d8625df4bc561b49d1209eab1c"), looks := false }, kinds := [], alts := [], laidByText := true, laidKinds := [.data, .data], laidTests := true, laidLooks := .later }
def ModeOrdersCardSaid : Prop := Claim7.holds Tryd.pinned (.plain (OpenSpec.ofChange modeOrdersSpec)) modeOrdersCard

/-- THE TIED CARD OF 'ratlinelaw08.ModeGrows'. -/
def modeGrowsCard : Claim7 := { stood := { row := modeGrowsRow, standIns := [], harness := (true, "d83b54d2fdaf808114faa8980207ad56c7c6d6d8625df4bc561b49d1209eab1c"), looks := false }, kinds := [], alts := [], laidByText := true, laidKinds := [.data, .data], laidTests := true, laidLooks := .later }
def ModeGrowsCardSaid : Prop := Claim7.holds Tryd.pinned (.plain (OpenSpec.ofChange modeGrowsSpec)) modeGrowsCard

/-- THE TIED CARD OF 'ratlinelaw08.ModeLadder'. -/
def modeLadderCard : Claim7 := { stood := { row := modeLadderRow, standIns := [], harness := (true, "d83b54d2fdaf808114faa8980207ad56c7c6d6d8625df4bc561b49d1209eab1c"), looks := false }, kinds := [], alts := [], laidByText := true, laidKinds := [.data, .data], laidTests := true, laidLooks := .later }
def ModeLadderCardSaid : Prop := Claim7.holds Tryd.pinned (.plain (OpenSpec.ofChange modeLadderSpec)) modeLadderCard

/-- THE TIED CARD OF 'ratlinelaw08.ModeNames'. -/
def modeNamesCard : Claim7 := { stood := { row := modeNamesRow, standIns := [], harness := (true, "d83b54d2fdaf808114faa8980207ad56c7c6d6d8625df4bc561b49d1209eab1c"), looks := false }, kinds := [], alts := [], laidByText := true, laidKinds := [.data, .data], laidTests := true, laidLooks := .later }
def ModeNamesCardSaid : Prop := Claim7.holds Tryd.pinned (.plain (OpenSpec.ofChange modeNamesSpec)) modeNamesCard

/-- THE TIED CARD OF 'ratlinelaw08.ModeTables'. -/
def modeTablesCard : Claim7 := { stood := { row := modeTablesRow, standIns := [], harness := (true, "d83b54d2fdaf808114faa8980207ad56c7c6d6d8625df4bc561b49d1209eab1c"), looks := false }, kinds := [], alts := [], laidByText := true, laidKinds := [.data, .data], laidTests := true, laidLooks := .later }
def ModeTablesCardSaid : Prop := Claim7.holds Tryd.pinned (.plain (OpenSpec.ofChange modeTablesSpec)) modeTablesCard

/-- THE SECOND FORM's CARD OF 'ratlinelaw08.ModePairs'. -/
def modePairsUptoCard : Claim7 := { stood := { row := modePairsUptoRow, standIns := [], harness := (true, "d83b54d2fdaf808114faa8980207ad56c7c6d6d8625df4bc561b49d1209eab1c"), looks := false }, kinds := [], alts := [], laidByText := true, laidKinds := [.data, .data], laidTests := true, laidLooks := .later }
def ModePairsUptoCardSaid : Prop := Claim7.holds Tryd.pinned (.plain (OpenSpec.upto modePairsSpec)) modePairsUptoCard

/-- THE SECOND FORM's CARD OF 'ratlinelaw08.ModeJoins'. -/
def modeJoinsUptoCard : Claim7 := { stood := { row := modeJoinsUptoRow, standIns := [], harness := (true, "d83b54d2fdaf808114faa8980207ad56c7c6d6d8625df4bc561b49d1209eab1c"), looks := false }, kinds := [], alts := [], laidByText := true, laidKinds := [.data, .data], laidTests := true, laidLooks := .later }
def ModeJoinsUptoCardSaid : Prop := Claim7.holds Tryd.pinned (.plain (OpenSpec.upto modeJoinsSpec)) modeJoinsUptoCard

/-- THE SECOND FORM's CARD OF 'ratlinelaw08.ModeOrders'. -/
def modeOrdersUptoCard : Claim7 := { stood := { row := modeOrdersUptoRow, standIns := [], harness := (true, "d83b54d2fdaf808114faa8980207ad56c7c6d6d8625df4bc561b49d1209eab1c"), looks := false }, kinds := [], alts := [], laidByText := true, laidKinds := [.data, .data], laidTests := true, laidLooks := .later }
def ModeOrdersUptoCardSaid : Prop := Claim7.holds Tryd.pinned (.plain (OpenSpec.upto modeOrdersSpec)) modeOrdersUptoCard

/-- THE SECOND FORM's CARD OF 'ratlinelaw08.ModeGrows'. -/
def modeGrowsUptoCard : Claim7 := { stood := { row := modeGrowsUptoRow, standIns := [], harness := (true, "d83b54d2fdaf808114faa8980207ad56c7c6d6d8625df4bc561b49d1209eab1c"), looks := false }, kinds := [], alts := [], laidByText := true, laidKinds := [.data, .data], laidTests := true, laidLooks := .later }
def ModeGrowsUptoCardSaid : Prop := Claim7.holds Tryd.pinned (.plain (OpenSpec.upto modeGrowsSpec)) modeGrowsUptoCard

/-- THE SECOND FORM's CARD OF 'ratlinelaw08.ModeLadder'. -/
def modeLadderUptoCard : Claim7 := { stood := { row := modeLadderUptoRow, standIns := [], harness := (true, "d83b54d2fdaf808114faa8980207ad56c7c6d6d8625df4bc561b49d1209eab1c"), looks := false }, kinds := [], alts := [], laidByText := true, laidKinds := [.data, .data], laidTests := true, laidLooks := .later }
def ModeLadderUptoCardSaid : Prop := Claim7.holds Tryd.pinned (.plain (OpenSpec.upto modeLadderSpec)) modeLadderUptoCard

/-- THE SECOND FORM's CARD OF 'ratlinelaw08.ModeNames'. -/
def modeNamesUptoCard : Claim7 := { stood := { row := modeNamesUptoRow, standIns := [], harness := (true, "d83b54d2fdaf808114faa8980207ad56c7c6d6d8625df4bc561b49d1209eab1c"), looks := false }, kinds := [], alts := [], laidByText := true, laidKinds := [.data, .data], laidTests := true, laidLooks := .later }
def ModeNamesUptoCardSaid : Prop := Claim7.holds Tryd.pinned (.plain (OpenSpec.upto modeNamesSpec)) modeNamesUptoCard

/-- THE SECOND FORM's CARD OF 'ratlinelaw08.ModeTables'. -/
def modeTablesUptoCard : Claim7 := { stood := { row := modeTablesUptoRow, standIns := [], harness := (true, "d83b54d2fdaf808114faa8980207ad56c7c6d6d8625df4bc561b49d1209eab1c"), looks := false }, kinds := [], alts := [], laidByText := true, laidKinds := [.data, .data], laidTests := true, laidLooks := .later }
def ModeTablesUptoCardSaid : Prop := Claim7.holds Tryd.pinned (.plain (OpenSpec.upto modeTablesSpec)) modeTablesUptoCard
end Rows
end Go.Proofs.YtfonmcncgfabaaaDoor
