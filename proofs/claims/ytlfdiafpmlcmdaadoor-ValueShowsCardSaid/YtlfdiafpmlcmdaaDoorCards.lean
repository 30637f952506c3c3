/-
  DERIVED. GIVEN WITH THE SEED: THE CARDS: each row of YtlfdiafpmlcmdaaDoorRows.lean that lists a variable, with what it lists TIED to the program's text (the seventh form; the later family's looks); each row that meets fmt, with fmt's text TOLD by the authors' own Lean function (tested against real Go, not proved from fmt's source: count such statements apart). THE CARD IS WHAT COUNTS. Prove the row's statement (the work); the ties are given (YtlfdiafpmlcmdaaDoorTie.lean); close each card by the builder's one call (the guide's Derived/Test/ToyasCard.lean, 'card_holds'). Laid BY PROGRAM, IN A SANDBOX (cutbox-door.mjs). By AI agents, Wed Nov 11 2026. No macro, syntax, notation, axiom, sorry.
-/
import Derived.Test.YtlfdiafpmlcmdaaDoorRows
import GoSem.ClaimSeven
namespace Go.Proofs.YtlfdiafpmlcmdaaDoor
namespace Rows

/-- THE TIED CARD OF 'ratlinelaw01.ValueCompares'. -/
def valueComparesCard : Claim7 := { stood := { row := valueComparesRow, standIns := [], harness := (true, "e12453d300b7848848e07d2158c402a44e3aa5a5342ebbb5ffc1c50fce4366df"), looks := true }, kinds := [], alts := [], laidByText := true, laidKinds := [.data, .data, .data, .sentinel, .sentinel, .data], laidTests := true, laidLooks := .later }
def ValueComparesCardSaid : Prop := Claim7.holds Tryd.pinned (.plain (OpenSpec.ofChange valueComparesSpec)) valueComparesCard

/-- THE TIED CARD OF 'ratlinelaw01.ValueShows'. -/
def valueShowsCard : Claim7 := { stood := { row := valueShowsRow, standIns := [], harness := (true, "e12453d300b7848848e07d2158c402a44e3aa5a5342ebbb5ffc1c50fce4366df"), looks := true }, kinds := [], alts := [], laidByText := true, laidKinds := [.data, .data, .data, .sentinel, .sentinel, .data], laidTests := true, laidLooks := .later }
def ValueShowsCardSaid : Prop := Claim7.holds Tryd.pinned (.plain (OpenSpec.ofChange valueShowsSpec)) valueShowsCard

/-- THE TIED CARD OF 'ratlinelaw01.ValueOrders'. -/
def valueOrdersCard : Claim7 := { stood := { row := valueOrdersRow, standIns := [], harness := (true, "e12453d300b7848848e07d2158c402a44e3aa5a5342ebbb5ffc1c50fce4366df"), looks := true }, kinds := [], alts := [], laidByText := true, laidKinds := [.data, .data, .data, .sentinel, .sentinel, .data], laidTests := true, laidLooks := .later }
def ValueOrdersCardSaid : Prop := Claim7.holds Tryd.pinned (.plain (OpenSpec.ofChange valueOrdersSpec)) valueOrdersCard

/-- THE TIED CARD OF 'ratlinelaw01.ValueBack'. -/
def valueBackCard : Claim7 := { stood := { row := valueBackRow, standIns := [], harness := (true, "e12453d300b7848848e07d2158c402a44e3aa5a5342ebbb5ffc1c50fce4366df"), looks := true }, kinds := [], alts := [], laidByText := true, laidKinds := [.data, .data, .data, .sentinel, .sentinel, .data], laidTests := true, laidLooks := .later }
def ValueBackCardSaid : Prop := Claim7.holds Tryd.pinned (.plain (OpenSpec.ofChange valueBackSpec)) valueBackCard

/-- THE TIED CARD OF 'ratlinelaw01.ValueAhead'. -/
def valueAheadCard : Claim7 := { stood := { row := valueAheadRow, standIns := [], harness := (true, "e12453d300b7848848e07d2158c402a44e3aa5a5342ebbb5ffc1c50fce4366df"), looks := true }, kinds := [], alts := [], laidByText := true, laidKinds := [.data, .data, .data, .sentinel, .sentinel, .data], laidTests := true, laidLooks := .later }
def ValueAheadCardSaid : Prop := Claim7.holds Tryd.pinned (.plain (OpenSpec.ofChange valueAheadSpec)) valueAheadCard

/-- THE TIED CARD OF 'ratlinelaw01.ValueSums'. -/
def valueSumsCard : Claim7 := { stood := { row := valueSumsRow, standIns := [], harness := (true, "e12453d300b7848848e07d2158c402a44e3aa5a5342ebbb5ffc1c50fce4366df"), looks := true }, kinds := [], alts := [], laidByText := true, laidKinds := [.data, .data, .data, .sentinel, .sentinel, .data], laidTests := true, laidLooks := .later }
def ValueSumsCardSaid : Prop := Claim7.holds Tryd.pinned (.plain (OpenSpec.ofChange valueSumsSpec)) valueSumsCard

/-- THE TIED CARD OF 'ratlinelaw01.ValueTurned'. -/
def valueTurnedCard : Claim7 := { stood := { row := valueTurnedRow, standIns := [], harness := (true, "e12453d300b7848848e07d2158c402a44e3aa5a5342ebbb5ffc1c50fce4366df"), looks := true }, kinds := [], alts := [], laidByText := true, laidKinds := [.data, .data, .data, .sentinel, .sentinel, .data], laidTests := true, laidLooks := .later }
def ValueTurnedCardSaid : Prop := Claim7.holds Tryd.pinned (.plain (OpenSpec.ofChange valueTurnedSpec)) valueTurnedCard

/-- THE SECOND FORM's CARD OF 'ratlinelaw01.ValueCompares'. -/
def valueComparesUptoCard : Claim7 := { stood := { row := valueComparesUptoRow, standIns := [], harness := (true, "e12453d300b7848848e07d2158c402a44e3aa5a5342ebbb5ffc1c50fce4366df"), looks := true }, kinds := [], alts := [], laidByText := true, laidKinds := [.data, .data, .data, .sentinel, .sentinel, .data], laidTests := true, laidLooks := .later }
def ValueComparesUptoCardSaid : Prop := Claim7.holds Tryd.pinned (.plain (OpenSpec.upto valueComparesSpec)) valueComparesUptoCard

/-- THE SECOND FORM's CARD OF 'ratlinelaw01.ValueShows'. -/
def valueShowsUptoCard : Claim7 := { stood := { row := valueShowsUptoRow, standIns := [], harness := (true, "e12453d300b7848848e07d2158c402a44e3aa5a5342ebbb5ffc1c50fce4366df"), looks := true }, kinds := [], alts := [], laidByText := true, laidKinds := [.data, .data, .data, .sentinel, .sentinel, .data], laidTests := true, laidLooks := .later }
def ValueShowsUptoCardSaid : Prop := Claim7.holds Tryd.pinned (.plain (OpenSpec.upto valueShowsSpec)) valueShowsUptoCard

/-- THE SECOND FORM's CARD OF 'ratlinelaw01.ValueOrders'. -/
def valueOrdersUptoCard : Claim7 := { stood := { row := valueOrdersUptoRow, standIns := [], harness := (true, "e12453d300b7848848e07d2158c402a44e3aa5a5342ebbb5ffc1c50fce4366df"), looks := true }, kinds := [], alts := [], laidByText := true, laidKinds := [.data, .data, .data, .sentinel, .sentinel, .data], laidTests := true, laidLooks := .later }
def ValueOrdersUptoCardSaid : Prop := Claim7.holds Tryd.pinned (.plain (OpenSpec.upto valueOrdersSpec)) valueOrdersUptoCard

/-- THE SECOND FORM's CARD OF 'ratlinelaw01.ValueBack'. -/
def valueBackUptoCard : Claim7 := { stood := { row := valueBackUptoRow, standIns := [], harness := (true, "e12453d300b7848848e07d2158c402a44e3aa5a5342ebbb5ffc1c50fce4366df"), looks := true }, kinds := [], alts := [], laidByText := true, laidKinds := [.data, .data, .data, .sentinel, .sentinel, .data], laidTests := true, laidLooks := .later }
def ValueBackUptoCardSaid : Prop := Claim7.holds Tryd.pinned (.plain (OpenSpec.upto valueBackSpec)) valueBackUptoCard

/-- THE SECOND FORM's CARD OF 'ratlinelaw01.ValueAhead'. -/
def valueAheadUptoCard : Claim7 := { stood := { row := valueAheadUptoRow, standIns := [], harness := (true, "e12453d300b7848848e07d2158c402a44e3aa5a5342ebbb5ffc1c50fce4366df"), looks := true }, kinds := [], alts := [], laidByText := true, laidKinds := [.data, .data, .data, .sentinel, .sentinel, .data], laidTests := true, laidLooks := .later }
def ValueAheadUptoCardSaid : Prop := Claim7.holds Tryd.pinned (.plain (OpenSpec.upto valueAheadSpec)) valueAheadUptoCard

/-- THE SECOND FORM's CARD OF 'ratlinelaw01.ValueSums'. -/
def valueSumsUptoCard : Claim7 := { stood := { row := valueSumsUptoRow, standIns := [], harness := (true, "e12453d300b7848848e07d2158c402a44e3aa5a5342ebbb5ffc1c50fce4366df"), looks := true }, kinds := [], alts := [], laidByText := true, laidKinds := [.data, .data, .data, .sentinel, .sentinel, .data], laidTests := true, laidLooks := .later }
def ValueSumsUptoCardSaid : Prop := Claim7.holds Tryd.pinned (.plain (OpenSpec.upto valueSumsSpec)) valueSumsUptoCard

/-- THE SECOND FORM's CARD OF 'ratlinelaw01.ValueTurned'. -/
def valueTurnedUptoCard : Claim7 := { stood := { row := valueTurnedUptoRow, standIns := [], harness := (true, "e12453d300b7848848e07d2158c402a44e3aa5a5342ebbb5ffc1c50fce4366df"), looks := true }, kinds := [], alts := [], laidByText := true, laidKinds := [.data, .data, .data, .sentinel, .sentinel, .data], laidTests := true, laidLooks := .later }
def ValueTurnedUptoCardSaid : Prop := Claim7.holds Tryd.pinned (.plain (OpenSpec.upto valueTurnedSpec)) valueTurnedUptoCard
end Rows
end Go.Proofs.YtlfdiafpmlcmdaaDoor
