/-
  DERIVED. GIVEN WITH THE SEED: THE CARDS: each row of YtghpildnajdlpaaDoorRows.lean that lists a variable, with what it lists TIED to the program's text (the seventh form; the later family's looks); each row that meets fmt, with fmt's text TOLD by the authors' own Lean function (tested against real Go, not proved from fmt's source: count such statements apart). THE CARD IS WHAT COUNTS. Prove the row's statement (the work); the ties are given (YtghpildnajdlpaaDoorTie.lean); close each card by the builder's one call (the guide's Derived/Test/ToyasCard.lean, 'card_holds'). Laid BY PROGRAM, IN A SANDBOX (cutbox-door.mjs). By AI agents, Wed Nov 11 2026. No macro, syntax, notation, axiom, sorry.
-/
import Derived.Test.YtghpildnajdlpaaDoorRows
import GoSem.ClaimSeven
namespace Go.Proofs.YtghpildnajdlpaaDoor
namespace Rows

/-- THE TIED CARD OF 'ratlinelaw09.ClaimChecks'. -/
def claimChecksCard : Claim7 := { stood := { row := claimChecksRow, standIns := [], harness := (true, "4a2689af4662f8238805df31551a6cf58f21a1e50505b85d6612caa9f429c53f"), looks := false }, kinds := [], alts := [], laidByText := true, laidKinds := [.data], laidTests := true, laidLooks := .later }
def ClaimChecksCardSaid : Prop := Claim7.holds Tryd.pinned (.plain (OpenSpec.ofChange claimChecksSpec)) claimChecksCard

/-- THE TIED CARD OF 'ratlinelaw09.ClaimPairs'. -/
def claimPairsCard : Claim7 := { stood := { row := claimPairsRow, standIns := [], harness := (true, "4a2689af4662f8238805df31551a6cf58f21a1e50505b85d6612caa9f429c53f"), looks := false }, kinds := [], alts := [], laidByText := true, laidKinds := [.data], laidTests := true, laidLooks := .later }
def ClaimPairsCardSaid : Prop := Claim7.holds Tryd.pinned (.plain (OpenSpec.ofChange claimPairsSpec)) claimPairsCard

/-- THE TIED CARD OF 'ratlinelaw09.ClaimTurned'. -/
def claimTurnedCard : Claim7 := { stood := { row := claimTurnedRow, standIns := [], harness := (true, "4a2689af4662f8238805df31551a6cf58f21a1e50505b85d6612caa9f429c53f"), looks := false }, kinds := [], alts := [], laidByText := true, laidKinds := [.data], laidTests := true, laidLooks := .later }
def ClaimTurnedCardSaid : Prop := Claim7.holds Tryd.pinned (.plain (OpenSpec.ofChange claimTurnedSpec)) claimTurnedCard

/-- THE TIED CARD OF 'ratlinelaw09.ClaimJoins'. -/
def claimJoinsCard : Claim7 := { stood := { row := claimJoinsRow, standIns := [], harness := (true, "4a2689af4662f8238805df31551a6cf58f21a1e50505b85d6612caa9f429c53f"), looks := false }, kinds := [], alts := [], laidByText := true, laidKinds := [.data], laidTests := true, laidLooks := .later }
def ClaimJoinsCardSaid : Prop := Claim7.holds Tryd.pinned (.plain (OpenSpec.ofChange claimJoinsSpec)) claimJoinsCard

/-- THE TIED CARD OF 'ratlinelaw09.ClaimOwn'. -/
def claimOwnCard : Claim7 := { stood := { row := claimOwnRow, standIns := [], harness := (true, "4a2689af4662f8238805df31551a6cf58f21a1e50505b85d6612caa9f429c53f"), looks := false }, kinds := [], alts := [], laidByText := true, laidKinds := [.data], laidTests := true, laidLooks := .later }
def ClaimOwnCardSaid : Prop := Claim7.holds Tryd.pinned (.plain (OpenSpec.ofChange claimOwnSpec)) claimOwnCard

/-- THE TIED CARD OF 'ratlinelaw09.ClaimRows'. -/
def claimRowsCard : Claim7 := { stood := { row := claimRowsRow, standIns := [], harness := (true, "4a2689af4662f8238805df31551a6cf58f21a1e50505b85d6612caa9f429c53f"), looks := false }, kinds := [], alts := [], laidByText := true, laidKinds := [.data], laidTests := true, laidLooks := .later }
def ClaimRowsCardSaid : Prop := Claim7.holds Tryd.pinned (.plain (OpenSpec.ofChange claimRowsSpec)) claimRowsCard

/-- THE TIED CARD OF 'ratlinelaw09.ClaimTables'. -/
def claimTablesCard : Claim7 := { stood := { row := claimTablesRow, standIns := [], harness := (true, "4a2689af4662f8238805df31551a6cf58f21a1e50505b85d6612caa9f429c53f"), looks := false }, kinds := [], alts := [], laidByText := true, laidKinds := [.data], laidTests := true, laidLooks := .later }
def ClaimTablesCardSaid : Prop := Claim7.holds Tryd.pinned (.plain (OpenSpec.ofChange claimTablesSpec)) claimTablesCard

/-- THE TIED CARD OF 'ratlinelaw09.ClaimImages'. -/
def claimImagesCard : Claim7 := { stood := { row := claimImagesRow, standIns := [], harness := (true, "4a2689af4662f8238805df31551a6cf58f21a1e50505b85d6612caa9f429c53f"), looks := false }, kinds := [], alts := [], laidByText := true, laidKinds := [.data], laidTests := true, laidLooks := .later }
def ClaimImagesCardSaid : Prop := Claim7.holds Tryd.pinned (.plain (OpenSpec.ofChange claimImagesSpec)) claimImagesCard

/-- THE SECOND FORM's CARD OF 'ratlinelaw09.ClaimChecks'. -/
def claimChecksUptoCard : Claim7 := { stood := { row := claimChecksUptoRow, standIns := [], harness := (true, "4a2689af4662f8238805df31551a6cf58f21a1e50505b85d6612caa9f429c53f"), looks := false }, kinds := [], alts := [], laidByText := true, laidKinds := [.data], laidTests := true, laidLooks := .later }
def ClaimChecksUptoCardSaid : Prop := Claim7.holds Tryd.pinned (.plain (OpenSpec.upto claimChecksSpec)) claimChecksUptoCard

/-- THE SECOND FORM's CARD OF 'ratlinelaw09.ClaimPairs'. -/
def claimPairsUptoCard : Claim7 := { stood := { row := claimPairsUptoRow, standIns := [], harness := (true, "4a2689af4662f8238805df31551a6cf58f21a1e50505b85d6612caa9f429c53f"), looks := false }, kinds := [], alts := [], laidByText := true, laidKinds := [.data], laidTests := true, laidLooks := .later }
def ClaimPairsUptoCardSaid : Prop := Claim7.holds Tryd.pinned (.plain (OpenSpec.upto claimPairsSpec)) claimPairsUptoCard

/-- THE SECOND FORM's CARD OF 'ratlinelaw09.ClaimTurned'. -/
def claimTurnedUptoCard : Claim7 := { stood := { row := claimTurnedUptoRow, standIns := [], harness := (true, "4a2689af4662f8238805df31551a6cf58f21a1e50505b85d6612caa9f429c53f"), looks := false }, kinds := [], alts := [], laidByText := true, laidKinds := [.data], laidTests := true, laidLooks := .later }
def ClaimTurnedUptoCardSaid : Prop := Claim7.holds Tryd.pinned (.plain (OpenSpec.upto claimTurnedSpec)) claimTurnedUptoCard

/-- THE SECOND FORM's CARD OF 'ratlinelaw09.ClaimJoins'. -/
def claimJoinsUptoCard : Claim7 := { stood := { row := claimJoinsUptoRow, standIns := [], harness := (true, "4a2689af4662f8238805df31551a6cf58f21a1e50505b85d6612caa9f429c53f"), looks := false }, kinds := [], alts := [], laidByText := true, laidKinds := [.data], laidTests := true, laidLooks := .later }
def ClaimJoinsUptoCardSaid : Prop := Claim7.holds Tryd.pinned (.plain (OpenSpec.upto claimJoinsSpec)) claimJoinsUptoCard

/-- THE SECOND FORM's CARD OF 'ratlinelaw09.ClaimOwn'. -/
def claimOwnUptoCard : Claim7 := { stood := { row := claimOwnUptoRow, standIns := [], harness := (true, "4a2689af4662f8238805df31551a6cf58f21a1e50505b85d6612caa9f429c53f"), looks := false }, kinds := [], alts := [], laidByText := true, laidKinds := [.data], laidTests := true, laidLooks := .later }
def ClaimOwnUptoCardSaid : Prop := Claim7.holds Tryd.pinned (.plain (OpenSpec.upto claimOwnSpec)) claimOwnUptoCard

/-- THE SECOND FORM's CARD OF 'ratlinelaw09.ClaimRows'. -/
def claimRowsUptoCard : Claim7 := { stood := { row := claimRowsUptoRow, standIns := [], harness := (true, "4a2689af4662f8238805df31551a6cf58f21a1e50505b85d6612caa9f429c53f"), looks := false }, kinds := [], alts := [], laidByText := true, laidKinds := [.data], laidTests := true, laidLooks := .later }
def ClaimRowsUptoCardSaid : Prop := Claim7.holds Tryd.pinned (.plain (OpenSpec.upto claimRowsSpec)) claimRowsUptoCard

/-- THE SECOND FORM's CARD OF 'ratlinelaw09.ClaimTables'. -/
def claimTablesUptoCard : Claim7 := { stood := { row := claimTablesUptoRow, standIns := [], harness := (true, "4a2689af4662f8238805df31551a6cf58f21a1e50505b85d6612caa9f429c53f"), looks := false }, kinds := [], alts := [], laidByText := true, laidKinds := [.data], laidTests := true, laidLooks := .later }
def ClaimTablesUptoCardSaid : Prop := Claim7.holds Tryd.pinned (.plain (OpenSpec.upto claimTablesSpec)) claimTablesUptoCard

/-- THE SECOND FORM's CARD OF 'ratlinelaw09.ClaimImages'. -/
def claimImagesUptoCard : Claim7 := { stood := { row := claimImagesUptoRow, standIns := [], harness := (true, "4a2689af4662f8238805df31551a6cf58f21a1e50505b85d6612caa9f429c53f"), looks := false }, kinds := [], alts := [], laidByText := true, laidKinds := [.data], laidTests := true, laidLooks := .later }
def ClaimImagesUptoCardSaid : Prop := Claim7.holds Tryd.pinned (.plain (OpenSpec.upto claimImagesSpec)) claimImagesUptoCard
end Rows
end Go.Proofs.YtghpildnajdlpaaDoor
