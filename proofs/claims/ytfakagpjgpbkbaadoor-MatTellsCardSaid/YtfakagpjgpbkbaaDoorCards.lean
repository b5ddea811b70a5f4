/-
  DERIVED. GIVEN WITH THE SEED: THE CARDS: each row of YtfakagpjgpbkbaaDoorRows.lean that lists a variable, with what it lists TIED to the program's text (the seventh form; the later family's looks); each row that meets fmt, with fmt's text TOLD by the authors' own Lean function (tested against real Go, not proved from fmt's source: count such statements apart). THE CARD IS WHAT COUNTS. Prove the row's statement (the work); the ties are given (YtfakagpjgpbkbaaDoorTie.lean); close each card by the builder's one call (the guide's Derived/Test/ToyasCard.lean, 'card_holds'). Laid BY PROGRAM, IN A SANDBOX (cutbox-door.mjs). By AI agents, Wed Nov 11 2026. No macro, syntax, notation, axiom, sorry.
-/
import Derived.Test.YtfakagpjgpbkbaaDoorRows
import GoSem.ClaimSeven
namespace Go.Proofs.YtfakagpjgpbkbaaDoor
namespace Rows

/-- THE TIED CARD OF 'eyewitnesslaw02.RowLists'. -/
def rowListsCard : Claim7 := { stood := { row := rowListsRow, standIns := [], harness := (true, "c43242dcb1505edcc0c5a1ea60ece29195914f2c9d8dba7b3b67d8be2fe879e3"), looks := false }, kinds := [], alts := [], laidByText := true, laidKinds := [.data], laidTests := true, laidLooks := .later }
def RowListsCardSaid : Prop := Claim7.holds Tryd.pinned (.plain (OpenSpec.ofChange rowListsSpec)) rowListsCard

/-- THE TIED CARD OF 'eyewitnesslaw02.RowTells'. -/
def rowTellsCard : Claim7 := { stood := { row := rowTellsRow, standIns := [], harness := (true, "c43242dcb1505edcc0c5a1ea60ece29195914f2c9d8dba7b3b67d8be2fe879e3"), looks := false }, kinds := [], alts := [], laidByText := true, laidKinds := [.data], laidTests := true, laidLooks := .later }
def RowTellsCardSaid : Prop := Claim7.holds Tryd.pinned (.plain (OpenSpec.ofChange rowTellsSpec)) rowTellsCard

/-- THE TIED CARD OF 'eyewitnesslaw02.RowSets'. -/
def rowSetsCard : Claim7 := { stood := { row := rowSetsRow, standIns := [], harness := (true, "c43242dcb1505edcc0c5a1ea60ece29195914f2c9d8dba7b3b67d8be2fe879e3"), looks := false }, kinds := [], alts := [], laidByText := true, laidKinds := [.data], laidTests := true, laidLooks := .later }
def RowSetsCardSaid : Prop := Claim7.holds Tryd.pinned (.plain (OpenSpec.ofChange rowSetsSpec)) rowSetsCard

/-- THE TIED CARD OF 'eyewitnesslaw03.MatBack'. -/
def matBackCard : Claim7 := { stood := { row := matBackRow, standIns := [], harness := (true, "c43242dcb1505edcc0c5a1ea60ece29195914f2c9d8dba7b3b67d8be2fe879e3"), looks := false }, kinds := [], alts := [], laidByText := true, laidKinds := [.data], laidTests := true, laidLooks := .later }
def MatBackCardSaid : Prop := Claim7.holds Tryd.pinned (.plain (OpenSpec.ofChange matBackSpec)) matBackCard

/-- THE TIED CARD OF 'eyewitnesslaw04.HullLeast'. -/
def hullLeastCard : Claim7 := { stood := { row := hullLeastRow, standIns := [], harness := (true, "c43242dcb1505edcc0c5a1ea60ece29195914f2c9d8dba7b3b67d8be2fe879e3"), looks := false }, kinds := [], alts := [], laidByText := true, laidKinds := [.data], laidTests := true, laidLooks := .later }
def HullLeastCardSaid : Prop := Claim7.holds Tryd.pinned (.plain (OpenSpec.ofChange hullLeastSpec)) hullLeastCard

/-- THE TIED CARD OF 'eyewitnesslaw04.HullOrder'. -/
def hullOrderCard : Claim7 := { stood := { row := hullOrderRow, standIns := [], harness := (true, "c43242dcb1505edcc0c5a1ea60ece29195914f2c9d8dba7b3b67d8be2fe879e3"), looks := false }, kinds := [], alts := [], laidByText := true, laidKinds := [.data], laidTests := true, laidLooks := .later }
def HullOrderCardSaid : Prop := Claim7.holds Tryd.pinned (.plain (OpenSpec.ofChange hullOrderSpec)) hullOrderCard

/-- THE TIED CARD OF 'eyewitnesslaw04.HullTurned'. -/
def hullTurnedCard : Claim7 := { stood := { row := hullTurnedRow, standIns := [], harness := (true, "c43242dcb1505edcc0c5a1ea60ece29195914f2c9d8dba7b3b67d8be2fe879e3"), looks := false }, kinds := [], alts := [], laidByText := true, laidKinds := [.data], laidTests := true, laidLooks := .later }
def HullTurnedCardSaid : Prop := Claim7.holds Tryd.pinned (.plain (OpenSpec.ofChange hullTurnedSpec)) hullTurnedCard

/-- THE TIED CARD OF 'eyewitnesslaw04.HullTells'. -/
def hullTellsCard : Claim7 := { stood := { row := hullTellsRow, standIns := [], harness := (true, "c43242dcb1505edcc0c5a1ea60ece29195914f2c9d8dba7b3b67d8be2fe879e3"), looks := false }, kinds := [], alts := [], laidByText := true, laidKinds := [.data], laidTests := true, laidLooks := .later }
def HullTellsCardSaid : Prop := Claim7.holds Tryd.pinned (.plain (OpenSpec.ofChange hullTellsSpec)) hullTellsCard

/-- THE TIED CARD OF 'eyewitnesslaw03.MatOne'. -/
def matOneCard : Claim7 := { stood := { row := matOneRow, standIns := [], harness := (true, "c43242dcb1505edcc0c5a1ea60ece29195914f2c9d8dba7b3b67d8be2fe879e3"), looks := false }, kinds := [], alts := [], laidByText := true, laidKinds := [.data], laidTests := true, laidLooks := .later }
def MatOneCardSaid : Prop := Claim7.holds Tryd.pinned (.plain (OpenSpec.ofChange matOneSpec)) matOneCard

/-- THE TIED CARD OF 'eyewitnesslaw03.MatTells'. -/
def matTellsCard : Claim7 := { stood := { row := matTellsRow, standIns := [], harness := (true, "c43242dcb1505edcc0c5a1ea60ece29195914f2c9d8dba7b3b67d8be2fe879e3"), looks := false }, kinds := [], alts := [], laidByText := true, laidKinds := [.data], laidTests := true, laidLooks := .later }
def MatTellsCardSaid : Prop := Claim7.holds Tryd.pinned (.plain (OpenSpec.ofChange matTellsSpec)) matTellsCard

/-- THE SECOND FORM's CARD OF 'eyewitnesslaw02.RowLists'. -/
def rowListsUptoCard : Claim7 := { stood := { row := rowListsUptoRow, standIns := [], harness := (true, "c43242dcb1505edcc0c5a1ea60ece29195914f2c9d8dba7b3b67d8be2fe879e3"), looks := false }, kinds := [], alts := [], laidByText := true, laidKinds := [.data], laidTests := true, laidLooks := .later }
def RowListsUptoCardSaid : Prop := Claim7.holds Tryd.pinned (.plain (OpenSpec.upto rowListsSpec)) rowListsUptoCard

/-- THE SECOND FORM's CARD OF 'eyewitnesslaw02.RowTells'. -/
def rowTellsUptoCard : Claim7 := { stood := { row := rowTellsUptoRow, standIns := [], harness := (true, "c43242dcb1505edcc0c5a1ea60ece29195914f2c9d8dba7b3b67d8be2fe879e3"), looks := false }, kinds := [], alts := [], laidByText := true, laidKinds := [.data], laidTests := true, laidLooks := .later }
def RowTellsUptoCardSaid : Prop := Claim7.holds Tryd.pinned (.plain (OpenSpec.upto rowTellsSpec)) rowTellsUptoCard

/-- THE SECOND FORM's CARD OF 'eyewitnesslaw02.RowSets'. -/
def rowSetsUptoCard : Claim7 := { stood := { row := rowSetsUptoRow, standIns := [], harness := (true, "c43242dcb1505edcc0c5a1ea60ece29195914f2c9d8dba7b3b67d8be2fe879e3"), looks := false }, kinds := [], alts := [], laidByText := true, laidKinds := [.data], laidTests := true, laidLooks := .later }
def RowSetsUptoCardSaid : Prop := Claim7.holds Tryd.pinned (.plain (OpenSpec.upto rowSetsSpec)) rowSetsUptoCard

/-- THE SECOND FORM's CARD OF 'eyewitnesslaw03.MatBack'. -/
def matBackUptoCard : Claim7 := { stood := { row := matBackUptoRow, standIns := [], harness := (true, "c43242dcb1505edcc0c5a1ea60ece29195914f2c9d8dba7b3b67d8be2fe879e3"), looks := false }, kinds := [], alts := [], laidByText := true, laidKinds := [.data], laidTests := true, laidLooks := .later }
def MatBackUptoCardSaid : Prop := Claim7.holds Tryd.pinned (.plain (OpenSpec.upto matBackSpec)) matBackUptoCard

/-- THE SECOND FORM's CARD OF 'eyewitnesslaw04.HullLeast'. -/
def hullLeastUptoCard : Claim7 := { stood := { row := hullLeastUptoRow, standIns := [], harness := (true, "c43242dcb1505edcc0c5a1ea60ece29195914f2c9d8dba7b3b67d8be2fe879e3"), looks := false }, kinds := [], alts := [], laidByText := true, laidKinds := [.data], laidTests := true, laidLooks := .later }
def HullLeastUptoCardSaid : Prop := Claim7.holds Tryd.pinned (.plain (OpenSpec.upto hullLeastSpec)) hullLeastUptoCard

/-- THE SECOND FORM's CARD OF 'eyewitnesslaw04.HullOrder'. -/
def hullOrderUptoCard : Claim7 := { stood := { row := hullOrderUptoRow, standIns := [], harness := (true, "c43242dcb1505edcc0c5a1ea60ece29195914f2c9d8dba7b3b67d8be2fe879e3"), looks := false }, kinds := [], alts := [], laidByText := true, laidKinds := [.data], laidTests := true, laidLooks := .later }
def HullOrderUptoCardSaid : Prop := Claim7.holds Tryd.pinned (.plain (OpenSpec.upto hullOrderSpec)) hullOrderUptoCard

/-- THE SECOND FORM's CARD OF 'eyewitnesslaw04.HullTurned'. -/
def hullTurnedUptoCard : Claim7 := { stood := { row := hullTurnedUptoRow, standIns := [], harness := (true, "c43242dcb1505edcc0c5a1ea60ece29195914f2c9d8dba7b3b67d8be2fe879e3"), looks := false }, kinds := [], alts := [], laidByText := true, laidKinds := [.data], laidTests := true, laidLooks := .later }
def HullTurnedUptoCardSaid : Prop := Claim7.holds Tryd.pinned (.plain (OpenSpec.upto hullTurnedSpec)) hullTurnedUptoCard

/-- THE SECOND FORM's CARD OF 'eyewitnesslaw04.HullTells'. -/
def hullTellsUptoCard : Claim7 := { stood := { row := hullTellsUptoRow, standIns := [], harness := (true, "c43242dcb1505edcc0c5a1ea60ece29195914f2c9d8dba7b3b67d8be2fe879e3"), looks := false }, kinds := [], alts := [], laidByText := true, laidKinds := [.data], laidTests := true, laidLooks := .later }
def HullTellsUptoCardSaid : Prop := Claim7.holds Tryd.pinned (.plain (OpenSpec.upto hullTellsSpec)) hullTellsUptoCard

/-- THE SECOND FORM's CARD OF 'eyewitnesslaw03.MatOne'. -/
def matOneUptoCard : Claim7 := { stood := { row := matOneUptoRow, standIns := [], harness := (true, "c43242dcb1505edcc0c5a1ea60ece29195914f2c9d8dba7b3b67d8be2fe879e3"), looks := false }, kinds := [], alts := [], laidByText := true, laidKinds := [.data], laidTests := true, laidLooks := .later }
def MatOneUptoCardSaid : Prop := Claim7.holds Tryd.pinned (.plain (OpenSpec.upto matOneSpec)) matOneUptoCard

/-- THE SECOND FORM's CARD OF 'eyewitnesslaw03.MatTells'. -/
def matTellsUptoCard : Claim7 := { stood := { row := matTellsUptoRow, standIns := [], harness := (true, "c43242dcb1505edcc0c5a1ea60ece29195914f2c9d8dba7b3b67d8be2fe879e3"), looks := false }, kinds := [], alts := [], laidByText := true, laidKinds := [.data], laidTests := true, laidLooks := .later }
def MatTellsUptoCardSaid : Prop := Claim7.holds Tryd.pinned (.plain (OpenSpec.upto matTellsSpec)) matTellsUptoCard
end Rows
end Go.Proofs.YtfakagpjgpbkbaaDoor
