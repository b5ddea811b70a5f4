/-
  DERIVED. GIVEN WITH THE SEED: THE CARDS: each row of YtmhopljngkgidaaDoorRows.lean that lists a variable, with what it lists TIED to the program's text (the seventh form; the later family's looks); each row that meets fmt, with fmt's text TOLD by the authors' own Lean function (tested against real Go, not proved from fmt's source: count such statements apart). THE CARD IS WHAT COUNTS. Prove the row's statement (the work); the ties are given (YtmhopljngkgidaaDoorTie.lean); close each card by the builder's one call (the guide's Derived/Test/ToyasCard.lean, 'card_holds'). Laid BY PROGRAM, IN A SANDBOX (cutbox-door.mjs). By AI agents, Wed Nov 11 2026. No macro, syntax, notation, axiom, sorry.
-/
import Derived.Test.YtmhopljngkgidaaDoorRows
import GoSem.ClaimSeven
namespace Go.Proofs.YtmhopljngkgidaaDoor
namespace Rows

/-- THE TIED CARD OF 'eyewitnesslaw03.MatBack'. -/
def matBackCard : Claim7 := { stood := { row := matBackRow, standIns := [], harness := (true, "9f3b58a018527ca29006b6c6a151f9d8b92b73194d1b00b6ae1123083896cda9"), looks := false }, kinds := [], alts := [], laidByText := true, laidKinds := [.data], laidTests := true, laidLooks := .later }
def MatBackCardSaid : Prop := Claim7.holds Tryd.pinned (.plain (OpenSpec.ofChange matBackSpec)) matBackCard

/-- THE TIED CARD OF 'eyewitnesslaw04.HullLeast'. -/
def hullLeastCard : Claim7 := { stood := { row := hullLeastRow, standIns := [], harness := (true, "9f3b58a018527ca29006b6c6a151f9d8b92b73194d1b00b6ae1123083896cda9"), looks := false }, kinds := [], alts := [], laidByText := true, laidKinds := [.data], laidTests := true, laidLooks := .later }
def HullLeastCardSaid : Prop := Claim7.holds Tryd.pinned (.plain (OpenSpec.ofChange hullLeastSpec)) hullLeastCard

/-- THE TIED CARD OF 'eyewitnesslaw04.HullOrder'. -/
def hullOrderCard : Claim7 := { stood := { row := hullOrderRow, standIns := [], harness := (true, "9f3b58a018527ca29006b6c6a151f9d8b92b73194d1b00b6ae1123083896cda9"), looks := false }, kinds := [], alts := [], laidByText := true, laidKinds := [.data], laidTests := true, laidLooks := .later }
def HullOrderCardSaid : Prop := Claim7.holds Tryd.pinned (.plain (OpenSpec.ofChange hullOrderSpec)) hullOrderCard

/-- THE TIED CARD OF 'eyewitnesslaw04.HullTurned'. -/
def hullTurnedCard : Claim7 := { stood := { row := hullTurnedRow, standIns := [], harness := (true, "9f3b58a018527ca29006b6c6a151f9d8b92b73194d1b00b6ae1123083896cda9"), looks := false }, kinds := [], alts := [], laidByText := true, laidKinds := [.data], laidTests := true, laidLooks := .later }
def HullTurnedCardSaid : Prop := Claim7.holds Tryd.pinned (.plain (OpenSpec.ofChange hullTurnedSpec)) hullTurnedCard

/-- THE TIED CARD OF 'eyewitnesslaw04.HullTells'. -/
def hullTellsCard : Claim7 := { stood := { row := hullTellsRow, standIns := [], harness := (true, "9f3b58a018527ca29006b6c6a151f9d8b92b73194d1b00b6ae1123083896cda9"), looks := false }, kinds := [], alts := [], laidByText := true, laidKinds := [.data], laidTests := true, laidLooks := .later }
def HullTellsCardSaid : Prop := Claim7.holds Tryd.pinned (.plain (OpenSpec.ofChange hullTellsSpec)) hullTellsCard

/-- THE TIED CARD OF 'eyewitnesslaw14.PathTells'. -/
def pathTellsCard : Claim7 := { stood := { row := pathTellsRow, standIns := [], harness := (true, "9f3b58a018527ca29006b6c6a151f9d8b92b73194d1b00b6ae1123083896cda9"), looks := false }, kinds := [], alts := [], laidByText := true, laidKinds := [.data], laidTests := true, laidLooks := .later }
def PathTellsCardSaid : Prop := Claim7.holds Tryd.pinned (.plain (OpenSpec.ofChange pathTellsSpec)) pathTellsCard

/-- THE TIED CARD OF 'eyewitnesslaw14.PathHull'. -/
def pathHullCard : Claim7 := { stood := { row := pathHullRow, standIns := [], harness := (true, "9f3b58a018527ca29006b6c6a151f9d8b92b73194d1b00b6ae1123083896cda9"), looks := false }, kinds := [], alts := [], laidByText := true, laidKinds := [.data], laidTests := true, laidLooks := .later }
def PathHullCardSaid : Prop := Claim7.holds Tryd.pinned (.plain (OpenSpec.ofChange pathHullSpec)) pathHullCard

/-- THE TIED CARD OF 'eyewitnesslaw14.PathShort'. -/
def pathShortCard : Claim7 := { stood := { row := pathShortRow, standIns := [], harness := (true, "9f3b58a018527ca29006b6c6a151f9d8b92b73194d1b00b6ae1123083896cda9"), looks := false }, kinds := [], alts := [], laidByText := true, laidKinds := [.data], laidTests := true, laidLooks := .later }
def PathShortCardSaid : Prop := Claim7.holds Tryd.pinned (.plain (OpenSpec.ofChange pathShortSpec)) pathShortCard

/-- THE TIED CARD OF 'eyewitnesslaw16.PastTells'. -/
def pastTellsCard : Claim7 := { stood := { row := pastTellsRow, standIns := [], harness := (true, "9f3b58a018527ca29006b6c6a151f9d8b92b73194d1b00b6ae1123083896cda9"), looks := false }, kinds := [], alts := [], laidByText := true, laidKinds := [.data], laidTests := true, laidLooks := .later }
def PastTellsCardSaid : Prop := Claim7.holds Tryd.pinned (.plain (OpenSpec.ofChange pastTellsSpec)) pastTellsCard

/-- THE SECOND FORM's CARD OF 'eyewitnesslaw03.MatBack'. -/
def matBackUptoCard : Claim7 := { stood := { row := matBackUptoRow, standIns := [], harness := (true, "9f3b58a018527ca29006b6c6a151f9d8b92b73194d1b00b6ae1123083896cda9"), looks := false }, kinds := [], alts := [], laidByText := true, laidKinds := [.data], laidTests := true, laidLooks := .later }
def MatBackUptoCardSaid : Prop := Claim7.holds Tryd.pinned (.plain (OpenSpec.upto matBackSpec)) matBackUptoCard

/-- THE SECOND FORM's CARD OF 'eyewitnesslaw04.HullLeast'. -/
def hullLeastUptoCard : Claim7 := { stood := { row := hullLeastUptoRow, standIns := [], harness := (true, "9f3b58a018527ca29006b6c6a151f9d8b92b73194d1b00b6ae1123083896cda9"), looks := false }, kinds := [], alts := [], laidByText := true, laidKinds := [.data], laidTests := true, laidLooks := .later }
def HullLeastUptoCardSaid : Prop := Claim7.holds Tryd.pinned (.plain (OpenSpec.upto hullLeastSpec)) hullLeastUptoCard

/-- THE SECOND FORM's CARD OF 'eyewitnesslaw04.HullOrder'. -/
def hullOrderUptoCard : Claim7 := { stood := { row := hullOrderUptoRow, standIns := [], harness := (true, "9f3b58a018527ca29006b6c6a151f9d8b92b73194d1b00b6ae1123083896cda9"), looks := false }, kinds := [], alts := [], laidByText := true, laidKinds := [.data], laidTests := true, laidLooks := .later }
def HullOrderUptoCardSaid : Prop := Claim7.holds Tryd.pinned (.plain (OpenSpec.upto hullOrderSpec)) hullOrderUptoCard

/-- THE SECOND FORM's CARD OF 'eyewitnesslaw04.HullTurned'. -/
def hullTurnedUptoCard : Claim7 := { stood := { row := hullTurnedUptoRow, standIns := [], harness := (true, "9f3b58a018527ca29006b6c6a151f9d8b92b73194d1b00b6ae1123083896cda9"), looks := false }, kinds := [], alts := [], laidByText := true, laidKinds := [.data], laidTests := true, laidLooks := .later }
def HullTurnedUptoCardSaid : Prop := Claim7.holds Tryd.pinned (.plain (OpenSpec.upto hullTurnedSpec)) hullTurnedUptoCard

/-- THE SECOND FORM's CARD OF 'eyewitnesslaw04.HullTells'. -/
def hullTellsUptoCard : Claim7 := { stood := { row := hullTellsUptoRow, standIns := [], harness := (true, "9f3b58a018527ca29006b6c6a151f9d8b92b73194d1b00b6ae1123083896cda9"), looks := false }, kinds := [], alts := [], laidByText := true, laidKinds := [.data], laidTests := true, laidLooks := .later }
def HullTellsUptoCardSaid : Prop := Claim7.holds Tryd.pinned (.plain (OpenSpec.upto hullTellsSpec)) hullTellsUptoCard

/-- THE SECOND FORM's CARD OF 'eyewitnesslaw14.PathTells'. -/
def pathTellsUptoCard : Claim7 := { stood := { row := pathTellsUptoRow, standIns := [], harness := (true, "9f3b58a018527ca29006b6c6a151f9d8b92b73194d1b00b6ae1123083896cda9"), looks := false }, kinds := [], alts := [], laidByText := true, laidKinds := [.data], laidTests := true, laidLooks := .later }
def PathTellsUptoCardSaid : Prop := Claim7.holds Tryd.pinned (.plain (OpenSpec.upto pathTellsSpec)) pathTellsUptoCard

/-- THE SECOND FORM's CARD OF 'eyewitnesslaw14.PathHull'. -/
def pathHullUptoCard : Claim7 := { stood := { row := pathHullUptoRow, standIns := [], harness := (true, "9f3b58a018527ca29006b6c6a151f9d8b92b73194d1b00b6ae1123083896cda9"), looks := false }, kinds := [], alts := [], laidByText := true, laidKinds := [.data], laidTests := true, laidLooks := .later }
def PathHullUptoCardSaid : Prop := Claim7.holds Tryd.pinned (.plain (OpenSpec.upto pathHullSpec)) pathHullUptoCard

/-- THE SECOND FORM's CARD OF 'eyewitnesslaw14.PathShort'. -/
def pathShortUptoCard : Claim7 := { stood := { row := pathShortUptoRow, standIns := [], harness := (true, "9f3b58a018527ca29006b6c6a151f9d8b92b73194d1b00b6ae1123083896cda9"), looks := false }, kinds := [], alts := [], laidByText := true, laidKinds := [.data], laidTests := true, laidLooks := .later }
def PathShortUptoCardSaid : Prop := Claim7.holds Tryd.pinned (.plain (OpenSpec.upto pathShortSpec)) pathShortUptoCard

/-- THE SECOND FORM's CARD OF 'eyewitnesslaw16.PastTells'. -/
def pastTellsUptoCard : Claim7 := { stood := { row := pastTellsUptoRow, standIns := [], harness := (true, "9f3b58a018527ca29006b6c6a151f9d8b92b73194d1b00b6ae1123083896cda9"), looks := false }, kinds := [], alts := [], laidByText := true, laidKinds := [.data], laidTests := true, laidLooks := .later }
def PastTellsUptoCardSaid : Prop := Claim7.holds Tryd.pinned (.plain (OpenSpec.upto pastTellsSpec)) pastTellsUptoCard
end Rows
end Go.Proofs.YtmhopljngkgidaaDoor
