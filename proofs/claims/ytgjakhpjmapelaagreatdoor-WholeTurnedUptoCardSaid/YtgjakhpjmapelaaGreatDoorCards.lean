/-
  DERIVED. GIVEN WITH THE SEED: THE CARDS: each row of YtgjakhpjmapelaaGreatDoorRows.lean that lists a variable, with what it lists TIED to the program's text (the seventh form; the later family's looks); each row that meets fmt, with fmt's text TOLD by the authors' own Lean function (tested against real Go, not proved from fmt's source: count such statements apart). THE CARD IS WHAT COUNTS. Prove the row's statement (the work); the ties are given (YtgjakhpjmapelaaGreatDoorTie.lean); close each card by the builder's one call (the guide's Derived/Test/ToyasCard.lean, 'card_holds'). Laid BY PROGRAM, IN A SANDBOX (cutbox-door.mjs). By AI agents, Wed Nov 11 2026. No macro, syntax, notation, axiom, sorry.
-/
import Derived.Test.YtgjakhpjmapelaaGreatDoorRows
import GoSem.ClaimSeven
namespace Go.Proofs.YtgjakhpjmapelaaGreatDoor
namespace Rows

/-- THE TIED CARD OF 'eyewitnesstop.WholeText'. -/
def wholeTextCard : Claim7 := { stood := { row := wholeTextRow, standIns := [], harness := (true, "a94570fda837b6158c9b214ce3c6f28cc7b03d543e8d1f90ec427e4c905bf393"), looks := false }, kinds := [], alts := [], laidByText := true, laidKinds := [.data, .data, .pinned], laidTests := true, laidLooks := .later }
def WholeTextCardSaid : Prop := Claim7.holds Tryz.pinned (.plain (OpenSpec.ofChange wholeTextSpec)) wholeTextCard

/-- THE TIED CARD OF 'eyewitnesstop.WholeLevels'. -/
def wholeLevelsCard : Claim7 := { stood := { row := wholeLevelsRow, standIns := [], harness := (true, "a94570fda837b6158c9b214ce3c6f28cc7b03d543e8d1f90ec427e4c905bf393"), looks := false }, kinds := [], alts := [], laidByText := true, laidKinds := [.data, .data, .pinned], laidTests := true, laidLooks := .later }
def WholeLevelsCardSaid : Prop := Claim7.holds Tryz.pinned (.plain (OpenSpec.ofChange wholeLevelsSpec)) wholeLevelsCard

/-- THE TIED CARD OF 'eyewitnesstop.WholeTurned'. -/
def wholeTurnedCard : Claim7 := { stood := { row := wholeTurnedRow, standIns := [], harness := (true, "a94570fda837b6158c9b214ce3c6f28cc7b03d543e8d1f90ec427e4c905bf393"), looks := false }, kinds := [], alts := [], laidByText := true, laidKinds := [.data, .data, .pinned], laidTests := true, laidLooks := .later }
def WholeTurnedCardSaid : Prop := Claim7.holds Tryz.pinned (.plain (OpenSpec.ofChange wholeTurnedSpec)) wholeTurnedCard

/-- THE TIED CARD OF 'eyewitnesstop.WholeDrops'. -/
def wholeDropsCard : Claim7 := { stood := { row := wholeDropsRow, standIns := [], harness := (true, "a94570fda837b6158c9b214ce3c6f28cc7b03d543e8d1f90ec427e4c905bf393"), looks := false }, kinds := [], alts := [], laidByText := true, laidKinds := [.data, .data, .pinned], laidTests := true, laidLooks := .later }
def WholeDropsCardSaid : Prop := Claim7.holds Tryz.pinned (.plain (OpenSpec.ofChange wholeDropsSpec)) wholeDropsCard

/-- THE TIED CARD OF 'eyewitnesstop.WholeOne'. -/
def wholeOneCard : Claim7 := { stood := { row := wholeOneRow, standIns := [], harness := (true, "a94570fda837b6158c9b214ce3c6f28cc7b03d543e8d1f90ec427e4c905bf393"), looks := false }, kinds := [], alts := [], laidByText := true, laidKinds := [.data, .data, .pinned], laidTests := true, laidLooks := .later }
def WholeOneCardSaid : Prop := Claim7.holds Tryz.pinned (.plain (OpenSpec.ofChange wholeOneSpec)) wholeOneCard

/-- THE TIED CARD OF 'eyewitnesstop.WholeSerial'. -/
def wholeSerialCard : Claim7 := { stood := { row := wholeSerialRow, standIns := [], harness := (true, "a94570fda837b6158c9b214ce3c6f28cc7b03d543e8d1f90ec427e4c905bf393"), looks := false }, kinds := [], alts := [], laidByText := true, laidKinds := [.data, .data, .pinned], laidTests := true, laidLooks := .later }
def WholeSerialCardSaid : Prop := Claim7.holds Tryz.pinned (.plain (OpenSpec.ofChange wholeSerialSpec)) wholeSerialCard

/-- THE SECOND FORM's CARD OF 'eyewitnesstop.WholeText'. -/
def wholeTextUptoCard : Claim7 := { stood := { row := wholeTextUptoRow, standIns := [], harness := (true, "a94570fda837b6158c9b214ce3c6f28cc7b03d543e8d1f90ec427e4c905bf393"), looks := false }, kinds := [], alts := [], laidByText := true, laidKinds := [.data, .data, .pinned], laidTests := true, laidLooks := .later }
def WholeTextUptoCardSaid : Prop := Claim7.holds Tryz.pinned (.plain (OpenSpec.upto wholeTextSpec)) wholeTextUptoCard

/-- THE SECOND FORM's CARD OF 'eyewitnesstop.WholeLevels'. -/
def wholeLevelsUptoCard : Claim7 := { stood := { row := wholeLevelsUptoRow, standIns := [], harness := (true, "a94570fda837b6158c9b214ce3c6f28cc7b03d543e8d1f90ec427e4c905bf393"), looks := false }, kinds := [], alts := [], laidByText := true, laidKinds := [.data, .data, .pinned], laidTests := true, laidLooks := .later }
def WholeLevelsUptoCardSaid : Prop := Claim7.holds Tryz.pinned (.plain (OpenSpec.upto wholeLevelsSpec)) wholeLevelsUptoCard

/-- THE SECOND FORM's CARD OF 'eyewitnesstop.WholeTurned'. -/
def wholeTurnedUptoCard : Claim7 := { stood := { row := wholeTurnedUptoRow, standIns := [], harness := (true, "a94570fda837b6158c9b214ce3c6f28cc7b03d543e8d1f90ec427e4c905bf393"), looks := false }, kinds := [], alts := [], laidByText := true, laidKinds := [.data, .data, .pinned], laidTests := true, laidLooks := .later }
def WholeTurnedUptoCardSaid : Prop := Claim7.holds Tryz.pinned (.plain (OpenSpec.upto wholeTurnedSpec)) wholeTurnedUptoCard

/-- THE SECOND FORM's CARD OF 'eyewitnesstop.WholeDrops'. -/
def wholeDropsUptoCard : Claim7 := { stood := { row := wholeDropsUptoRow, standIns := [], harness := (true, "a94570fda837b6158c9b214ce3c6f28cc7b03d543e8d1f90ec427e4c905bf393"), looks := false }, kinds := [], alts := [], laidByText := true, laidKinds := [.data, .data, .pinned], laidTests := true, laidLooks := .later }
def WholeDropsUptoCardSaid : Prop := Claim7.holds Tryz.pinned (.plain (OpenSpec.upto wholeDropsSpec)) wholeDropsUptoCard

/-- THE SECOND FORM's CARD OF 'eyewitnesstop.WholeOne'. -/
def wholeOneUptoCard : Claim7 := { stood := { row := wholeOneUptoRow, standIns := [], harness := (true, "a94570fda837b6158c9b214ce3c6f28cc7b03d543e8d1f90ec427e4c905bf393"), looks := false }, kinds := [], alts := [], laidByText := true, laidKinds := [.data, .data, .pinned], laidTests := true, laidLooks := .later }
def WholeOneUptoCardSaid : Prop := Claim7.holds Tryz.pinned (.plain (OpenSpec.upto wholeOneSpec)) wholeOneUptoCard

/-- THE SECOND FORM's CARD OF 'eyewitnesstop.WholeSerial'. -/
def wholeSerialUptoCard : Claim7 := { stood := { row := wholeSerialUptoRow, standIns := [], harness := (true, "a94570fda837b6158c9b214ce3c6f28cc7b03d543e8d1f90ec427e4c905bf393"), looks := false }, kinds := [], alts := [], laidByText := true, laidKinds := [.data, .data, .pinned], laidTests := true, laidLooks := .later }
def WholeSerialUptoCardSaid : Prop := Claim7.holds Tryz.pinned (.plain (OpenSpec.upto wholeSerialSpec)) wholeSerialUptoCard
end Rows
end Go.Proofs.YtgjakhpjmapelaaGreatDoor
