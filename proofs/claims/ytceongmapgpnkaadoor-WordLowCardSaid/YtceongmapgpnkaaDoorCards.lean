/-
  DERIVED. GIVEN WITH THE SEED: THE CARDS: each row of YtceongmapgpnkaaDoorRows.lean that lists a variable, with what it lists TIED to the program's text (the seventh form; the later family's looks); each row that meets fmt, with fmt's text TOLD by the authors' own Lean function (tested against real Go, not proved from fmt's source: count such statements apart). THE CARD IS WHAT COUNTS. Prove the row's statement (the work); the ties are given (YtceongmapgpnkaaDoorTie.lean); close each card by the builder's one call (the guide's Derived/Test/ToyasCard.lean, 'card_holds'). Laid BY PROGRAM, IN A SANDBOX (cutbox-door.mjs). By AI agents, Wed Nov 11 2026. No macro, syntax, notation, axiom, sorry.
-/
import Derived.Test.YtceongmapgpnkaaDoorRows
import GoSem.ClaimSeven
namespace Go.Proofs.YtceongmapgpnkaaDoor
namespace Rows

/-- THE TIED CARD OF 'eyewitnesslaw01.WordTells'. -/
def wordTellsCard : Claim7 := { stood := { row := wordTellsRow, standIns := [], harness := (true, "9b35110b476965f2c1694efd1ea78accaa37746c3e233124dedf3ddc32d2dfe0"), looks := false }, kinds := [], alts := [], laidByText := true, laidKinds := [.data], laidTests := true, laidLooks := .later }
def WordTellsCardSaid : Prop := Claim7.holds Tryd.pinned (.plain (OpenSpec.ofChange wordTellsSpec)) wordTellsCard

/-- THE TIED CARD OF 'eyewitnesslaw01.WordSums'. -/
def wordSumsCard : Claim7 := { stood := { row := wordSumsRow, standIns := [], harness := (true, "9b35110b476965f2c1694efd1ea78accaa37746c3e233124dedf3ddc32d2dfe0"), looks := false }, kinds := [], alts := [], laidByText := true, laidKinds := [.data], laidTests := true, laidLooks := .later }
def WordSumsCardSaid : Prop := Claim7.holds Tryd.pinned (.plain (OpenSpec.ofChange wordSumsSpec)) wordSumsCard

/-- THE TIED CARD OF 'eyewitnesslaw01.WordLow'. -/
def wordLowCard : Claim7 := { stood := { row := wordLowRow, standIns := [], harness := (true, "9b35110b476965f2c1694efd1ea78accaa37746c3e233124dedf3ddc32d2dfe0"), looks := false }, kinds := [], alts := [], laidByText := true, laidKinds := [.data], laidTests := true, laidLooks := .later }
def WordLowCardSaid : Prop := Claim7.holds Tryd.pinned (.plain (OpenSpec.ofChange wordLowSpec)) wordLowCard

/-- THE SECOND FORM's CARD OF 'eyewitnesslaw01.WordTells'. -/
def wordTellsUptoCard : Claim7 := { stood := { row := wordTellsUptoRow, standIns := [], harness := (true, "9b35110b476965f2c1694efd1ea78accaa37746c3e233124dedf3ddc32d2dfe0"), looks := false }, kinds := [], alts := [], laidByText := true, laidKinds := [.data], laidTests := true, laidLooks := .later }
def WordTellsUptoCardSaid : Prop := Claim7.holds Tryd.pinned (.plain (OpenSpec.upto wordTellsSpec)) wordTellsUptoCard

/-- THE SECOND FORM's CARD OF 'eyewitnesslaw01.WordSums'. -/
def wordSumsUptoCard : Claim7 := { stood := { row := wordSumsUptoRow, standIns := [], harness := (true, "9b35110b476965f2c1694efd1ea78accaa37746c3e233124dedf3ddc32d2dfe0"), looks := false }, kinds := [], alts := [], laidByText := true, laidKinds := [.data], laidTests := true, laidLooks := .later }
def WordSumsUptoCardSaid : Prop := Claim7.holds Tryd.pinned (.plain (OpenSpec.upto wordSumsSpec)) wordSumsUptoCard

/-- THE SECOND FORM's CARD OF 'eyewitnesslaw01.WordLow'. -/
def wordLowUptoCard : Claim7 := { stood := { row := wordLowUptoRow, standIns := [], harness := (true, "9b35110b476965f2c1694efd1ea78accaa37746c3e233124dedf3ddc32d2dfe0"), looks := false }, kinds := [], alts := [], laidByText := true, laidKinds := [.data], laidTests := true, laidLooks := .later }
def WordLowUptoCardSaid : Prop := Claim7.holds Tryd.pinned (.plain (OpenSpec.upto wordLowSpec)) wordLowUptoCard
end Rows
end Go.Proofs.YtceongmapgpnkaaDoor
