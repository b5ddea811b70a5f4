/-
  DERIVED. GIVEN WITH THE SEED: THE CARDS: each row of YtefcbihikknlkaaGreatDoorRows.lean that lists a variable, with what it lists TIED to the program's text (the seventh form; the later family's looks); each row that meets fmt, with fmt's text TOLD by the authors' own Lean function (tested against real Go, not proved from fmt's source: count such statements apart). THE CARD IS WHAT COUNTS. Prove the row's statement (the work); the ties are given (YtefcbihikknlkaaGreatDoorTie.lean); close each card by the builder's one call (the guide's Derived/Test/ToyasCard.lean, 'card_holds'). Laid BY PROGRAM, IN A SANDBOX (cutbox-door.mjs). By AI agents, Wed Nov 11 2026. No macro, syntax, notation, axiom, sorry.
-/
import Derived.Test.YtefcbihikknlkaaGreatDoorRows
import GoSem.ClaimSeven
namespace Go.Proofs.YtefcbihikknlkaaGreatDoor
namespace Rows

/-- THE TIED CARD OF 'eyewitnesslaw21.AuditTells'. -/
def auditTellsCard : Claim7 := { stood := { row := auditTellsRow, standIns := [], harness := (true, "2d7fbe8f2a76b2aef3b691dc8ed987f8566af991c88942a54f564e98bc92f3c3"), looks := false }, kinds := [], alts := [], laidByText := true, laidKinds := [.data], laidTests := true, laidLooks := .later }
def AuditTellsCardSaid : Prop := Claim7.holds Tryz.pinned (.plain (OpenSpec.ofChange auditTellsSpec)) auditTellsCard

/-- THE TIED CARD OF 'eyewitnesslaw21.AuditProof'. -/
def auditProofCard : Claim7 := { stood := { row := auditProofRow, standIns := [], harness := (true, "2d7fbe8f2a76b2aef3b691dc8ed987f8566af991c88942a54f564e98bc92f3c3"), looks := false }, kinds := [], alts := [], laidByText := true, laidKinds := [.data], laidTests := true, laidLooks := .later }
def AuditProofCardSaid : Prop := Claim7.holds Tryz.pinned (.plain (OpenSpec.ofChange auditProofSpec)) auditProofCard

/-- THE SECOND FORM's CARD OF 'eyewitnesslaw21.AuditTells'. -/
def auditTellsUptoCard : Claim7 := { stood := { row := auditTellsUptoRow, standIns := [], harness := (true, "2d7fbe8f2a76b2aef3b691dc8ed987f8566af991c88942a54f564e98bc92f3c3"), looks := false }, kinds := [], alts := [], laidByText := true, laidKinds := [.data], laidTests := true, laidLooks := .later }
def AuditTellsUptoCardSaid : Prop := Claim7.holds Tryz.pinned (.plain (OpenSpec.upto auditTellsSpec)) auditTellsUptoCard

/-- THE SECOND FORM's CARD OF 'eyewitnesslaw21.AuditProof'. -/
def auditProofUptoCard : Claim7 := { stood := { row := auditProofUptoRow, standIns := [], harness := (true, "2d7fbe8f2a76b2aef3b691dc8ed987f8566af991c88942a54f564e98bc92f3c3"), looks := false }, kinds := [], alts := [], laidByText := true, laidKinds := [.data], laidTests := true, laidLooks := .later }
def AuditProofUptoCardSaid : Prop := Claim7.holds Tryz.pinned (.plain (OpenSpec.upto auditProofSpec)) auditProofUptoCard
end Rows
end Go.Proofs.YtefcbihikknlkaaGreatDoor
