/-
  DERIVED. GIVEN WITH THE SEED: THE CARDS: each row of YtefcbihikknlkaaDoorRows.lean that lists a variable, with what it lists TIED to the program's text (the seventh form; the later family's looks); each row that meets fmt, with fmt's text TOLD by the authors' own Lean function (tested against real Go, not proved from fmt's source: count such statements apart). THE CARD IS WHAT COUNTS. Prove the row's statement (the work); the ties are given (YtefcbihikknlkaaDoorTie.lean); close each card by the builder's one call (the guide's Derived/Test/ToyasCard.lean, 'card_holds'). Laid BY PROGRAM, IN A SANDBOX (cutbox-door.mjs). By AI agents, Wed Nov 11 2026. No macro, syntax, notation, axiom, sorry.
-/
import Derived.Test.YtefcbihikknlkaaDoorRows
import GoSem.ClaimSeven
namespace Go.Proofs.YtefcbihikknlkaaDoor
namespace Rows

/-- THE TIED CARD OF 'eyewitnesslaw21.AuditBegins'. -/
def auditBeginsCard : Claim7 := { stood := { row := auditBeginsRow, standIns := [], harness := (true, "a846466e86886e4e64cb2037acd0adeab6932eb57224c20a90fe12b4a66b3569"), looks := false }, kinds := [], alts := [], laidByText := true, laidKinds := [.data], laidTests := true, laidLooks := .later }
def AuditBeginsCardSaid : Prop := Claim7.holds Tryd.pinned (.plain (OpenSpec.ofChange auditBeginsSpec)) auditBeginsCard

/-- THE SECOND FORM's CARD OF 'eyewitnesslaw21.AuditBegins'. -/
def auditBeginsUptoCard : Claim7 := { stood := { row := auditBeginsUptoRow, standIns := [], harness := (true, "a846466e86886e4e64cb2037acd0adeab6932eb57224c20a90fe12b4a66b3569"), looks := false }, kinds := [], alts := [], laidByText := true, laidKinds := [.data], laidTests := true, laidLooks := .later }
def AuditBeginsUptoCardSaid : Prop := Claim7.holds Tryd.pinned (.plain (OpenSpec.upto auditBeginsSpec)) auditBeginsUptoCard
end Rows
end Go.Proofs.YtefcbihikknlkaaDoor
