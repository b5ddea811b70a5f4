/-
  DERIVED. GIVEN WITH THE SEED: THE CARDS: each row of YtcphidhajldefaaDoorRows.lean that lists a variable, with what it lists TIED to the program's text (the seventh form; the later family's looks); each row that meets fmt, with fmt's text TOLD by the authors' own Lean function (tested against real Go, not proved from fmt's source: count such statements apart). THE CARD IS WHAT COUNTS. Prove the row's statement (the work); the ties are given (YtcphidhajldefaaDoorTie.lean); close each card by the builder's one call (the guide's Derived/Test/ToyasCard.lean, 'card_holds'). Laid BY PROGRAM, IN A SANDBOX (cutbox-door.mjs). By AI agents, Wed Nov 11 2026. No macro, syntax, notation, axiom, sorry.
-/
import Derived.Test.YtcphidhajldefaaDoorRows
import GoSem.ClaimSeven
namespace Go.Proofs.YtcphidhajldefaaDoor
namespace Rows

/-- THE TIED CARD OF 'eyewitnesslaw16.PastDeep'. -/
def pastDeepCard : Claim7 := { stood := { row := pastDeepRow, standIns := [], harness := (true, "6973715abd386ed8740aaed9045d1cc2d5f56edcacdfe9f2ce9311586634d1dd"), looks := false }, kinds := [], alts := [], laidByText := true, laidKinds := [.data], laidTests := true, laidLooks := .later }
def PastDeepCardSaid : Prop := Claim7.holds Tryd.pinned (.plain (OpenSpec.ofChange pastDeepSpec)) pastDeepCard

/-- THE SECOND FORM's CARD OF 'eyewitnesslaw16.PastDeep'. -/
def pastDeepUptoCard : Claim7 := { stood := { row := pastDeepUptoRow, standIns := [], harness := (true, "6973715abd386ed8740aaed9045d1cc2d5f56edcacdfe9f2ce9311586634d1dd"), looks := false }, kinds := [], alts := [], laidByText := true, laidKinds := [.data], laidTests := true, laidLooks := .later }
def PastDeepUptoCardSaid : Prop := Claim7.holds Tryd.pinned (.plain (OpenSpec.upto pastDeepSpec)) pastDeepUptoCard
end Rows
end Go.Proofs.YtcphidhajldefaaDoor
