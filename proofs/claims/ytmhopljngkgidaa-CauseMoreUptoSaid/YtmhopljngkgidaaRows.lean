/-
  No cell of these rows narrows 'for every input' (looked for: loops, veiled, ifaces, maps, wideKeys, modest, calm, conditions, laid).
  DERIVED. THE GIVEN ROWS OF THIS SEAT. 3 by the template 'for every input the law returns true; each argument reads behind the call as it read before'; 0 by the template 'total and deterministic' (their statements: YtmhopljngkgidaaTotals.lean).
  GIVEN WITH THE SEED: the statements are not yours to turn. If you find one false, say at which input.
  Laid BY PROGRAM, IN A SANDBOX (cutbox-rows.mjs): the forced cells as the released guide's own fill.sh prints them over the translation 83b2339107fd6d27… (all of the seat's roots in one cut). By AI agents, Wed Nov 11 2026. No macro, syntax, notation, axiom, sorry.
-/
import Derived.Test.YtmhopljngkgidaaChecked
import GoSem.Claim
import GoSem.ClaimJoined
import GoSem.ClaimMapViews
import Derived.JoinedTies
import Derived.KernelRfl
namespace Go.Proofs.Ytmhopljngkgidaa
/- THE CELL 'sum', in the pinned program and in every row, IS THE sha256 OF THE DUMP (.gsa) THAT YtmhopljngkgidaaProg.lean LOADS. Nothing in Lean hashes anything: it is a label: what it is worth is what the hold of that sum in a sandbox is worth. -/
noncomputable def Try.pinned : Pinned := { name := "ytmhopljngkgidaa", sum := "83b2339107fd6d2742cd9cd0eb04f956843af893d27a1b13b80651848563c46d", checked := Try.checked }
namespace Rows
def none {H : Type} : Left H := { results := [], args := [] }

/-- 'eyewitnesslaw13.CauseTells': WHATEVER THE INPUT: true; the input reads as it did. -/
def causeTellsSpec : ChangeSpec := { name := "causeTells", fn := fun _ => fun
  | [d] => { results := [.lit (.bool true)], args := [d] }
  | _ => none }
def causeTellsRow : OpenClaim := { program := "ytmhopljngkgidaa", sum := "83b2339107fd6d2742cd9cd0eb04f956843af893d27a1b13b80651848563c46d", func := "eyewitness/eyewitnesslaw13.CauseTells", spec := "causeTells", apart := false }
def CauseTellsSaid : Prop := causeTellsRow.holds Try.pinned (OpenSpec.ofChange causeTellsSpec)

/-- ITS FALSE NEIGHBOUR: 'it returns false'. Refute it at one input. -/
def causeTellsWrong : ChangeSpec := { name := "causeTells", fn := fun _ => fun
  | [d] => { results := [.lit (.bool false)], args := [d] }
  | _ => none }
def CauseTellsWrongFalsely : Prop := causeTellsRow.holds Try.pinned (OpenSpec.ofChange causeTellsWrong)

/-- 'eyewitnesslaw13.CauseLeast': WHATEVER THE INPUT: true; the input reads as it did. -/
def causeLeastSpec : ChangeSpec := { name := "causeLeast", fn := fun _ => fun
  | [d1, d2] => { results := [.lit (.bool true)], args := [d1, d2] }
  | _ => none }
def causeLeastRow : OpenClaim := { program := "ytmhopljngkgidaa", sum := "83b2339107fd6d2742cd9cd0eb04f956843af893d27a1b13b80651848563c46d", func := "eyewitness/eyewitnesslaw13.CauseLeast", spec := "causeLeast", apart := false }
def CauseLeastSaid : Prop := causeLeastRow.holds Try.pinned (OpenSpec.ofChange causeLeastSpec)

/-- ITS FALSE NEIGHBOUR: 'it returns false'. Refute it at one input. -/
def causeLeastWrong : ChangeSpec := { name := "causeLeast", fn := fun _ => fun
  | [d1, d2] => { results := [.lit (.bool false)], args := [d1, d2] }
  | _ => none }
def CauseLeastWrongFalsely : Prop := causeLeastRow.holds Try.pinned (OpenSpec.ofChange causeLeastWrong)

/-- 'eyewitnesslaw13.CauseMore': WHATEVER THE INPUT: true; the input reads as it did. -/
def causeMoreSpec : ChangeSpec := { name := "causeMore", fn := fun _ => fun
  | [d1, d2, d3] => { results := [.lit (.bool true)], args := [d1, d2, d3] }
  | _ => none }
def causeMoreRow : OpenClaim := { program := "ytmhopljngkgidaa", sum := "83b2339107fd6d2742cd9cd0eb04f956843af893d27a1b13b80651848563c46d", func := "eyewitness/eyewitnesslaw13.CauseMore", spec := "causeMore", apart := false }
def CauseMoreSaid : Prop := causeMoreRow.holds Try.pinned (OpenSpec.ofChange causeMoreSpec)

/-- ITS FALSE NEIGHBOUR: 'it returns false'. Refute it at one input. -/
def causeMoreWrong : ChangeSpec := { name := "causeMore", fn := fun _ => fun
  | [d1, d2, d3] => { results := [.lit (.bool false)], args := [d1, d2, d3] }
  | _ => none }
def CauseMoreWrongFalsely : Prop := causeMoreRow.holds Try.pinned (OpenSpec.ofChange causeMoreWrong)

/- THE SECOND FORM. 'bulk': how many values and letters a reading holds, each counted each time it is reached (what is shared counts as often as it is met; a slice's spare places count too). A statement '..UptoSaid' is the law's where the arguments, and the package variables that the reading takes, are together of bulk at most 1048576: NARROWER than '..Said'. Prove '..Said' where nothing that the law and all that it calls make is longer than what came in: it says more and counts as full. Else prove '..UptoSaid'. A law counts once. -/
mutual
def uptoBulk {H : Type} : DataW H → Nat
  | .lit (.string bytes) => bytes.length + 1
  | .lit _ => 1
  | .nil => 1
  | .ptr d => uptoBulk d + 1
  | .slice elems spare => uptoBulkAll elems + uptoBulkAll spare + 1
  | .agg parts => uptoBulkAll parts + 1
  | .iface _ d => uptoBulk d + 1
  | .map entries => uptoBulkEntries entries + 1
  | .held _ => 1
def uptoBulkAll {H : Type} : List (DataW H) → Nat
  | [] => 0
  | d :: r => uptoBulk d + uptoBulkAll r
def uptoBulkEntries {H : Type} : List (Lit × DataW H) → Nat
  | [] => 0
  | x :: r => uptoBulkEntry x + uptoBulkEntries r
def uptoBulkEntry {H : Type} : Lit × DataW H → Nat
  | (.string bytes, d) => bytes.length + uptoBulk d + 1
  | (_, d) => uptoBulk d + 1
 end
def uptoSmall : (H : Type) → List (DataW H) → Bool := fun _ ds => decide (uptoBulkAll ds ≤ 1048576)
def OpenSpec.upto (s : _root_.Go.ChangeSpec) : _root_.Go.OpenSpec := { _root_.Go.OpenSpec.ofChange s with cond := some uptoSmall }

/-- 'eyewitnesslaw13.CauseTells', WHERE WHAT IT READS IS OF BULK AT MOST 1048576: true; the input reads as it did. -/
def causeTellsUptoRow : OpenClaim := { program := "ytmhopljngkgidaa", sum := "83b2339107fd6d2742cd9cd0eb04f956843af893d27a1b13b80651848563c46d", func := "eyewitness/eyewitnesslaw13.CauseTells", spec := "causeTells", apart := false, narrowed := true }
def CauseTellsUptoSaid : Prop := causeTellsUptoRow.holds Try.pinned (OpenSpec.upto causeTellsSpec)

/-- 'eyewitnesslaw13.CauseLeast', WHERE WHAT IT READS IS OF BULK AT MOST 1048576: true; the input reads as it did. -/
def causeLeastUptoRow : OpenClaim := { program := "ytmhopljngkgidaa", sum := "83b2339107fd6d2742cd9cd0eb04f956843af893d27a1b13b80651848563c46d", func := "eyewitness/eyewitnesslaw13.CauseLeast", spec := "causeLeast", apart := false, narrowed := true }
def CauseLeastUptoSaid : Prop := causeLeastUptoRow.holds Try.pinned (OpenSpec.upto causeLeastSpec)

/-- 'eyewitnesslaw13.CauseMore', WHERE WHAT IT READS IS OF BULK AT MOST 1048576: true; the input reads as it did. -/
def causeMoreUptoRow : OpenClaim := { program := "ytmhopljngkgidaa", sum := "83b2339107fd6d2742cd9cd0eb04f956843af893d27a1b13b80651848563c46d", func := "eyewitness/eyewitnesslaw13.CauseMore", spec := "causeMore", apart := false, narrowed := true }
def CauseMoreUptoSaid : Prop := causeMoreUptoRow.holds Try.pinned (OpenSpec.upto causeMoreSpec)

end Rows
end Go.Proofs.Ytmhopljngkgidaa
