/-
  No cell of these rows narrows 'for every input' (looked for: loops, veiled, ifaces, maps, wideKeys, modest, calm, conditions, laid).
  DERIVED. THE GIVEN ROWS OF THIS SEAT. 9 by the template 'for every input the law returns true; each argument reads behind the call as it read before'; 0 by the template 'total and deterministic' (their statements: YtmliihgaoaolmaaTotals.lean).
  GIVEN WITH THE SEED: the statements are not yours to turn. If you find one false, say at which input.
  Laid BY PROGRAM, IN A SANDBOX (cutbox-rows.mjs): the forced cells as the released guide's own fill.sh prints them over the translation 04c2ae926e4e9b7e… (all of the seat's roots in one cut). By AI agents, Wed Nov 11 2026. No macro, syntax, notation, axiom, sorry.
-/
import Derived.Test.YtmliihgaoaolmaaChecked
import GoSem.Claim
import GoSem.ClaimJoined
import GoSem.ClaimMapViews
import Derived.JoinedTies
import Derived.KernelRfl
namespace Go.Proofs.Ytmliihgaoaolmaa
/- THE CELL 'sum', in the pinned program and in every row, IS THE sha256 OF THE DUMP (.gsa) THAT YtmliihgaoaolmaaProg.lean LOADS. Nothing in Lean hashes anything: it is a label: what it is worth is what the hold of that sum in a sandbox is worth. -/
noncomputable def Try.pinned : Pinned := { name := "ytmliihgaoaolmaa", sum := "04c2ae926e4e9b7e5edddf7394c5cf91250c699a4b85829b545084954da76364", checked := Try.checked }
namespace Rows
def none {H : Type} : Left H := { results := [], args := [] }

/-- 'eyewitnesslaw10.DifferTells': WHATEVER THE INPUT: true; the input reads as it did. -/
def differTellsSpec : ChangeSpec := { name := "differTells", fn := fun _ => fun
  | [d1, d2, d3] => { results := [.lit (.bool true)], args := [d1, d2, d3] }
  | _ => none }
def differTellsRow : OpenClaim := { program := "ytmliihgaoaolmaa", sum := "04c2ae926e4e9b7e5edddf7394c5cf91250c699a4b85829b545084954da76364", func := "eyewitness/eyewitnesslaw10.DifferTells", spec := "differTells", unfollowed := true, recurses := true, plainKeys := false, apart := false }
def DifferTellsSaid : Prop := differTellsRow.holds Try.pinned (OpenSpec.ofChange differTellsSpec)

/-- ITS FALSE NEIGHBOUR: 'it returns false'. Refute it at one input. -/
def differTellsWrong : ChangeSpec := { name := "differTells", fn := fun _ => fun
  | [d1, d2, d3] => { results := [.lit (.bool false)], args := [d1, d2, d3] }
  | _ => none }
def DifferTellsWrongFalsely : Prop := differTellsRow.holds Try.pinned (OpenSpec.ofChange differTellsWrong)

/-- 'eyewitnesslaw10.DifferOnly': WHATEVER THE INPUT: true; the input reads as it did. -/
def differOnlySpec : ChangeSpec := { name := "differOnly", fn := fun _ => fun
  | [d] => { results := [.lit (.bool true)], args := [d] }
  | _ => none }
def differOnlyRow : OpenClaim := { program := "ytmliihgaoaolmaa", sum := "04c2ae926e4e9b7e5edddf7394c5cf91250c699a4b85829b545084954da76364", func := "eyewitness/eyewitnesslaw10.DifferOnly", spec := "differOnly", unfollowed := true, recurses := true, plainKeys := false, apart := false }
def DifferOnlySaid : Prop := differOnlyRow.holds Try.pinned (OpenSpec.ofChange differOnlySpec)

/-- ITS FALSE NEIGHBOUR: 'it returns false'. Refute it at one input. -/
def differOnlyWrong : ChangeSpec := { name := "differOnly", fn := fun _ => fun
  | [d] => { results := [.lit (.bool false)], args := [d] }
  | _ => none }
def DifferOnlyWrongFalsely : Prop := differOnlyRow.holds Try.pinned (OpenSpec.ofChange differOnlyWrong)

/-- 'eyewitnesslaw10.DifferMore': WHATEVER THE INPUT: true; the input reads as it did. -/
def differMoreSpec : ChangeSpec := { name := "differMore", fn := fun _ => fun
  | [d1, d2] => { results := [.lit (.bool true)], args := [d1, d2] }
  | _ => none }
def differMoreRow : OpenClaim := { program := "ytmliihgaoaolmaa", sum := "04c2ae926e4e9b7e5edddf7394c5cf91250c699a4b85829b545084954da76364", func := "eyewitness/eyewitnesslaw10.DifferMore", spec := "differMore", unfollowed := true, recurses := true, plainKeys := false, apart := false }
def DifferMoreSaid : Prop := differMoreRow.holds Try.pinned (OpenSpec.ofChange differMoreSpec)

/-- ITS FALSE NEIGHBOUR: 'it returns false'. Refute it at one input. -/
def differMoreWrong : ChangeSpec := { name := "differMore", fn := fun _ => fun
  | [d1, d2] => { results := [.lit (.bool false)], args := [d1, d2] }
  | _ => none }
def DifferMoreWrongFalsely : Prop := differMoreRow.holds Try.pinned (OpenSpec.ofChange differMoreWrong)

/-- 'eyewitnesslaw11.OriginTells': WHATEVER THE INPUT: true; the input reads as it did. -/
def originTellsSpec : ChangeSpec := { name := "originTells", fn := fun _ => fun
  | [d1, d2, d3] => { results := [.lit (.bool true)], args := [d1, d2, d3] }
  | _ => none }
def originTellsRow : OpenClaim := { program := "ytmliihgaoaolmaa", sum := "04c2ae926e4e9b7e5edddf7394c5cf91250c699a4b85829b545084954da76364", func := "eyewitness/eyewitnesslaw11.OriginTells", spec := "originTells", plainKeys := false, apart := false }
def OriginTellsSaid : Prop := originTellsRow.holds Try.pinned (OpenSpec.ofChange originTellsSpec)

/-- ITS FALSE NEIGHBOUR: 'it returns false'. Refute it at one input. -/
def originTellsWrong : ChangeSpec := { name := "originTells", fn := fun _ => fun
  | [d1, d2, d3] => { results := [.lit (.bool false)], args := [d1, d2, d3] }
  | _ => none }
def OriginTellsWrongFalsely : Prop := originTellsRow.holds Try.pinned (OpenSpec.ofChange originTellsWrong)

/-- 'eyewitnesslaw11.OriginReads': WHATEVER THE INPUT: true; the input reads as it did. -/
def originReadsSpec : ChangeSpec := { name := "originReads", fn := fun _ => fun
  | [d] => { results := [.lit (.bool true)], args := [d] }
  | _ => none }
def originReadsRow : OpenClaim := { program := "ytmliihgaoaolmaa", sum := "04c2ae926e4e9b7e5edddf7394c5cf91250c699a4b85829b545084954da76364", func := "eyewitness/eyewitnesslaw11.OriginReads", spec := "originReads", plainKeys := false, apart := false }
def OriginReadsSaid : Prop := originReadsRow.holds Try.pinned (OpenSpec.ofChange originReadsSpec)

/-- ITS FALSE NEIGHBOUR: 'it returns false'. Refute it at one input. -/
def originReadsWrong : ChangeSpec := { name := "originReads", fn := fun _ => fun
  | [d] => { results := [.lit (.bool false)], args := [d] }
  | _ => none }
def OriginReadsWrongFalsely : Prop := originReadsRow.holds Try.pinned (OpenSpec.ofChange originReadsWrong)

/-- 'eyewitnesslaw11.OriginOnce': WHATEVER THE INPUT: true; the input reads as it did. -/
def originOnceSpec : ChangeSpec := { name := "originOnce", fn := fun _ => fun
  | [d] => { results := [.lit (.bool true)], args := [d] }
  | _ => none }
def originOnceRow : OpenClaim := { program := "ytmliihgaoaolmaa", sum := "04c2ae926e4e9b7e5edddf7394c5cf91250c699a4b85829b545084954da76364", func := "eyewitness/eyewitnesslaw11.OriginOnce", spec := "originOnce", plainKeys := false, apart := false }
def OriginOnceSaid : Prop := originOnceRow.holds Try.pinned (OpenSpec.ofChange originOnceSpec)

/-- ITS FALSE NEIGHBOUR: 'it returns false'. Refute it at one input. -/
def originOnceWrong : ChangeSpec := { name := "originOnce", fn := fun _ => fun
  | [d] => { results := [.lit (.bool false)], args := [d] }
  | _ => none }
def OriginOnceWrongFalsely : Prop := originOnceRow.holds Try.pinned (OpenSpec.ofChange originOnceWrong)

/-- 'eyewitnesslaw12.SessionTells': WHATEVER THE INPUT: true; the input reads as it did. -/
def sessionTellsSpec : ChangeSpec := { name := "sessionTells", fn := fun _ => fun
  | [d1, d2, d3] => { results := [.lit (.bool true)], args := [d1, d2, d3] }
  | _ => none }
def sessionTellsRow : OpenClaim := { program := "ytmliihgaoaolmaa", sum := "04c2ae926e4e9b7e5edddf7394c5cf91250c699a4b85829b545084954da76364", func := "eyewitness/eyewitnesslaw12.SessionTells", spec := "sessionTells", plainKeys := false, apart := false }
def SessionTellsSaid : Prop := sessionTellsRow.holds Try.pinned (OpenSpec.ofChange sessionTellsSpec)

/-- ITS FALSE NEIGHBOUR: 'it returns false'. Refute it at one input. -/
def sessionTellsWrong : ChangeSpec := { name := "sessionTells", fn := fun _ => fun
  | [d1, d2, d3] => { results := [.lit (.bool false)], args := [d1, d2, d3] }
  | _ => none }
def SessionTellsWrongFalsely : Prop := sessionTellsRow.holds Try.pinned (OpenSpec.ofChange sessionTellsWrong)

/-- 'eyewitnesslaw12.SessionOrder': WHATEVER THE INPUT: true; the input reads as it did. -/
def sessionOrderSpec : ChangeSpec := { name := "sessionOrder", fn := fun _ => fun
  | [d] => { results := [.lit (.bool true)], args := [d] }
  | _ => none }
def sessionOrderRow : OpenClaim := { program := "ytmliihgaoaolmaa", sum := "04c2ae926e4e9b7e5edddf7394c5cf91250c699a4b85829b545084954da76364", func := "eyewitness/eyewitnesslaw12.SessionOrder", spec := "sessionOrder", plainKeys := false, apart := false }
def SessionOrderSaid : Prop := sessionOrderRow.holds Try.pinned (OpenSpec.ofChange sessionOrderSpec)

/-- ITS FALSE NEIGHBOUR: 'it returns false'. Refute it at one input. -/
def sessionOrderWrong : ChangeSpec := { name := "sessionOrder", fn := fun _ => fun
  | [d] => { results := [.lit (.bool false)], args := [d] }
  | _ => none }
def SessionOrderWrongFalsely : Prop := sessionOrderRow.holds Try.pinned (OpenSpec.ofChange sessionOrderWrong)

/-- 'eyewitnesslaw12.SessionPasts': WHATEVER THE INPUT: true; the input reads as it did. -/
def sessionPastsSpec : ChangeSpec := { name := "sessionPasts", fn := fun _ => fun
  | [d1, d2] => { results := [.lit (.bool true)], args := [d1, d2] }
  | _ => none }
def sessionPastsRow : OpenClaim := { program := "ytmliihgaoaolmaa", sum := "04c2ae926e4e9b7e5edddf7394c5cf91250c699a4b85829b545084954da76364", func := "eyewitness/eyewitnesslaw12.SessionPasts", spec := "sessionPasts", plainKeys := false, apart := false }
def SessionPastsSaid : Prop := sessionPastsRow.holds Try.pinned (OpenSpec.ofChange sessionPastsSpec)

/-- ITS FALSE NEIGHBOUR: 'it returns false'. Refute it at one input. -/
def sessionPastsWrong : ChangeSpec := { name := "sessionPasts", fn := fun _ => fun
  | [d1, d2] => { results := [.lit (.bool false)], args := [d1, d2] }
  | _ => none }
def SessionPastsWrongFalsely : Prop := sessionPastsRow.holds Try.pinned (OpenSpec.ofChange sessionPastsWrong)

/- THE SECOND FORM. 'bulk': how many values and letters a reading holds, each counted each time it is reached (what is shared counts as often as it is met; a slice's spare places count too). A statement '..UptoSaid' is the law's where the arguments, and the package variables that the reading takes, are together of bulk at most 1048576: NARROWER than '..Said'. Prove '..Said' where nothing that the law and all that it calls make is longer than what came in: it says more and counts as full. Else prove '..UptoSaid'. A law counts once. -/
mutual
def uptoBulk {H : Type} : DataW H → Nat
  | .lit (.string bytes) => bytes.length + 1
  | .lit _ => 1
  | .nil => 1
  | .ptr d => uptoBulk d + 1
  | .slice elems spare => uptoBulkAll elems + uptoBulkAll spare + 1
  | .agg parts => uptoBulkAll parts + 1
  | .iface _ d => uptoBulk d + 1
  | .map entries => uptoBulkEntries entries + 1
  | .held _ => 1
def uptoBulkAll {H : Type} : List (DataW H) → Nat
  | [] => 0
  | d :: r => uptoBulk d + uptoBulkAll r
def uptoBulkEntries {H : Type} : List (Lit × DataW H) → Nat
  | [] => 0
  | x :: r => uptoBulkEntry x + uptoBulkEntries r
def uptoBulkEntry {H : Type} : Lit × DataW H → Nat
  | (.string bytes, d) => bytes.length + uptoBulk d + 1
  | (_, d) => uptoBulk d + 1
 end
def uptoSmall : (H : Type) → List (DataW H) → Bool := fun _ ds => decide (uptoBulkAll ds ≤ 1048576)
def OpenSpec.upto (s : _root_.Go.ChangeSpec) : _root_.Go.OpenSpec := { _root_.Go.OpenSpec.ofChange s with cond := some uptoSmall }

/-- 'eyewitnesslaw10.DifferTells', WHERE WHAT IT READS IS OF BULK AT MOST 1048576: true; the input reads as it did. -/
def differTellsUptoRow : OpenClaim := { program := "ytmliihgaoaolmaa", sum := "04c2ae926e4e9b7e5edddf7394c5cf91250c699a4b85829b545084954da76364", func := "eyewitness/eyewitnesslaw10.DifferTells", spec := "differTells", unfollowed := true, recurses := true, plainKeys := false, apart := false, narrowed := true }
def DifferTellsUptoSaid : Prop := differTellsUptoRow.holds Try.pinned (OpenSpec.upto differTellsSpec)

/-- 'eyewitnesslaw10.DifferOnly', WHERE WHAT IT READS IS OF BULK AT MOST 1048576: true; the input reads as it did. -/
def differOnlyUptoRow : OpenClaim := { program := "ytmliihgaoaolmaa", sum := "04c2ae926e4e9b7e5edddf7394c5cf91250c699a4b85829b545084954da76364", func := "eyewitness/eyewitnesslaw10.DifferOnly", spec := "differOnly", unfollowed := true, recurses := true, plainKeys := false, apart := false, narrowed := true }
def DifferOnlyUptoSaid : Prop := differOnlyUptoRow.holds Try.pinned (OpenSpec.upto differOnlySpec)

/-- 'eyewitnesslaw10.DifferMore', WHERE WHAT IT READS IS OF BULK AT MOST 1048576: true; the input reads as it did. -/
def differMoreUptoRow : OpenClaim := { program := "ytmliihgaoaolmaa", sum := "04c2ae926e4e9b7e5edddf7394c5cf91250c699a4b85829b545084954da76364", func := "eyewitness/eyewitnesslaw10.DifferMore", spec := "differMore", unfollowed := true, recurses := true, plainKeys := false, apart := false, narrowed := true }
def DifferMoreUptoSaid : Prop := differMoreUptoRow.holds Try.pinned (OpenSpec.upto differMoreSpec)

/-- 'eyewitnesslaw11.OriginTells', WHERE WHAT IT READS IS OF BULK AT MOST 1048576: true; the input reads as it did. -/
def originTellsUptoRow : OpenClaim := { program := "ytmliihgaoaolmaa", sum := "04c2ae926e4e9b7e5edddf7394c5cf91250c699a4b85829b545084954da76364", func := "eyewitness/eyewitnesslaw11.OriginTells", spec := "originTells", plainKeys := false, apart := false, narrowed := true }
def OriginTellsUptoSaid : Prop := originTellsUptoRow.holds Try.pinned (OpenSpec.upto originTellsSpec)

/-- 'eyewitnesslaw11.OriginReads', WHERE WHAT IT READS IS OF BULK AT MOST 1048576: true; the input reads as it did. -/
def originReadsUptoRow : OpenClaim := { program := "ytmliihgaoaolmaa", sum := "04c2ae926e4e9b7e5edddf7394c5cf91250c699a4b85829b545084954da76364", func := "eyewitness/eyewitnesslaw11.OriginReads", spec := "originReads", plainKeys := false, apart := false, narrowed := true }
def OriginReadsUptoSaid : Prop := originReadsUptoRow.holds Try.pinned (OpenSpec.upto originReadsSpec)

/-- 'eyewitnesslaw11.OriginOnce', WHERE WHAT IT READS IS OF BULK AT MOST 1048576: true; the input reads as it did. -/
def originOnceUptoRow : OpenClaim := { program := "ytmliihgaoaolmaa", sum := "04c2ae926e4e9b7e5edddf7394c5cf91250c699a4b85829b545084954da76364", func := "eyewitness/eyewitnesslaw11.OriginOnce", spec := "originOnce", plainKeys := false, apart := false, narrowed := true }
def OriginOnceUptoSaid : Prop := originOnceUptoRow.holds Try.pinned (OpenSpec.upto originOnceSpec)

/-- 'eyewitnesslaw12.SessionTells', WHERE WHAT IT READS IS OF BULK AT MOST 1048576: true; the input reads as it did. -/
def sessionTellsUptoRow : OpenClaim := { program := "ytmliihgaoaolmaa", sum := "04c2ae926e4e9b7e5edddf7394c5cf91250c699a4b85829b545084954da76364", func := "eyewitness/eyewitnesslaw12.SessionTells", spec := "sessionTells", plainKeys := false, apart := false, narrowed := true }
def SessionTellsUptoSaid : Prop := sessionTellsUptoRow.holds Try.pinned (OpenSpec.upto sessionTellsSpec)

/-- 'eyewitnesslaw12.SessionOrder', WHERE WHAT IT READS IS OF BULK AT MOST 1048576: true; the input reads as it did. -/
def sessionOrderUptoRow : OpenClaim := { program := "ytmliihgaoaolmaa", sum := "04c2ae926e4e9b7e5edddf7394c5cf91250c699a4b85829b545084954da76364", func := "eyewitness/eyewitnesslaw12.SessionOrder", spec := "sessionOrder", plainKeys := false, apart := false, narrowed := true }
def SessionOrderUptoSaid : Prop := sessionOrderUptoRow.holds Try.pinned (OpenSpec.upto sessionOrderSpec)

/-- 'eyewitnesslaw12.SessionPasts', WHERE WHAT IT READS IS OF BULK AT MOST 1048576: true; the input reads as it did. -/
def sessionPastsUptoRow : OpenClaim := { program := "ytmliihgaoaolmaa", sum := "04c2ae926e4e9b7e5edddf7394c5cf91250c699a4b85829b545084954da76364", func := "eyewitness/eyewitnesslaw12.SessionPasts", spec := "sessionPasts", plainKeys := false, apart := false, narrowed := true }
def SessionPastsUptoSaid : Prop := sessionPastsUptoRow.holds Try.pinned (OpenSpec.upto sessionPastsSpec)

end Rows
end Go.Proofs.Ytmliihgaoaolmaa
