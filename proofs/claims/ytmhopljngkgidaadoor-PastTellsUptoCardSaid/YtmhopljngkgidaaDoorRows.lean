/-
  NARROWER THAN 'FOR EVERY INPUT', by the rows' own cells (each row's printed sentence says how): MatBack: laid · HullLeast: laid · HullOrder: laid · HullTurned: laid · HullTells: laid · PathTells: laid · PathHull: laid · PathShort: laid · PastTells: laid.
  DERIVED. THE GIVEN ROWS OF THIS SEAT. 9 by the template 'for every input the law returns true; each argument reads behind the call as it read before'; 0 by the template 'total and deterministic' (their statements: YtmhopljngkgidaaDoorTotals.lean).
  GIVEN WITH THE SEED: the statements are not yours to turn. If you find one false, say at which input.
  Laid BY PROGRAM, IN A SANDBOX (cutbox-rows.mjs): the forced cells as the released guide's own fill.sh prints them over the translation 3ef41db36e399e19… (all of the seat's roots in one cut). By AI agents, Wed Nov 11 2026. No macro, syntax, notation, axiom, sorry.
-/
import Derived.Test.YtmhopljngkgidaaDoorChecked
import GoSem.Claim
import GoSem.ClaimJoined
import GoSem.ClaimMapViews
import Derived.JoinedTies
import Derived.KernelRfl
namespace Go.Proofs.YtmhopljngkgidaaDoor
/- THE CELL 'sum', in the pinned program and in every row, IS THE sha256 OF THE DUMP (.gsa) THAT YtmhopljngkgidaaDoorProg.lean LOADS. Nothing in Lean hashes anything: it is a label: what it is worth is what the hold of that sum in a sandbox is worth. -/
noncomputable def Tryd.pinned : Pinned := { name := "ytmhopljngkgidaadoor", sum := "3ef41db36e399e19be9525fa152bda2cdf77d8f36d11ecc3479396d9231b0dee", checked := Tryd.checked }
namespace Rows
def none {H : Type} : Left H := { results := [], args := [] }

/- WHAT THE LISTED PACKAGE-LEVEL VARIABLES READ AS WHEN THE CALL BEGINS. Each datum BY PROGRAM (the guide's laid-datum.mjs) off the statement by which the dump's own 'gosem.cut.vars' lays the variable. In a bare row this is a premise. The card (YtmhopljngkgidaaDoorCards.lean) ties it to the program's text. -/
def laid_math_bits_deBruijn64tab {H : Type} : DataW H := .agg [.lit (.int .u8 0), .lit (.int .u8 1), .lit (.int .u8 56), .lit (.int .u8 2), .lit (.int .u8 57), .lit (.int .u8 49), .lit (.int .u8 28), .lit (.int .u8 3), .lit (.int .u8 61), .lit (.int .u8 58), .lit (.int .u8 42), .lit (.int .u8 50), .lit (.int .u8 38), .lit (.int .u8 29), .lit (.int .u8 17), .lit (.int .u8 4), .lit (.int .u8 62), .lit (.int .u8 47), .lit (.int .u8 59), .lit (.int .u8 36), .lit (.int .u8 45), .lit (.int .u8 43), .lit (.int .u8 51), .lit (.int .u8 22), .lit (.int .u8 53), .lit (.int .u8 39), .lit (.int .u8 33), .lit (.int .u8 30), .lit (.int .u8 24), .lit (.int .u8 18), .lit (.int .u8 12), .lit (.int .u8 5), .lit (.int .u8 63), .lit (.int .u8 55), .lit (.int .u8 48), .lit (.int .u8 27), .lit (.int .u8 60), .lit (.int .u8 41), .lit (.int .u8 37), .lit (.int .u8 16), .lit (.int .u8 46), .lit (.int .u8 35), .lit (.int .u8 44), .lit (.int .u8 21), .lit (.int .u8 52), .lit (.int .u8 32), .lit (.int .u8 23), .lit (.int .u8 11), .lit (.int .u8 54), .lit (.int .u8 26), .lit (.int .u8 40), .lit (.int .u8 15), .lit (.int .u8 34), .lit (.int .u8 20), .lit (.int .u8 31), .lit (.int .u8 10), .lit (.int .u8 25), .lit (.int .u8 14), .lit (.int .u8 19), .lit (.int .u8 9), .lit (.int .u8 13), .lit (.int .u8 8), .lit (.int .u8 7), .lit (.int .u8 6)]

/-- 'eyewitnesslaw03.MatBack': WHATEVER THE INPUT: true; the input reads as it did. -/
def matBackSpec : ChangeSpec := { name := "matBack", fn := fun _ => fun
  | [d1, d2, d3] => { results := [.lit (.bool true)], args := [d1, d2, d3] }
  | _ => none }
def matBackRow : OpenClaim := { program := "ytmhopljngkgidaadoor", sum := "3ef41db36e399e19be9525fa152bda2cdf77d8f36d11ecc3479396d9231b0dee", func := "eyewitness/eyewitnesslaw03.MatBack", spec := "matBack", unfollowed := true, recurses := true, named := ["math/bits.deBruijn64tab"], apart := false, laid := [("math/bits.deBruijn64tab", laid_math_bits_deBruijn64tab)] }
def MatBackSaid : Prop := matBackRow.holds Tryd.pinned (OpenSpec.ofChange matBackSpec)

/-- ITS FALSE NEIGHBOUR: 'it returns false'. Refute it at one input. -/
def matBackWrong : ChangeSpec := { name := "matBack", fn := fun _ => fun
  | [d1, d2, d3] => { results := [.lit (.bool false)], args := [d1, d2, d3] }
  | _ => none }
def MatBackWrongFalsely : Prop := matBackRow.holds Tryd.pinned (OpenSpec.ofChange matBackWrong)

/-- 'eyewitnesslaw04.HullLeast': WHATEVER THE INPUT: true; the input reads as it did. -/
def hullLeastSpec : ChangeSpec := { name := "hullLeast", fn := fun _ => fun
  | [d1, d2] => { results := [.lit (.bool true)], args := [d1, d2] }
  | _ => none }
def hullLeastRow : OpenClaim := { program := "ytmhopljngkgidaadoor", sum := "3ef41db36e399e19be9525fa152bda2cdf77d8f36d11ecc3479396d9231b0dee", func := "eyewitness/eyewitnesslaw04.HullLeast", spec := "hullLeast", unfollowed := true, recurses := true, named := ["math/bits.deBruijn64tab"], apart := false, laid := [("math/bits.deBruijn64tab", laid_math_bits_deBruijn64tab)] }
def HullLeastSaid : Prop := hullLeastRow.holds Tryd.pinned (OpenSpec.ofChange hullLeastSpec)

/-- ITS FALSE NEIGHBOUR: 'it returns false'. Refute it at one input. -/
def hullLeastWrong : ChangeSpec := { name := "hullLeast", fn := fun _ => fun
  | [d1, d2] => { results := [.lit (.bool false)], args := [d1, d2] }
  | _ => none }
def HullLeastWrongFalsely : Prop := hullLeastRow.holds Tryd.pinned (OpenSpec.ofChange hullLeastWrong)

/-- 'eyewitnesslaw04.HullOrder': WHATEVER THE INPUT: true; the input reads as it did. -/
def hullOrderSpec : ChangeSpec := { name := "hullOrder", fn := fun _ => fun
  | [d1, d2, d3] => { results := [.lit (.bool true)], args := [d1, d2, d3] }
  | _ => none }
def hullOrderRow : OpenClaim := { program := "ytmhopljngkgidaadoor", sum := "3ef41db36e399e19be9525fa152bda2cdf77d8f36d11ecc3479396d9231b0dee", func := "eyewitness/eyewitnesslaw04.HullOrder", spec := "hullOrder", unfollowed := true, recurses := true, named := ["math/bits.deBruijn64tab"], apart := false, laid := [("math/bits.deBruijn64tab", laid_math_bits_deBruijn64tab)] }
def HullOrderSaid : Prop := hullOrderRow.holds Tryd.pinned (OpenSpec.ofChange hullOrderSpec)

/-- ITS FALSE NEIGHBOUR: 'it returns false'. Refute it at one input. -/
def hullOrderWrong : ChangeSpec := { name := "hullOrder", fn := fun _ => fun
  | [d1, d2, d3] => { results := [.lit (.bool false)], args := [d1, d2, d3] }
  | _ => none }
def HullOrderWrongFalsely : Prop := hullOrderRow.holds Tryd.pinned (OpenSpec.ofChange hullOrderWrong)

/-- 'eyewitnesslaw04.HullTurned': WHATEVER THE INPUT: true; the input reads as it did. -/
def hullTurnedSpec : ChangeSpec := { name := "hullTurned", fn := fun _ => fun
  | [d1, d2, d3] => { results := [.lit (.bool true)], args := [d1, d2, d3] }
  | _ => none }
def hullTurnedRow : OpenClaim := { program := "ytmhopljngkgidaadoor", sum := "3ef41db36e399e19be9525fa152bda2cdf77d8f36d11ecc3479396d9231b0dee", func := "eyewitness/eyewitnesslaw04.HullTurned", spec := "hullTurned", unfollowed := true, recurses := true, named := ["math/bits.deBruijn64tab"], apart := false, laid := [("math/bits.deBruijn64tab", laid_math_bits_deBruijn64tab)] }
def HullTurnedSaid : Prop := hullTurnedRow.holds Tryd.pinned (OpenSpec.ofChange hullTurnedSpec)

/-- ITS FALSE NEIGHBOUR: 'it returns false'. Refute it at one input. -/
def hullTurnedWrong : ChangeSpec := { name := "hullTurned", fn := fun _ => fun
  | [d1, d2, d3] => { results := [.lit (.bool false)], args := [d1, d2, d3] }
  | _ => none }
def HullTurnedWrongFalsely : Prop := hullTurnedRow.holds Tryd.pinned (OpenSpec.ofChange hullTurnedWrong)

/-- 'eyewitnesslaw04.HullTells': WHATEVER THE INPUT: true; the input reads as it did. -/
def hullTellsSpec : ChangeSpec := { name := "hullTells", fn := fun _ => fun
  | [d] => { results := [.lit (.bool true)], args := [d] }
  | _ => none }
def hullTellsRow : OpenClaim := { program := "ytmhopljngkgidaadoor", sum := "3ef41db36e399e19be9525fa152bda2cdf77d8f36d11ecc3479396d9231b0dee", func := "eyewitness/eyewitnesslaw04.HullTells", spec := "hullTells", unfollowed := true, recurses := true, named := ["math/bits.deBruijn64tab"], apart := false, laid := [("math/bits.deBruijn64tab", laid_math_bits_deBruijn64tab)] }
def HullTellsSaid : Prop := hullTellsRow.holds Tryd.pinned (OpenSpec.ofChange hullTellsSpec)

/-- ITS FALSE NEIGHBOUR: 'it returns false'. Refute it at one input. -/
def hullTellsWrong : ChangeSpec := { name := "hullTells", fn := fun _ => fun
  | [d] => { results := [.lit (.bool false)], args := [d] }
  | _ => none }
def HullTellsWrongFalsely : Prop := hullTellsRow.holds Tryd.pinned (OpenSpec.ofChange hullTellsWrong)

/-- 'eyewitnesslaw14.PathTells': WHATEVER THE INPUT: true; the input reads as it did. -/
def pathTellsSpec : ChangeSpec := { name := "pathTells", fn := fun _ => fun
  | [d] => { results := [.lit (.bool true)], args := [d] }
  | _ => none }
def pathTellsRow : OpenClaim := { program := "ytmhopljngkgidaadoor", sum := "3ef41db36e399e19be9525fa152bda2cdf77d8f36d11ecc3479396d9231b0dee", func := "eyewitness/eyewitnesslaw14.PathTells", spec := "pathTells", unfollowed := true, recurses := true, named := ["math/bits.deBruijn64tab"], apart := false, laid := [("math/bits.deBruijn64tab", laid_math_bits_deBruijn64tab)] }
def PathTellsSaid : Prop := pathTellsRow.holds Tryd.pinned (OpenSpec.ofChange pathTellsSpec)

/-- ITS FALSE NEIGHBOUR: 'it returns false'. Refute it at one input. -/
def pathTellsWrong : ChangeSpec := { name := "pathTells", fn := fun _ => fun
  | [d] => { results := [.lit (.bool false)], args := [d] }
  | _ => none }
def PathTellsWrongFalsely : Prop := pathTellsRow.holds Tryd.pinned (OpenSpec.ofChange pathTellsWrong)

/-- 'eyewitnesslaw14.PathHull': WHATEVER THE INPUT: true; the input reads as it did. -/
def pathHullSpec : ChangeSpec := { name := "pathHull", fn := fun _ => fun
  | [d1, d2, d3] => { results := [.lit (.bool true)], args := [d1, d2, d3] }
  | _ => none }
def pathHullRow : OpenClaim := { program := "ytmhopljngkgidaadoor", sum := "3ef41db36e399e19be9525fa152bda2cdf77d8f36d11ecc3479396d9231b0dee", func := "eyewitness/eyewitnesslaw14.PathHull", spec := "pathHull", unfollowed := true, recurses := true, named := ["math/bits.deBruijn64tab"], apart := false, laid := [("math/bits.deBruijn64tab", laid_math_bits_deBruijn64tab)] }
def PathHullSaid : Prop := pathHullRow.holds Tryd.pinned (OpenSpec.ofChange pathHullSpec)

/-- ITS FALSE NEIGHBOUR: 'it returns false'. Refute it at one input. -/
def pathHullWrong : ChangeSpec := { name := "pathHull", fn := fun _ => fun
  | [d1, d2, d3] => { results := [.lit (.bool false)], args := [d1, d2, d3] }
  | _ => none }
def PathHullWrongFalsely : Prop := pathHullRow.holds Tryd.pinned (OpenSpec.ofChange pathHullWrong)

/-- 'eyewitnesslaw14.PathShort': WHATEVER THE INPUT: true; the input reads as it did. -/
def pathShortSpec : ChangeSpec := { name := "pathShort", fn := fun _ => fun
  | [d] => { results := [.lit (.bool true)], args := [d] }
  | _ => none }
def pathShortRow : OpenClaim := { program := "ytmhopljngkgidaadoor", sum := "3ef41db36e399e19be9525fa152bda2cdf77d8f36d11ecc3479396d9231b0dee", func := "eyewitness/eyewitnesslaw14.PathShort", spec := "pathShort", unfollowed := true, recurses := true, named := ["math/bits.deBruijn64tab"], apart := false, laid := [("math/bits.deBruijn64tab", laid_math_bits_deBruijn64tab)] }
def PathShortSaid : Prop := pathShortRow.holds Tryd.pinned (OpenSpec.ofChange pathShortSpec)

/-- ITS FALSE NEIGHBOUR: 'it returns false'. Refute it at one input. -/
def pathShortWrong : ChangeSpec := { name := "pathShort", fn := fun _ => fun
  | [d] => { results := [.lit (.bool false)], args := [d] }
  | _ => none }
def PathShortWrongFalsely : Prop := pathShortRow.holds Tryd.pinned (OpenSpec.ofChange pathShortWrong)

/-- 'eyewitnesslaw16.PastTells': WHATEVER THE INPUT: true; the input reads as it did. -/
def pastTellsSpec : ChangeSpec := { name := "pastTells", fn := fun _ => fun
  | [d] => { results := [.lit (.bool true)], args := [d] }
  | _ => none }
def pastTellsRow : OpenClaim := { program := "ytmhopljngkgidaadoor", sum := "3ef41db36e399e19be9525fa152bda2cdf77d8f36d11ecc3479396d9231b0dee", func := "eyewitness/eyewitnesslaw16.PastTells", spec := "pastTells", unfollowed := true, recurses := true, named := ["math/bits.deBruijn64tab"], apart := false, laid := [("math/bits.deBruijn64tab", laid_math_bits_deBruijn64tab)] }
def PastTellsSaid : Prop := pastTellsRow.holds Tryd.pinned (OpenSpec.ofChange pastTellsSpec)

/-- ITS FALSE NEIGHBOUR: 'it returns false'. Refute it at one input. -/
def pastTellsWrong : ChangeSpec := { name := "pastTells", fn := fun _ => fun
  | [d] => { results := [.lit (.bool false)], args := [d] }
  | _ => none }
def PastTellsWrongFalsely : Prop := pastTellsRow.holds Tryd.pinned (OpenSpec.ofChange pastTellsWrong)

/- THE SECOND FORM. 'bulk': how many values and letters a reading holds, each counted each time it is reached (what is shared counts as often as it is met; a slice's spare places count too). A statement '..UptoSaid' is the law's where the arguments, and the package variables that the reading takes, are together of bulk at most 1048576: NARROWER than '..Said'. Prove '..Said' where nothing that the law and all that it calls make is longer than what came in: it says more and counts as full. Else prove '..UptoSaid'. A law counts once. -/
mutual
def uptoBulk {H : Type} : DataW H → Nat
  | .lit (.string bytes) => bytes.length + 1
  | .lit _ => 1
  | .nil => 1
  | .ptr d => uptoBulk d + 1
  | .slice elems spare => uptoBulkAll elems + uptoBulkAll spare + 1
  | .agg parts => uptoBulkAll parts + 1
  | .iface _ d => uptoBulk d + 1
  | .map entries => uptoBulkEntries entries + 1
  | .held _ => 1
def uptoBulkAll {H : Type} : List (DataW H) → Nat
  | [] => 0
  | d :: r => uptoBulk d + uptoBulkAll r
def uptoBulkEntries {H : Type} : List (Lit × DataW H) → Nat
  | [] => 0
  | x :: r => uptoBulkEntry x + uptoBulkEntries r
def uptoBulkEntry {H : Type} : Lit × DataW H → Nat
  | (.string bytes, d) => bytes.length + uptoBulk d + 1
  | (_, d) => uptoBulk d + 1
 end
def uptoSmall : (H : Type) → List (DataW H) → Bool := fun _ ds => decide (uptoBulkAll ds ≤ 1048576)
def OpenSpec.upto (s : _root_.Go.ChangeSpec) : _root_.Go.OpenSpec := { _root_.Go.OpenSpec.ofChange s with cond := some uptoSmall }

/-- 'eyewitnesslaw03.MatBack', WHERE WHAT IT READS IS OF BULK AT MOST 1048576: true; the input reads as it did. -/
def matBackUptoRow : OpenClaim := { program := "ytmhopljngkgidaadoor", sum := "3ef41db36e399e19be9525fa152bda2cdf77d8f36d11ecc3479396d9231b0dee", func := "eyewitness/eyewitnesslaw03.MatBack", spec := "matBack", unfollowed := true, recurses := true, named := ["math/bits.deBruijn64tab"], apart := false, laid := [("math/bits.deBruijn64tab", laid_math_bits_deBruijn64tab)], narrowed := true }
def MatBackUptoSaid : Prop := matBackUptoRow.holds Tryd.pinned (OpenSpec.upto matBackSpec)

/-- 'eyewitnesslaw04.HullLeast', WHERE WHAT IT READS IS OF BULK AT MOST 1048576: true; the input reads as it did. -/
def hullLeastUptoRow : OpenClaim := { program := "ytmhopljngkgidaadoor", sum := "3ef41db36e399e19be9525fa152bda2cdf77d8f36d11ecc3479396d9231b0dee", func := "eyewitness/eyewitnesslaw04.HullLeast", spec := "hullLeast", unfollowed := true, recurses := true, named := ["math/bits.deBruijn64tab"], apart := false, laid := [("math/bits.deBruijn64tab", laid_math_bits_deBruijn64tab)], narrowed := true }
def HullLeastUptoSaid : Prop := hullLeastUptoRow.holds Tryd.pinned (OpenSpec.upto hullLeastSpec)

/-- 'eyewitnesslaw04.HullOrder', WHERE WHAT IT READS IS OF BULK AT MOST 1048576: true; the input reads as it did. -/
def hullOrderUptoRow : OpenClaim := { program := "ytmhopljngkgidaadoor", sum := "3ef41db36e399e19be9525fa152bda2cdf77d8f36d11ecc3479396d9231b0dee", func := "eyewitness/eyewitnesslaw04.HullOrder", spec := "hullOrder", unfollowed := true, recurses := true, named := ["math/bits.deBruijn64tab"], apart := false, laid := [("math/bits.deBruijn64tab", laid_math_bits_deBruijn64tab)], narrowed := true }
def HullOrderUptoSaid : Prop := hullOrderUptoRow.holds Tryd.pinned (OpenSpec.upto hullOrderSpec)

/-- 'eyewitnesslaw04.HullTurned', WHERE WHAT IT READS IS OF BULK AT MOST 1048576: true; the input reads as it did. -/
def hullTurnedUptoRow : OpenClaim := { program := "ytmhopljngkgidaadoor", sum := "3ef41db36e399e19be9525fa152bda2cdf77d8f36d11ecc3479396d9231b0dee", func := "eyewitness/eyewitnesslaw04.HullTurned", spec := "hullTurned", unfollowed := true, recurses := true, named := ["math/bits.deBruijn64tab"], apart := false, laid := [("math/bits.deBruijn64tab", laid_math_bits_deBruijn64tab)], narrowed := true }
def HullTurnedUptoSaid : Prop := hullTurnedUptoRow.holds Tryd.pinned (OpenSpec.upto hullTurnedSpec)

/-- 'eyewitnesslaw04.HullTells', WHERE WHAT IT READS IS OF BULK AT MOST 1048576: true; the input reads as it did. -/
def hullTellsUptoRow : OpenClaim := { program := "ytmhopljngkgidaadoor", sum := "3ef41db36e399e19be9525fa152bda2cdf77d8f36d11ecc3479396d9231b0dee", func := "eyewitness/eyewitnesslaw04.HullTells", spec := "hullTells", unfollowed := true, recurses := true, named := ["math/bits.deBruijn64tab"], apart := false, laid := [("math/bits.deBruijn64tab", laid_math_bits_deBruijn64tab)], narrowed := true }
def HullTellsUptoSaid : Prop := hullTellsUptoRow.holds Tryd.pinned (OpenSpec.upto hullTellsSpec)

/-- 'eyewitnesslaw14.PathTells', WHERE WHAT IT READS IS OF BULK AT MOST 1048576: true; the input reads as it did. -/
def pathTellsUptoRow : OpenClaim := { program := "ytmhopljngkgidaadoor", sum := "3ef41db36e399e19be9525fa152bda2cdf77d8f36d11ecc3479396d9231b0dee", func := "eyewitness/eyewitnesslaw14.PathTells", spec := "pathTells", unfollowed := true, recurses := true, named := ["math/bits.deBruijn64tab"], apart := false, laid := [("math/bits.deBruijn64tab", laid_math_bits_deBruijn64tab)], narrowed := true }
def PathTellsUptoSaid : Prop := pathTellsUptoRow.holds Tryd.pinned (OpenSpec.upto pathTellsSpec)

/-- 'eyewitnesslaw14.PathHull', WHERE WHAT IT READS IS OF BULK AT MOST 1048576: true; the input reads as it did. -/
def pathHullUptoRow : OpenClaim := { program := "ytmhopljngkgidaadoor", sum := "3ef41db36e399e19be9525fa152bda2cdf77d8f36d11ecc3479396d9231b0dee", func := "eyewitness/eyewitnesslaw14.PathHull", spec := "pathHull", unfollowed := true, recurses := true, named := ["math/bits.deBruijn64tab"], apart := false, laid := [("math/bits.deBruijn64tab", laid_math_bits_deBruijn64tab)], narrowed := true }
def PathHullUptoSaid : Prop := pathHullUptoRow.holds Tryd.pinned (OpenSpec.upto pathHullSpec)

/-- 'eyewitnesslaw14.PathShort', WHERE WHAT IT READS IS OF BULK AT MOST 1048576: true; the input reads as it did. -/
def pathShortUptoRow : OpenClaim := { program := "ytmhopljngkgidaadoor", sum := "3ef41db36e399e19be9525fa152bda2cdf77d8f36d11ecc3479396d9231b0dee", func := "eyewitness/eyewitnesslaw14.PathShort", spec := "pathShort", unfollowed := true, recurses := true, named := ["math/bits.deBruijn64tab"], apart := false, laid := [("math/bits.deBruijn64tab", laid_math_bits_deBruijn64tab)], narrowed := true }
def PathShortUptoSaid : Prop := pathShortUptoRow.holds Tryd.pinned (OpenSpec.upto pathShortSpec)

/-- 'eyewitnesslaw16.PastTells', WHERE WHAT IT READS IS OF BULK AT MOST 1048576: true; the input reads as it did. -/
def pastTellsUptoRow : OpenClaim := { program := "ytmhopljngkgidaadoor", sum := "3ef41db36e399e19be9525fa152bda2cdf77d8f36d11ecc3479396d9231b0dee", func := "eyewitness/eyewitnesslaw16.PastTells", spec := "pastTells", unfollowed := true, recurses := true, named := ["math/bits.deBruijn64tab"], apart := false, laid := [("math/bits.deBruijn64tab", laid_math_bits_deBruijn64tab)], narrowed := true }
def PastTellsUptoSaid : Prop := pastTellsUptoRow.holds Tryd.pinned (OpenSpec.upto pastTellsSpec)

end Rows
end Go.Proofs.YtmhopljngkgidaaDoor
