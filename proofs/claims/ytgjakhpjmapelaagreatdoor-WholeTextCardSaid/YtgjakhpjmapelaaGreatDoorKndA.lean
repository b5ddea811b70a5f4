/- PRINTED by my own tool (wip/tool/close.py): the end of the row WholeText. -/
import Derived.Test.YtgjakhpjmapelaaGreatDoorRows
import Derived.Test.YtgjakhpjmapelaaGreatDoorTie
import Derived.Test.YtgjakhpjmapelaaGreatDoorCards
import Derived.SevenTiedAt
import Derived.LaidMore
import Derived.Lay
import Derived.Stop.Joined
import Derived.Deep.DeepHandedRow
import Derived.JoinedCond
import Derived.Test.YtgjakhpjmapelaaGreatDoorTwnA
import Derived.Test.YtgjakhpjmapelaaGreatDoorTwnB
import Derived.Test.YtgjakhpjmapelaaGreatDoorTwnC
set_option linter.unusedVariables false
set_option linter.unusedSimpArgs false
namespace Go.Proofs.YtgjakhpjmapelaaGreatDoor
open Go Go.Ew Go.ChangeShapes Go.WideShapes Go.ChangeAt Go.RowKit
theorem cs5:Tryz.prog.cellsOf 5=1:=by kernel_rfl
theorem cs9:Tryz.prog.cellsOf 9=1:=by kernel_rfl
theorem Jr:ownKnob Tryz.prog.godebug=none:=by kernel_rfl
theorem Hy:Kids Tryz.prog (·<Tryz.prog.types.size):=kids_rows (by kernel_rfl) (by kernel_rfl)
theorem HG:∀t e,t<Tryz.prog.types.size→Tryz.prog.underlying t=some (.slice e)→0<Tryz.prog.cellsOf e:=slices_full_of Tryz.prog (by kernel_rfl)
theorem HF:Tryz.prog.globalNamed "math/bits.deBruijn64tab"=some 0:=by kernel_rfl
theorem Hm:(Tryz.prog.globals[0]?).map (·.type)=some 227:=by kernel_rfl
theorem HN (os:Os) (args:Array Value):laidMetH Tryz.prog [("math/bits.deBruijn64tab",Rows.laid_math_bits_deBruijn64tab),("unicode/utf8.acceptRanges",Rows.laid_unicode_utf8_acceptRanges),("unicode/utf8.first",Rows.laid_unicode_utf8_first)] ((World.laidAll Tryz.prog os [("math/bits.deBruijn64tab",Rows.laid_math_bits_deBruijn64tab),("unicode/utf8.acceptRanges",Rows.laid_unicode_utf8_acceptRanges),("unicode/utf8.first",Rows.laid_unicode_utf8_first)]).forCall (fun _ _=>0) ⟨#[],args,[]⟩).memory:=
  by rw[MakeChecks.laidMetH_plain _ _ _ (by kernel_rfl)];exact laidMet_laidAll _ (by kernel_rfl) (by kernel_rfl)
end Go.Proofs.YtgjakhpjmapelaaGreatDoor
