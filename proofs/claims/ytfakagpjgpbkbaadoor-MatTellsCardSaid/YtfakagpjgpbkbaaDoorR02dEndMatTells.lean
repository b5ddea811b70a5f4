/- PRINTED by my own tool (wip/tool/close.py): the end of the row MatTells. -/
import Derived.Test.YtfakagpjgpbkbaaDoorR02dTells
import Derived.Test.YtfakagpjgpbkbaaDoorR02dTurn
import Derived.Test.YtfakagpjgpbkbaaDoorR02dJoin
import Derived.Test.YtfakagpjgpbkbaaDoorR02dOne
import Derived.Test.YtfakagpjgpbkbaaDoorR02dRef
import Derived.Test.YtfakagpjgpbkbaaDoorR02dMt2
import Derived.Test.YtfakagpjgpbkbaaDoorR02dMat
import Derived.Test.YtfakagpjgpbkbaaDoorR02dOr
import Derived.Test.YtfakagpjgpbkbaaDoorR02dFns
import Derived.Test.YtfakagpjgpbkbaaDoorRows
import Derived.Test.YtfakagpjgpbkbaaDoorEngQ
import Derived.Test.YtfakagpjgpbkbaaDoorEngU
import Derived.Test.YtfakagpjgpbkbaaDoorTie
import Derived.Test.YtfakagpjgpbkbaaDoorCards
import Derived.SevenTiedAt
import Derived.LaidMore
import Derived.Stop.Joined
namespace Go.Proofs.YtfakagpjgpbkbaaDoor
open Go Go.Ew Go.ChangeShapes Go.WideShapes Go.ChangeAt Go.RowKit
set_option linter.unusedVariables false
theorem cs5 : Tryd.prog.cellsOf 5 = 1 := by kernel_rfl
theorem cs3 : Tryd.prog.cellsOf 3 = 1 := by kernel_rfl
theorem cs36 : Tryd.prog.cellsOf 36 = 1 := by kernel_rfl
theorem cs22 : Tryd.prog.cellsOf 22 = 1 := by kernel_rfl
theorem cs66 : Tryd.prog.cellsOf 66 = 1 := by kernel_rfl
theorem cs38 : Tryd.prog.cellsOf 38 = 2 := by kernel_rfl
theorem cs63 : Tryd.prog.cellsOf 63 = 6 := by kernel_rfl
theorem own_matTells : ownKnob Tryd.prog.godebug = none := by kernel_rfl
theorem kids_matTells : Kids Tryd.prog (· < Tryd.prog.types.size) := kids_rows (by kernel_rfl) (by kernel_rfl)
theorem full_matTells : ∀ t e, t < Tryd.prog.types.size → Tryd.prog.underlying t = some (.slice e) → 0 < Tryd.prog.cellsOf e := slices_full_of Tryd.prog (by kernel_rfl)
theorem gTab_matTells : Tryd.prog.globalNamed "math/bits.deBruijn64tab" = some 0 := by kernel_rfl
theorem tTab_matTells : (Tryd.prog.globals[0]?).map (·.type) = some 84 := by kernel_rfl
theorem door_matTells (os : Os) (args : Array Value) : laidMetH Tryd.prog [("math/bits.deBruijn64tab", Rows.laid_math_bits_deBruijn64tab)] ((World.doorLaid Tryd.prog 400 os).forCall (fun _ _ => 0) ⟨#[], args, []⟩).memory :=
  laidMetH_of_parts3 (fuel := 8) (laidMet_of_run' 8 (by kernel_rfl) (by kernel_rfl)) (by kernel_rfl) (by kernel_rfl)
theorem tab_matTells {W : World} (h : laidMetH Tryd.prog [("math/bits.deBruijn64tab", Rows.laid_math_bits_deBruijn64tab)] W) : TabAt 0 W :=
  tab_of_laid gTab_matTells tTab_matTells un84 un5 cs5 rfl h (by rw [MakeChecks.laidMetH_plain _ _ _ (by kernel_rfl)])
set_option maxRecDepth 100000 in
set_option maxHeartbeats 400000 in
theorem lifted_matTells (os : Os) (started : os.Started) (H : Type) (enc : TypeId × Value → H) :
    ReturnsInHanded {} Tryd.checked os 12 .any (fun w args => (Rows.matTellsSpec.pre enc Tryd.prog Tryd.f12 [] false w args ∧ laidMetH Tryd.prog [("math/bits.deBruijn64tab", Rows.laid_math_bits_deBruijn64tab)] w) ∧ sizedMet enc Tryd.prog Tryd.f12 (OpenSpec.ofChange Rows.matTellsSpec) false w args)
      (Rows.matTellsSpec.post enc Tryd.prog Tryd.f12 false true false false) := by
  refine returnsInHanded_of_change_and (C := Tryd.checked) (X := fun w _ => laidMetH Tryd.prog [("math/bits.deBruijn64tab", Rows.laid_math_bits_deBruijn64tab)] w) (fun _ _ _ hh h => h.of_heap hh) own_matTells started (by kernel_rfl) Tryd.func12
    (ChangeSpec.witness_shaped (enc := enc) (C := Tryd.checked) (os := os) (X := fun w _ => laidMetH Tryd.prog [("math/bits.deBruijn64tab", Rows.laid_math_bits_deBruijn64tab)] w) false (World.doorLaid Tryd.prog 400 os) #[.agg #[.int .i64 0, .slice none 0 0, .int .i64 0, .slice none 0 0, .int .i64 0, .int .i64 0]] 8 rfl (World.shaped_of_RefB (by kernel_rfl) (by kernel_rfl)) (by kernel_rfl) (by kernel_rfl) (by kernel_rfl) (door_matTells os _)) ?_
  intro W base args ds gs before hval0 hW _ _ hL _
  have hval : ∀ (j : Nat) t v, Tryd.f12.params[j]? = some t → args[j]? = some v → Value.okWide Tryd.prog W .any base t v := hval0
  have hW' := hW
  obtain ⟨p, q, hA0, hV, hpq, hfz, hnd⟩ := hW
  have hA : DataW.TrodAll enc Tryd.prog W 0 (fun _ => true) true Tryd.f12.params.toList args.toList ds p := hA0
  rw [Tryd.params12] at hA hval
  obtain ⟨v0, vs0, d0, ds0, p0, q0, hargs, rfl, rfl, h0, tl0⟩ := trodAll_cons hA
  obtain ⟨rfl, rfl, rfl⟩ := trodAll_nil tl0
  obtain rfl : args = #[v0] := by cases args; simp_all
  obtain ⟨rfl, rfl⟩ := trodVars_none hV
  obtain ⟨z, hr_z⟩ := top_struct (α := ((Int × (List (List (BitVec 64)))) × (Int × (List (List (BitVec 64)))) × Int × Int)) Tryd.underlying63 rfl (opens_struct Tryd.underlying63 cs63 (by rw [cs63]; exact (opensR_cons rfl (opens_struct Tryd.underlying38 cs38 (by rw [cs38]; exact (opensR_cons rfl (opens_int cs3 un3) rfl (opensR_one rfl (opens_slice cs36 un36 (opens_slice cs22 un22 (opens_u64 cs66 un66))) rfl)))) rfl (opensR_cons rfl (opens_struct Tryd.underlying38 cs38 (by rw [cs38]; exact (opensR_cons rfl (opens_int cs3 un3) rfl (opensR_one rfl (opens_slice cs36 un36 (opens_slice cs22 un22 (opens_u64 cs66 un66))) rfl)))) rfl (opensR_cons rfl (opens_int cs3 un3) rfl (opensR_one rfl (opens_int cs3 un3) rfl)))))) (hval 0 63 v0 rfl rfl) h0
  obtain ⟨_, ⟨_, _, rfl, ⟨_, _, rfl, ⟨rfl, rv0⟩, ⟨v0, rfl, rv1⟩⟩, ⟨_, _, rfl, ⟨_, _, rfl, ⟨rfl, rv2⟩, ⟨v1, rfl, rv3⟩⟩, ⟨_, _, rfl, ⟨rfl, rv4⟩, ⟨rfl, rv5⟩⟩⟩⟩, rfl⟩ := hr_z
  obtain ⟨a0, c0, rfl, rv1_⟩ := RS.explicit rv1
  obtain ⟨a1, c1, rfl, rv3_⟩ := RS.explicit rv3
  refine (law_MatTells (M := NoM) (fun _ h => h.elim) (tab_matTells hL) rv0 rv1_ rv2 rv3_ rv4 rv5).mono fun e W' ⟨v, he, hv, hg⟩ => ?_
  subst he; subst hv
  exact ⟨_, rfl, law_close kids_matTells full_matTells (by rw [Tryd.params12]; decide) rfl hW' hg rfl un4 rfl rfl rfl⟩
theorem over_matTells : Rows.matTellsRow.holds Tryd.pinned (OpenSpec.ofChange Rows.matTellsSpec) :=
  OpenClaim.holds_of_wide  12 Tryd.f12 rfl rfl rfl rfl rfl rfl rfl ⟨rfl, rfl, rfl, rfl, rfl⟩ rfl rfl rfl rfl rfl (by kernel_rfl) Tryd.func12 (by kernel_rfl)
    (of_decide_eq_true (by kernel_rfl)) (by unfold Func.isWrapper; first | (rw [if_pos (by decide +kernel)]; kernel_rfl) | (rw [if_neg (by decide +kernel)]; exact ⟨rfl, rfl⟩))
    (fun os started H enc _ => lifted_matTells os started H enc)
/-- THE STATEMENT. -/
theorem matTells_proved : Rows.MatTellsCardSaid :=
  Claim7.holds_tied_plain_at .later [] [.data] true (true, "c43242dcb1505edcc0c5a1ea60ece29195914f2c9d8dba7b3b67d8be2fe879e3") false over_matTells (fun _ h => by cases h) (by kernel_rfl) (fun _ h => by cases h) matTells_row_tie rfl ⟨rfl, rfl⟩ (by kernel_rfl) rfl
    (fun f fn hf hfn => by
      obtain rfl : f = 12 := Option.some.inj ((show Tryd.prog.funcNamed "eyewitness/eyewitnesslaw03.MatTells" = some 12 by kernel_rfl).symm.trans hf) |>.symm
      obtain rfl : fn = Tryd.f12 := (Option.some.inj (Tryd.func12.symm.trans hfn)).symm
      exact ⟨by kernel_rfl, fun j t ht => by
        rw [Tryd.params12] at ht
        have hm : t ∈ [63] := by simpa using Array.mem_of_getElem? ht
        have hall : ([63].all fun u => !Tryd.prog.wantsStandIn u) = true := by kernel_rfl
        exact (show Tryd.prog.wantsStandIn t = false by simpa using List.all_eq_true.1 hall t hm)⟩)
    (by kernel_rfl)
#print axioms matTells_proved
end Go.Proofs.YtfakagpjgpbkbaaDoor
