/- PRINTED by my own tool (wip/tool/close.py): the end of the row RowTells. -/
import Derived.Test.YtfakagpjgpbkbaaDoorEwSpecJ
import Derived.Test.YtfakagpjgpbkbaaDoorR02dFns
import Derived.Test.YtfakagpjgpbkbaaDoorR02dRows
import Derived.Test.YtfakagpjgpbkbaaDoorR02dOr
import Derived.Test.YtfakagpjgpbkbaaDoorR02dRowTells
import Derived.Test.YtfakagpjgpbkbaaDoorRows
import Derived.Test.YtfakagpjgpbkbaaDoorEngQ
import Derived.Test.YtfakagpjgpbkbaaDoorTie
import Derived.Test.YtfakagpjgpbkbaaDoorCards
import Derived.SevenTiedAt
import Derived.LaidMore
import Derived.Stop.Joined
namespace Go.Proofs.YtfakagpjgpbkbaaDoor
open Go Go.Ew Go.ChangeShapes Go.WideShapes Go.ChangeAt Go.RowKit
set_option linter.unusedVariables false
theorem cs5 : Tryd.prog.cellsOf 5 = 1 := by kernel_rfl
theorem cs22 : Tryd.prog.cellsOf 22 = 1 := by kernel_rfl
theorem cs66 : Tryd.prog.cellsOf 66 = 1 := by kernel_rfl
theorem own_rowTells : ownKnob Tryd.prog.godebug = none := by kernel_rfl
theorem kids_rowTells : Kids Tryd.prog (· < Tryd.prog.types.size) := kids_rows (by kernel_rfl) (by kernel_rfl)
theorem full_rowTells : ∀ t e, t < Tryd.prog.types.size → Tryd.prog.underlying t = some (.slice e) → 0 < Tryd.prog.cellsOf e := slices_full_of Tryd.prog (by kernel_rfl)
theorem gTab_rowTells : Tryd.prog.globalNamed "math/bits.deBruijn64tab" = some 0 := by kernel_rfl
theorem tTab_rowTells : (Tryd.prog.globals[0]?).map (·.type) = some 84 := by kernel_rfl
theorem door_rowTells (os : Os) (args : Array Value) : laidMetH Tryd.prog [("math/bits.deBruijn64tab", Rows.laid_math_bits_deBruijn64tab)] ((World.doorLaid Tryd.prog 400 os).forCall (fun _ _ => 0) ⟨#[], args, []⟩).memory :=
  laidMetH_of_parts3 (fuel := 8) (laidMet_of_run' 8 (by kernel_rfl) (by kernel_rfl)) (by kernel_rfl) (by kernel_rfl)
theorem tab_rowTells {W : World} (h : laidMetH Tryd.prog [("math/bits.deBruijn64tab", Rows.laid_math_bits_deBruijn64tab)] W) : TabAt 0 W :=
  tab_of_laid gTab_rowTells tTab_rowTells un84 un5 cs5 rfl h (by rw [MakeChecks.laidMetH_plain _ _ _ (by kernel_rfl)])
set_option maxRecDepth 100000 in
set_option maxHeartbeats 400000 in
theorem lifted_rowTells (os : Os) (started : os.Started) (H : Type) (enc : TypeId × Value → H) :
    ReturnsInHanded {} Tryd.checked os 4 .any (fun w args => (Rows.rowTellsSpec.pre enc Tryd.prog Tryd.f4 [] false w args ∧ laidMetH Tryd.prog [("math/bits.deBruijn64tab", Rows.laid_math_bits_deBruijn64tab)] w) ∧ sizedMet enc Tryd.prog Tryd.f4 (OpenSpec.ofChange Rows.rowTellsSpec) false w args)
      (Rows.rowTellsSpec.post enc Tryd.prog Tryd.f4 false true false false) := by
  refine returnsInHanded_of_change_and (C := Tryd.checked) (X := fun w _ => laidMetH Tryd.prog [("math/bits.deBruijn64tab", Rows.laid_math_bits_deBruijn64tab)] w) (fun _ _ _ hh h => h.of_heap hh) own_rowTells started (by kernel_rfl) Tryd.func4
    (ChangeSpec.witness_shaped (enc := enc) (C := Tryd.checked) (os := os) (X := fun w _ => laidMetH Tryd.prog [("math/bits.deBruijn64tab", Rows.laid_math_bits_deBruijn64tab)] w) false (World.doorLaid Tryd.prog 400 os) #[.slice none 0 0, .slice none 0 0, .int .i64 0] 8 rfl (World.shaped_of_RefB (by kernel_rfl) (by kernel_rfl)) (by kernel_rfl) (by kernel_rfl) (by kernel_rfl) (door_rowTells os _)) ?_
  intro W base args ds gs before hval0 hW _ _ hL _
  have hval : ∀ (j : Nat) t v, Tryd.f4.params[j]? = some t → args[j]? = some v → Value.okWide Tryd.prog W .any base t v := hval0
  have hW' := hW
  obtain ⟨p, q, hA0, hV, hpq, hfz, hnd⟩ := hW
  have hA : DataW.TrodAll enc Tryd.prog W 0 (fun _ => true) true Tryd.f4.params.toList args.toList ds p := hA0
  rw [Tryd.params4] at hA hval
  obtain ⟨v0, vs0, d0, ds0, p0, q0, hargs, rfl, rfl, h0, rv0⟩ := trodAll_cons hA
  obtain ⟨v1, vs1, d1, ds1, p1, q1, rfl, rfl, rfl, h1, rv1⟩ := trodAll_cons rv0
  obtain ⟨v2, vs2, d2, ds2, p2, q2, rfl, rfl, rfl, h2, rv2⟩ := trodAll_cons rv1
  obtain ⟨rfl, rfl, rfl⟩ := trodAll_nil rv2
  obtain rfl : args = #[v0, v1, v2] := by cases args; simp_all
  obtain ⟨rfl, rfl⟩ := trodVars_none hV
  obtain ⟨a, a_a, c_a, rfl, h_a⟩ := top_slice (α := (BitVec 64)) un22 (opens_slice cs22 un22 (opens_u64 cs66 un66)) (hval 0 22 v0 rfl rfl) h0
  obtain ⟨b, a_b, c_b, rfl, h_b⟩ := top_slice (α := (BitVec 64)) un22 (opens_slice cs22 un22 (opens_u64 cs66 un66)) (hval 1 22 v1 rfl rfl) h1
  obtain ⟨i, rfl, h_i⟩ := top_i64 un3 (hval 2 3 v2 rfl rfl) h2
  refine (law_RowTells (M := NoM) (fun _ h => h.elim) (tab_rowTells hL) h_a h_b h_i).mono fun e W' ⟨v, he, hv, hg⟩ => ?_
  subst he; subst hv
  exact ⟨_, rfl, law_close kids_rowTells full_rowTells (by rw [Tryd.params4]; decide) rfl hW' hg rfl un4 rfl rfl rfl⟩
theorem over_rowTells : Rows.rowTellsRow.holds Tryd.pinned (OpenSpec.ofChange Rows.rowTellsSpec) :=
  OpenClaim.holds_of_wide 4 Tryd.f4 rfl rfl rfl rfl rfl rfl rfl ⟨rfl, rfl, rfl, rfl, rfl⟩ rfl rfl rfl rfl rfl (by kernel_rfl) Tryd.func4 (by kernel_rfl)
    (of_decide_eq_true (by kernel_rfl)) (by unfold Func.isWrapper; first | (rw [if_pos (by decide +kernel)]; kernel_rfl) | (rw [if_neg (by decide +kernel)]; exact ⟨rfl, rfl⟩))
    (fun os started H enc _ => lifted_rowTells os started H enc)
/-- THE STATEMENT. -/
theorem rowTells_proved : Rows.RowTellsCardSaid :=
  Claim7.holds_tied_plain_at .later [] [.data] true (true, "c43242dcb1505edcc0c5a1ea60ece29195914f2c9d8dba7b3b67d8be2fe879e3") false over_rowTells (fun _ h => by cases h) (by kernel_rfl) (fun _ h => by cases h) rowTells_row_tie rfl ⟨rfl, rfl⟩ (by kernel_rfl) rfl
    (fun f fn hf hfn => by
      obtain rfl : f = 4 := Option.some.inj ((show Tryd.prog.funcNamed "eyewitness/eyewitnesslaw02.RowTells" = some 4 by kernel_rfl).symm.trans hf) |>.symm
      obtain rfl : fn = Tryd.f4 := (Option.some.inj (Tryd.func4.symm.trans hfn)).symm
      exact ⟨by kernel_rfl, fun j t ht => by
        rw [Tryd.params4] at ht
        have hm : t ∈ [22, 22, 3] := by simpa using Array.mem_of_getElem? ht
        have hall : ([22, 22, 3].all fun u => !Tryd.prog.wantsStandIn u) = true := by kernel_rfl
        exact (show Tryd.prog.wantsStandIn t = false by simpa using List.all_eq_true.1 hall t hm)⟩)
    (by kernel_rfl)
#print axioms rowTells_proved
end Go.Proofs.YtfakagpjgpbkbaaDoor
