/- PRINTED by my own tool (wip/tool/close.py): the end of the row MatMakes. -/
import Derived.Test.YtfakagpjgpbkbaaEwSpecE
import Derived.Test.YtfakagpjgpbkbaaR02aFns
import Derived.Test.YtfakagpjgpbkbaaR02aMat
import Derived.Test.YtfakagpjgpbkbaaR02aRef
import Derived.Test.YtfakagpjgpbkbaaR02aMatMakes
import Derived.Test.YtfakagpjgpbkbaaRows
import Derived.Test.YtfakagpjgpbkbaaEngQ
namespace Go.Proofs.Ytfakagpjgpbkbaa
open Go.Ew Go.ChangeShapes Go.WideShapes Go.ChangeAt Go.RowKit
set_option linter.unusedVariables false
theorem cs30 : Try.prog.cellsOf 30 = 1 := by kernel_rfl
theorem cs47 : Try.prog.cellsOf 47 = 2 := by kernel_rfl
theorem cs3 : Try.prog.cellsOf 3 = 1 := by kernel_rfl
theorem own_matMakes : ownKnob Try.prog.godebug = none := by kernel_rfl
theorem kids_matMakes : Kids Try.prog (· < Try.prog.types.size) := kids_rows (by kernel_rfl) (by kernel_rfl)
theorem full_matMakes : ∀ t e, t < Try.prog.types.size → Try.prog.underlying t = some (.slice e) → 0 < Try.prog.cellsOf e := slices_full_of Try.prog (by kernel_rfl)
set_option maxRecDepth 100000 in
set_option maxHeartbeats 400000 in
theorem lifted_matMakes (os : Os) (started : os.Started) (H : Type) (enc : TypeId × Value → H) :
    ReturnsInHanded {} Try.checked os 4 .any (Rows.matMakesSpec.pre6 enc Try.prog Try.f4 Rows.matMakesRow.domain false) (Rows.matMakesSpec.post enc Try.prog Try.f4 false true false false) := by
  refine returnsInHanded_of_change (C := Try.checked) own_matMakes started (by kernel_rfl) Try.func4
    (ChangeSpec.witness6 (enc := enc) (C := Try.checked) false ⟨#[], #[.int .i64 0, .slice none 0 0], []⟩ 8 (by kernel_rfl) (by kernel_rfl) (by kernel_rfl) (by kernel_rfl)) ?_
  intro W base args ds gs before hval0 hW _ _
  have hval : ∀ (j : Nat) t v, Try.f4.params[j]? = some t → args[j]? = some v → Value.okWide Try.prog W .any base t v := hval0
  have hW' := hW
  obtain ⟨p, q, hA0, hV, hpq, hfz, hnd⟩ := hW
  have hA : DataW.TrodAll enc Try.prog W 0 (fun _ => true) true Try.f4.params.toList args.toList ds p := hA0
  rw [Try.params4] at hA hval
  obtain ⟨v0, vs0, d0, ds0, p0, q0, hargs, rfl, rfl, h0, rv0⟩ := trodAll_cons hA
  obtain ⟨v1, vs1, d1, ds1, p1, q1, rfl, rfl, rfl, h1, rv1⟩ := trodAll_cons rv0
  obtain ⟨rfl, rfl, rfl⟩ := trodAll_nil rv1
  obtain rfl : args = #[v0, v1] := by cases args; simp_all
  obtain ⟨rfl, rfl⟩ := trodVars_none hV
  obtain ⟨n, rfl, h_n⟩ := top_i64 un3 (hval 0 3 v0 rfl rfl) h0
  obtain ⟨ps, a_ps, c_ps, rfl, h_ps⟩ := top_slice (α := (Int × Int)) un30 (opens_slice cs30 un30 (opens_array2 un47 cs47 (opens_int cs3 un3))) (hval 1 30 v1 rfl rfl) h1
  refine (law_MatMakes (M := NoM) (fun _ h => h.elim) h_n h_ps).mono fun e W' ⟨v, he, hv, hg⟩ => ?_
  subst he; subst hv
  exact ⟨_, rfl, law_close kids_matMakes full_matMakes (by rw [Try.params4]; decide) rfl hW' hg rfl un4 rfl rfl rfl⟩
theorem over_matMakes : Rows.matMakesRow.holds Try.pinned (OpenSpec.ofChange Rows.matMakesSpec) :=
  OpenClaim.holds_of_wide 4 Try.f4 rfl rfl rfl rfl rfl rfl rfl ⟨rfl, rfl, rfl, rfl, rfl⟩ rfl rfl rfl rfl rfl (by kernel_rfl) Try.func4 (by kernel_rfl)
    (of_decide_eq_true (by kernel_rfl)) (by unfold Func.isWrapper; first | (rw [if_pos (by decide +kernel)]; kernel_rfl) | (rw [if_neg (by decide +kernel)]; exact ⟨rfl, rfl⟩))
    (fun os started H enc _ => lifted_matMakes os started H enc)
/-- THE STATEMENT. -/
theorem matMakes_proved : Rows.MatMakesSaid := over_matMakes
#print axioms matMakes_proved
end Go.Proofs.Ytfakagpjgpbkbaa
