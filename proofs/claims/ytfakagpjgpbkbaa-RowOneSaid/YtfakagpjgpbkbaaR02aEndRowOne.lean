/- PRINTED by my own tool (wip/tool/close.py): the end of the row RowOne. -/
import Derived.Test.YtfakagpjgpbkbaaEwSpecC
import Derived.Test.YtfakagpjgpbkbaaR02aFns
import Derived.Test.YtfakagpjgpbkbaaR02aRowOne
import Derived.Test.YtfakagpjgpbkbaaRows
import Derived.Test.YtfakagpjgpbkbaaEngQ
namespace Go.Proofs.Ytfakagpjgpbkbaa
open Go.Ew Go.ChangeShapes Go.WideShapes Go.ChangeAt Go.RowKit
set_option linter.unusedVariables false
theorem cs22 : Try.prog.cellsOf 22 = 1 := by kernel_rfl
theorem cs41 : Try.prog.cellsOf 41 = 1 := by kernel_rfl
theorem own_rowOne : ownKnob Try.prog.godebug = none := by kernel_rfl
theorem kids_rowOne : Kids Try.prog (· < Try.prog.types.size) := kids_rows (by kernel_rfl) (by kernel_rfl)
theorem full_rowOne : ∀ t e, t < Try.prog.types.size → Try.prog.underlying t = some (.slice e) → 0 < Try.prog.cellsOf e := slices_full_of Try.prog (by kernel_rfl)
set_option maxRecDepth 100000 in
set_option maxHeartbeats 400000 in
theorem lifted_rowOne (os : Os) (started : os.Started) (H : Type) (enc : TypeId × Value → H) :
    ReturnsInHanded {} Try.checked os 3 .any (Rows.rowOneSpec.pre6 enc Try.prog Try.f3 Rows.rowOneRow.domain false) (Rows.rowOneSpec.post enc Try.prog Try.f3 false true false false) := by
  refine returnsInHanded_of_change (C := Try.checked) own_rowOne started (by kernel_rfl) Try.func3
    (ChangeSpec.witness6 (enc := enc) (C := Try.checked) false ⟨#[], #[.slice none 0 0, .int .u16 0], []⟩ 8 (by kernel_rfl) (by kernel_rfl) (by kernel_rfl) (by kernel_rfl)) ?_
  intro W base args ds gs before hval0 hW _ _
  have hval : ∀ (j : Nat) t v, Try.f3.params[j]? = some t → args[j]? = some v → Value.okWide Try.prog W .any base t v := hval0
  have hW' := hW
  obtain ⟨p, q, hA0, hV, hpq, hfz, hnd⟩ := hW
  have hA : DataW.TrodAll enc Try.prog W 0 (fun _ => true) true Try.f3.params.toList args.toList ds p := hA0
  rw [Try.params3] at hA hval
  obtain ⟨v0, vs0, d0, ds0, p0, q0, hargs, rfl, rfl, h0, rv0⟩ := trodAll_cons hA
  obtain ⟨v1, vs1, d1, ds1, p1, q1, rfl, rfl, rfl, h1, rv1⟩ := trodAll_cons rv0
  obtain ⟨rfl, rfl, rfl⟩ := trodAll_nil rv1
  obtain rfl : args = #[v0, v1] := by cases args; simp_all
  obtain ⟨rfl, rfl⟩ := trodVars_none hV
  obtain ⟨a, a_a, c_a, rfl, h_a⟩ := top_slice (α := (BitVec 64)) un22 (opens_slice cs22 un22 (opens_u64 cs41 un41)) (hval 0 22 v0 rfl rfl) h0
  obtain ⟨i, rfl, h_i⟩ := top_u16 un23 (hval 1 23 v1 rfl rfl) h1
  refine (law_RowOne (M := NoM) (fun _ h => h.elim) h_a h_i).mono fun e W' ⟨v, he, hv, hg⟩ => ?_
  subst he; subst hv
  exact ⟨_, rfl, law_close kids_rowOne full_rowOne (by rw [Try.params3]; decide) rfl hW' hg rfl un4 rfl rfl rfl⟩
theorem over_rowOne : Rows.rowOneRow.holds Try.pinned (OpenSpec.ofChange Rows.rowOneSpec) :=
  OpenClaim.holds_of_wide 3 Try.f3 rfl rfl rfl rfl rfl rfl rfl ⟨rfl, rfl, rfl, rfl, rfl⟩ rfl rfl rfl rfl rfl (by kernel_rfl) Try.func3 (by kernel_rfl)
    (of_decide_eq_true (by kernel_rfl)) (by unfold Func.isWrapper; first | (rw [if_pos (by decide +kernel)]; kernel_rfl) | (rw [if_neg (by decide +kernel)]; exact ⟨rfl, rfl⟩))
    (fun os started H enc _ => lifted_rowOne os started H enc)
/-- THE STATEMENT. -/
theorem rowOne_proved : Rows.RowOneSaid := over_rowOne
#print axioms rowOne_proved
end Go.Proofs.Ytfakagpjgpbkbaa
