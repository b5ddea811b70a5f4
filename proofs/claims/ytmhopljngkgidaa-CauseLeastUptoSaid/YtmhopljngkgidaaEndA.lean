/- PRINTED by my own tool (wip/tool/close.py): the end of the row CauseLeast. -/
import Derived.Test.YtmhopljngkgidaaGenD
import Derived.Test.YtmhopljngkgidaaRows
import Derived.Test.YtmhopljngkgidaaOwnA
import Derived.Test.YtmhopljngkgidaaOwnC
namespace Go.Proofs.Ytmhopljngkgidaa
open Go Go.Ew Go.ChangeShapes Go.WideShapes Go.ChangeAt Go.RowKit
set_option linter.unusedVariables false
theorem un4 : Try.prog.underlying 4 = some (.bool) := by kernel_rfl
theorem cs22 : Try.prog.cellsOf 22 = 1 := by kernel_rfl
theorem cs47 : Try.prog.cellsOf 47 = 1 := by kernel_rfl
theorem cs3 : Try.prog.cellsOf 3 = 1 := by kernel_rfl
theorem cs9 : Try.prog.cellsOf 9 = 1 := by kernel_rfl
theorem cs4 : Try.prog.cellsOf 4 = 1 := by kernel_rfl
theorem cs50 : Try.prog.cellsOf 50 = 3 := by kernel_rfl
theorem cs38 : Try.prog.cellsOf 38 = 1 := by kernel_rfl
theorem cs44 : Try.prog.cellsOf 44 = 2 := by kernel_rfl
theorem cs5 : Try.prog.cellsOf 5 = 1 := by kernel_rfl
theorem own_causeLeast : ownKnob Try.prog.godebug = none := by kernel_rfl
theorem kids_causeLeast : Kids Try.prog (· < Try.prog.types.size) := kids_rows (by kernel_rfl) (by kernel_rfl)
theorem full_causeLeast : ∀ t e, t < Try.prog.types.size → Try.prog.underlying t = some (.slice e) → 0 < Try.prog.cellsOf e := slices_full_of Try.prog (by kernel_rfl)
theorem uall_causeLeast {H : Type} : ∀ l : List (DataW H), Rows.uptoBulkAll l = (l.map Rows.uptoBulk).sum
  | [] => by simp [Rows.uptoBulkAll]
  | x :: r => by simp [Rows.uptoBulkAll, uall_causeLeast r]
theorem bulk_causeLeast : Bulk (fun (H : Type) (d : DataW H) => Rows.uptoBulk d) where
  lit _ l := by cases l <;> simp [Rows.uptoBulk]
  str _ bs := by simp [Rows.uptoBulk]
  nil _ := by simp [Rows.uptoBulk]
  slice _ es sp := by show (es.map Rows.uptoBulk).sum + 1 ≤ _; simp only [Rows.uptoBulk, uall_causeLeast]; omega
  agg _ ps := by show (ps.map Rows.uptoBulk).sum ≤ _; simp only [Rows.uptoBulk, uall_causeLeast]; omega
set_option maxRecDepth 100000 in
set_option maxHeartbeats 400000 in
theorem lifted_causeLeast (os : Os) (started : os.Started) (H : Type) (enc : TypeId × Value → H) (F : Stop.Interp) :
    ReturnsInHanded {} Try.checked os 4 .any ((Rows.OpenSpec.upto Rows.causeLeastSpec).pre6 enc Try.prog Try.f4 Rows.causeLeastUptoRow.domain false) (((Rows.OpenSpec.upto Rows.causeLeastSpec).at F).post enc Try.prog Try.f4 false true false false) := by
  refine returnsInHanded_of_cond (C := Try.checked) (s := Rows.OpenSpec.upto Rows.causeLeastSpec) (k := Rows.uptoSmall) rfl own_causeLeast started (by kernel_rfl) Try.func4
    (OpenSpec.witness (enc := enc) (C := Try.checked) (s := Rows.OpenSpec.upto Rows.causeLeastSpec) (k := Rows.uptoSmall) rfl false ⟨#[], #[.slice none 0 0, .slice none 0 0], []⟩ 8 (by kernel_rfl) (by kernel_rfl) (by kernel_rfl) (x := ([.nil, .nil], [], [])) (by kernel_rfl) rfl (by kernel_rfl)) ?_
  intro W base args ds gs before hval0 hW _ hk _
  have hval : ∀ (j : Nat) t v, Try.f4.params[j]? = some t → args[j]? = some v → Value.okWide Try.prog W .any base t v := hval0
  have hW' := hW
  obtain ⟨p, q, hA0, hV, hpq, hfz, hnd⟩ := hW
  have hA : DataW.TrodAll enc Try.prog W 0 (fun _ => true) true Try.f4.params.toList args.toList ds p := hA0
  rw [Try.params4] at hA hval
  obtain ⟨v0, vs0, d0, ds0, p0, q0, hargs, rfl, rfl, h0, tl0⟩ := trodAll_cons hA
  obtain ⟨v1, vs1, d1, ds1, p1, q1, rfl, rfl, rfl, h1, tl1⟩ := trodAll_cons tl0
  obtain ⟨rfl, rfl, rfl⟩ := trodAll_nil tl1
  obtain rfl : args = #[v0, v1] := by cases args; simp_all
  obtain ⟨rfl, rfl⟩ := trodVars_none hV
  obtain ⟨h, a_h, c_h, rfl, h_h, wt_h⟩ := topB_slice (α := (List (Bool × ByteArray × Int))) un22 (opensB_slice bulk_causeLeast cs22 un22 (opensB_slice bulk_causeLeast cs47 un47 (opensB_struct bulk_causeLeast Try.underlying50 cs50 (by rw [cs50]; exact (opensRB_cons rfl (opensB_bool bulk_causeLeast cs4 un4) rfl (opensRB_cons rfl (opensB_string bulk_causeLeast cs9 un9) rfl (opensRB_one rfl (opensB_int bulk_causeLeast cs3 un3) rfl))))))) (hval 0 22 v0 rfl rfl) h0
  obtain ⟨l, a_l, c_l, rfl, h_l, wt_l⟩ := topB_slice (α := ((BitVec 8) × (BitVec 8))) un38 (opensB_slice bulk_causeLeast cs38 un38 (opensB_array2 bulk_causeLeast un44 cs44 (opensB_u8 bulk_causeLeast cs5 un5))) (hval 1 38 v1 rfl rfl) h1
  have hk' : Rows.uptoBulkAll _ ≤ 1048576 := of_decide_eq_true hk
  simp only [Rows.uptoBulkAll, List.append_nil, List.nil_append, List.cons_append] at hk'
  refine (law_CauseLeast (M := NoM) (fun _ h => h.elim) h_h h_l (Nat.le_trans (wt_flat (wt_prod (wt_prod wt_int)) _) (by dsimp only at *; omega))).mono fun e W' ⟨v, he, hv, hg⟩ => ?_
  subst he; subst hv
  exact ⟨_, rfl, law_close kids_causeLeast full_causeLeast (by rw [Try.params4]; decide) rfl hW' hg rfl un4 rfl rfl rfl⟩
theorem over_causeLeast : Rows.causeLeastUptoRow.holds Try.pinned (Rows.OpenSpec.upto Rows.causeLeastSpec) :=
  OpenClaim.holds_of_cond  4 Try.f4 rfl rfl rfl rfl rfl rfl rfl ⟨rfl, rfl, rfl, rfl, rfl⟩ rfl rfl rfl rfl rfl (by kernel_rfl) Try.func4 (by kernel_rfl)
    (of_decide_eq_true (by kernel_rfl)) (by unfold Func.isWrapper; first | (rw [if_pos (by decide +kernel)]; kernel_rfl) | (rw [if_neg (by decide +kernel)]; exact ⟨rfl, rfl⟩))
    (fun os started H enc _ F => lifted_causeLeast os started H enc F)
/-- THE STATEMENT. -/
theorem causeLeast_proved : Rows.CauseLeastUptoSaid := over_causeLeast
#print axioms causeLeast_proved
end Go.Proofs.Ytmhopljngkgidaa

