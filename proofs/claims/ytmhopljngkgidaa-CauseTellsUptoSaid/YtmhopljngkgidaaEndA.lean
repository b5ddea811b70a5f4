/- PRINTED by my own tool (wip/tool/close.py): the end of the row CauseTells. -/
import Derived.Test.YtmhopljngkgidaaGenC
import Derived.Test.YtmhopljngkgidaaRows
import Derived.Test.YtmhopljngkgidaaOwnA
import Derived.Test.YtmhopljngkgidaaOwnC
namespace Go.Proofs.Ytmhopljngkgidaa
open Go Go.Ew Go.ChangeShapes Go.WideShapes Go.ChangeAt Go.RowKit
set_option linter.unusedVariables false
theorem un4 : Try.prog.underlying 4 = some (.bool) := by kernel_rfl
theorem cs22 : Try.prog.cellsOf 22 = 1 := by kernel_rfl
theorem cs47 : Try.prog.cellsOf 47 = 1 := by kernel_rfl
theorem cs3 : Try.prog.cellsOf 3 = 1 := by kernel_rfl
theorem cs9 : Try.prog.cellsOf 9 = 1 := by kernel_rfl
theorem cs4 : Try.prog.cellsOf 4 = 1 := by kernel_rfl
theorem cs50 : Try.prog.cellsOf 50 = 3 := by kernel_rfl
theorem own_causeTells : ownKnob Try.prog.godebug = none := by kernel_rfl
theorem kids_causeTells : Kids Try.prog (· < Try.prog.types.size) := kids_rows (by kernel_rfl) (by kernel_rfl)
theorem full_causeTells : ∀ t e, t < Try.prog.types.size → Try.prog.underlying t = some (.slice e) → 0 < Try.prog.cellsOf e := slices_full_of Try.prog (by kernel_rfl)
theorem uall_causeTells {H : Type} : ∀ l : List (DataW H), Rows.uptoBulkAll l = (l.map Rows.uptoBulk).sum
  | [] => by simp [Rows.uptoBulkAll]
  | x :: r => by simp [Rows.uptoBulkAll, uall_causeTells r]
theorem bulk_causeTells : Bulk (fun (H : Type) (d : DataW H) => Rows.uptoBulk d) where
  lit _ l := by cases l <;> simp [Rows.uptoBulk]
  str _ bs := by simp [Rows.uptoBulk]
  nil _ := by simp [Rows.uptoBulk]
  slice _ es sp := by show (es.map Rows.uptoBulk).sum + 1 ≤ _; simp only [Rows.uptoBulk, uall_causeTells]; omega
  agg _ ps := by show (ps.map Rows.uptoBulk).sum ≤ _; simp only [Rows.uptoBulk, uall_causeTells]; omega
set_option maxRecDepth 100000 in
set_option maxHeartbeats 400000 in
theorem lifted_causeTells (os : Os) (started : os.Started) (H : Type) (enc : TypeId × Value → H) (F : Stop.Interp) :
    ReturnsInHanded {} Try.checked os 3 .any ((Rows.OpenSpec.upto Rows.causeTellsSpec).pre6 enc Try.prog Try.f3 Rows.causeTellsUptoRow.domain false) (((Rows.OpenSpec.upto Rows.causeTellsSpec).at F).post enc Try.prog Try.f3 false true false false) := by
  refine returnsInHanded_of_cond (C := Try.checked) (s := Rows.OpenSpec.upto Rows.causeTellsSpec) (k := Rows.uptoSmall) rfl own_causeTells started (by kernel_rfl) Try.func3
    (OpenSpec.witness (enc := enc) (C := Try.checked) (s := Rows.OpenSpec.upto Rows.causeTellsSpec) (k := Rows.uptoSmall) rfl false ⟨#[], #[.slice none 0 0], []⟩ 8 (by kernel_rfl) (by kernel_rfl) (by kernel_rfl) (x := ([.nil], [], [])) (by kernel_rfl) rfl (by kernel_rfl)) ?_
  intro W base args ds gs before hval0 hW _ hk _
  have hval : ∀ (j : Nat) t v, Try.f3.params[j]? = some t → args[j]? = some v → Value.okWide Try.prog W .any base t v := hval0
  have hW' := hW
  obtain ⟨p, q, hA0, hV, hpq, hfz, hnd⟩ := hW
  have hA : DataW.TrodAll enc Try.prog W 0 (fun _ => true) true Try.f3.params.toList args.toList ds p := hA0
  rw [Try.params3] at hA hval
  obtain ⟨v0, vs0, d0, ds0, p0, q0, hargs, rfl, rfl, h0, tl0⟩ := trodAll_cons hA
  obtain ⟨rfl, rfl, rfl⟩ := trodAll_nil tl0
  obtain rfl : args = #[v0] := by cases args; simp_all
  obtain ⟨rfl, rfl⟩ := trodVars_none hV
  obtain ⟨h, a_h, c_h, rfl, h_h, wt_h⟩ := topB_slice (α := (List (Bool × ByteArray × Int))) un22 (opensB_slice bulk_causeTells cs22 un22 (opensB_slice bulk_causeTells cs47 un47 (opensB_struct bulk_causeTells Try.underlying50 cs50 (by rw [cs50]; exact (opensRB_cons rfl (opensB_bool bulk_causeTells cs4 un4) rfl (opensRB_cons rfl (opensB_string bulk_causeTells cs9 un9) rfl (opensRB_one rfl (opensB_int bulk_causeTells cs3 un3) rfl))))))) (hval 0 22 v0 rfl rfl) h0
  have hk' : Rows.uptoBulkAll _ ≤ 1048576 := of_decide_eq_true hk
  simp only [Rows.uptoBulkAll, List.append_nil, List.nil_append, List.cons_append] at hk'
  refine (law_CauseTells (M := NoM) (fun _ h => h.elim) h_h (Nat.le_trans (wt_flat (wt_prod (wt_prod wt_int)) _) (by dsimp only at *; omega))).mono fun e W' ⟨v, he, hv, hg⟩ => ?_
  subst he; subst hv
  exact ⟨_, rfl, law_close kids_causeTells full_causeTells (by rw [Try.params3]; decide) rfl hW' hg rfl un4 rfl rfl rfl⟩
theorem over_causeTells : Rows.causeTellsUptoRow.holds Try.pinned (Rows.OpenSpec.upto Rows.causeTellsSpec) :=
  OpenClaim.holds_of_cond  3 Try.f3 rfl rfl rfl rfl rfl rfl rfl ⟨rfl, rfl, rfl, rfl, rfl⟩ rfl rfl rfl rfl rfl (by kernel_rfl) Try.func3 (by kernel_rfl)
    (of_decide_eq_true (by kernel_rfl)) (by unfold Func.isWrapper; first | (rw [if_pos (by decide +kernel)]; kernel_rfl) | (rw [if_neg (by decide +kernel)]; exact ⟨rfl, rfl⟩))
    (fun os started H enc _ F => lifted_causeTells os started H enc F)
/-- THE STATEMENT. -/
theorem causeTells_proved : Rows.CauseTellsUptoSaid := over_causeTells
#print axioms causeTells_proved
end Go.Proofs.Ytmhopljngkgidaa

