/- PRINTED by my own tool (wip/tool/close.py): the end of the row CauseMore. -/
import Derived.Test.YtmhopljngkgidaaGenB
import Derived.Test.YtmhopljngkgidaaRows
import Derived.Test.YtmhopljngkgidaaOwnA
import Derived.Test.YtmhopljngkgidaaOwnB
namespace Go.Proofs.Ytmhopljngkgidaa
open Go Go.Ew Go.ChangeShapes Go.WideShapes Go.ChangeAt Go.RowKit
set_option linter.unusedVariables false
theorem cs22 : Try.prog.cellsOf 22 = 1 := by kernel_rfl
theorem cs47 : Try.prog.cellsOf 47 = 1 := by kernel_rfl
theorem cs3 : Try.prog.cellsOf 3 = 1 := by kernel_rfl
theorem cs9 : Try.prog.cellsOf 9 = 1 := by kernel_rfl
theorem cs4 : Try.prog.cellsOf 4 = 1 := by kernel_rfl
theorem cs50 : Try.prog.cellsOf 50 = 3 := by kernel_rfl
theorem own_causeMore : ownKnob Try.prog.godebug = none := by kernel_rfl
theorem kids_causeMore : Kids Try.prog (· < Try.prog.types.size) := kids_rows (by kernel_rfl) (by kernel_rfl)
theorem full_causeMore : ∀ t e, t < Try.prog.types.size → Try.prog.underlying t = some (.slice e) → 0 < Try.prog.cellsOf e := slices_full_of Try.prog (by kernel_rfl)
theorem uall_causeMore {H : Type} : ∀ l : List (DataW H), Rows.uptoBulkAll l = (l.map Rows.uptoBulk).sum
  | [] => by simp [Rows.uptoBulkAll]
  | x :: r => by simp [Rows.uptoBulkAll, uall_causeMore r]
theorem bulk_causeMore : Bulk (fun (H : Type) (d : DataW H) => Rows.uptoBulk d) where
  lit _ l := by cases l <;> simp [Rows.uptoBulk]
  str _ bs := by simp [Rows.uptoBulk]
  nil _ := by simp [Rows.uptoBulk]
  slice _ es sp := by show (es.map Rows.uptoBulk).sum + 1 ≤ _; simp only [Rows.uptoBulk, uall_causeMore]; omega
  agg _ ps := by show (ps.map Rows.uptoBulk).sum ≤ _; simp only [Rows.uptoBulk, uall_causeMore]; omega
set_option maxRecDepth 100000 in
set_option maxHeartbeats 400000 in
theorem lifted_causeMore (os : Os) (started : os.Started) (H : Type) (enc : TypeId × Value → H) (F : Stop.Interp) :
    ReturnsInHanded {} Try.checked os 5 .any ((Rows.OpenSpec.upto Rows.causeMoreSpec).pre6 enc Try.prog Try.f5 Rows.causeMoreUptoRow.domain false) (((Rows.OpenSpec.upto Rows.causeMoreSpec).at F).post enc Try.prog Try.f5 false true false false) := by
  refine returnsInHanded_of_cond (C := Try.checked) (s := Rows.OpenSpec.upto Rows.causeMoreSpec) (k := Rows.uptoSmall) rfl own_causeMore started (by kernel_rfl) Try.func5
    (OpenSpec.witness (enc := enc) (C := Try.checked) (s := Rows.OpenSpec.upto Rows.causeMoreSpec) (k := Rows.uptoSmall) rfl false ⟨#[], #[.slice none 0 0, .int .u8 0, .int .u8 0], []⟩ 8 (by kernel_rfl) (by kernel_rfl) (by kernel_rfl) (x := ([.nil, .lit (.int .u8 0), .lit (.int .u8 0)], [], [])) (by kernel_rfl) rfl (by kernel_rfl)) ?_
  intro W base args ds gs before hval0 hW _ hk _
  have hval : ∀ (j : Nat) t v, Try.f5.params[j]? = some t → args[j]? = some v → Value.okWide Try.prog W .any base t v := hval0
  have hW' := hW
  obtain ⟨p, q, hA0, hV, hpq, hfz, hnd⟩ := hW
  have hA : DataW.TrodAll enc Try.prog W 0 (fun _ => true) true Try.f5.params.toList args.toList ds p := hA0
  rw [Try.params5] at hA hval
  obtain ⟨v0, vs0, d0, ds0, p0, q0, hargs, rfl, rfl, h0, tl0⟩ := trodAll_cons hA
  obtain ⟨v1, vs1, d1, ds1, p1, q1, rfl, rfl, rfl, h1, tl1⟩ := trodAll_cons tl0
  obtain ⟨v2, vs2, d2, ds2, p2, q2, rfl, rfl, rfl, h2, tl2⟩ := trodAll_cons tl1
  obtain ⟨rfl, rfl, rfl⟩ := trodAll_nil tl2
  obtain rfl : args = #[v0, v1, v2] := by cases args; simp_all
  obtain ⟨rfl, rfl⟩ := trodVars_none hV
  obtain ⟨h, a_h, c_h, rfl, h_h, wt_h⟩ := topB_slice (α := (List (Bool × ByteArray × Int))) un22 (opensB_slice bulk_causeMore cs22 un22 (opensB_slice bulk_causeMore cs47 un47 (opensB_struct bulk_causeMore Try.underlying50 cs50 (by rw [cs50]; exact (opensRB_cons rfl (opensB_bool bulk_causeMore cs4 un4) rfl (opensRB_cons rfl (opensB_string bulk_causeMore cs9 un9) rfl (opensRB_one rfl (opensB_int bulk_causeMore cs3 un3) rfl))))))) (hval 0 22 v0 rfl rfl) h0
  obtain ⟨cv_8, rfl⟩ := top_u8 un5 (hval 1 5 v1 rfl rfl) h1
  have h_cv_ : 0 ≤ ((cv_8.toNat : Nat) : Int) ∧ ((cv_8.toNat : Nat) : Int) ≤ 255 := by have := cv_8.isLt; omega
  obtain ⟨cn_8, rfl⟩ := top_u8 un5 (hval 2 5 v2 rfl rfl) h2
  have h_cn_ : 0 ≤ ((cn_8.toNat : Nat) : Int) ∧ ((cn_8.toNat : Nat) : Int) ≤ 255 := by have := cn_8.isLt; omega
  have hk' : Rows.uptoBulkAll _ ≤ 1048576 := of_decide_eq_true hk
  simp only [Rows.uptoBulkAll, List.append_nil, List.nil_append, List.cons_append] at hk'
  refine (law_CauseMore (M := NoM) (fun _ h => h.elim) h_h h_cv_ h_cn_ (Nat.le_trans (wt_flat (wt_prod (wt_prod wt_int)) _) (by dsimp only at *; omega))).mono fun e W' ⟨v, he, hv, hg⟩ => ?_
  subst he; subst hv
  exact ⟨_, rfl, law_close kids_causeMore full_causeMore (by rw [Try.params5]; decide) rfl hW' hg rfl un4 rfl rfl rfl⟩
theorem over_causeMore : Rows.causeMoreUptoRow.holds Try.pinned (Rows.OpenSpec.upto Rows.causeMoreSpec) :=
  OpenClaim.holds_of_cond  5 Try.f5 rfl rfl rfl rfl rfl rfl rfl ⟨rfl, rfl, rfl, rfl, rfl⟩ rfl rfl rfl rfl rfl (by kernel_rfl) Try.func5 (by kernel_rfl)
    (of_decide_eq_true (by kernel_rfl)) (by unfold Func.isWrapper; first | (rw [if_pos (by decide +kernel)]; kernel_rfl) | (rw [if_neg (by decide +kernel)]; exact ⟨rfl, rfl⟩))
    (fun os started H enc _ F => lifted_causeMore os started H enc F)
theorem causeMore_proved : Rows.CauseMoreUptoSaid := over_causeMore
#print axioms causeMore_proved
end Go.Proofs.Ytmhopljngkgidaa

