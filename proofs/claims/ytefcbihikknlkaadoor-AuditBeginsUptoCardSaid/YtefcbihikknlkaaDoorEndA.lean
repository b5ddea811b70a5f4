/- PRINTED by my own tool (wip/tool/close.py): the end of the row AuditBegins. -/
import Derived.Test.YtefcbihikknlkaaDoorGenE
import Derived.Test.YtefcbihikknlkaaDoorRows
import Derived.Test.YtefcbihikknlkaaDoorOwnA
import Derived.Test.YtefcbihikknlkaaDoorOwnB
import Derived.Test.YtefcbihikknlkaaDoorTie
import Derived.Test.YtefcbihikknlkaaDoorCards
import Derived.SevenTiedAt
import Derived.LaidMore
import Derived.Stop.Joined
import Derived.Deep.DeepHandedRow
import Derived.JoinedCond
import Derived.Test.YtefcbihikknlkaaDoorGenA
import Derived.Test.YtefcbihikknlkaaDoorGenB
import Derived.Test.YtefcbihikknlkaaDoorGenC
import Derived.Test.YtefcbihikknlkaaDoorGenD
namespace Go.Proofs.YtefcbihikknlkaaDoor
open Go Go.Ew Go.ChangeShapes Go.WideShapes Go.ChangeAt Go.RowKit
set_option linter.unusedVariables false
theorem cs5 : Tryd.prog.cellsOf 5 = 1 := by kernel_rfl
theorem cs22 : Tryd.prog.cellsOf 22 = 1 := by kernel_rfl
theorem cs38 : Tryd.prog.cellsOf 38 = 1 := by kernel_rfl
theorem cs3 : Tryd.prog.cellsOf 3 = 1 := by kernel_rfl
theorem cs9 : Tryd.prog.cellsOf 9 = 1 := by kernel_rfl
theorem cs4 : Tryd.prog.cellsOf 4 = 1 := by kernel_rfl
theorem cs41 : Tryd.prog.cellsOf 41 = 3 := by kernel_rfl
theorem cs23 : Tryd.prog.cellsOf 23 = 1 := by kernel_rfl
theorem cs35 : Tryd.prog.cellsOf 35 = 5 := by kernel_rfl
theorem own_auditBegins : ownKnob Tryd.prog.godebug = none := by kernel_rfl
theorem kids_auditBegins : Kids Tryd.prog (· < Tryd.prog.types.size) := kids_rows (by kernel_rfl) (by kernel_rfl)
theorem full_auditBegins : ∀ t e, t < Tryd.prog.types.size → Tryd.prog.underlying t = some (.slice e) → 0 < Tryd.prog.cellsOf e := slices_full_of Tryd.prog (by kernel_rfl)
theorem gTab_auditBegins : Tryd.prog.globalNamed "math/bits.deBruijn64tab" = some 0 := by kernel_rfl
theorem tTab_auditBegins : (Tryd.prog.globals[0]?).map (·.type) = some 110 := by kernel_rfl
theorem door_auditBegins (os : Os) (args : Array Value) : laidMetH Tryd.prog [("math/bits.deBruijn64tab", Rows.laid_math_bits_deBruijn64tab)] ((World.doorLaid Tryd.prog 400 os).forCall (fun _ _ => 0) ⟨#[], args, []⟩).memory :=
  laidMetH_of_parts3 (fuel := 8) (laidMet_of_run' 8 (by kernel_rfl) (by kernel_rfl)) (by kernel_rfl) (by kernel_rfl)
theorem tab_auditBegins {W : World} (h : laidMetH Tryd.prog [("math/bits.deBruijn64tab", Rows.laid_math_bits_deBruijn64tab)] W) : TabAt 0 W :=
  tab_of_laid gTab_auditBegins tTab_auditBegins un110 un5 cs5 rfl h (by rw [MakeChecks.laidMetH_plain _ _ _ (by kernel_rfl)])
theorem uall_auditBegins {H : Type} : ∀ l : List (DataW H), Rows.uptoBulkAll l = (l.map Rows.uptoBulk).sum
  | [] => by simp [Rows.uptoBulkAll]
  | x :: r => by simp [Rows.uptoBulkAll, uall_auditBegins r]
theorem bulk_auditBegins : Bulk (fun (H : Type) (d : DataW H) => Rows.uptoBulk d) where
  lit _ l := by cases l <;> simp [Rows.uptoBulk]
  str _ bs := by simp [Rows.uptoBulk]
  nil _ := by simp [Rows.uptoBulk]
  slice _ es sp := by show (es.map Rows.uptoBulk).sum + 1 ≤ _; simp only [Rows.uptoBulk, uall_auditBegins]; omega
  agg _ ps := by show (ps.map Rows.uptoBulk).sum ≤ _; simp only [Rows.uptoBulk, uall_auditBegins]; omega
theorem wit_auditBegins (os : Os) {H : Type} (enc : TypeId × Value → H) : ∃ (w : World) (tape : Tape) (i : Input), w.os = os ∧ (w.forCall tape i).Shaped Tryd.prog ∧ i.vars = [] ∧ Input.okWide Tryd.prog (w.forCall tape i) .any w.heap.size 3 i ∧ (Rows.OpenSpec.upto Rows.auditBeginsSpec).preRow enc Tryd.prog Tryd.f3 Rows.auditBeginsUptoRow.domain false Rows.auditBeginsUptoRow.laid (w.forCall tape i).memory i.args ∧ ({} : Assume).holds Tryd.prog (lone (Frame.enter Tryd.prog 3 i.args .normal) [] (w.forCall tape i)) :=
  have hok : Input.okWideB Tryd.prog ((World.doorLaid Tryd.prog 400 os).forCall (fun _ _ => 0) ⟨#[], #[.slice none 0 0, .slice none 0 0, .int .u8 0], []⟩) 3 ⟨#[], #[.slice none 0 0, .slice none 0 0, .int .u8 0], []⟩ = true := by kernel_rfl
  ⟨World.doorLaid Tryd.prog 400 os, fun _ _ => 0, ⟨#[], #[.slice none 0 0, .slice none 0 0, .int .u8 0], []⟩, rfl, World.shaped_of_RefB (by kernel_rfl) (by kernel_rfl), (Input.okWide_of_okWideB (base := 0) hok).1, (Input.okWide_of_okWideB hok).2,
    ⟨⟨(OpenSpec.pre_some (k := Rows.uptoSmall) rfl _ _ _ _).2 ⟨[.nil, .nil, .lit (.int .u8 0)], [], [], DataW.Whole_of_whole (x := ([.nil, .nil, .lit (.int .u8 0)], [], [])) (fuel := 8) (by kernel_rfl), rfl, by kernel_rfl⟩, door_auditBegins os _⟩, sizedMet_of_sizedB (fuel := 8) (by kernel_rfl)⟩, by
    simp only [Assume.holds]
    exact ⟨by simp, by simp, fun _ => Modest.zero, by simp, by simp⟩⟩
set_option maxRecDepth 100000 in
set_option maxHeartbeats 400000 in
theorem lifted_auditBegins (os : Os) (started : os.Started) (H : Type) (enc : TypeId × Value → H) (F : Stop.Interp) :
    ReturnsInHanded {} Tryd.checked os 3 .any ((Rows.OpenSpec.upto Rows.auditBeginsSpec).preRow enc Tryd.prog Tryd.f3 Rows.auditBeginsUptoRow.domain false Rows.auditBeginsUptoRow.laid) (((Rows.OpenSpec.upto Rows.auditBeginsSpec).at F).post enc Tryd.prog Tryd.f3 false true false false) := by
  refine returnsInHanded_of_row (C := Tryd.checked) (s := Rows.OpenSpec.upto Rows.auditBeginsSpec) own_auditBegins started (by kernel_rfl) Tryd.func3 (wit_auditBegins os enc) ?_
  intro W base args ds gs before hval0 hW _ hk0 _ hL _ _
  have hk := hk0 Rows.uptoSmall rfl
  have hval : ∀ (j : Nat) t v, Tryd.f3.params[j]? = some t → args[j]? = some v → Value.okWide Tryd.prog W .any base t v := hval0
  have hW' := hW
  obtain ⟨p, q, hA0, hV, hpq, hfz, hnd⟩ := hW
  have hA : DataW.TrodAll enc Tryd.prog W 0 (fun _ => true) true Tryd.f3.params.toList args.toList ds p := hA0
  rw [Tryd.params3] at hA hval
  obtain ⟨v0, vs0, d0, ds0, p0, q0, hargs, rfl, rfl, h0, tl0⟩ := trodAll_cons hA
  obtain ⟨v1, vs1, d1, ds1, p1, q1, rfl, rfl, rfl, h1, tl1⟩ := trodAll_cons tl0
  obtain ⟨v2, vs2, d2, ds2, p2, q2, rfl, rfl, rfl, h2, tl2⟩ := trodAll_cons tl1
  obtain ⟨rfl, rfl, rfl⟩ := trodAll_nil tl2
  obtain rfl : args = #[v0, v1, v2] := by cases args; simp_all
  obtain ⟨rfl, rfl⟩ := trodVars_none hV
  obtain ⟨h, a_h, c_h, rfl, h_h, wt_h⟩ := topB_slice (α := (List (Bool × ByteArray × Int))) un22 (opensB_slice bulk_auditBegins cs22 un22 (opensB_slice bulk_auditBegins cs38 un38 (opensB_struct bulk_auditBegins Tryd.underlying41 cs41 (by rw [cs41]; exact (opensRB_cons rfl (opensB_bool bulk_auditBegins cs4 un4) rfl (opensRB_cons rfl (opensB_string bulk_auditBegins cs9 un9) rfl (opensRB_one rfl (opensB_int bulk_auditBegins cs3 un3) rfl))))))) (hval 0 22 v0 rfl rfl) h0
  obtain ⟨l, a_l, c_l, rfl, h_l, wt_l⟩ := topB_slice (α := (Int × Int × Int × Int × Int)) un23 (opensB_slice bulk_auditBegins cs23 un23 (opensB_struct bulk_auditBegins Tryd.underlying35 cs35 (by rw [cs35]; exact (opensRB_cons rfl (opensB_int bulk_auditBegins cs3 un3) rfl (opensRB_cons rfl (opensB_int bulk_auditBegins cs3 un3) rfl (opensRB_cons rfl (opensB_int bulk_auditBegins cs3 un3) rfl (opensRB_cons rfl (opensB_int bulk_auditBegins cs3 un3) rfl (opensRB_one rfl (opensB_int bulk_auditBegins cs3 un3) rfl)))))))) (hval 1 23 v1 rfl rfl) h1
  obtain ⟨cut8, rfl⟩ := top_u8 un5 (hval 2 5 v2 rfl rfl) h2
  have h_cut : 0 ≤ ((cut8.toNat : Nat) : Int) ∧ ((cut8.toNat : Nat) : Int) ≤ 255 := by have := cut8.isLt; omega
  have hk' : Rows.uptoBulkAll _ ≤ 1048576 := of_decide_eq_true hk
  simp only [Rows.uptoBulkAll, List.append_nil, List.nil_append, List.cons_append] at hk'
  refine (law_AuditBegins (M := NoM) (fun _ h => h.elim) (tab_auditBegins hL) h_h h_l h_cut (Nat.le_trans (wt_flat (wt_prod (wt_prod wt_int)) _) (by dsimp only at *; omega))).mono fun e W' ⟨v, he, hv, hg⟩ => ?_
  subst he; subst hv
  exact ⟨_, rfl, law_close kids_auditBegins full_auditBegins (by rw [Tryd.params3]; decide) rfl hW' hg rfl un4 rfl rfl rfl⟩
theorem over_auditBegins : Rows.auditBeginsUptoRow.holds Tryd.pinned (Rows.OpenSpec.upto Rows.auditBeginsSpec) :=
  OpenClaim.holds_of_cond  3 Tryd.f3 rfl rfl rfl rfl rfl rfl rfl ⟨rfl, rfl, rfl, rfl, rfl⟩ rfl rfl rfl rfl rfl (by kernel_rfl) Tryd.func3 (by kernel_rfl)
    (of_decide_eq_true (by kernel_rfl)) (by unfold Func.isWrapper; first | (rw [if_pos (by decide +kernel)]; kernel_rfl) | (rw [if_neg (by decide +kernel)]; exact ⟨rfl, rfl⟩))
    (fun os started H enc _ F => by rw [OpenClaim.pre_eq_preRow]; exact lifted_auditBegins os started H enc F)
theorem auditBegins_proved : Rows.AuditBeginsUptoCardSaid :=
  Claim7.holds_tied_plain_at .later [] [.data] true (true, "a846466e86886e4e64cb2037acd0adeab6932eb57224c20a90fe12b4a66b3569") false over_auditBegins (fun _ h => by cases h) (by kernel_rfl) (fun _ h => by cases h) auditBeginsUpto_row_tie rfl ⟨rfl, rfl⟩ (by kernel_rfl) rfl
    (fun f fn hf hfn => by
      obtain rfl : f = 3 := Option.some.inj ((show Tryd.prog.funcNamed "eyewitness/eyewitnesslaw21.AuditBegins" = some 3 by kernel_rfl).symm.trans hf) |>.symm
      obtain rfl : fn = Tryd.f3 := (Option.some.inj (Tryd.func3.symm.trans hfn)).symm
      exact ⟨by kernel_rfl, fun j t ht => by
        rw [Tryd.params3] at ht
        have hm : t ∈ [22, 23, 5] := by simpa using Array.mem_of_getElem? ht
        have hall : ([22, 23, 5].all fun u => !Tryd.prog.wantsStandIn u) = true := by kernel_rfl
        exact (show Tryd.prog.wantsStandIn t = false by simpa using List.all_eq_true.1 hall t hm)⟩)
    (by kernel_rfl)
#print axioms auditBegins_proved
end Go.Proofs.YtefcbihikknlkaaDoor

