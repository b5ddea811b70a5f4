/- Proved: eyewitnesslaw21.AuditTells answers true at every input of bulk at most 1048576, and each argument reads afterwards as it did; no condition but the statement's own. Printed by my own tool (wip/tool/close.py): the end of the row. -/
import Derived.Test.YtefcbihikknlkaaGreatDoorGenD
import Derived.Test.YtefcbihikknlkaaGreatDoorRows
import Derived.Test.YtefcbihikknlkaaGreatDoorOwnA
import Derived.Test.YtefcbihikknlkaaGreatDoorOwnB
import Derived.Test.YtefcbihikknlkaaGreatDoorTie
import Derived.Test.YtefcbihikknlkaaGreatDoorCards
import Derived.SevenTiedAt
import Derived.LaidMore
import Derived.Stop.Joined
import Derived.Deep.DeepHandedRow
import Derived.JoinedCond
import Derived.Test.YtefcbihikknlkaaGreatDoorGenA
import Derived.Test.YtefcbihikknlkaaGreatDoorGenB
import Derived.Test.YtefcbihikknlkaaGreatDoorGenC
set_option linter.unusedVariables false
namespace Go.Proofs.YtefcbihikknlkaaGreatDoor
open Go Go.Ew Go.ChangeShapes Go.WideShapes Go.ChangeAt Go.RowKit
theorem cs5 : Tryz.prog.cellsOf 5 = 1 := by kernel_rfl
theorem cs22 : Tryz.prog.cellsOf 22 = 1 := by kernel_rfl
theorem cs45 : Tryz.prog.cellsOf 45 = 1 := by kernel_rfl
theorem cs3 : Tryz.prog.cellsOf 3 = 1 := by kernel_rfl
theorem cs9 : Tryz.prog.cellsOf 9 = 1 := by kernel_rfl
theorem cs4 : Tryz.prog.cellsOf 4 = 1 := by kernel_rfl
theorem cs48 : Tryz.prog.cellsOf 48 = 3 := by kernel_rfl
theorem cs23 : Tryz.prog.cellsOf 23 = 1 := by kernel_rfl
theorem cs92 : Tryz.prog.cellsOf 92 = 5 := by kernel_rfl
theorem cs25 : Tryz.prog.cellsOf 25 = 8 := by kernel_rfl
theorem own_auditTells : ownKnob Tryz.prog.godebug = none := by kernel_rfl
theorem kids_auditTells : Kids Tryz.prog (· < Tryz.prog.types.size) := kids_rows (by kernel_rfl) (by kernel_rfl)
theorem full_auditTells : ∀ t e, t < Tryz.prog.types.size → Tryz.prog.underlying t = some (.slice e) → 0 < Tryz.prog.cellsOf e := slices_full_of Tryz.prog (by kernel_rfl)
theorem gTab_auditTells : Tryz.prog.globalNamed "math/bits.deBruijn64tab" = some 0 := by kernel_rfl
theorem tTab_auditTells : (Tryz.prog.globals[0]?).map (·.type) = some 152 := by kernel_rfl
theorem door_auditTells (os : Os) (args : Array Value) : laidMetH Tryz.prog [("math/bits.deBruijn64tab", Rows.laid_math_bits_deBruijn64tab)] ((World.doorLaid Tryz.prog 400 os).forCall (fun _ _ => 0) ⟨#[], args, []⟩).memory :=
  laidMetH_of_parts3 (fuel := 8) (laidMet_of_run' 8 (by kernel_rfl) (by kernel_rfl)) (by kernel_rfl) (by kernel_rfl)
theorem tab_auditTells {W : World} (h : laidMetH Tryz.prog [("math/bits.deBruijn64tab", Rows.laid_math_bits_deBruijn64tab)] W) : TabAt 0 W :=
  tab_of_laid gTab_auditTells tTab_auditTells un152 un5 cs5 rfl h (by rw [MakeChecks.laidMetH_plain _ _ _ (by kernel_rfl)])
theorem uall_auditTells {H : Type} : ∀ l : List (DataW H), Rows.uptoBulkAll l = (l.map Rows.uptoBulk).sum
  | [] => by simp [Rows.uptoBulkAll]
  | x :: r => by simp [Rows.uptoBulkAll, uall_auditTells r]
theorem bulk_auditTells : Bulk (fun (H : Type) (d : DataW H) => Rows.uptoBulk d) where
  lit _ l := by cases l <;> simp [Rows.uptoBulk]
  str _ bs := by simp [Rows.uptoBulk]
  nil _ := by simp [Rows.uptoBulk]
  slice _ es sp := by show (es.map Rows.uptoBulk).sum + 1 ≤ _; simp only [Rows.uptoBulk, uall_auditTells]; omega
  agg _ ps := by show (ps.map Rows.uptoBulk).sum ≤ _; simp only [Rows.uptoBulk, uall_auditTells]; omega
theorem wit_auditTells (os : Os) {H : Type} (enc : TypeId × Value → H) : ∃ (w : World) (tape : Tape) (i : Input), w.os = os ∧ (w.forCall tape i).Shaped Tryz.prog ∧ i.vars = [] ∧ Input.okWide Tryz.prog (w.forCall tape i) .any w.heap.size 3 i ∧ (Rows.OpenSpec.upto Rows.auditTellsSpec).preRow enc Tryz.prog Tryz.f3 Rows.auditTellsUptoRow.domain false Rows.auditTellsUptoRow.laid (w.forCall tape i).memory i.args ∧ ({} : Assume).holds Tryz.prog (lone (Frame.enter Tryz.prog 3 i.args .normal) [] (w.forCall tape i)) :=
  have hok : Input.okWideB Tryz.prog ((World.doorLaid Tryz.prog 400 os).forCall (fun _ _ => 0) ⟨#[], #[.slice none 0 0, .int .i64 0, .agg #[.int .i64 0, .int .i64 0, .int .i64 0, .int .i64 0, .int .i64 0, .slice none 0 0, .int .i64 0, .int .i64 0]], []⟩) 3 ⟨#[], #[.slice none 0 0, .int .i64 0, .agg #[.int .i64 0, .int .i64 0, .int .i64 0, .int .i64 0, .int .i64 0, .slice none 0 0, .int .i64 0, .int .i64 0]], []⟩ = true := by kernel_rfl
  ⟨World.doorLaid Tryz.prog 400 os, fun _ _ => 0, ⟨#[], #[.slice none 0 0, .int .i64 0, .agg #[.int .i64 0, .int .i64 0, .int .i64 0, .int .i64 0, .int .i64 0, .slice none 0 0, .int .i64 0, .int .i64 0]], []⟩, rfl, World.shaped_of_RefB (by kernel_rfl) (by kernel_rfl), (Input.okWide_of_okWideB (base := 0) hok).1, (Input.okWide_of_okWideB hok).2,
    ⟨⟨(OpenSpec.pre_some (k := Rows.uptoSmall) rfl _ _ _ _).2 ⟨[.nil, .lit (.int .i64 0), .agg [.lit (.int .i64 0), .lit (.int .i64 0), .lit (.int .i64 0), .lit (.int .i64 0), .lit (.int .i64 0), .nil, .lit (.int .i64 0), .lit (.int .i64 0)]], [], [], DataW.Whole_of_whole (x := ([.nil, .lit (.int .i64 0), .agg [.lit (.int .i64 0), .lit (.int .i64 0), .lit (.int .i64 0), .lit (.int .i64 0), .lit (.int .i64 0), .nil, .lit (.int .i64 0), .lit (.int .i64 0)]], [], [])) (fuel := 8) (by kernel_rfl), rfl, by kernel_rfl⟩, door_auditTells os _⟩, sizedMet_of_sizedB (fuel := 8) (by kernel_rfl)⟩, by
    simp only [Assume.holds]
    exact ⟨by simp, by simp, fun _ => Modest.zero, by simp, by simp⟩⟩
set_option maxRecDepth 100000 in
set_option maxHeartbeats 400000 in
theorem lifted_auditTells (os : Os) (started : os.Started) (H : Type) (enc : TypeId × Value → H) (F : Stop.Interp) :
    ReturnsInHanded {} Tryz.checked os 3 .any ((Rows.OpenSpec.upto Rows.auditTellsSpec).preRow enc Tryz.prog Tryz.f3 Rows.auditTellsUptoRow.domain false Rows.auditTellsUptoRow.laid) (((Rows.OpenSpec.upto Rows.auditTellsSpec).at F).post enc Tryz.prog Tryz.f3 false true false false) := by
  refine returnsInHanded_of_row (C := Tryz.checked) (s := Rows.OpenSpec.upto Rows.auditTellsSpec) own_auditTells started (by kernel_rfl) Tryz.func3 (wit_auditTells os enc) ?_
  intro W base args ds gs before hval0 hW _ hk0 _ hL _ _
  have hk := hk0 Rows.uptoSmall rfl
  have hval : ∀ (j : Nat) t v, Tryz.f3.params[j]? = some t → args[j]? = some v → Value.okWide Tryz.prog W .any base t v := hval0
  have hW' := hW
  obtain ⟨p, q, hA0, hV, hpq, hfz, hnd⟩ := hW
  have hA : DataW.TrodAll enc Tryz.prog W 0 (fun _ => true) true Tryz.f3.params.toList args.toList ds p := hA0
  rw [Tryz.params3] at hA hval
  obtain ⟨v0, vs0, d0, ds0, p0, q0, hargs, rfl, rfl, h0, tl0⟩ := trodAll_cons hA
  obtain ⟨v1, vs1, d1, ds1, p1, q1, rfl, rfl, rfl, h1, tl1⟩ := trodAll_cons tl0
  obtain ⟨v2, vs2, d2, ds2, p2, q2, rfl, rfl, rfl, h2, tl2⟩ := trodAll_cons tl1
  obtain ⟨rfl, rfl, rfl⟩ := trodAll_nil tl2
  obtain rfl : args = #[v0, v1, v2] := by cases args; simp_all
  obtain ⟨rfl, rfl⟩ := trodVars_none hV
  obtain ⟨h, a_h, c_h, rfl, h_h, wt_h⟩ := topB_slice (α := (List (Bool × ByteArray × Int))) un22 (opensB_slice bulk_auditTells cs22 un22 (opensB_slice bulk_auditTells cs45 un45 (opensB_struct bulk_auditTells Tryz.underlying48 cs48 (by rw [cs48]; exact (opensRB_cons rfl (opensB_bool bulk_auditTells cs4 un4) rfl (opensRB_cons rfl (opensB_string bulk_auditTells cs9 un9) rfl (opensRB_one rfl (opensB_int bulk_auditTells cs3 un3) rfl))))))) (hval 0 22 v0 rfl rfl) h0
  obtain ⟨lv, rfl, h_lv⟩ := top_i64 un3 (hval 1 3 v1 rfl rfl) h1
  obtain ⟨wt, hr_wt, wt_wt⟩ := topB_struct (α := (Int × Int × Int × Int × Int × (List (Int × Int × Int × Int × Int)) × Int × Int)) Tryz.underlying25 rfl (opensB_struct bulk_auditTells Tryz.underlying25 cs25 (by rw [cs25]; exact (opensRB_cons rfl (opensB_int bulk_auditTells cs3 un3) rfl (opensRB_cons rfl (opensB_int bulk_auditTells cs3 un3) rfl (opensRB_cons rfl (opensB_int bulk_auditTells cs3 un3) rfl (opensRB_cons rfl (opensB_int bulk_auditTells cs3 un3) rfl (opensRB_cons rfl (opensB_int bulk_auditTells cs3 un3) rfl (opensRB_cons rfl (opensB_slice bulk_auditTells cs23 un23 (opensB_struct bulk_auditTells Tryz.underlying92 cs92 (by rw [cs92]; exact (opensRB_cons rfl (opensB_int bulk_auditTells cs3 un3) rfl (opensRB_cons rfl (opensB_int bulk_auditTells cs3 un3) rfl (opensRB_cons rfl (opensB_int bulk_auditTells cs3 un3) rfl (opensRB_cons rfl (opensB_int bulk_auditTells cs3 un3) rfl (opensRB_one rfl (opensB_int bulk_auditTells cs3 un3) rfl)))))))) rfl (opensRB_cons rfl (opensB_int bulk_auditTells cs3 un3) rfl (opensRB_one rfl (opensB_int bulk_auditTells cs3 un3) rfl)))))))))) (hval 2 25 v2 rfl rfl) h2
  obtain ⟨_, ⟨_, _, rfl, ⟨rfl, rv0⟩, ⟨_, _, rfl, ⟨rfl, rv1⟩, ⟨_, _, rfl, ⟨rfl, rv2⟩, ⟨_, _, rfl, ⟨rfl, rv3⟩, ⟨_, _, rfl, ⟨rfl, rv4⟩, ⟨_, _, rfl, ⟨v0, rfl, rv5⟩, ⟨_, _, rfl, ⟨rfl, rv6⟩, ⟨rfl, rv7⟩⟩⟩⟩⟩⟩⟩⟩, rfl⟩ := hr_wt
  obtain ⟨a0, c0, rfl, rv5_⟩ := RS.explicit rv5
  have hk' : Rows.uptoBulkAll _ ≤ 1048576 := of_decide_eq_true hk
  simp only [Rows.uptoBulkAll, List.append_nil] at hk'
  refine (law_AuditTells (M := NoM) (fun _ h => h.elim) (tab_auditTells hL) h_h h_lv rv0 rv1 rv2 rv3 rv4 rv5_ rv6 rv7 (Nat.le_trans (wt_flat (wt_prod (wt_prod wt_int)) _) (by dsimp only at *; omega))).mono fun e W' ⟨v, he, hv, hg⟩ => ?_
  subst he; subst hv
  exact ⟨_, rfl, law_close kids_auditTells full_auditTells (by rw [Tryz.params3]; decide) rfl hW' hg rfl un4 rfl rfl rfl⟩
theorem over_auditTells : Rows.auditTellsUptoRow.holds Tryz.pinned (Rows.OpenSpec.upto Rows.auditTellsSpec) :=
  OpenClaim.holds_of_cond  3 Tryz.f3 rfl rfl rfl rfl rfl rfl rfl ⟨rfl, rfl, rfl, rfl, rfl⟩ rfl rfl rfl rfl rfl (by kernel_rfl) Tryz.func3 (by kernel_rfl)
    (of_decide_eq_true (by kernel_rfl)) (by unfold Func.isWrapper; first | (rw [if_pos (by decide +kernel)]; kernel_rfl) | (rw [if_neg (by decide +kernel)]; exact ⟨rfl, rfl⟩))
    (fun os started H enc _ F => by rw [OpenClaim.pre_eq_preRow]; exact lifted_auditTells os started H enc F)
theorem auditTells_proved : Rows.AuditTellsUptoCardSaid :=
  Claim7.holds_tied_plain_at .later [] [.data] true (true, "2d7fbe8f2a76b2aef3b691dc8ed987f8566af991c88942a54f564e98bc92f3c3") false over_auditTells (fun _ h => by cases h) (by kernel_rfl) (fun _ h => by cases h) auditTellsUpto_row_tie rfl ⟨rfl, rfl⟩ (by kernel_rfl) rfl
    (fun f fn hf hfn => by
      obtain rfl : f = 3 := Option.some.inj ((show Tryz.prog.funcNamed "eyewitness/eyewitnesslaw21.AuditTells" = some 3 by kernel_rfl).symm.trans hf) |>.symm
      obtain rfl : fn = Tryz.f3 := (Option.some.inj (Tryz.func3.symm.trans hfn)).symm
      exact ⟨by kernel_rfl, fun j t ht => by
        rw [Tryz.params3] at ht
        have hm : t ∈ [22, 3, 25] := by simpa using Array.mem_of_getElem? ht
        have hall : ([22, 3, 25].all fun u => !Tryz.prog.wantsStandIn u) = true := by kernel_rfl
        exact (show Tryz.prog.wantsStandIn t = false by simpa using List.all_eq_true.1 hall t hm)⟩)
    (by kernel_rfl)
#print axioms auditTells_proved
end Go.Proofs.YtefcbihikknlkaaGreatDoor

