/- PRINTED by my own tool (wip/tool/close.py): the end of the row PastTells. -/
import Derived.Test.YtmhopljngkgidaaDoorGenC
import Derived.Test.YtmhopljngkgidaaDoorRows
import Derived.Test.YtmhopljngkgidaaDoorOwnA
import Derived.Test.YtmhopljngkgidaaDoorOwnB
import Derived.Test.YtmhopljngkgidaaDoorTie
import Derived.Test.YtmhopljngkgidaaDoorCards
import Derived.SevenTiedAt
import Derived.LaidMore
import Derived.Stop.Joined
import Derived.Deep.DeepHandedRow
import Derived.JoinedCond
namespace Go.Proofs.YtmhopljngkgidaaDoor
open Go Go.Ew Go.ChangeShapes Go.WideShapes Go.ChangeAt Go.RowKit
set_option linter.unusedVariables false
theorem un4 : Tryd.prog.underlying 4 = some (.bool) := by kernel_rfl
theorem un77 : Tryd.prog.underlying 77 = some (.int .u64) := by kernel_rfl
theorem cs5 : Tryd.prog.cellsOf 5 = 1 := by kernel_rfl
theorem cs3 : Tryd.prog.cellsOf 3 = 1 := by kernel_rfl
theorem cs42 : Tryd.prog.cellsOf 42 = 1 := by kernel_rfl
theorem cs59 : Tryd.prog.cellsOf 59 = 1 := by kernel_rfl
theorem cs90 : Tryd.prog.cellsOf 90 = 1 := by kernel_rfl
theorem cs9 : Tryd.prog.cellsOf 9 = 1 := by kernel_rfl
theorem cs4 : Tryd.prog.cellsOf 4 = 1 := by kernel_rfl
theorem cs93 : Tryd.prog.cellsOf 93 = 3 := by kernel_rfl
theorem cs22 : Tryd.prog.cellsOf 22 = 1 := by kernel_rfl
theorem cs73 : Tryd.prog.cellsOf 73 = 1 := by kernel_rfl
theorem cs77 : Tryd.prog.cellsOf 77 = 1 := by kernel_rfl
theorem cs24 : Tryd.prog.cellsOf 24 = 2 := by kernel_rfl
theorem cs61 : Tryd.prog.cellsOf 61 = 6 := by kernel_rfl
theorem own_pastTells : ownKnob Tryd.prog.godebug = none := by kernel_rfl
theorem kids_pastTells : Kids Tryd.prog (· < Tryd.prog.types.size) := kids_rows (by kernel_rfl) (by kernel_rfl)
theorem full_pastTells : ∀ t e, t < Tryd.prog.types.size → Tryd.prog.underlying t = some (.slice e) → 0 < Tryd.prog.cellsOf e := slices_full_of Tryd.prog (by kernel_rfl)
theorem gTab_pastTells : Tryd.prog.globalNamed "math/bits.deBruijn64tab" = some 0 := by kernel_rfl
theorem tTab_pastTells : (Tryd.prog.globals[0]?).map (·.type) = some 128 := by kernel_rfl
theorem door_pastTells (os : Os) (args : Array Value) : laidMetH Tryd.prog [("math/bits.deBruijn64tab", Rows.laid_math_bits_deBruijn64tab)] ((World.doorLaid Tryd.prog 400 os).forCall (fun _ _ => 0) ⟨#[], args, []⟩).memory :=
  laidMetH_of_parts3 (fuel := 8) (laidMet_of_run' 8 (by kernel_rfl) (by kernel_rfl)) (by kernel_rfl) (by kernel_rfl)
theorem tab_pastTells {W : World} (h : laidMetH Tryd.prog [("math/bits.deBruijn64tab", Rows.laid_math_bits_deBruijn64tab)] W) : TabAt 0 W :=
  tab_of_laid gTab_pastTells tTab_pastTells un128 un5 cs5 rfl h (by rw [MakeChecks.laidMetH_plain _ _ _ (by kernel_rfl)])
theorem uall_pastTells {H : Type} : ∀ l : List (DataW H), Rows.uptoBulkAll l = (l.map Rows.uptoBulk).sum
  | [] => by simp [Rows.uptoBulkAll]
  | x :: r => by simp [Rows.uptoBulkAll, uall_pastTells r]
theorem bulk_pastTells : Bulk (fun (H : Type) (d : DataW H) => Rows.uptoBulk d) where
  lit _ l := by cases l <;> simp [Rows.uptoBulk]
  str _ bs := by simp [Rows.uptoBulk]
  nil _ := by simp [Rows.uptoBulk]
  slice _ es sp := by show (es.map Rows.uptoBulk).sum + 1 ≤ _; simp only [Rows.uptoBulk, uall_pastTells]; omega
  agg _ ps := by show (ps.map Rows.uptoBulk).sum ≤ _; simp only [Rows.uptoBulk, uall_pastTells]; omega
theorem wit_pastTells (os : Os) {H : Type} (enc : TypeId × Value → H) : ∃ (w : World) (tape : Tape) (i : Input), w.os = os ∧ (w.forCall tape i).Shaped Tryd.prog ∧ i.vars = [] ∧ Input.okWide Tryd.prog (w.forCall tape i) .any w.heap.size 11 i ∧ (Rows.OpenSpec.upto Rows.pastTellsSpec).preRow enc Tryd.prog Tryd.f11 Rows.pastTellsUptoRow.domain false Rows.pastTellsUptoRow.laid (w.forCall tape i).memory i.args ∧ ({} : Assume).holds Tryd.prog (lone (Frame.enter Tryd.prog 11 i.args .normal) [] (w.forCall tape i)) :=
  have hok : Input.okWideB Tryd.prog ((World.doorLaid Tryd.prog 400 os).forCall (fun _ _ => 0) ⟨#[], #[.agg #[.int .i64 0, .slice none 0 0, .int .i64 0, .slice none 0 0, .slice none 0 0, .int .i64 0]], []⟩) 11 ⟨#[], #[.agg #[.int .i64 0, .slice none 0 0, .int .i64 0, .slice none 0 0, .slice none 0 0, .int .i64 0]], []⟩ = true := by kernel_rfl
  ⟨World.doorLaid Tryd.prog 400 os, fun _ _ => 0, ⟨#[], #[.agg #[.int .i64 0, .slice none 0 0, .int .i64 0, .slice none 0 0, .slice none 0 0, .int .i64 0]], []⟩, rfl, World.shaped_of_RefB (by kernel_rfl) (by kernel_rfl), (Input.okWide_of_okWideB (base := 0) hok).1, (Input.okWide_of_okWideB hok).2,
    ⟨⟨(OpenSpec.pre_some (k := Rows.uptoSmall) rfl _ _ _ _).2 ⟨[.agg [.agg [.lit (.int .i64 0), .nil], .lit (.int .i64 0), .nil, .nil, .lit (.int .i64 0)]], [], [], DataW.Whole_of_whole (x := ([.agg [.agg [.lit (.int .i64 0), .nil], .lit (.int .i64 0), .nil, .nil, .lit (.int .i64 0)]], [], [])) (fuel := 8) (by kernel_rfl), rfl, by kernel_rfl⟩, door_pastTells os _⟩, sizedMet_of_sizedB (fuel := 8) (by kernel_rfl)⟩, by
    simp only [Assume.holds]
    exact ⟨by simp, by simp, fun _ => Modest.zero, by simp, by simp⟩⟩
set_option maxRecDepth 100000 in
set_option maxHeartbeats 400000 in
theorem lifted_pastTells (os : Os) (started : os.Started) (H : Type) (enc : TypeId × Value → H) (F : Stop.Interp) :
    ReturnsInHanded {} Tryd.checked os 11 .any ((Rows.OpenSpec.upto Rows.pastTellsSpec).preRow enc Tryd.prog Tryd.f11 Rows.pastTellsUptoRow.domain false Rows.pastTellsUptoRow.laid) (((Rows.OpenSpec.upto Rows.pastTellsSpec).at F).post enc Tryd.prog Tryd.f11 false true false false) := by
  refine returnsInHanded_of_row (C := Tryd.checked) (s := Rows.OpenSpec.upto Rows.pastTellsSpec) own_pastTells started (by kernel_rfl) Tryd.func11 (wit_pastTells os enc) ?_
  intro W base args ds gs before hval0 hW _ hk0 _ hL _ _
  have hk := hk0 Rows.uptoSmall rfl
  have hval : ∀ (j : Nat) t v, Tryd.f11.params[j]? = some t → args[j]? = some v → Value.okWide Tryd.prog W .any base t v := hval0
  have hW' := hW
  obtain ⟨p, q, hA0, hV, hpq, hfz, hnd⟩ := hW
  have hA : DataW.TrodAll enc Tryd.prog W 0 (fun _ => true) true Tryd.f11.params.toList args.toList ds p := hA0
  rw [Tryd.params11] at hA hval
  obtain ⟨v0, vs0, d0, ds0, p0, q0, hargs, rfl, rfl, h0, tl0⟩ := trodAll_cons hA
  obtain ⟨rfl, rfl, rfl⟩ := trodAll_nil tl0
  obtain rfl : args = #[v0] := by cases args; simp_all
  obtain ⟨rfl, rfl⟩ := trodVars_none hV
  obtain ⟨z, hr_z, wt_z⟩ := topB_struct (α := ((Int × (List (List (BitVec 64)))) × Int × (List (List (Bool × ByteArray × Int))) × (List Int) × Int)) Tryd.underlying61 rfl (opensB_struct bulk_pastTells Tryd.underlying61 cs61 (by rw [cs61]; exact (opensRB_cons rfl (opensB_struct bulk_pastTells Tryd.underlying24 cs24 (by rw [cs24]; exact (opensRB_cons rfl (opensB_int bulk_pastTells cs3 un3) rfl (opensRB_one rfl (opensB_slice bulk_pastTells cs22 un22 (opensB_slice bulk_pastTells cs73 un73 (opensB_u64 bulk_pastTells cs77 un77))) rfl)))) rfl (opensRB_cons rfl (opensB_int bulk_pastTells cs3 un3) rfl (opensRB_cons rfl (opensB_slice bulk_pastTells cs59 un59 (opensB_slice bulk_pastTells cs90 un90 (opensB_struct bulk_pastTells Tryd.underlying93 cs93 (by rw [cs93]; exact (opensRB_cons rfl (opensB_bool bulk_pastTells cs4 un4) rfl (opensRB_cons rfl (opensB_string bulk_pastTells cs9 un9) rfl (opensRB_one rfl (opensB_int bulk_pastTells cs3 un3) rfl))))))) rfl (opensRB_cons rfl (opensB_slice bulk_pastTells cs42 un42 (opensB_int bulk_pastTells cs3 un3)) rfl (opensRB_one rfl (opensB_int bulk_pastTells cs3 un3) rfl))))))) (hval 0 61 v0 rfl rfl) h0
  obtain ⟨_, ⟨_, _, rfl, ⟨_, _, rfl, ⟨rfl, rv0⟩, ⟨v0, rfl, rv1⟩⟩, ⟨_, _, rfl, ⟨rfl, rv2⟩, ⟨_, _, rfl, ⟨v1, rfl, rv3⟩, ⟨_, _, rfl, ⟨v2, rfl, rv4⟩, ⟨rfl, rv5⟩⟩⟩⟩⟩, rfl⟩ := hr_z
  obtain ⟨a0, c0, rfl, rv1_⟩ := RS.explicit rv1
  obtain ⟨a1, c1, rfl, rv3_⟩ := RS.explicit rv3
  obtain ⟨a2, c2, rfl, rv4_⟩ := RS.explicit rv4
  have hk' : Rows.uptoBulkAll _ ≤ 1048576 := of_decide_eq_true hk
  simp only [Rows.uptoBulkAll, List.append_nil, List.nil_append, List.cons_append] at hk'
  refine (law_PastTells (M := NoM) (fun _ h => h.elim) (tab_pastTells hL) rv0 rv1_ rv2 rv3_ rv4_ rv5 (Nat.le_trans (wt_flat (wt_prod (wt_prod wt_int)) (z.2.2.1)) (by simp only [Wt.wt] at wt_z ⊢; omega))).mono fun e W' ⟨v, he, hv, hg⟩ => ?_
  subst he; subst hv
  exact ⟨_, rfl, law_close kids_pastTells full_pastTells (by rw [Tryd.params11]; decide) rfl hW' hg rfl un4 rfl rfl rfl⟩
theorem over_pastTells : Rows.pastTellsUptoRow.holds Tryd.pinned (Rows.OpenSpec.upto Rows.pastTellsSpec) :=
  OpenClaim.holds_of_cond  11 Tryd.f11 rfl rfl rfl rfl rfl rfl rfl ⟨rfl, rfl, rfl, rfl, rfl⟩ rfl rfl rfl rfl rfl (by kernel_rfl) Tryd.func11 (by kernel_rfl)
    (of_decide_eq_true (by kernel_rfl)) (by unfold Func.isWrapper; first | (rw [if_pos (by decide +kernel)]; kernel_rfl) | (rw [if_neg (by decide +kernel)]; exact ⟨rfl, rfl⟩))
    (fun os started H enc _ F => by rw [OpenClaim.pre_eq_preRow]; exact lifted_pastTells os started H enc F)
theorem pastTells_proved : Rows.PastTellsUptoCardSaid :=
  Claim7.holds_tied_plain_at .later [] [.data] true (true, "9f3b58a018527ca29006b6c6a151f9d8b92b73194d1b00b6ae1123083896cda9") false over_pastTells (fun _ h => by cases h) (by kernel_rfl) (fun _ h => by cases h) pastTellsUpto_row_tie rfl ⟨rfl, rfl⟩ (by kernel_rfl) rfl
    (fun f fn hf hfn => by
      obtain rfl : f = 11 := Option.some.inj ((show Tryd.prog.funcNamed "eyewitness/eyewitnesslaw16.PastTells" = some 11 by kernel_rfl).symm.trans hf) |>.symm
      obtain rfl : fn = Tryd.f11 := (Option.some.inj (Tryd.func11.symm.trans hfn)).symm
      exact ⟨by kernel_rfl, fun j t ht => by
        rw [Tryd.params11] at ht
        have hm : t ∈ [61] := by simpa using Array.mem_of_getElem? ht
        have hall : ([61].all fun u => !Tryd.prog.wantsStandIn u) = true := by kernel_rfl
        exact (show Tryd.prog.wantsStandIn t = false by simpa using List.all_eq_true.1 hall t hm)⟩)
    (by kernel_rfl)
#print axioms pastTells_proved
end Go.Proofs.YtmhopljngkgidaaDoor

