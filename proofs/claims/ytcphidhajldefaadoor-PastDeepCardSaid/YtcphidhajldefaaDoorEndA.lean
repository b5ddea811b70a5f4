/- PRINTED by my own tool (wip/tool/close.py): the end of the row PastDeep. -/
import Derived.Test.YtcphidhajldefaaDoorGenB
import Derived.Test.YtcphidhajldefaaDoorRows
import Derived.Test.YtcphidhajldefaaDoorOwnA
import Derived.Test.YtcphidhajldefaaDoorOwnC
import Derived.Test.YtcphidhajldefaaDoorTie
import Derived.Test.YtcphidhajldefaaDoorCards
import Derived.SevenTiedAt
import Derived.LaidMore
import Derived.Stop.Joined
namespace Go.Proofs.YtcphidhajldefaaDoor
open Go Go.Ew Go.ChangeShapes Go.WideShapes Go.ChangeAt Go.RowKit
set_option linter.unusedVariables false
theorem un49 : Tryd.prog.underlying 49 = some (.int .u64) := by kernel_rfl
theorem un4 : Tryd.prog.underlying 4 = some (.bool) := by kernel_rfl
theorem cs5 : Tryd.prog.cellsOf 5 = 1 := by kernel_rfl
theorem cs22 : Tryd.prog.cellsOf 22 = 1 := by kernel_rfl
theorem cs35 : Tryd.prog.cellsOf 35 = 1 := by kernel_rfl
theorem cs49 : Tryd.prog.cellsOf 49 = 1 := by kernel_rfl
theorem cs3 : Tryd.prog.cellsOf 3 = 1 := by kernel_rfl
theorem cs24 : Tryd.prog.cellsOf 24 = 2 := by kernel_rfl
theorem own_pastDeep : ownKnob Tryd.prog.godebug = none := by kernel_rfl
theorem kids_pastDeep : Kids Tryd.prog (· < Tryd.prog.types.size) := kids_rows (by kernel_rfl) (by kernel_rfl)
theorem full_pastDeep : ∀ t e, t < Tryd.prog.types.size → Tryd.prog.underlying t = some (.slice e) → 0 < Tryd.prog.cellsOf e := slices_full_of Tryd.prog (by kernel_rfl)
theorem gTab_pastDeep : Tryd.prog.globalNamed "math/bits.deBruijn64tab" = some 0 := by kernel_rfl
theorem tTab_pastDeep : (Tryd.prog.globals[0]?).map (·.type) = some 57 := by kernel_rfl
theorem door_pastDeep (os : Os) (args : Array Value) : laidMetH Tryd.prog [("math/bits.deBruijn64tab", Rows.laid_math_bits_deBruijn64tab)] ((World.doorLaid Tryd.prog 400 os).forCall (fun _ _ => 0) ⟨#[], args, []⟩).memory :=
  laidMetH_of_parts3 (fuel := 8) (laidMet_of_run' 8 (by kernel_rfl) (by kernel_rfl)) (by kernel_rfl) (by kernel_rfl)
theorem tab_pastDeep {W : World} (h : laidMetH Tryd.prog [("math/bits.deBruijn64tab", Rows.laid_math_bits_deBruijn64tab)] W) : TabAt 0 W :=
  tab_of_laid gTab_pastDeep tTab_pastDeep un57 un5 cs5 rfl h (by rw [MakeChecks.laidMetH_plain _ _ _ (by kernel_rfl)])
set_option maxRecDepth 100000 in
set_option maxHeartbeats 400000 in
theorem lifted_pastDeep (os : Os) (started : os.Started) (H : Type) (enc : TypeId × Value → H) :
    ReturnsInHanded {} Tryd.checked os 3 .any (fun w args => (Rows.pastDeepSpec.pre enc Tryd.prog Tryd.f3 [] false w args ∧ laidMetH Tryd.prog [("math/bits.deBruijn64tab", Rows.laid_math_bits_deBruijn64tab)] w) ∧ sizedMet enc Tryd.prog Tryd.f3 (OpenSpec.ofChange Rows.pastDeepSpec) false w args)
      (Rows.pastDeepSpec.post enc Tryd.prog Tryd.f3 false true false false) := by
  refine returnsInHanded_of_change_and (C := Tryd.checked) (X := fun w _ => laidMetH Tryd.prog [("math/bits.deBruijn64tab", Rows.laid_math_bits_deBruijn64tab)] w) (fun _ _ _ hh h => h.of_heap hh) own_pastDeep started (by kernel_rfl) Tryd.func3
    (ChangeSpec.witness_shaped (enc := enc) (C := Tryd.checked) (os := os) (X := fun w _ => laidMetH Tryd.prog [("math/bits.deBruijn64tab", Rows.laid_math_bits_deBruijn64tab)] w) false (World.doorLaid Tryd.prog 400 os) #[.agg #[.int .i64 0, .slice none 0 0], .int .u8 0] 8 rfl (World.shaped_of_RefB (by kernel_rfl) (by kernel_rfl)) (by kernel_rfl) (by kernel_rfl) (by kernel_rfl) (door_pastDeep os _)) ?_
  intro W base args ds gs before hval0 hW _ _ hL _
  have hval : ∀ (j : Nat) t v, Tryd.f3.params[j]? = some t → args[j]? = some v → Value.okWide Tryd.prog W .any base t v := hval0
  have hW' := hW
  obtain ⟨p, q, hA0, hV, hpq, hfz, hnd⟩ := hW
  have hA : DataW.TrodAll enc Tryd.prog W 0 (fun _ => true) true Tryd.f3.params.toList args.toList ds p := hA0
  rw [Tryd.params3] at hA hval
  obtain ⟨v0, vs0, d0, ds0, p0, q0, hargs, rfl, rfl, h0, tl0⟩ := trodAll_cons hA
  obtain ⟨v1, vs1, d1, ds1, p1, q1, rfl, rfl, rfl, h1, tl1⟩ := trodAll_cons tl0
  obtain ⟨rfl, rfl, rfl⟩ := trodAll_nil tl1
  obtain rfl : args = #[v0, v1] := by cases args; simp_all
  obtain ⟨rfl, rfl⟩ := trodVars_none hV
  obtain ⟨m, hr_m⟩ := top_struct (α := (Int × (List (List (BitVec 64))))) Tryd.underlying24 rfl (opens_struct Tryd.underlying24 cs24 (by rw [cs24]; exact (opensR_cons rfl (opens_int cs3 un3) rfl (opensR_one rfl (opens_slice cs22 un22 (opens_slice cs35 un35 (opens_u64 cs49 un49))) rfl)))) (hval 0 24 v0 rfl rfl) h0
  obtain ⟨_, ⟨_, _, rfl, ⟨rfl, rv0⟩, ⟨v0, rfl, rv1⟩⟩, rfl⟩ := hr_m
  obtain ⟨a0, c0, rfl, rv1_⟩ := RS.explicit rv1
  obtain ⟨o8, rfl⟩ := top_u8 un5 (hval 1 5 v1 rfl rfl) h1
  have h_o : 0 ≤ ((o8.toNat : Nat) : Int) ∧ ((o8.toNat : Nat) : Int) ≤ 255 := by have := o8.isLt; omega
  refine (law_PastDeep (M := NoM) (fun _ h => h.elim) (tab_pastDeep hL) rv0 rv1_ h_o).mono fun e W' ⟨v, he, hv, hg⟩ => ?_
  subst he; subst hv
  exact ⟨_, rfl, law_close kids_pastDeep full_pastDeep (by rw [Tryd.params3]; decide) rfl hW' hg rfl un4 rfl rfl rfl⟩
theorem over_pastDeep : Rows.pastDeepRow.holds Tryd.pinned (OpenSpec.ofChange Rows.pastDeepSpec) :=
  OpenClaim.holds_of_wide  3 Tryd.f3 rfl rfl rfl rfl rfl rfl rfl ⟨rfl, rfl, rfl, rfl, rfl⟩ rfl rfl rfl rfl rfl (by kernel_rfl) Tryd.func3 (by kernel_rfl)
    (of_decide_eq_true (by kernel_rfl)) (by unfold Func.isWrapper; first | (rw [if_pos (by decide +kernel)]; kernel_rfl) | (rw [if_neg (by decide +kernel)]; exact ⟨rfl, rfl⟩))
    (fun os started H enc _ => lifted_pastDeep os started H enc)
/-- THE STATEMENT. -/
theorem pastDeep_proved : Rows.PastDeepCardSaid :=
  Claim7.holds_tied_plain_at .later [] [.data] true (true, "6973715abd386ed8740aaed9045d1cc2d5f56edcacdfe9f2ce9311586634d1dd") false over_pastDeep (fun _ h => by cases h) (by kernel_rfl) (fun _ h => by cases h) pastDeep_row_tie rfl ⟨rfl, rfl⟩ (by kernel_rfl) rfl
    (fun f fn hf hfn => by
      obtain rfl : f = 3 := Option.some.inj ((show Tryd.prog.funcNamed "eyewitness/eyewitnesslaw16.PastDeep" = some 3 by kernel_rfl).symm.trans hf) |>.symm
      obtain rfl : fn = Tryd.f3 := (Option.some.inj (Tryd.func3.symm.trans hfn)).symm
      exact ⟨by kernel_rfl, fun j t ht => by
        rw [Tryd.params3] at ht
        have hm : t ∈ [24, 5] := by simpa using Array.mem_of_getElem? ht
        have hall : ([24, 5].all fun u => !Tryd.prog.wantsStandIn u) = true := by kernel_rfl
        exact (show Tryd.prog.wantsStandIn t = false by simpa using List.all_eq_true.1 hall t hm)⟩)
    (by kernel_rfl)
#print axioms pastDeep_proved
end Go.Proofs.YtcphidhajldefaaDoor

