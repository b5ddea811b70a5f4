/- PRINTED by my own tool (wip/tool/close.py): the end of the row PathShort. -/
import Derived.Test.YtmhopljngkgidaaDoorGenB
import Derived.Test.YtmhopljngkgidaaDoorRows
import Derived.Test.YtmhopljngkgidaaDoorOwnA
import Derived.Test.YtmhopljngkgidaaDoorOwnB
import Derived.Test.YtmhopljngkgidaaDoorTie
import Derived.Test.YtmhopljngkgidaaDoorCards
import Derived.SevenTiedAt
import Derived.LaidMore
import Derived.Stop.Joined
namespace Go.Proofs.YtmhopljngkgidaaDoor
open Go Go.Ew Go.ChangeShapes Go.WideShapes Go.ChangeAt Go.RowKit
set_option linter.unusedVariables false
theorem un77 : Tryd.prog.underlying 77 = some (.int .u64) := by kernel_rfl
theorem un4 : Tryd.prog.underlying 4 = some (.bool) := by kernel_rfl
theorem cs5 : Tryd.prog.cellsOf 5 = 1 := by kernel_rfl
theorem cs22 : Tryd.prog.cellsOf 22 = 1 := by kernel_rfl
theorem cs73 : Tryd.prog.cellsOf 73 = 1 := by kernel_rfl
theorem cs77 : Tryd.prog.cellsOf 77 = 1 := by kernel_rfl
theorem cs3 : Tryd.prog.cellsOf 3 = 1 := by kernel_rfl
theorem cs24 : Tryd.prog.cellsOf 24 = 2 := by kernel_rfl
theorem cs57 : Tryd.prog.cellsOf 57 = 5 := by kernel_rfl
theorem own_pathShort : ownKnob Tryd.prog.godebug = none := by kernel_rfl
theorem kids_pathShort : Kids Tryd.prog (· < Tryd.prog.types.size) := kids_rows (by kernel_rfl) (by kernel_rfl)
theorem full_pathShort : ∀ t e, t < Tryd.prog.types.size → Tryd.prog.underlying t = some (.slice e) → 0 < Tryd.prog.cellsOf e := slices_full_of Tryd.prog (by kernel_rfl)
theorem gTab_pathShort : Tryd.prog.globalNamed "math/bits.deBruijn64tab" = some 0 := by kernel_rfl
theorem tTab_pathShort : (Tryd.prog.globals[0]?).map (·.type) = some 128 := by kernel_rfl
theorem door_pathShort (os : Os) (args : Array Value) : laidMetH Tryd.prog [("math/bits.deBruijn64tab", Rows.laid_math_bits_deBruijn64tab)] ((World.doorLaid Tryd.prog 400 os).forCall (fun _ _ => 0) ⟨#[], args, []⟩).memory :=
  laidMetH_of_parts3 (fuel := 8) (laidMet_of_run' 8 (by kernel_rfl) (by kernel_rfl)) (by kernel_rfl) (by kernel_rfl)
theorem tab_pathShort {W : World} (h : laidMetH Tryd.prog [("math/bits.deBruijn64tab", Rows.laid_math_bits_deBruijn64tab)] W) : TabAt 0 W :=
  tab_of_laid gTab_pathShort tTab_pathShort un128 un5 cs5 rfl h (by rw [MakeChecks.laidMetH_plain _ _ _ (by kernel_rfl)])
set_option maxRecDepth 100000 in
set_option maxHeartbeats 400000 in
theorem lifted_pathShort (os : Os) (started : os.Started) (H : Type) (enc : TypeId × Value → H) :
    ReturnsInHanded {} Tryd.checked os 10 .any (fun w args => (Rows.pathShortSpec.pre enc Tryd.prog Tryd.f10 [] false w args ∧ laidMetH Tryd.prog [("math/bits.deBruijn64tab", Rows.laid_math_bits_deBruijn64tab)] w) ∧ sizedMet enc Tryd.prog Tryd.f10 (OpenSpec.ofChange Rows.pathShortSpec) false w args)
      (Rows.pathShortSpec.post enc Tryd.prog Tryd.f10 false true false false) := by
  refine returnsInHanded_of_change_and (C := Tryd.checked) (X := fun w _ => laidMetH Tryd.prog [("math/bits.deBruijn64tab", Rows.laid_math_bits_deBruijn64tab)] w) (fun _ _ _ hh h => h.of_heap hh) own_pathShort started (by kernel_rfl) Tryd.func10
    (ChangeSpec.witness_shaped (enc := enc) (C := Tryd.checked) (os := os) (X := fun w _ => laidMetH Tryd.prog [("math/bits.deBruijn64tab", Rows.laid_math_bits_deBruijn64tab)] w) false (World.doorLaid Tryd.prog 400 os) #[.agg #[.int .i64 0, .slice none 0 0, .int .u8 0, .int .u8 0, .int .u8 0]] 8 rfl (World.shaped_of_RefB (by kernel_rfl) (by kernel_rfl)) (by kernel_rfl) (by kernel_rfl) (by kernel_rfl) (door_pathShort os _)) ?_
  intro W base args ds gs before hval0 hW _ _ hL _
  have hval : ∀ (j : Nat) t v, Tryd.f10.params[j]? = some t → args[j]? = some v → Value.okWide Tryd.prog W .any base t v := hval0
  have hW' := hW
  obtain ⟨p, q, hA0, hV, hpq, hfz, hnd⟩ := hW
  have hA : DataW.TrodAll enc Tryd.prog W 0 (fun _ => true) true Tryd.f10.params.toList args.toList ds p := hA0
  rw [Tryd.params10] at hA hval
  obtain ⟨v0, vs0, d0, ds0, p0, q0, hargs, rfl, rfl, h0, tl0⟩ := trodAll_cons hA
  obtain ⟨rfl, rfl, rfl⟩ := trodAll_nil tl0
  obtain rfl : args = #[v0] := by cases args; simp_all
  obtain ⟨rfl, rfl⟩ := trodVars_none hV
  obtain ⟨z, hr_z⟩ := top_struct (α := ((Int × (List (List (BitVec 64)))) × (BitVec 8) × (BitVec 8) × (BitVec 8))) Tryd.underlying57 rfl (opens_struct Tryd.underlying57 cs57 (by rw [cs57]; exact (opensR_cons rfl (opens_struct Tryd.underlying24 cs24 (by rw [cs24]; exact (opensR_cons rfl (opens_int cs3 un3) rfl (opensR_one rfl (opens_slice cs22 un22 (opens_slice cs73 un73 (opens_u64 cs77 un77))) rfl)))) rfl (opensR_cons rfl (opens_u8 cs5 un5) rfl (opensR_cons rfl (opens_u8 cs5 un5) rfl (opensR_one rfl (opens_u8 cs5 un5) rfl)))))) (hval 0 57 v0 rfl rfl) h0
  obtain ⟨_, ⟨_, _, rfl, ⟨_, _, rfl, ⟨rfl, rv0⟩, ⟨v0, rfl, rv1⟩⟩, ⟨_, _, rfl, rfl, ⟨_, _, rfl, rfl, rfl⟩⟩⟩, rfl⟩ := hr_z
  obtain ⟨a0, c0, rfl, rv1_⟩ := RS.explicit rv1
  refine (law_PathShort (M := NoM) (fun _ h => h.elim) (tab_pathShort hL) rv0 rv1_ (show 0 ≤ (((z.2.1).toNat : Nat) : Int) ∧ (((z.2.1).toNat : Nat) : Int) ≤ 255 from by have := (z.2.1).isLt; omega) (show 0 ≤ (((z.2.2.1).toNat : Nat) : Int) ∧ (((z.2.2.1).toNat : Nat) : Int) ≤ 255 from by have := (z.2.2.1).isLt; omega) (show 0 ≤ (((z.2.2.2).toNat : Nat) : Int) ∧ (((z.2.2.2).toNat : Nat) : Int) ≤ 255 from by have := (z.2.2.2).isLt; omega)).mono fun e W' ⟨v, he, hv, hg⟩ => ?_
  subst he; subst hv
  exact ⟨_, rfl, law_close kids_pathShort full_pathShort (by rw [Tryd.params10]; decide) rfl hW' hg rfl un4 rfl rfl rfl⟩
theorem over_pathShort : Rows.pathShortRow.holds Tryd.pinned (OpenSpec.ofChange Rows.pathShortSpec) :=
  OpenClaim.holds_of_wide  10 Tryd.f10 rfl rfl rfl rfl rfl rfl rfl ⟨rfl, rfl, rfl, rfl, rfl⟩ rfl rfl rfl rfl rfl (by kernel_rfl) Tryd.func10 (by kernel_rfl)
    (of_decide_eq_true (by kernel_rfl)) (by unfold Func.isWrapper; first | (rw [if_pos (by decide +kernel)]; kernel_rfl) | (rw [if_neg (by decide +kernel)]; exact ⟨rfl, rfl⟩))
    (fun os started H enc _ => lifted_pathShort os started H enc)
theorem pathShort_proved : Rows.PathShortCardSaid :=
  Claim7.holds_tied_plain_at .later [] [.data] true (true, "9f3b58a018527ca29006b6c6a151f9d8b92b73194d1b00b6ae1123083896cda9") false over_pathShort (fun _ h => by cases h) (by kernel_rfl) (fun _ h => by cases h) pathShort_row_tie rfl ⟨rfl, rfl⟩ (by kernel_rfl) rfl
    (fun f fn hf hfn => by
      obtain rfl : f = 10 := Option.some.inj ((show Tryd.prog.funcNamed "eyewitness/eyewitnesslaw14.PathShort" = some 10 by kernel_rfl).symm.trans hf) |>.symm
      obtain rfl : fn = Tryd.f10 := (Option.some.inj (Tryd.func10.symm.trans hfn)).symm
      exact ⟨by kernel_rfl, fun j t ht => by
        rw [Tryd.params10] at ht
        have hm : t ∈ [57] := by simpa using Array.mem_of_getElem? ht
        have hall : ([57].all fun u => !Tryd.prog.wantsStandIn u) = true := by kernel_rfl
        exact (show Tryd.prog.wantsStandIn t = false by simpa using List.all_eq_true.1 hall t hm)⟩)
    (by kernel_rfl)
#print axioms pathShort_proved
end Go.Proofs.YtmhopljngkgidaaDoor

