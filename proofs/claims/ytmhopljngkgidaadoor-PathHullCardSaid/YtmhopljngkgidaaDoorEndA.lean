/- PRINTED by my own tool (wip/tool/close.py): the end of the row PathHull. -/
import Derived.Test.YtmhopljngkgidaaDoorGenB
import Derived.Test.YtmhopljngkgidaaDoorRows
import Derived.Test.YtmhopljngkgidaaDoorOwnA
import Derived.Test.YtmhopljngkgidaaDoorOwnB
import Derived.Test.YtmhopljngkgidaaDoorTie
import Derived.Test.YtmhopljngkgidaaDoorCards
import Derived.SevenTiedAt
import Derived.LaidMore
import Derived.Stop.Joined
namespace Go.Proofs.YtmhopljngkgidaaDoor
open Go Go.Ew Go.ChangeShapes Go.WideShapes Go.ChangeAt Go.RowKit
set_option linter.unusedVariables false
theorem un77 : Tryd.prog.underlying 77 = some (.int .u64) := by kernel_rfl
theorem cs5 : Tryd.prog.cellsOf 5 = 1 := by kernel_rfl
theorem cs22 : Tryd.prog.cellsOf 22 = 1 := by kernel_rfl
theorem cs73 : Tryd.prog.cellsOf 73 = 1 := by kernel_rfl
theorem cs77 : Tryd.prog.cellsOf 77 = 1 := by kernel_rfl
theorem cs3 : Tryd.prog.cellsOf 3 = 1 := by kernel_rfl
theorem cs24 : Tryd.prog.cellsOf 24 = 2 := by kernel_rfl
theorem own_pathHull : ownKnob Tryd.prog.godebug = none := by kernel_rfl
theorem kids_pathHull : Kids Tryd.prog (· < Tryd.prog.types.size) := kids_rows (by kernel_rfl) (by kernel_rfl)
theorem full_pathHull : ∀ t e, t < Tryd.prog.types.size → Tryd.prog.underlying t = some (.slice e) → 0 < Tryd.prog.cellsOf e := slices_full_of Tryd.prog (by kernel_rfl)
theorem gTab_pathHull : Tryd.prog.globalNamed "math/bits.deBruijn64tab" = some 0 := by kernel_rfl
theorem tTab_pathHull : (Tryd.prog.globals[0]?).map (·.type) = some 128 := by kernel_rfl
theorem door_pathHull (os : Os) (args : Array Value) : laidMetH Tryd.prog [("math/bits.deBruijn64tab", Rows.laid_math_bits_deBruijn64tab)] ((World.doorLaid Tryd.prog 400 os).forCall (fun _ _ => 0) ⟨#[], args, []⟩).memory :=
  laidMetH_of_parts3 (fuel := 8) (laidMet_of_run' 8 (by kernel_rfl) (by kernel_rfl)) (by kernel_rfl) (by kernel_rfl)
theorem tab_pathHull {W : World} (h : laidMetH Tryd.prog [("math/bits.deBruijn64tab", Rows.laid_math_bits_deBruijn64tab)] W) : TabAt 0 W :=
  tab_of_laid gTab_pathHull tTab_pathHull un128 un5 cs5 rfl h (by rw [MakeChecks.laidMetH_plain _ _ _ (by kernel_rfl)])
set_option maxRecDepth 100000 in
set_option maxHeartbeats 400000 in
theorem lifted_pathHull (os : Os) (started : os.Started) (H : Type) (enc : TypeId × Value → H) :
    ReturnsInHanded {} Tryd.checked os 9 .any (fun w args => (Rows.pathHullSpec.pre enc Tryd.prog Tryd.f9 [] false w args ∧ laidMetH Tryd.prog [("math/bits.deBruijn64tab", Rows.laid_math_bits_deBruijn64tab)] w) ∧ sizedMet enc Tryd.prog Tryd.f9 (OpenSpec.ofChange Rows.pathHullSpec) false w args)
      (Rows.pathHullSpec.post enc Tryd.prog Tryd.f9 false true false false) := by
  refine returnsInHanded_of_change_and (C := Tryd.checked) (X := fun w _ => laidMetH Tryd.prog [("math/bits.deBruijn64tab", Rows.laid_math_bits_deBruijn64tab)] w) (fun _ _ _ hh h => h.of_heap hh) own_pathHull started (by kernel_rfl) Tryd.func9
    (ChangeSpec.witness_shaped (enc := enc) (C := Tryd.checked) (os := os) (X := fun w _ => laidMetH Tryd.prog [("math/bits.deBruijn64tab", Rows.laid_math_bits_deBruijn64tab)] w) false (World.doorLaid Tryd.prog 400 os) #[.agg #[.int .i64 0, .slice none 0 0], .int .u8 0, .int .u8 0] 8 rfl (World.shaped_of_RefB (by kernel_rfl) (by kernel_rfl)) (by kernel_rfl) (by kernel_rfl) (by kernel_rfl) (door_pathHull os _)) ?_
  intro W base args ds gs before hval0 hW _ _ hL _
  have hval : ∀ (j : Nat) t v, Tryd.f9.params[j]? = some t → args[j]? = some v → Value.okWide Tryd.prog W .any base t v := hval0
  have hW' := hW
  obtain ⟨p, q, hA0, hV, hpq, hfz, hnd⟩ := hW
  have hA : DataW.TrodAll enc Tryd.prog W 0 (fun _ => true) true Tryd.f9.params.toList args.toList ds p := hA0
  rw [Tryd.params9] at hA hval
  obtain ⟨v0, vs0, d0, ds0, p0, q0, hargs, rfl, rfl, h0, tl0⟩ := trodAll_cons hA
  obtain ⟨v1, vs1, d1, ds1, p1, q1, rfl, rfl, rfl, h1, tl1⟩ := trodAll_cons tl0
  obtain ⟨v2, vs2, d2, ds2, p2, q2, rfl, rfl, rfl, h2, tl2⟩ := trodAll_cons tl1
  obtain ⟨rfl, rfl, rfl⟩ := trodAll_nil tl2
  obtain rfl : args = #[v0, v1, v2] := by cases args; simp_all
  obtain ⟨rfl, rfl⟩ := trodVars_none hV
  obtain ⟨m, hr_m⟩ := top_struct (α := (Int × (List (List (BitVec 64))))) Tryd.underlying24 rfl (opens_struct Tryd.underlying24 cs24 (by rw [cs24]; exact (opensR_cons rfl (opens_int cs3 un3) rfl (opensR_one rfl (opens_slice cs22 un22 (opens_slice cs73 un73 (opens_u64 cs77 un77))) rfl)))) (hval 0 24 v0 rfl rfl) h0
  obtain ⟨_, ⟨_, _, rfl, ⟨rfl, rv0⟩, ⟨v0, rfl, rv1⟩⟩, rfl⟩ := hr_m
  obtain ⟨a0, c0, rfl, rv1_⟩ := RS.explicit rv1
  obtain ⟨i8, rfl⟩ := top_u8 un5 (hval 1 5 v1 rfl rfl) h1
  have h_i : 0 ≤ ((i8.toNat : Nat) : Int) ∧ ((i8.toNat : Nat) : Int) ≤ 255 := by have := i8.isLt; omega
  obtain ⟨j8, rfl⟩ := top_u8 un5 (hval 2 5 v2 rfl rfl) h2
  have h_j : 0 ≤ ((j8.toNat : Nat) : Int) ∧ ((j8.toNat : Nat) : Int) ≤ 255 := by have := j8.isLt; omega
  refine (law_PathHull (M := NoM) (fun _ h => h.elim) (tab_pathHull hL) rv0 rv1_ h_i h_j).mono fun e W' ⟨v, he, hv, hg⟩ => ?_
  subst he; subst hv
  exact ⟨_, rfl, law_close kids_pathHull full_pathHull (by rw [Tryd.params9]; decide) rfl hW' hg rfl un4 rfl rfl rfl⟩
theorem over_pathHull : Rows.pathHullRow.holds Tryd.pinned (OpenSpec.ofChange Rows.pathHullSpec) :=
  OpenClaim.holds_of_wide  9 Tryd.f9 rfl rfl rfl rfl rfl rfl rfl ⟨rfl, rfl, rfl, rfl, rfl⟩ rfl rfl rfl rfl rfl (by kernel_rfl) Tryd.func9 (by kernel_rfl)
    (of_decide_eq_true (by kernel_rfl)) (by unfold Func.isWrapper; first | (rw [if_pos (by decide +kernel)]; kernel_rfl) | (rw [if_neg (by decide +kernel)]; exact ⟨rfl, rfl⟩))
    (fun os started H enc _ => lifted_pathHull os started H enc)
theorem pathHull_proved : Rows.PathHullCardSaid :=
  Claim7.holds_tied_plain_at .later [] [.data] true (true, "9f3b58a018527ca29006b6c6a151f9d8b92b73194d1b00b6ae1123083896cda9") false over_pathHull (fun _ h => by cases h) (by kernel_rfl) (fun _ h => by cases h) pathHull_row_tie rfl ⟨rfl, rfl⟩ (by kernel_rfl) rfl
    (fun f fn hf hfn => by
      obtain rfl : f = 9 := Option.some.inj ((show Tryd.prog.funcNamed "eyewitness/eyewitnesslaw14.PathHull" = some 9 by kernel_rfl).symm.trans hf) |>.symm
      obtain rfl : fn = Tryd.f9 := (Option.some.inj (Tryd.func9.symm.trans hfn)).symm
      exact ⟨by kernel_rfl, fun j t ht => by
        rw [Tryd.params9] at ht
        have hm : t ∈ [24, 5, 5] := by simpa using Array.mem_of_getElem? ht
        have hall : ([24, 5, 5].all fun u => !Tryd.prog.wantsStandIn u) = true := by kernel_rfl
        exact (show Tryd.prog.wantsStandIn t = false by simpa using List.all_eq_true.1 hall t hm)⟩)
    (by kernel_rfl)
#print axioms pathHull_proved
end Go.Proofs.YtmhopljngkgidaaDoor

