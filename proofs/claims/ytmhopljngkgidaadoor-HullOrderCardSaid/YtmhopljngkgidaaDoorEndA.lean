/- PRINTED by my own tool (wip/tool/close.py): the end of the row HullOrder. -/
import Derived.Test.YtmhopljngkgidaaDoorGenC
import Derived.Test.YtmhopljngkgidaaDoorRows
import Derived.Test.YtmhopljngkgidaaDoorOwnA
import Derived.Test.YtmhopljngkgidaaDoorOwnC
import Derived.Test.YtmhopljngkgidaaDoorTie
import Derived.Test.YtmhopljngkgidaaDoorCards
import Derived.SevenTiedAt
import Derived.LaidMore
import Derived.Stop.Joined
namespace Go.Proofs.YtmhopljngkgidaaDoor
open Go Go.Ew Go.ChangeShapes Go.WideShapes Go.ChangeAt Go.RowKit
set_option linter.unusedVariables false
theorem un4 : Tryd.prog.underlying 4 = some (.bool) := by kernel_rfl
theorem cs5 : Tryd.prog.cellsOf 5 = 1 := by kernel_rfl
theorem cs37 : Tryd.prog.cellsOf 37 = 1 := by kernel_rfl
theorem cs39 : Tryd.prog.cellsOf 39 = 2 := by kernel_rfl
theorem own_hullOrder : ownKnob Tryd.prog.godebug = none := by kernel_rfl
theorem kids_hullOrder : Kids Tryd.prog (· < Tryd.prog.types.size) := kids_rows (by kernel_rfl) (by kernel_rfl)
theorem full_hullOrder : ∀ t e, t < Tryd.prog.types.size → Tryd.prog.underlying t = some (.slice e) → 0 < Tryd.prog.cellsOf e := slices_full_of Tryd.prog (by kernel_rfl)
theorem gTab_hullOrder : Tryd.prog.globalNamed "math/bits.deBruijn64tab" = some 0 := by kernel_rfl
theorem tTab_hullOrder : (Tryd.prog.globals[0]?).map (·.type) = some 128 := by kernel_rfl
theorem door_hullOrder (os : Os) (args : Array Value) : laidMetH Tryd.prog [("math/bits.deBruijn64tab", Rows.laid_math_bits_deBruijn64tab)] ((World.doorLaid Tryd.prog 400 os).forCall (fun _ _ => 0) ⟨#[], args, []⟩).memory :=
  laidMetH_of_parts3 (fuel := 8) (laidMet_of_run' 8 (by kernel_rfl) (by kernel_rfl)) (by kernel_rfl) (by kernel_rfl)
theorem tab_hullOrder {W : World} (h : laidMetH Tryd.prog [("math/bits.deBruijn64tab", Rows.laid_math_bits_deBruijn64tab)] W) : TabAt 0 W :=
  tab_of_laid gTab_hullOrder tTab_hullOrder un128 un5 cs5 rfl h (by rw [MakeChecks.laidMetH_plain _ _ _ (by kernel_rfl)])
set_option maxRecDepth 100000 in
set_option maxHeartbeats 400000 in
theorem lifted_hullOrder (os : Os) (started : os.Started) (H : Type) (enc : TypeId × Value → H) :
    ReturnsInHanded {} Tryd.checked os 5 .any (fun w args => (Rows.hullOrderSpec.pre enc Tryd.prog Tryd.f5 [] false w args ∧ laidMetH Tryd.prog [("math/bits.deBruijn64tab", Rows.laid_math_bits_deBruijn64tab)] w) ∧ sizedMet enc Tryd.prog Tryd.f5 (OpenSpec.ofChange Rows.hullOrderSpec) false w args)
      (Rows.hullOrderSpec.post enc Tryd.prog Tryd.f5 false true false false) := by
  refine returnsInHanded_of_change_and (C := Tryd.checked) (X := fun w _ => laidMetH Tryd.prog [("math/bits.deBruijn64tab", Rows.laid_math_bits_deBruijn64tab)] w) (fun _ _ _ hh h => h.of_heap hh) own_hullOrder started (by kernel_rfl) Tryd.func5
    (ChangeSpec.witness_shaped (enc := enc) (C := Tryd.checked) (os := os) (X := fun w _ => laidMetH Tryd.prog [("math/bits.deBruijn64tab", Rows.laid_math_bits_deBruijn64tab)] w) false (World.doorLaid Tryd.prog 400 os) #[.int .u8 0, .slice none 0 0, .int .u8 0] 8 rfl (World.shaped_of_RefB (by kernel_rfl) (by kernel_rfl)) (by kernel_rfl) (by kernel_rfl) (by kernel_rfl) (door_hullOrder os _)) ?_
  intro W base args ds gs before hval0 hW _ _ hL _
  have hval : ∀ (j : Nat) t v, Tryd.f5.params[j]? = some t → args[j]? = some v → Value.okWide Tryd.prog W .any base t v := hval0
  have hW' := hW
  obtain ⟨p, q, hA0, hV, hpq, hfz, hnd⟩ := hW
  have hA : DataW.TrodAll enc Tryd.prog W 0 (fun _ => true) true Tryd.f5.params.toList args.toList ds p := hA0
  rw [Tryd.params5] at hA hval
  obtain ⟨v0, vs0, d0, ds0, p0, q0, hargs, rfl, rfl, h0, tl0⟩ := trodAll_cons hA
  obtain ⟨v1, vs1, d1, ds1, p1, q1, rfl, rfl, rfl, h1, tl1⟩ := trodAll_cons tl0
  obtain ⟨v2, vs2, d2, ds2, p2, q2, rfl, rfl, rfl, h2, tl2⟩ := trodAll_cons tl1
  obtain ⟨rfl, rfl, rfl⟩ := trodAll_nil tl2
  obtain rfl : args = #[v0, v1, v2] := by cases args; simp_all
  obtain ⟨rfl, rfl⟩ := trodVars_none hV
  obtain ⟨n8, rfl⟩ := top_u8 un5 (hval 0 5 v0 rfl rfl) h0
  have h_n : 0 ≤ ((n8.toNat : Nat) : Int) ∧ ((n8.toNat : Nat) : Int) ≤ 255 := by have := n8.isLt; omega
  obtain ⟨l, a_l, c_l, rfl, h_l⟩ := top_slice (α := ((BitVec 8) × (BitVec 8))) un37 (opens_slice cs37 un37 (opens_array2 un39 cs39 (opens_u8 cs5 un5))) (hval 1 37 v1 rfl rfl) h1
  obtain ⟨tt8, rfl⟩ := top_u8 un5 (hval 2 5 v2 rfl rfl) h2
  have h_tt : 0 ≤ ((tt8.toNat : Nat) : Int) ∧ ((tt8.toNat : Nat) : Int) ≤ 255 := by have := tt8.isLt; omega
  refine (law_HullOrder (M := NoM) (fun _ h => h.elim) (tab_hullOrder hL) h_n h_l h_tt).mono fun e W' ⟨v, he, hv, hg⟩ => ?_
  subst he; subst hv
  exact ⟨_, rfl, law_close kids_hullOrder full_hullOrder (by rw [Tryd.params5]; decide) rfl hW' hg rfl un4 rfl rfl rfl⟩
theorem over_hullOrder : Rows.hullOrderRow.holds Tryd.pinned (OpenSpec.ofChange Rows.hullOrderSpec) :=
  OpenClaim.holds_of_wide  5 Tryd.f5 rfl rfl rfl rfl rfl rfl rfl ⟨rfl, rfl, rfl, rfl, rfl⟩ rfl rfl rfl rfl rfl (by kernel_rfl) Tryd.func5 (by kernel_rfl)
    (of_decide_eq_true (by kernel_rfl)) (by unfold Func.isWrapper; first | (rw [if_pos (by decide +kernel)]; kernel_rfl) | (rw [if_neg (by decide +kernel)]; exact ⟨rfl, rfl⟩))
    (fun os started H enc _ => lifted_hullOrder os started H enc)
/-- THE STATEMENT. -/
theorem hullOrder_proved : Rows.HullOrderCardSaid :=
  Claim7.holds_tied_plain_at .later [] [.data] true (true, "9f3b58a018527ca29006b6c6a151f9d8b92b73194d1b00b6ae1123083896cda9") false over_hullOrder (fun _ h => by cases h) (by kernel_rfl) (fun _ h => by cases h) hullOrder_row_tie rfl ⟨rfl, rfl⟩ (by kernel_rfl) rfl
    (fun f fn hf hfn => by
      obtain rfl : f = 5 := Option.some.inj ((show Tryd.prog.funcNamed "eyewitness/eyewitnesslaw04.HullOrder" = some 5 by kernel_rfl).symm.trans hf) |>.symm
      obtain rfl : fn = Tryd.f5 := (Option.some.inj (Tryd.func5.symm.trans hfn)).symm
      exact ⟨by kernel_rfl, fun j t ht => by
        rw [Tryd.params5] at ht
        have hm : t ∈ [5, 37, 5] := by simpa using Array.mem_of_getElem? ht
        have hall : ([5, 37, 5].all fun u => !Tryd.prog.wantsStandIn u) = true := by kernel_rfl
        exact (show Tryd.prog.wantsStandIn t = false by simpa using List.all_eq_true.1 hall t hm)⟩)
    (by kernel_rfl)
#print axioms hullOrder_proved
end Go.Proofs.YtmhopljngkgidaaDoor

