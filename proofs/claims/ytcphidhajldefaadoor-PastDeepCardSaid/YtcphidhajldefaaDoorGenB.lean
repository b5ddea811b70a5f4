/- PRINTED by my own tool (wip/tool/gen.py): contracts of Go functions of this seat, each with its proof. -/
import Derived.Test.YtcphidhajldefaaDoorOwnB
import Derived.Test.YtcphidhajldefaaDoorOwnC
import Derived.Test.YtcphidhajldefaaDoorGenA
namespace Go.Proofs.YtcphidhajldefaaDoor
open Go.Ew Go.RowKit
set_option linter.unusedVariables false
set_option linter.unusedSimpArgs false
attribute [local irreducible] WL WC SO Code.wp wpList retQ Ret
attribute [local irreducible] bitB hasW inR hasR setR countW countR subR words newR listR orR firstW tab8
theorem go4 : GoF Tryd.prog 4 := ⟨_, _, Tryd.func4, rfl, by kernel_rfl⟩
theorem go6 : GoF Tryd.prog 6 := ⟨_, _, Tryd.func6, rfl, by kernel_rfl⟩
theorem go5 : GoF Tryd.prog 5 := ⟨_, _, Tryd.func5, rfl, by kernel_rfl⟩
theorem go7 : GoF Tryd.prog 7 := ⟨_, _, Tryd.func7, rfl, by kernel_rfl⟩
theorem go8 : GoF Tryd.prog 8 := ⟨_, _, Tryd.func8, rfl, by kernel_rfl⟩
/- eyewitness/eyewitnesslaw16.PastDeep -/
set_option maxRecDepth 100000 in
set_option maxHeartbeats 1600000 in
theorem law_PastDeep {M : Nat → Prop} {w : World} {mn : Int} {a_mr : Option Addr} {c_mr : Nat} {mr : List (List (BitVec 64))} {o : Int} (hM : ∀ b, M b → b < w.heap.size) (hT : TabAt 0 w) (h_mn : I64 mn) (h_mr : RV M w (.slice a_mr mr.length c_mr) mr) (h_o : 0 ≤ o ∧ o ≤ 255) : Calls Tryd.prog 3 #[.agg #[.int .i64 mn, .slice a_mr mr.length c_mr], .int .u8 o] w (Ret fun v w' =>  v = .bool true ∧ Ext w w') := by
  refine enter 105 Tryd.func3 rfl rfl rfl fun f0 ha => ?_
  have H := HI.start (M0 := M) (w := w) hM
  have H0 := H.put (it := imm (.slice a_mr mr.length c_mr) mr) rfl (by rw [MS_nil]; exact h_mr)
  have ln_mr := rv_len h_mr
  have i0 : f0 0 = .agg #[.int .i64 mn, .slice a_mr mr.length c_mr] := ha 0 (by simp)
  have i1 : f0 1 = .int .u8 o := ha 1 (by simp)
  refine sq (rg (k (bx H0 rfl i0 ?_)))
  intro bb0 w0 xt0 (H1 : HI M w w0 [box bb0 #[.int .i64 mn, .slice a_mr mr.length c_mr] 24, imm (.slice a_mr mr.length c_mr) mr])
  refine k (asg (v := .bool false) rfl rfl (z (nx (sq (sq (rg (k (ldX H1 0 rfl ty24 rfl rfl (by decide) rfl (k ?_)))))))))
  have cc0 := ref03_Small (mn := mn) (mr := mr) (mo := 16) (w := w0) H1.mb (by unfold I64 at *; omega) (H1.rv 1 rfl) (by unfold I64 at *; omega)
  refine ca go4 rfl (ec rfl (ec rfl e0)) cc0 ?_
  rintro _ w1 ⟨rfl, xt1⟩
  have H2 := H1.ext xt1
  refine k (not_ rfl rfl (k (mv (v := .bool (!(smallM mr 16))) rfl rfl ?_)))
  rcases Bool.eq_false_or_eq_true (!(smallM mr 16)) with b0 | b0
  · -- !(smallM mr 16) is True
    refine k (gn rfl rfl rfl b0 (k (gn rfl rfl rfl b0 (k (gn rfl rfl rfl b0 (k (pickT rfl rfl rfl rfl b0 rfl (k (mv (v := .bool true) rfl rfl (k (gn rfl rfl rfl rfl (k (gn rfl rfl rfl rfl (k (gn rfl rfl rfl rfl (k (pickT rfl rfl rfl rfl rfl rfl (z (nx (cdT rfl rfl rfl (sq (rg (k ?_)))))))))))))))))))))))
    have cc1 := awake16 (w := w1) (hT.ext H2.below)
    refine ca go6 rfl e0 cc1 ?_
    rintro _ w2 ⟨rfl, xt2⟩
    have H3 := H2.ext xt2
    refine k (asg (v := .bool true) rfl rfl (z (nx (rt (then_ret (r1 rfl rfl ?_))))))
    exact ⟨rfl, H3.below⟩
  · -- !(smallM mr 16) is False
    refine k (gy rfl rfl rfl b0 (ldX H2 0 rfl ty24 rfl rfl (by decide) rfl (k (gy rfl rfl rfl b0 ?_))))
    have cc1 := ref03_Right (mn := mn) (mr := mr) (w := w1) H2.mb (by unfold I64 at *; omega) (H2.rv 1 rfl)
    refine ca go5 rfl (ec rfl e0) cc1 ?_
    rintro _ w2 ⟨rfl, xt2⟩
    have H3 := H2.ext xt2
    refine k (gy rfl rfl rfl b0 (not_ rfl rfl (k (pickF rfl rfl rfl rfl b0 rfl (k (mv (v := .bool (!(rightS mn mr))) rfl rfl ?_))))))
    rcases Bool.eq_false_or_eq_true (!(rightS mn mr)) with b1 | b1
    · -- !(rightS mn mr) is True
      refine k (gn rfl rfl rfl b1 (k (gn rfl rfl rfl b1 (k (gn rfl rfl rfl b1 (k (pickT rfl rfl rfl rfl b1 rfl (z (nx (cdT rfl rfl rfl (sq (rg (k ?_)))))))))))))
      have cc2 := awake16 (w := w2) (hT.ext H3.below)
      refine ca go6 rfl e0 cc2 ?_
      rintro _ w3 ⟨rfl, xt3⟩
      have H4 := H3.ext xt3
      refine k (asg (v := .bool true) rfl rfl (z (nx (rt (then_ret (r1 rfl rfl ?_))))))
      exact ⟨rfl, H4.below⟩
    · -- !(rightS mn mr) is False
      refine k (gy rfl rfl rfl b1 (fa fl24_0 rfl rfl (k (gy rfl rfl rfl b1 (ldX H3 0 rfl ty3 rfl rfl (by decide) rfl (k (gy rfl rfl rfl b1 (eql rfl rfl rfl rfl (k (pickF rfl rfl rfl rfl b1 rfl (z (nx ?_))))))))))))
      refine cd (b := decide (mn = 0)) rfl rfl (fun b2 => ?_) (fun b2 => ?_)
      ·
        have p2 := of_decide_eq_true b2
        refine sq (rg (k ?_))
        have cc2 := awake16 (w := w2) (hT.ext H3.below)
        refine ca go6 rfl e0 cc2 ?_
        rintro _ w3 ⟨rfl, xt3⟩
        have H4 := H3.ext xt3
        refine k (asg (v := .bool true) rfl rfl (z (nx (rt (then_ret (r1 rfl rfl ?_))))))
        exact ⟨rfl, H4.below⟩
      ·
        have p2 := of_decide_eq_false b2
        refine sk (nx (sq ?_))
        have rtm_ : rightS mn mr = true := by simpa using ‹(!rightS mn mr) = false›
        have hl_ := (right_sq rtm_).1
        have h0_ := right_pos rtm_
        have h4_ := (right_sq rtm_).2.2.1
        have hz_ : ¬ mn = 0 := by assumption
        have hk_ : 0 ≤ o % mn ∧ o % mn < mn := ⟨Int.emod_nonneg _ hz_, Int.emod_lt_of_pos _ (by omega)⟩
        have pl_ := pastL_len (closeM_right rtm_) (o % mn)
        have wl_ := withL_len (closeM_right rtm_) (o % mn)
        refine rg (k (ldX H3 0 rfl ty24 rfl rfl (by decide) rfl (k ?_)))
        have cc2 := ref04_Close (mn := mn) (mr := mr) (w := w2) H3.mb (by unfold I64 at *; omega) (H3.rv 1 rfl) (by first | exact rtm_ | exact (closeM_right rtm_))
        refine ca go7 rfl (ec rfl e0) cc2 ?_
        rintro _ w3 ⟨a0, c0, rfl, xt3, rv0⟩
        have H4 := H3.ext xt3
        have H5 := H4.put (it := imm (.slice a0 (closeM mn mr).length c0) (closeM mn mr)) rfl rv0
        refine k (al H5 ty24 ?_)
        intro bb1 w4 xt4 (H6 : HI M w w4 [box bb1 #[.int .i64 0, .slice none 0 0] 24, imm (.slice a0 (closeM mn mr).length c0) (closeM mn mr), box bb0 #[.int .i64 mn, .slice a_mr mr.length c_mr] 24, imm (.slice a_mr mr.length c_mr) mr])
        refine k (stX H6 0 rfl ty24 rfl rfl rfl rfl rfl rfl rfl ?_)
        intro w5 (H7 : HI M w w5 [box bb1 #[.int .i64 mn, .slice a0 (closeM mn mr).length c0] 24, imm (.slice a0 (closeM mn mr).length c0) (closeM mn mr), box bb0 #[.int .i64 mn, .slice a_mr mr.length c_mr] 24, imm (.slice a_mr mr.length c_mr) mr])
        refine z (nx (sq (rg (k (ldX H7 0 rfl ty24 rfl rfl (by decide) rfl (k ?_))))))
        have cc3 := ref04_Loop (mn := mn) (mr := (closeM mn mr)) (w := w5) H7.mb (by unfold I64 at *; omega) (H7.rv 1 rfl) (by first | exact (right_sq rtm_).1 | exact (right_sq rtm_).2.1 | exact (right_sq rtm_).2.2.1 | exact (right_sq rtm_).2.2.2.2 | exact (right_sq (closeM_right rtm_)).1 | exact (right_sq (closeM_right rtm_)).2.1 | exact (right_sq (closeM_right rtm_)).2.2.1 | exact (right_sq (closeM_right rtm_)).2.2.2.2) (by first | exact (right_sq rtm_).1 | exact (right_sq rtm_).2.1 | exact (right_sq rtm_).2.2.1 | exact (right_sq rtm_).2.2.2.2 | exact (right_sq (closeM_right rtm_)).1 | exact (right_sq (closeM_right rtm_)).2.1 | exact (right_sq (closeM_right rtm_)).2.2.1 | exact (right_sq (closeM_right rtm_)).2.2.2.2) (by first | exact (right_sq rtm_).1 | exact (right_sq rtm_).2.1 | exact (right_sq rtm_).2.2.1 | exact (right_sq rtm_).2.2.2.2 | exact (right_sq (closeM_right rtm_)).1 | exact (right_sq (closeM_right rtm_)).2.1 | exact (right_sq (closeM_right rtm_)).2.2.1 | exact (right_sq (closeM_right rtm_)).2.2.2.2)
        refine ca go8 rfl (ec rfl e0) cc3 ?_
        rintro _ w6 ⟨rfl, xt5⟩
        have H8 := H7.ext xt5
        refine k (mv (v := .tuple #[.int .i64 (((loopF mn (closeM mn mr)).getD 0 : Nat) : Int), .bool ((loopF mn (closeM mn mr)).isSome)]) rfl rfl (k (xt rfl rfl rfl (k (xt rfl rfl rfl (k (asg (v := .int .i64 (((loopF mn (closeM mn mr)).getD 0 : Nat) : Int)) rfl rfl (k (asg (v := .bool ((loopF mn (closeM mn mr)).isSome)) rfl rfl (z (nx (sq (rg (k (mv rfl i1 (k (cvI rfl rfl (by unfold I64 at *; omega) un5 un3 (k (fa fl24_0 rfl rfl (k (ldX H8 2 rfl ty3 rfl rfl (by decide) rfl (k (rem rfl rfl rfl rfl (by first | omega | (simp; omega)) (k (asg (v := .int .i64 (o % mn)) rfl rfl (z (nx (sq (rg (k (ldX H8 0 rfl ty24 rfl rfl (by decide) rfl (k (mv (v := .int .i64 (o % mn)) rfl rfl (k ?_))))))))))))))))))))))))))))))))))
        have cc4 := past_Of (mn := mn) (mr := (closeM mn mr)) (o := (o % mn)) (w := w6) H8.mb (hT.ext H8.below) (by unfold I64 at *; omega) (H8.rv 1 rfl) (by unfold I64 at *; omega) (by first | exact rtm_ | exact (closeM_right rtm_))
        refine ca go9 rfl (ec rfl (ec rfl e0)) cc4 ?_
        rintro _ w7 ⟨a1, c1, rfl, xt6, rv1⟩
        have H9 := H8.ownsG rv1
        refine k (asg (v := .slice a1 (pastL mn (closeM mn mr) (o % mn)).length c1) rfl rfl (z (nx (sq (rg (k (ldX H9 1 rfl ty24 rfl rfl (by decide) rfl (k (mv (v := .int .i64 (o % mn)) rfl rfl (k ?_))))))))))
        have cc5 := past_With (mn := mn) (mr := (closeM mn mr)) (o := (o % mn)) (w := w7) H9.mb (hT.ext H9.below) (by unfold I64 at *; omega) (H9.rv 2 rfl) (by unfold I64 at *; omega) (by first | exact rtm_ | exact (closeM_right rtm_))
        refine ca go10 rfl (ec rfl (ec rfl e0)) cc5 ?_
        rintro _ w8 ⟨a2, c2, rfl, xt7, rv2⟩
        have H10 := H9.ownsG rv2
        refine k (asg (v := .slice a2 (withL mn (closeM mn mr) (o % mn)).length c2) rfl rfl (z (nx (sq (sq (rg (k (mv (v := .bool ((loopF mn (closeM mn mr)).isSome)) rfl rfl (z (nx ?_))))))))))
        refine cd (b := (loopF mn (closeM mn mr)).isSome) rfl rfl (fun b3 => ?_) (fun b3 => ?_)
        ·
          refine sq (rg (k ?_))
          have cc6 := awake16 (w := w8) (hT.ext H10.below)
          refine ca go6 rfl e0 cc6 ?_
          rintro _ w9 ⟨rfl, xt8⟩
          have H11 := H10.ext xt8
          refine k (asg (v := .bool true) rfl rfl (z (nx (rt (then_ret (r1 rfl rfl ?_))))))
          exact ⟨rfl, H11.below⟩
        ·
          refine sk (nx (sq (sq ?_)))
          have hr_ : (loopF mn (closeM mn mr)).isSome = false := by assumption
          refine rg (k (asg (v := .int .i64 0) rfl rfl (z (nx (bk ?_)))))
          refine lp (fun m f w' => ∃ (i : Nat), m = (pastL mn (closeM mn mr) (o % mn)).length - i ∧ f 5 = .pointer (some ⟨bb1, 0, none⟩) ∧ f 8 = .int .i64 (o % mn) ∧ f 9 = .slice a1 (pastL mn (closeM mn mr) (o % mn)).length c1 ∧ f 10 = .slice a2 (withL mn (closeM mn mr) (o % mn)).length c2 ∧ f 11 = .int .i64 (i : Int) ∧  HI M w w' [own w.heap.size 3 (.slice a2 (withL mn (closeM mn mr) (o % mn)).length c2) (withL mn (closeM mn mr) (o % mn)), own w.heap.size 3 (.slice a1 (pastL mn (closeM mn mr) (o % mn)).length c1) (pastL mn (closeM mn mr) (o % mn)), box bb1 #[.int .i64 mn, .slice a0 (closeM mn mr).length c0] 24, imm (.slice a0 (closeM mn mr).length c0) (closeM mn mr), box bb0 #[.int .i64 mn, .slice a_mr mr.length c_mr] 24, imm (.slice a_mr mr.length c_mr) mr] ∧ (i ≤ (pastL mn (closeM mn mr) (o % mn)).length)) _ ⟨0, rfl, rfl, rfl, rfl, rfl, (ieq rfl (by first | rfl | omega | simp)), H10, (by first | assumption | omega | simp | (simp; omega))⟩ ?_
          rintro _ f0 w9 ⟨i, rfl, s0, s1, s2, s3, s4, H11, hi_⟩
          refine sq (sq (rg (k (mv rfl s4 (k (mv rfl s2 (k (lnS rfl rfl un31 (k (lss rfl rfl rfl rfl (z (nx ?_))))))))))))
          refine cd (b := decide ((i : Int) < ((pastL mn (closeM mn mr) (o % mn)).length : Int))) rfl rfl (fun b4 => ?_) (fun b4 => ?_)
          ·
            have p4 := of_decide_eq_true b4
            refine sk (nx (sq (bk (sq ?_))))
            obtain ⟨x0, hx0⟩ : ∃ x, (pastL mn (closeM mn mr) (o % mn))[(i : Int).toNat]? = some x := ⟨_, List.getElem?_eq_getElem (by first | omega | (simp; omega))⟩
            refine dr 5 [fun (v : Value) (w' : World) => v = .agg #[.int .i64 mn, .slice a0 (closeM mn mr).length c0], fun (v : Value) (w' : World) => v = .slice a1 (pastL mn (closeM mn mr) (o % mn)).length c1, fun (v : Value) (w' : World) => v = .int .i64 (i : Int), fun (v : Value) (w' : World) => ∃ (g0 : Nat), v = .pointer (some ⟨g0, (i : Int).toNat * 1, none⟩) ∧ (.slice a1 (pastL mn (closeM mn mr) (o % mn)).length c1 : Value).ownBlock = some g0 ∧ AtW (MS M [own w.heap.size 3 (.slice a2 (withL mn (closeM mn mr) (o % mn)).length c2) (withL mn (closeM mn mr) (o % mn)), own w.heap.size 3 (.slice a1 (pastL mn (closeM mn mr) (o % mn)).length c1) (pastL mn (closeM mn mr) (o % mn)), box bb1 #[.int .i64 mn, .slice a0 (closeM mn mr).length c0] 24, imm (.slice a0 (closeM mn mr).length c0) (closeM mn mr), box bb0 #[.int .i64 mn, .slice a_mr mr.length c_mr] 24, imm (.slice a_mr mr.length c_mr) mr]) w' ⟨g0, (i : Int).toNat * 1, none⟩ x0, fun (v : Value) (w' : World) => v = .int .i64 x0 ∧ I64 (x0)] rfl (by kernel_rfl) ?_ ?_
            ·
              refine ⟨fun _ => ⟨fun f1 w10 hf0 xt8 hp0 => ?_, fun _ _ _ _ h => h⟩, ?_⟩
              ·
                have H12 := H11.ext xt8
                refine ldX H12 2 rfl ty24 rfl ((hf0 5 rfl).trans s0) (by decide) rfl ?_
                exact ⟨_, rfl, Ext.refl _, rfl⟩
              refine ⟨fun _ => ⟨fun f2 w11 hf1 xt9 hp1 => ?_, fun _ _ _ _ h => h⟩, ?_⟩
              ·
                have H13 := H11.ext xt9
                refine mv rfl ((hf1 9 rfl).trans s2) ?_
                exact ⟨_, rfl, Ext.refl _, rfl⟩
              refine ⟨fun _ => ⟨fun f3 w12 hf2 xt10 hp2 => ?_, fun _ _ _ _ h => h⟩, ?_⟩
              ·
                have H14 := H11.ext xt10
                refine mv rfl ((hf2 11 rfl).trans s4) ?_
                exact ⟨_, rfl, Ext.refl _, rfl⟩
              refine ⟨fun _ => ⟨fun f4 w13 hf3 xt11 hp3 => ?_, by rintro _ _ _ x_ ⟨g0, e_, hv0, hA0⟩; exact ⟨g0, e_, hv0, hA0.ext x_⟩⟩, ?_⟩
              ·
                have H15 := H11.ext xt11
                have s5 : f4 55 = .slice a1 (pastL mn (closeM mn mr) (o % mn)).length c1 := hp3 1 rfl rfl
                have s6 : f4 56 = .int .i64 (i : Int) := hp3 2 rfl rfl
                refine iaO (H15.at_ 1 rfl) rfl rfl s5 s6 (by first | omega | (simp; omega)) un31 ty3 ?_
                intro g1 x1 hv1 hx1 hA1
                obtain rfl : x0 = x1 := Option.some.inj (hx0.symm.trans hx1)
                exact ⟨_, rfl, Ext.refl _, ⟨g1, rfl, hv1, hA1⟩⟩
              refine ⟨fun _ => ⟨fun f5 w14 hf4 xt12 hp4 => ?_, fun _ _ _ _ h => h⟩, ?_⟩
              ·
                have H16 := H11.ext xt12
                obtain ⟨g2, s7, hv2, hA2⟩ : ∃ (g2 : Nat), f5 57 = .pointer (some ⟨g2, (i : Int).toNat * 1, none⟩) ∧ (.slice a1 (pastL mn (closeM mn mr) (o % mn)).length c1 : Value).ownBlock = some g2 ∧ AtW (MS M [own w.heap.size 3 (.slice a2 (withL mn (closeM mn mr) (o % mn)).length c2) (withL mn (closeM mn mr) (o % mn)), own w.heap.size 3 (.slice a1 (pastL mn (closeM mn mr) (o % mn)).length c1) (pastL mn (closeM mn mr) (o % mn)), box bb1 #[.int .i64 mn, .slice a0 (closeM mn mr).length c0] 24, imm (.slice a0 (closeM mn mr).length c0) (closeM mn mr), box bb0 #[.int .i64 mn, .slice a_mr mr.length c_mr] 24, imm (.slice a_mr mr.length c_mr) mr]) w14 ⟨g2, (i : Int).toNat * 1, none⟩ x0 := hp4 3 rfl rfl
                refine ldI hA2 ty3 rfl s7 ?_
                intro rv4
                exact ⟨_, rfl, Ext.refl _, ⟨rfl, rv4⟩⟩
              exact DSteps.rest rfl _
            · intro f6 w15 hf5 xt13 hp5
              have H17 := H11.ext xt13
              have s8 : f6 5 = .pointer (some ⟨bb1, 0, none⟩) := (hf5 5 rfl).trans s0
              have s9 : f6 8 = .int .i64 (o % mn) := (hf5 8 rfl).trans s1
              have s10 : f6 9 = .slice a1 (pastL mn (closeM mn mr) (o % mn)).length c1 := (hf5 9 rfl).trans s2
              have s11 : f6 10 = .slice a2 (withL mn (closeM mn mr) (o % mn)).length c2 := (hf5 10 rfl).trans s3
              have s12 : f6 11 = .int .i64 (i : Int) := (hf5 11 rfl).trans s4
              have s13 : f6 54 = .agg #[.int .i64 mn, .slice a0 (closeM mn mr).length c0] := hp5 0 rfl
              obtain ⟨s14, rv5⟩ : f6 58 = .int .i64 x0 ∧ I64 (x0) := hp5 4 rfl
              refine k ?_
              have cc6 := past_Of (mn := mn) (mr := (closeM mn mr)) (o := x0) (w := w15) H17.mb (hT.ext H17.below) (by unfold I64 at *; omega) (H17.rv 3 rfl) (by first | assumption | (unfold I64 at *; omega)) (by first | exact rtm_ | exact (closeM_right rtm_))
              refine ca go9 rfl (ec s13 (ec s14 e0)) cc6 ?_
              rintro _ w16 ⟨a3, c3, rfl, xt14, rv6⟩
              have H18 := H17.ownsG rv6
              refine k (asg (v := .slice a3 (pastL mn (closeM mn mr) x0).length c3) rfl rfl (z (nx (sq (sq ?_)))))
              have pl2_ := pastL_len (closeM_right rtm_) x0
              refine rg (k (asg (v := .int .i64 0) rfl rfl (z (nx (bk ?_)))))
              refine lp (fun m f w' => ∃ (q : Nat), m = (pastL mn (closeM mn mr) x0).length - q ∧ f 5 = .pointer (some ⟨bb1, 0, none⟩) ∧ f 8 = .int .i64 (o % mn) ∧ f 9 = .slice a1 (pastL mn (closeM mn mr) (o % mn)).length c1 ∧ f 10 = .slice a2 (withL mn (closeM mn mr) (o % mn)).length c2 ∧ f 11 = .int .i64 (i : Int) ∧ f 12 = .slice a3 (pastL mn (closeM mn mr) x0).length c3 ∧ f 13 = .int .i64 (q : Int) ∧  HI M w w' [own w.heap.size 3 (.slice a3 (pastL mn (closeM mn mr) x0).length c3) (pastL mn (closeM mn mr) x0), own w.heap.size 3 (.slice a2 (withL mn (closeM mn mr) (o % mn)).length c2) (withL mn (closeM mn mr) (o % mn)), own w.heap.size 3 (.slice a1 (pastL mn (closeM mn mr) (o % mn)).length c1) (pastL mn (closeM mn mr) (o % mn)), box bb1 #[.int .i64 mn, .slice a0 (closeM mn mr).length c0] 24, imm (.slice a0 (closeM mn mr).length c0) (closeM mn mr), box bb0 #[.int .i64 mn, .slice a_mr mr.length c_mr] 24, imm (.slice a_mr mr.length c_mr) mr] ∧ (q ≤ (pastL mn (closeM mn mr) x0).length)) _ ⟨0, rfl, s8, s9, s10, s11, s12, rfl, (ieq rfl (by first | rfl | omega | simp)), H18, (by first | assumption | omega | simp | (simp; omega))⟩ ?_
              rintro _ f7 w17 ⟨q, rfl, s15, s16, s17, s18, s19, s20, s21, H19, hq_⟩
              refine sq (sq (rg (k (mv rfl s21 (k (mv rfl s20 (k (lnS rfl rfl un31 (k (lss rfl rfl rfl rfl (z (nx ?_))))))))))))
              refine cd (b := decide ((q : Int) < ((pastL mn (closeM mn mr) x0).length : Int))) rfl rfl (fun b5 => ?_) (fun b5 => ?_)
              ·
                have p5 := of_decide_eq_true b5
                refine sk (nx (sq (bk (sq ?_))))
                obtain ⟨x2, hx2⟩ : ∃ x, (pastL mn (closeM mn mr) x0)[(q : Int).toNat]? = some x := ⟨_, List.getElem?_eq_getElem (by first | omega | (simp; omega))⟩
                refine dr 6 [fun (v : Value) (w' : World) => v = .agg #[.int .i64 mn, .slice a0 (closeM mn mr).length c0], fun (v : Value) (w' : World) => v = .slice a3 (pastL mn (closeM mn mr) x0).length c3, fun (v : Value) (w' : World) => v = .int .i64 (q : Int), fun (v : Value) (w' : World) => ∃ (g3 : Nat), v = .pointer (some ⟨g3, (q : Int).toNat * 1, none⟩) ∧ (.slice a3 (pastL mn (closeM mn mr) x0).length c3 : Value).ownBlock = some g3 ∧ AtW (MS M [own w.heap.size 3 (.slice a3 (pastL mn (closeM mn mr) x0).length c3) (pastL mn (closeM mn mr) x0), own w.heap.size 3 (.slice a2 (withL mn (closeM mn mr) (o % mn)).length c2) (withL mn (closeM mn mr) (o % mn)), own w.heap.size 3 (.slice a1 (pastL mn (closeM mn mr) (o % mn)).length c1) (pastL mn (closeM mn mr) (o % mn)), box bb1 #[.int .i64 mn, .slice a0 (closeM mn mr).length c0] 24, imm (.slice a0 (closeM mn mr).length c0) (closeM mn mr), box bb0 #[.int .i64 mn, .slice a_mr mr.length c_mr] 24, imm (.slice a_mr mr.length c_mr) mr]) w' ⟨g3, (q : Int).toNat * 1, none⟩ x2, fun (v : Value) (w' : World) => v = .int .i64 x2 ∧ I64 (x2), fun (v : Value) (w' : World) => v = .int .i64 (o % mn)] rfl (by kernel_rfl) ?_ ?_
                ·
                  refine ⟨fun _ => ⟨fun f8 w18 hf6 xt15 hp6 => ?_, fun _ _ _ _ h => h⟩, ?_⟩
                  ·
                    have H20 := H19.ext xt15
                    refine ldX H20 3 rfl ty24 rfl ((hf6 5 rfl).trans s15) (by decide) rfl ?_
                    exact ⟨_, rfl, Ext.refl _, rfl⟩
                  refine ⟨fun _ => ⟨fun f9 w19 hf7 xt16 hp7 => ?_, fun _ _ _ _ h => h⟩, ?_⟩
                  ·
                    have H21 := H19.ext xt16
                    refine mv rfl ((hf7 12 rfl).trans s20) ?_
                    exact ⟨_, rfl, Ext.refl _, rfl⟩
                  refine ⟨fun _ => ⟨fun f10 w20 hf8 xt17 hp8 => ?_, fun _ _ _ _ h => h⟩, ?_⟩
                  ·
                    have H22 := H19.ext xt17
                    refine mv rfl ((hf8 13 rfl).trans s21) ?_
                    exact ⟨_, rfl, Ext.refl _, rfl⟩
                  refine ⟨fun _ => ⟨fun f11 w21 hf9 xt18 hp9 => ?_, by rintro _ _ _ x_ ⟨g3, e_, hv3, hA3⟩; exact ⟨g3, e_, hv3, hA3.ext x_⟩⟩, ?_⟩
                  ·
                    have H23 := H19.ext xt18
                    have s22 : f11 67 = .slice a3 (pastL mn (closeM mn mr) x0).length c3 := hp9 1 rfl rfl
                    have s23 : f11 68 = .int .i64 (q : Int) := hp9 2 rfl rfl
                    refine iaO (H23.at_ 0 rfl) rfl rfl s22 s23 (by first | omega | (simp; omega)) un31 ty3 ?_
                    intro g4 x3 hv4 hx3 hA4
                    obtain rfl : x2 = x3 := Option.some.inj (hx2.symm.trans hx3)
                    exact ⟨_, rfl, Ext.refl _, ⟨g4, rfl, hv4, hA4⟩⟩
                  refine ⟨fun _ => ⟨fun f12 w22 hf10 xt19 hp10 => ?_, fun _ _ _ _ h => h⟩, ?_⟩
                  ·
                    have H24 := H19.ext xt19
                    obtain ⟨g5, s24, hv5, hA5⟩ : ∃ (g5 : Nat), f12 69 = .pointer (some ⟨g5, (q : Int).toNat * 1, none⟩) ∧ (.slice a3 (pastL mn (closeM mn mr) x0).length c3 : Value).ownBlock = some g5 ∧ AtW (MS M [own w.heap.size 3 (.slice a3 (pastL mn (closeM mn mr) x0).length c3) (pastL mn (closeM mn mr) x0), own w.heap.size 3 (.slice a2 (withL mn (closeM mn mr) (o % mn)).length c2) (withL mn (closeM mn mr) (o % mn)), own w.heap.size 3 (.slice a1 (pastL mn (closeM mn mr) (o % mn)).length c1) (pastL mn (closeM mn mr) (o % mn)), box bb1 #[.int .i64 mn, .slice a0 (closeM mn mr).length c0] 24, imm (.slice a0 (closeM mn mr).length c0) (closeM mn mr), box bb0 #[.int .i64 mn, .slice a_mr mr.length c_mr] 24, imm (.slice a_mr mr.length c_mr) mr]) w22 ⟨g5, (q : Int).toNat * 1, none⟩ x2 := hp10 3 rfl rfl
                    refine ldI hA5 ty3 rfl s24 ?_
                    intro rv8
                    exact ⟨_, rfl, Ext.refl _, ⟨rfl, rv8⟩⟩
                  refine ⟨fun _ => ⟨fun f13 w23 hf11 xt20 hp11 => ?_, fun _ _ _ _ h => h⟩, ?_⟩
                  ·
                    have H25 := H19.ext xt20
                    refine mv rfl ((hf11 8 rfl).trans s16) ?_
                    exact ⟨_, rfl, Ext.refl _, rfl⟩
                  exact DSteps.rest rfl _
                · intro f14 w24 hf12 xt21 hp12
                  have H26 := H19.ext xt21
                  have s25 : f14 5 = .pointer (some ⟨bb1, 0, none⟩) := (hf12 5 rfl).trans s15
                  have s26 : f14 8 = .int .i64 (o % mn) := (hf12 8 rfl).trans s16
                  have s27 : f14 9 = .slice a1 (pastL mn (closeM mn mr) (o % mn)).length c1 := (hf12 9 rfl).trans s17
                  have s28 : f14 10 = .slice a2 (withL mn (closeM mn mr) (o % mn)).length c2 := (hf12 10 rfl).trans s18
                  have s29 : f14 11 = .int .i64 (i : Int) := (hf12 11 rfl).trans s19
                  have s30 : f14 12 = .slice a3 (pastL mn (closeM mn mr) x0).length c3 := (hf12 12 rfl).trans s20
                  have s31 : f14 13 = .int .i64 (q : Int) := (hf12 13 rfl).trans s21
                  have s32 : f14 66 = .agg #[.int .i64 mn, .slice a0 (closeM mn mr).length c0] := hp12 0 rfl
                  obtain ⟨s33, rv9⟩ : f14 70 = .int .i64 x2 ∧ I64 (x2) := hp12 4 rfl
                  have s34 : f14 71 = .int .i64 (o % mn) := hp12 5 rfl
                  refine k ?_
                  have cc7 := ref03_Has (mn := mn) (mr := (closeM mn mr)) (i := x2) (j := (o % mn)) (w := w24) H26.mb (by unfold I64 at *; omega) (H26.rv 4 rfl) (by first | assumption | (unfold I64 at *; omega)) (by unfold I64 at *; omega) (by first | exact (right_sq rtm_).1 | exact (right_sq rtm_).2.1 | exact (right_sq rtm_).2.2.1 | exact (right_sq rtm_).2.2.2.2 | exact (right_sq (closeM_right rtm_)).1 | exact (right_sq (closeM_right rtm_)).2.1 | exact (right_sq (closeM_right rtm_)).2.2.1 | exact (right_sq (closeM_right rtm_)).2.2.2.2) (by first | exact (right_sq rtm_).1 | exact (right_sq rtm_).2.1 | exact (right_sq rtm_).2.2.1 | exact (right_sq rtm_).2.2.2.2 | exact (right_sq (closeM_right rtm_)).1 | exact (right_sq (closeM_right rtm_)).2.1 | exact (right_sq (closeM_right rtm_)).2.2.1 | exact (right_sq (closeM_right rtm_)).2.2.2.2) (by first | exact (right_sq rtm_).1 | exact (right_sq rtm_).2.1 | exact (right_sq rtm_).2.2.1 | exact (right_sq rtm_).2.2.2.2 | exact (right_sq (closeM_right rtm_)).1 | exact (right_sq (closeM_right rtm_)).2.1 | exact (right_sq (closeM_right rtm_)).2.2.1 | exact (right_sq (closeM_right rtm_)).2.2.2.2)
                  refine ca go11 rfl (ec s32 (ec s33 (ec s34 e0))) cc7 ?_
                  rintro _ w25 ⟨rfl, xt22⟩
                  have H27 := H26.ext xt22
                  refine k (not_ rfl rfl (z (nx (cdF rfl rfl (by rw [show (hasM mn (closeM mn mr) x2 (o % mn)) = true from (past_deep rtm_ hk_ hx0 hx2)]; rfl) (sk (inb_normal (nx (rg (k (mv rfl s31 (k (add rfl rfl rfl rfl (by unfold I64 at *; omega) (k (asg (v := .int .i64 ((q : Int) + 1)) rfl rfl (z ?_)))))))))))))))
                  refine loopN _ ?_ ⟨(q + 1), rfl, s25, s26, s27, s28, s29, s30, (ieq rfl (by first | rfl | omega | (push_cast; omega))), H27, (by first | assumption | omega | simp | (simp; omega))⟩
                  omega
              ·
                have p5 := of_decide_eq_false b5
                refine ex (then_exit (loop_exit (inb_here (nx (sq ?_)))))
                obtain ⟨x2, hx2⟩ : ∃ x, (pastL mn (closeM mn mr) (o % mn))[(i : Int).toNat]? = some x := ⟨_, List.getElem?_eq_getElem (by first | omega | (simp; omega))⟩
                rcases Bool.eq_false_or_eq_true (decide (0 < (i : Int))) with b6 | b6
                · -- decide (0 < (i : Int)) is True
                  have p6 := of_decide_eq_true b6
                  obtain ⟨x5, hx5⟩ : ∃ x, (pastL mn (closeM mn mr) (o % mn))[((i : Int) - 1).toNat]? = some x := ⟨_, List.getElem?_eq_getElem (by first | omega | (simp; omega))⟩
                  refine dr 19 [fun (v : Value) (w' : World) => v = .slice a1 (pastL mn (closeM mn mr) (o % mn)).length c1, fun (v : Value) (w' : World) => v = .int .i64 (i : Int), fun (v : Value) (w' : World) => ∃ (g4 : Nat), v = .pointer (some ⟨g4, (i : Int).toNat * 1, none⟩) ∧ (.slice a1 (pastL mn (closeM mn mr) (o % mn)).length c1 : Value).ownBlock = some g4 ∧ AtW (MS M [own w.heap.size 3 (.slice a3 (pastL mn (closeM mn mr) x0).length c3) (pastL mn (closeM mn mr) x0), own w.heap.size 3 (.slice a2 (withL mn (closeM mn mr) (o % mn)).length c2) (withL mn (closeM mn mr) (o % mn)), own w.heap.size 3 (.slice a1 (pastL mn (closeM mn mr) (o % mn)).length c1) (pastL mn (closeM mn mr) (o % mn)), box bb1 #[.int .i64 mn, .slice a0 (closeM mn mr).length c0] 24, imm (.slice a0 (closeM mn mr).length c0) (closeM mn mr), box bb0 #[.int .i64 mn, .slice a_mr mr.length c_mr] 24, imm (.slice a_mr mr.length c_mr) mr]) w' ⟨g4, (i : Int).toNat * 1, none⟩ x2, fun (v : Value) (w' : World) => v = .int .i64 x2 ∧ I64 (x2), fun (v : Value) (w' : World) => v = .int .i64 (o % mn), fun (v : Value) (w' : World) => v = .bool (decide (x2 = (o % mn))), fun (v : Value) (w' : World) => v = .bool (decide (x2 = (o % mn))), fun (v : Value) (w' : World) => v = .int .i64 (i : Int), fun (v : Value) (w' : World) => v = .bool (decide (0 < (i : Int))), fun (v : Value) (w' : World) => v = .bool (decide (0 < (i : Int))), fun (v : Value) (w' : World) => v = .slice a1 (pastL mn (closeM mn mr) (o % mn)).length c1, fun (v : Value) (w' : World) => v = .int .i64 (i : Int), fun (v : Value) (w' : World) => ∃ (g5 : Nat), v = .pointer (some ⟨g5, (i : Int).toNat * 1, none⟩) ∧ (.slice a1 (pastL mn (closeM mn mr) (o % mn)).length c1 : Value).ownBlock = some g5 ∧ AtW (MS M [own w.heap.size 3 (.slice a3 (pastL mn (closeM mn mr) x0).length c3) (pastL mn (closeM mn mr) x0), own w.heap.size 3 (.slice a2 (withL mn (closeM mn mr) (o % mn)).length c2) (withL mn (closeM mn mr) (o % mn)), own w.heap.size 3 (.slice a1 (pastL mn (closeM mn mr) (o % mn)).length c1) (pastL mn (closeM mn mr) (o % mn)), box bb1 #[.int .i64 mn, .slice a0 (closeM mn mr).length c0] 24, imm (.slice a0 (closeM mn mr).length c0) (closeM mn mr), box bb0 #[.int .i64 mn, .slice a_mr mr.length c_mr] 24, imm (.slice a_mr mr.length c_mr) mr]) w' ⟨g5, (i : Int).toNat * 1, none⟩ x2, fun (v : Value) (w' : World) => v = .int .i64 x2 ∧ I64 (x2), fun (v : Value) (w' : World) => v = .slice a1 (pastL mn (closeM mn mr) (o % mn)).length c1, fun (v : Value) (w' : World) => v = .int .i64 (i : Int), fun (v : Value) (w' : World) => v = .int .i64 ((i : Int) - 1), fun (v : Value) (w' : World) => ∃ (g6 : Nat), v = .pointer (some ⟨g6, ((i : Int) - 1).toNat * 1, none⟩) ∧ (.slice a1 (pastL mn (closeM mn mr) (o % mn)).length c1 : Value).ownBlock = some g6 ∧ AtW (MS M [own w.heap.size 3 (.slice a3 (pastL mn (closeM mn mr) x0).length c3) (pastL mn (closeM mn mr) x0), own w.heap.size 3 (.slice a2 (withL mn (closeM mn mr) (o % mn)).length c2) (withL mn (closeM mn mr) (o % mn)), own w.heap.size 3 (.slice a1 (pastL mn (closeM mn mr) (o % mn)).length c1) (pastL mn (closeM mn mr) (o % mn)), box bb1 #[.int .i64 mn, .slice a0 (closeM mn mr).length c0] 24, imm (.slice a0 (closeM mn mr).length c0) (closeM mn mr), box bb0 #[.int .i64 mn, .slice a_mr mr.length c_mr] 24, imm (.slice a_mr mr.length c_mr) mr]) w' ⟨g6, ((i : Int) - 1).toNat * 1, none⟩ x5, fun (v : Value) (w' : World) => v = .int .i64 x5 ∧ I64 (x5)] rfl (by kernel_rfl) ?_ ?_
                  ·
                    refine ⟨fun _ => ⟨fun f8 w18 hf6 xt15 hp6 => ?_, fun _ _ _ _ h => h⟩, ?_⟩
                    ·
                      have H20 := H19.ext xt15
                      refine mv rfl ((hf6 9 rfl).trans s17) ?_
                      exact ⟨_, rfl, Ext.refl _, rfl⟩
                    refine ⟨fun _ => ⟨fun f9 w19 hf7 xt16 hp7 => ?_, fun _ _ _ _ h => h⟩, ?_⟩
                    ·
                      have H21 := H19.ext xt16
                      refine mv rfl ((hf7 11 rfl).trans s19) ?_
                      exact ⟨_, rfl, Ext.refl _, rfl⟩
                    refine ⟨fun _ => ⟨fun f10 w20 hf8 xt17 hp8 => ?_, by rintro _ _ _ x_ ⟨g4, e_, hv4, hA4⟩; exact ⟨g4, e_, hv4, hA4.ext x_⟩⟩, ?_⟩
                    ·
                      have H22 := H19.ext xt17
                      have s22 : f10 74 = .slice a1 (pastL mn (closeM mn mr) (o % mn)).length c1 := hp8 0 rfl rfl
                      have s23 : f10 75 = .int .i64 (i : Int) := hp8 1 rfl rfl
                      refine iaO (H22.at_ 2 rfl) rfl rfl s22 s23 (by first | omega | (simp; omega)) un31 ty3 ?_
                      intro g7 x6 hv7 hx6 hA7
                      obtain rfl : x2 = x6 := Option.some.inj (hx2.symm.trans hx6)
                      exact ⟨_, rfl, Ext.refl _, ⟨g7, rfl, hv7, hA7⟩⟩
                    refine ⟨fun _ => ⟨fun f11 w21 hf9 xt18 hp9 => ?_, fun _ _ _ _ h => h⟩, ?_⟩
                    ·
                      have H23 := H19.ext xt18
                      obtain ⟨g8, s24, hv8, hA8⟩ : ∃ (g8 : Nat), f11 76 = .pointer (some ⟨g8, (i : Int).toNat * 1, none⟩) ∧ (.slice a1 (pastL mn (closeM mn mr) (o % mn)).length c1 : Value).ownBlock = some g8 ∧ AtW (MS M [own w.heap.size 3 (.slice a3 (pastL mn (closeM mn mr) x0).length c3) (pastL mn (closeM mn mr) x0), own w.heap.size 3 (.slice a2 (withL mn (closeM mn mr) (o % mn)).length c2) (withL mn (closeM mn mr) (o % mn)), own w.heap.size 3 (.slice a1 (pastL mn (closeM mn mr) (o % mn)).length c1) (pastL mn (closeM mn mr) (o % mn)), box bb1 #[.int .i64 mn, .slice a0 (closeM mn mr).length c0] 24, imm (.slice a0 (closeM mn mr).length c0) (closeM mn mr), box bb0 #[.int .i64 mn, .slice a_mr mr.length c_mr] 24, imm (.slice a_mr mr.length c_mr) mr]) w21 ⟨g8, (i : Int).toNat * 1, none⟩ x2 := hp9 2 rfl rfl
                      refine ldI hA8 ty3 rfl s24 ?_
                      intro rv11
                      exact ⟨_, rfl, Ext.refl _, ⟨rfl, rv11⟩⟩
                    refine ⟨fun _ => ⟨fun f12 w22 hf10 xt19 hp10 => ?_, fun _ _ _ _ h => h⟩, ?_⟩
                    ·
                      have H24 := H19.ext xt19
                      refine mv rfl ((hf10 8 rfl).trans s16) ?_
                      exact ⟨_, rfl, Ext.refl _, rfl⟩
                    refine ⟨fun _ => ⟨fun f13 w23 hf11 xt20 hp11 => ?_, fun _ _ _ _ h => h⟩, ?_⟩
                    ·
                      have H25 := H19.ext xt20
                      obtain ⟨s25, rv12⟩ : f13 77 = .int .i64 x2 ∧ I64 (x2) := hp11 3 rfl rfl
                      have s26 : f13 78 = .int .i64 (o % mn) := hp11 4 rfl rfl
                      refine eql rfl rfl s25 s26 ?_
                      exact ⟨_, rfl, Ext.refl _, rfl⟩
                    refine ⟨fun _ => ⟨fun f14 w24 hf12 xt21 hp12 => ?_, fun _ _ _ _ h => h⟩, ?_⟩
                    ·
                      have H26 := H19.ext xt21
                      have s27 : f14 79 = .bool (decide (x2 = (o % mn))) := hp12 5 rfl rfl
                      refine mv rfl s27 ?_
                      exact ⟨_, rfl, Ext.refl _, rfl⟩
                    refine ⟨fun _ => ⟨fun f15 w25 hf13 xt22 hp13 => ?_, fun _ _ _ _ h => h⟩, ?_⟩
                    ·
                      have H27 := H19.ext xt22
                      have s28 : f15 80 = .bool (decide (x2 = (o % mn))) := hp13 6 rfl rfl
                      refine gy rfl rfl s28 (decide_eq_false (past_ne rtm_ hk_ hr_ hx2)) (mv rfl ((hf13 11 rfl).trans s19) ?_)
                      exact ⟨_, rfl, Ext.refl _, rfl⟩
                    refine ⟨fun _ => ⟨fun f16 w26 hf14 xt23 hp14 => ?_, fun _ _ _ _ h => h⟩, ?_⟩
                    ·
                      have H28 := H19.ext xt23
                      have s29 : f16 80 = .bool (decide (x2 = (o % mn))) := hp14 6 rfl rfl
                      have s30 : f16 81 = .int .i64 (i : Int) := hp14 7 rfl rfl
                      refine gy rfl rfl s29 (decide_eq_false (past_ne rtm_ hk_ hr_ hx2)) (gtr rfl rfl s30 rfl ?_)
                      exact ⟨_, rfl, Ext.refl _, rfl⟩
                    refine ⟨fun _ => ⟨fun f17 w27 hf15 xt24 hp15 => ?_, fun _ _ _ _ h => h⟩, ?_⟩
                    ·
                      have H29 := H19.ext xt24
                      have s31 : f17 80 = .bool (decide (x2 = (o % mn))) := hp15 6 rfl rfl
                      have s32 : f17 82 = .bool (decide (0 < (i : Int))) := hp15 8 rfl rfl
                      refine gy rfl rfl s31 (decide_eq_false (past_ne rtm_ hk_ hr_ hx2)) (mv rfl s32 ?_)
                      exact ⟨_, rfl, Ext.refl _, rfl⟩
                    refine ⟨fun _ => ⟨fun f18 w28 hf16 xt25 hp16 => ?_, fun _ _ _ _ h => h⟩, ?_⟩
                    ·
                      have H30 := H19.ext xt25
                      have s33 : f18 83 = .bool (decide (0 < (i : Int))) := hp16 9 rfl rfl
                      refine gy rfl rfl s33 b6 (mv rfl ((hf16 9 rfl).trans s17) ?_)
                      exact ⟨_, rfl, Ext.refl _, rfl⟩
                    refine ⟨fun _ => ⟨fun f19 w29 hf17 xt26 hp17 => ?_, fun _ _ _ _ h => h⟩, ?_⟩
                    ·
                      have H31 := H19.ext xt26
                      have s34 : f19 83 = .bool (decide (0 < (i : Int))) := hp17 9 rfl rfl
                      refine gy rfl rfl s34 b6 (mv rfl ((hf17 11 rfl).trans s19) ?_)
                      exact ⟨_, rfl, Ext.refl _, rfl⟩
                    refine ⟨fun _ => ⟨fun f20 w30 hf18 xt27 hp18 => ?_, by rintro _ _ _ x_ ⟨g5, e_, hv5, hA5⟩; exact ⟨g5, e_, hv5, hA5.ext x_⟩⟩, ?_⟩
                    ·
                      have H32 := H19.ext xt27
                      have s35 : f20 83 = .bool (decide (0 < (i : Int))) := hp18 9 rfl rfl
                      have s36 : f20 84 = .slice a1 (pastL mn (closeM mn mr) (o % mn)).length c1 := hp18 10 rfl rfl
                      have s37 : f20 85 = .int .i64 (i : Int) := hp18 11 rfl rfl
                      refine gy rfl rfl s35 b6 (iaO (H32.at_ 2 rfl) rfl rfl s36 s37 (by first | omega | (simp; omega)) un31 ty3 ?_)
                      intro g9 x7 hv9 hx7 hA9
                      obtain rfl : x2 = x7 := Option.some.inj (hx2.symm.trans hx7)
                      exact ⟨_, rfl, Ext.refl _, ⟨g9, rfl, hv9, hA9⟩⟩
                    refine ⟨fun _ => ⟨fun f21 w31 hf19 xt28 hp19 => ?_, fun _ _ _ _ h => h⟩, ?_⟩
                    ·
                      have H33 := H19.ext xt28
                      have s38 : f21 83 = .bool (decide (0 < (i : Int))) := hp19 9 rfl rfl
                      obtain ⟨g10, s39, hv10, hA10⟩ : ∃ (g10 : Nat), f21 86 = .pointer (some ⟨g10, (i : Int).toNat * 1, none⟩) ∧ (.slice a1 (pastL mn (closeM mn mr) (o % mn)).length c1 : Value).ownBlock = some g10 ∧ AtW (MS M [own w.heap.size 3 (.slice a3 (pastL mn (closeM mn mr) x0).length c3) (pastL mn (closeM mn mr) x0), own w.heap.size 3 (.slice a2 (withL mn (closeM mn mr) (o % mn)).length c2) (withL mn (closeM mn mr) (o % mn)), own w.heap.size 3 (.slice a1 (pastL mn (closeM mn mr) (o % mn)).length c1) (pastL mn (closeM mn mr) (o % mn)), box bb1 #[.int .i64 mn, .slice a0 (closeM mn mr).length c0] 24, imm (.slice a0 (closeM mn mr).length c0) (closeM mn mr), box bb0 #[.int .i64 mn, .slice a_mr mr.length c_mr] 24, imm (.slice a_mr mr.length c_mr) mr]) w31 ⟨g10, (i : Int).toNat * 1, none⟩ x2 := hp19 12 rfl rfl
                      refine gy rfl rfl s38 b6 (ldI hA10 ty3 rfl s39 ?_)
                      intro rv13
                      exact ⟨_, rfl, Ext.refl _, ⟨rfl, rv13⟩⟩
                    refine ⟨fun _ => ⟨fun f22 w32 hf20 xt29 hp20 => ?_, fun _ _ _ _ h => h⟩, ?_⟩
                    ·
                      have H34 := H19.ext xt29
                      have s40 : f22 83 = .bool (decide (0 < (i : Int))) := hp20 9 rfl rfl
                      refine gy rfl rfl s40 b6 (mv rfl ((hf20 9 rfl).trans s17) ?_)
                      exact ⟨_, rfl, Ext.refl _, rfl⟩
                    refine ⟨fun _ => ⟨fun f23 w33 hf21 xt30 hp21 => ?_, fun _ _ _ _ h => h⟩, ?_⟩
                    ·
                      have H35 := H19.ext xt30
                      have s41 : f23 83 = .bool (decide (0 < (i : Int))) := hp21 9 rfl rfl
                      refine gy rfl rfl s41 b6 (mv rfl ((hf21 11 rfl).trans s19) ?_)
                      exact ⟨_, rfl, Ext.refl _, rfl⟩
                    refine ⟨fun _ => ⟨fun f24 w34 hf22 xt31 hp22 => ?_, fun _ _ _ _ h => h⟩, ?_⟩
                    ·
                      have H36 := H19.ext xt31
                      have s42 : f24 83 = .bool (decide (0 < (i : Int))) := hp22 9 rfl rfl
                      have s43 : f24 89 = .int .i64 (i : Int) := hp22 15 rfl rfl
                      refine gy rfl rfl s42 b6 (sub rfl rfl s43 rfl (by unfold I64 at *; omega) ?_)
                      exact ⟨_, rfl, Ext.refl _, rfl⟩
                    refine ⟨fun _ => ⟨fun f25 w35 hf23 xt32 hp23 => ?_, by rintro _ _ _ x_ ⟨g6, e_, hv6, hA6⟩; exact ⟨g6, e_, hv6, hA6.ext x_⟩⟩, ?_⟩
                    ·
                      have H37 := H19.ext xt32
                      have s44 : f25 83 = .bool (decide (0 < (i : Int))) := hp23 9 rfl rfl
                      have s45 : f25 88 = .slice a1 (pastL mn (closeM mn mr) (o % mn)).length c1 := hp23 14 rfl rfl
                      have s46 : f25 90 = .int .i64 ((i : Int) - 1) := hp23 16 rfl rfl
                      refine gy rfl rfl s44 b6 (iaO (H37.at_ 2 rfl) rfl rfl s45 s46 (by first | omega | (simp; omega)) un31 ty3 ?_)
                      intro g11 x8 hv11 hx8 hA11
                      obtain rfl : x5 = x8 := Option.some.inj (hx5.symm.trans hx8)
                      exact ⟨_, rfl, Ext.refl _, ⟨g11, rfl, hv11, hA11⟩⟩
                    refine ⟨fun _ => ⟨fun f26 w36 hf24 xt33 hp24 => ?_, fun _ _ _ _ h => h⟩, ?_⟩
                    ·
                      have H38 := H19.ext xt33
                      have s47 : f26 83 = .bool (decide (0 < (i : Int))) := hp24 9 rfl rfl
                      obtain ⟨g12, s48, hv12, hA12⟩ : ∃ (g12 : Nat), f26 91 = .pointer (some ⟨g12, ((i : Int) - 1).toNat * 1, none⟩) ∧ (.slice a1 (pastL mn (closeM mn mr) (o % mn)).length c1 : Value).ownBlock = some g12 ∧ AtW (MS M [own w.heap.size 3 (.slice a3 (pastL mn (closeM mn mr) x0).length c3) (pastL mn (closeM mn mr) x0), own w.heap.size 3 (.slice a2 (withL mn (closeM mn mr) (o % mn)).length c2) (withL mn (closeM mn mr) (o % mn)), own w.heap.size 3 (.slice a1 (pastL mn (closeM mn mr) (o % mn)).length c1) (pastL mn (closeM mn mr) (o % mn)), box bb1 #[.int .i64 mn, .slice a0 (closeM mn mr).length c0] 24, imm (.slice a0 (closeM mn mr).length c0) (closeM mn mr), box bb0 #[.int .i64 mn, .slice a_mr mr.length c_mr] 24, imm (.slice a_mr mr.length c_mr) mr]) w36 ⟨g12, ((i : Int) - 1).toNat * 1, none⟩ x5 := hp24 17 rfl rfl
                      refine gy rfl rfl s47 b6 (ldI hA12 ty3 rfl s48 ?_)
                      intro rv14
                      exact ⟨_, rfl, Ext.refl _, ⟨rfl, rv14⟩⟩
                    exact DSteps.rest rfl _
                  · intro f27 w37 hf25 xt34 hp25
                    have H39 := H19.ext xt34
                    have s49 : f27 5 = .pointer (some ⟨bb1, 0, none⟩) := (hf25 5 rfl).trans s15
                    have s50 : f27 8 = .int .i64 (o % mn) := (hf25 8 rfl).trans s16
                    have s51 : f27 9 = .slice a1 (pastL mn (closeM mn mr) (o % mn)).length c1 := (hf25 9 rfl).trans s17
                    have s52 : f27 10 = .slice a2 (withL mn (closeM mn mr) (o % mn)).length c2 := (hf25 10 rfl).trans s18
                    have s53 : f27 11 = .int .i64 (i : Int) := (hf25 11 rfl).trans s19
                    have s54 : f27 80 = .bool (decide (x2 = (o % mn))) := hp25 6 rfl
                    have s55 : f27 83 = .bool (decide (0 < (i : Int))) := hp25 9 rfl
                    obtain ⟨s56, rv15⟩ : f27 87 = .int .i64 x2 ∧ I64 (x2) := hp25 13 rfl
                    obtain ⟨s57, rv16⟩ : f27 92 = .int .i64 x5 ∧ I64 (x5) := hp25 18 rfl
                    refine k (gy rfl rfl s55 b6 (leq rfl rfl s56 s57 (k (gy rfl rfl s54 (decide_eq_false (past_ne rtm_ hk_ hr_ hx2)) (pickT rfl rfl rfl s55 b6 rfl (k (pickF rfl rfl rfl s54 (decide_eq_false (past_ne rtm_ hk_ hr_ hx2)) rfl (z (nx (cdF rfl rfl (decide_eq_false (by have h_ := past_lt rtm_ hk_ (by omega) hx5 hx2; omega)) (sk (inb_normal (nx (rg (k (mv rfl s53 (k (add rfl rfl rfl rfl (by unfold I64 at *; omega) (k (asg (v := .int .i64 ((i : Int) + 1)) rfl rfl (z ?_)))))))))))))))))))))
                    have H40 : HI M w w37 [own w.heap.size 3 (.slice a2 (withL mn (closeM mn mr) (o % mn)).length c2) (withL mn (closeM mn mr) (o % mn)), own w.heap.size 3 (.slice a1 (pastL mn (closeM mn mr) (o % mn)).length c1) (pastL mn (closeM mn mr) (o % mn)), box bb1 #[.int .i64 mn, .slice a0 (closeM mn mr).length c0] 24, imm (.slice a0 (closeM mn mr).length c0) (closeM mn mr), box bb0 #[.int .i64 mn, .slice a_mr mr.length c_mr] 24, imm (.slice a_mr mr.length c_mr) mr] := H39.pickN [1, 2, 3, 4, 5, 6] (by decide) rfl
                    refine loopN _ ?_ ⟨(i + 1), rfl, s49, s50, s51, s52, (ieq rfl (by first | rfl | omega | (push_cast; omega))), H40, (by first | assumption | omega | simp | (simp; omega))⟩
                    omega
                · -- decide (0 < (i : Int)) is False
                  have p6 := of_decide_eq_false b6
                  refine dr 19 [fun (v : Value) (w' : World) => v = .slice a1 (pastL mn (closeM mn mr) (o % mn)).length c1, fun (v : Value) (w' : World) => v = .int .i64 (i : Int), fun (v : Value) (w' : World) => ∃ (g4 : Nat), v = .pointer (some ⟨g4, (i : Int).toNat * 1, none⟩) ∧ (.slice a1 (pastL mn (closeM mn mr) (o % mn)).length c1 : Value).ownBlock = some g4 ∧ AtW (MS M [own w.heap.size 3 (.slice a3 (pastL mn (closeM mn mr) x0).length c3) (pastL mn (closeM mn mr) x0), own w.heap.size 3 (.slice a2 (withL mn (closeM mn mr) (o % mn)).length c2) (withL mn (closeM mn mr) (o % mn)), own w.heap.size 3 (.slice a1 (pastL mn (closeM mn mr) (o % mn)).length c1) (pastL mn (closeM mn mr) (o % mn)), box bb1 #[.int .i64 mn, .slice a0 (closeM mn mr).length c0] 24, imm (.slice a0 (closeM mn mr).length c0) (closeM mn mr), box bb0 #[.int .i64 mn, .slice a_mr mr.length c_mr] 24, imm (.slice a_mr mr.length c_mr) mr]) w' ⟨g4, (i : Int).toNat * 1, none⟩ x2, fun (v : Value) (w' : World) => v = .int .i64 x2 ∧ I64 (x2), fun (v : Value) (w' : World) => v = .int .i64 (o % mn), fun (v : Value) (w' : World) => v = .bool (decide (x2 = (o % mn))), fun (v : Value) (w' : World) => v = .bool (decide (x2 = (o % mn))), fun (v : Value) (w' : World) => v = .int .i64 (i : Int), fun (v : Value) (w' : World) => v = .bool (decide (0 < (i : Int))), fun (v : Value) (w' : World) => v = .bool (decide (0 < (i : Int))), fun (v : Value) (_ : World) => v = undef, fun (v : Value) (_ : World) => v = undef, fun (v : Value) (_ : World) => v = undef, fun (v : Value) (_ : World) => v = undef, fun (v : Value) (_ : World) => v = undef, fun (v : Value) (_ : World) => v = undef, fun (v : Value) (_ : World) => v = undef, fun (v : Value) (_ : World) => v = undef, fun (v : Value) (_ : World) => v = undef] rfl (by kernel_rfl) ?_ ?_
                  ·
                    refine ⟨fun _ => ⟨fun f8 w18 hf6 xt15 hp6 => ?_, fun _ _ _ _ h => h⟩, ?_⟩
                    ·
                      have H20 := H19.ext xt15
                      refine mv rfl ((hf6 9 rfl).trans s17) ?_
                      exact ⟨_, rfl, Ext.refl _, rfl⟩
                    refine ⟨fun _ => ⟨fun f9 w19 hf7 xt16 hp7 => ?_, fun _ _ _ _ h => h⟩, ?_⟩
                    ·
                      have H21 := H19.ext xt16
                      refine mv rfl ((hf7 11 rfl).trans s19) ?_
                      exact ⟨_, rfl, Ext.refl _, rfl⟩
                    refine ⟨fun _ => ⟨fun f10 w20 hf8 xt17 hp8 => ?_, by rintro _ _ _ x_ ⟨g4, e_, hv4, hA4⟩; exact ⟨g4, e_, hv4, hA4.ext x_⟩⟩, ?_⟩
                    ·
                      have H22 := H19.ext xt17
                      have s22 : f10 74 = .slice a1 (pastL mn (closeM mn mr) (o % mn)).length c1 := hp8 0 rfl rfl
                      have s23 : f10 75 = .int .i64 (i : Int) := hp8 1 rfl rfl
                      refine iaO (H22.at_ 2 rfl) rfl rfl s22 s23 (by first | omega | (simp; omega)) un31 ty3 ?_
                      intro g5 x4 hv5 hx4 hA5
                      obtain rfl : x2 = x4 := Option.some.inj (hx2.symm.trans hx4)
                      exact ⟨_, rfl, Ext.refl _, ⟨g5, rfl, hv5, hA5⟩⟩
                    refine ⟨fun _ => ⟨fun f11 w21 hf9 xt18 hp9 => ?_, fun _ _ _ _ h => h⟩, ?_⟩
                    ·
                      have H23 := H19.ext xt18
                      obtain ⟨g6, s24, hv6, hA6⟩ : ∃ (g6 : Nat), f11 76 = .pointer (some ⟨g6, (i : Int).toNat * 1, none⟩) ∧ (.slice a1 (pastL mn (closeM mn mr) (o % mn)).length c1 : Value).ownBlock = some g6 ∧ AtW (MS M [own w.heap.size 3 (.slice a3 (pastL mn (closeM mn mr) x0).length c3) (pastL mn (closeM mn mr) x0), own w.heap.size 3 (.slice a2 (withL mn (closeM mn mr) (o % mn)).length c2) (withL mn (closeM mn mr) (o % mn)), own w.heap.size 3 (.slice a1 (pastL mn (closeM mn mr) (o % mn)).length c1) (pastL mn (closeM mn mr) (o % mn)), box bb1 #[.int .i64 mn, .slice a0 (closeM mn mr).length c0] 24, imm (.slice a0 (closeM mn mr).length c0) (closeM mn mr), box bb0 #[.int .i64 mn, .slice a_mr mr.length c_mr] 24, imm (.slice a_mr mr.length c_mr) mr]) w21 ⟨g6, (i : Int).toNat * 1, none⟩ x2 := hp9 2 rfl rfl
                      refine ldI hA6 ty3 rfl s24 ?_
                      intro rv9
                      exact ⟨_, rfl, Ext.refl _, ⟨rfl, rv9⟩⟩
                    refine ⟨fun _ => ⟨fun f12 w22 hf10 xt19 hp10 => ?_, fun _ _ _ _ h => h⟩, ?_⟩
                    ·
                      have H24 := H19.ext xt19
                      refine mv rfl ((hf10 8 rfl).trans s16) ?_
                      exact ⟨_, rfl, Ext.refl _, rfl⟩
                    refine ⟨fun _ => ⟨fun f13 w23 hf11 xt20 hp11 => ?_, fun _ _ _ _ h => h⟩, ?_⟩
                    ·
                      have H25 := H19.ext xt20
                      obtain ⟨s25, rv10⟩ : f13 77 = .int .i64 x2 ∧ I64 (x2) := hp11 3 rfl rfl
                      have s26 : f13 78 = .int .i64 (o % mn) := hp11 4 rfl rfl
                      refine eql rfl rfl s25 s26 ?_
                      exact ⟨_, rfl, Ext.refl _, rfl⟩
                    refine ⟨fun _ => ⟨fun f14 w24 hf12 xt21 hp12 => ?_, fun _ _ _ _ h => h⟩, ?_⟩
                    ·
                      have H26 := H19.ext xt21
                      have s27 : f14 79 = .bool (decide (x2 = (o % mn))) := hp12 5 rfl rfl
                      refine mv rfl s27 ?_
                      exact ⟨_, rfl, Ext.refl _, rfl⟩
                    refine ⟨fun _ => ⟨fun f15 w25 hf13 xt22 hp13 => ?_, fun _ _ _ _ h => h⟩, ?_⟩
                    ·
                      have H27 := H19.ext xt22
                      have s28 : f15 80 = .bool (decide (x2 = (o % mn))) := hp13 6 rfl rfl
                      refine gy rfl rfl s28 (decide_eq_false (past_ne rtm_ hk_ hr_ hx2)) (mv rfl ((hf13 11 rfl).trans s19) ?_)
                      exact ⟨_, rfl, Ext.refl _, rfl⟩
                    refine ⟨fun _ => ⟨fun f16 w26 hf14 xt23 hp14 => ?_, fun _ _ _ _ h => h⟩, ?_⟩
                    ·
                      have H28 := H19.ext xt23
                      have s29 : f16 80 = .bool (decide (x2 = (o % mn))) := hp14 6 rfl rfl
                      have s30 : f16 81 = .int .i64 (i : Int) := hp14 7 rfl rfl
                      refine gy rfl rfl s29 (decide_eq_false (past_ne rtm_ hk_ hr_ hx2)) (gtr rfl rfl s30 rfl ?_)
                      exact ⟨_, rfl, Ext.refl _, rfl⟩
                    refine ⟨fun _ => ⟨fun f17 w27 hf15 xt24 hp15 => ?_, fun _ _ _ _ h => h⟩, ?_⟩
                    ·
                      have H29 := H19.ext xt24
                      have s31 : f17 80 = .bool (decide (x2 = (o % mn))) := hp15 6 rfl rfl
                      have s32 : f17 82 = .bool (decide (0 < (i : Int))) := hp15 8 rfl rfl
                      refine gy rfl rfl s31 (decide_eq_false (past_ne rtm_ hk_ hr_ hx2)) (mv rfl s32 ?_)
                      exact ⟨_, rfl, Ext.refl _, rfl⟩
                    refine ⟨fun _ => ⟨fun f18 w28 hf16 xt25 hp16 => ?_, fun _ _ _ _ h => h⟩, ?_⟩
                    ·
                      have H30 := H19.ext xt25
                      have s33 : f18 83 = .bool (decide (0 < (i : Int))) := hp16 9 rfl rfl
                      refine gn rfl rfl s33 b6 ?_
                      exact ⟨_, rfl, Ext.refl _, rfl⟩
                    refine ⟨fun _ => ⟨fun f19 w29 hf17 xt26 hp17 => ?_, fun _ _ _ _ h => h⟩, ?_⟩
                    ·
                      have H31 := H19.ext xt26
                      have s34 : f19 83 = .bool (decide (0 < (i : Int))) := hp17 9 rfl rfl
                      refine gn rfl rfl s34 b6 ?_
                      exact ⟨_, rfl, Ext.refl _, rfl⟩
                    refine ⟨fun _ => ⟨fun f20 w30 hf18 xt27 hp18 => ?_, fun _ _ _ _ h => h⟩, ?_⟩
                    ·
                      have H32 := H19.ext xt27
                      have s35 : f20 83 = .bool (decide (0 < (i : Int))) := hp18 9 rfl rfl
                      have s36 : f20 84 = undef := hp18 10 rfl rfl
                      have s37 : f20 85 = undef := hp18 11 rfl rfl
                      refine gn rfl rfl s35 b6 ?_
                      exact ⟨_, rfl, Ext.refl _, rfl⟩
                    refine ⟨fun _ => ⟨fun f21 w31 hf19 xt28 hp19 => ?_, fun _ _ _ _ h => h⟩, ?_⟩
                    ·
                      have H33 := H19.ext xt28
                      have s38 : f21 83 = .bool (decide (0 < (i : Int))) := hp19 9 rfl rfl
                      have s39 : f21 86 = undef := hp19 12 rfl rfl
                      refine gn rfl rfl s38 b6 ?_
                      exact ⟨_, rfl, Ext.refl _, rfl⟩
                    refine ⟨fun _ => ⟨fun f22 w32 hf20 xt29 hp20 => ?_, fun _ _ _ _ h => h⟩, ?_⟩
                    ·
                      have H34 := H19.ext xt29
                      have s40 : f22 83 = .bool (decide (0 < (i : Int))) := hp20 9 rfl rfl
                      refine gn rfl rfl s40 b6 ?_
                      exact ⟨_, rfl, Ext.refl _, rfl⟩
                    refine ⟨fun _ => ⟨fun f23 w33 hf21 xt30 hp21 => ?_, fun _ _ _ _ h => h⟩, ?_⟩
                    ·
                      have H35 := H19.ext xt30
                      have s41 : f23 83 = .bool (decide (0 < (i : Int))) := hp21 9 rfl rfl
                      refine gn rfl rfl s41 b6 ?_
                      exact ⟨_, rfl, Ext.refl _, rfl⟩
                    refine ⟨fun _ => ⟨fun f24 w34 hf22 xt31 hp22 => ?_, fun _ _ _ _ h => h⟩, ?_⟩
                    ·
                      have H36 := H19.ext xt31
                      have s42 : f24 83 = .bool (decide (0 < (i : Int))) := hp22 9 rfl rfl
                      have s43 : f24 89 = undef := hp22 15 rfl rfl
                      refine gn rfl rfl s42 b6 ?_
                      exact ⟨_, rfl, Ext.refl _, rfl⟩
                    refine ⟨fun _ => ⟨fun f25 w35 hf23 xt32 hp23 => ?_, fun _ _ _ _ h => h⟩, ?_⟩
                    ·
                      have H37 := H19.ext xt32
                      have s44 : f25 83 = .bool (decide (0 < (i : Int))) := hp23 9 rfl rfl
                      have s45 : f25 88 = undef := hp23 14 rfl rfl
                      have s46 : f25 90 = undef := hp23 16 rfl rfl
                      refine gn rfl rfl s44 b6 ?_
                      exact ⟨_, rfl, Ext.refl _, rfl⟩
                    refine ⟨fun _ => ⟨fun f26 w36 hf24 xt33 hp24 => ?_, fun _ _ _ _ h => h⟩, ?_⟩
                    ·
                      have H38 := H19.ext xt33
                      have s47 : f26 83 = .bool (decide (0 < (i : Int))) := hp24 9 rfl rfl
                      have s48 : f26 91 = undef := hp24 17 rfl rfl
                      refine gn rfl rfl s47 b6 ?_
                      exact ⟨_, rfl, Ext.refl _, rfl⟩
                    exact DSteps.rest rfl _
                  · intro f27 w37 hf25 xt34 hp25
                    have H39 := H19.ext xt34
                    have s49 : f27 5 = .pointer (some ⟨bb1, 0, none⟩) := (hf25 5 rfl).trans s15
                    have s50 : f27 8 = .int .i64 (o % mn) := (hf25 8 rfl).trans s16
                    have s51 : f27 9 = .slice a1 (pastL mn (closeM mn mr) (o % mn)).length c1 := (hf25 9 rfl).trans s17
                    have s52 : f27 10 = .slice a2 (withL mn (closeM mn mr) (o % mn)).length c2 := (hf25 10 rfl).trans s18
                    have s53 : f27 11 = .int .i64 (i : Int) := (hf25 11 rfl).trans s19
                    have s54 : f27 80 = .bool (decide (x2 = (o % mn))) := hp25 6 rfl
                    have s55 : f27 83 = .bool (decide (0 < (i : Int))) := hp25 9 rfl
                    have s56 : f27 87 = undef := hp25 13 rfl
                    have s57 : f27 92 = undef := hp25 18 rfl
                    refine k (gn rfl rfl s55 b6 (k (gy rfl rfl s54 (decide_eq_false (past_ne rtm_ hk_ hr_ hx2)) (pickF rfl rfl rfl s55 b6 rfl (k (pickF rfl rfl rfl s54 (decide_eq_false (past_ne rtm_ hk_ hr_ hx2)) rfl (z (nx (cdF rfl rfl rfl (sk (inb_normal (nx (rg (k (mv rfl s53 (k (add rfl rfl rfl rfl (by unfold I64 at *; omega) (k (asg (v := .int .i64 ((i : Int) + 1)) rfl rfl (z ?_))))))))))))))))))))
                    have H40 : HI M w w37 [own w.heap.size 3 (.slice a2 (withL mn (closeM mn mr) (o % mn)).length c2) (withL mn (closeM mn mr) (o % mn)), own w.heap.size 3 (.slice a1 (pastL mn (closeM mn mr) (o % mn)).length c1) (pastL mn (closeM mn mr) (o % mn)), box bb1 #[.int .i64 mn, .slice a0 (closeM mn mr).length c0] 24, imm (.slice a0 (closeM mn mr).length c0) (closeM mn mr), box bb0 #[.int .i64 mn, .slice a_mr mr.length c_mr] 24, imm (.slice a_mr mr.length c_mr) mr] := H39.pickN [1, 2, 3, 4, 5, 6] (by decide) rfl
                    refine loopN _ ?_ ⟨(i + 1), rfl, s49, s50, s51, s52, (ieq rfl (by first | rfl | omega | (push_cast; omega))), H40, (by first | assumption | omega | simp | (simp; omega))⟩
                    omega
          ·
            have p4 := of_decide_eq_false b4
            refine ex (then_exit (loop_exit (inb_here (nx (sq (rg (k ?_)))))))
            have cc6 := awake16 (w := w9) (hT.ext H11.below)
            refine ca go6 rfl e0 cc6 ?_
            rintro _ w10 ⟨rfl, xt8⟩
            have H12 := H11.ext xt8
            refine k (mv (v := .bool true) rfl rfl (k (gy rfl rfl rfl rfl (mv rfl s3 (k (gy rfl rfl rfl rfl (lnS rfl rfl un31 (k (gy rfl rfl rfl rfl (mv rfl s2 (k (gy rfl rfl rfl rfl (lnS rfl rfl un31 (k (gy rfl rfl rfl rfl (add rfl rfl rfl rfl (by unfold I64 at *; omega) (k (gy rfl rfl rfl rfl (eql rfl rfl rfl rfl (k (pickT rfl rfl rfl rfl rfl rfl (k (asg (v := .bool (decide (((withL mn (closeM mn mr) (o % mn)).length : Int) = (((pastL mn (closeM mn mr) (o % mn)).length : Int) + 1)))) rfl rfl (z (nx (rt (r1 rfl rfl ?_)))))))))))))))))))))))))))
            have e0 : (decide (((withL mn (closeM mn mr) (o % mn)).length : Int) = (((pastL mn (closeM mn mr) (o % mn)).length : Int) + 1)) : Bool) = true := by exact (decide_eq_true (with_one rtm_ hk_ hr_))
            have ev_ := cg1 (fun (x_0 : Bool) => (.bool x_0 : Value)) e0
            exact ⟨ev_, H12.below⟩
end Go.Proofs.YtcphidhajldefaaDoor

