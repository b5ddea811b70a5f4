/- PRINTED by my own tool (wip/tool/gen.py): contracts of Go functions of this seat, each with its proof. -/
import Derived.Test.YtfakagpjgpbkbaaDoorR02dRef
import Derived.Test.YtfakagpjgpbkbaaDoorR02dMt2
import Derived.Test.YtfakagpjgpbkbaaDoorR02dMat
import Derived.Test.YtfakagpjgpbkbaaDoorR02dOr
import Derived.Test.YtfakagpjgpbkbaaDoorR02dFns
import Derived.Test.YtfakagpjgpbkbaaDoorEngW
import Derived.Test.YtfakagpjgpbkbaaDoorEwSpecX
namespace Go.Proofs.YtfakagpjgpbkbaaDoor
open Go.Ew Go.RowKit
set_option linter.unusedVariables false
set_option linter.unusedSimpArgs false
attribute [local irreducible] WL WC SO Code.wp wpList retQ Ret
attribute [local irreducible] bitB hasW inR hasR setR countW countR subR words newR listR orR firstW tab8
theorem go36 : GoF Tryd.prog 36 := ⟨_, _, Tryd.func36, rfl, by kernel_rfl⟩
theorem go57 : GoF Tryd.prog 57 := ⟨_, _, Tryd.func57, rfl, by kernel_rfl⟩
theorem go40 : GoF Tryd.prog 40 := ⟨_, _, Tryd.func40, rfl, by kernel_rfl⟩
theorem go61 : GoF Tryd.prog 61 := ⟨_, _, Tryd.func61, rfl, by kernel_rfl⟩
theorem go33 : GoF Tryd.prog 33 := ⟨_, _, Tryd.func33, rfl, by kernel_rfl⟩
theorem go35 : GoF Tryd.prog 35 := ⟨_, _, Tryd.func35, rfl, by kernel_rfl⟩
theorem go34 : GoF Tryd.prog 34 := ⟨_, _, Tryd.func34, rfl, by kernel_rfl⟩
theorem go58 : GoF Tryd.prog 58 := ⟨_, _, Tryd.func58, rfl, by kernel_rfl⟩
theorem go37 : GoF Tryd.prog 37 := ⟨_, _, Tryd.func37, rfl, by kernel_rfl⟩
theorem go59 : GoF Tryd.prog 59 := ⟨_, _, Tryd.func59, rfl, by kernel_rfl⟩
theorem go60 : GoF Tryd.prog 60 := ⟨_, _, Tryd.func60, rfl, by kernel_rfl⟩
/- eyewitness/eyewitnesslaw03.awake -/
set_option maxRecDepth 100000 in
set_option maxHeartbeats 1600000 in
theorem awake03 {w : World}  : Calls Tryd.prog 35 #[] w (Ret fun v w' =>  v = .bool true ∧ Ext w w') := by
  refine enter 54 Tryd.func35 rfl rfl rfl fun f0 ha => ?_
  have H := HI.start (M0 := (fun _ => False)) (w := w) (fun _ h => h.elim)
  refine sq (rg (k (asg (v := .bool false) rfl rfl (z (nx (sq (rg (k (bd (v := .agg #[.int .i64 0, .int .i64 1]) rfl (pbc rfl (pbc rfl pb0)) (fun _ => by kernel_rfl) (k (bs (xs := ([(0, 1)] : List (Int × Int))) (cells := #[.int .i64 0, .int .i64 1]) (e := 72) H rfl (pbc rfl pb0) (fun _ => by kernel_rfl) ⟨[.int .i64 0, .int .i64 1], [], rfl, ⟨_, _, rfl, ⟨rfl, (show I64 (0) from (by unfold I64; decide +kernel))⟩, ⟨rfl, (show I64 (1) from (by unfold I64; decide +kernel))⟩⟩, rfl⟩ rfl (by unfold maxLen; omega) ?_)))))))))))
  intro g0 w0 xt0 (H0 : HI (fun _ => False) w w0 [own w.heap.size 72 (.slice (some ⟨g0, 0, none⟩) 1 1) ([(0, 1)] : List (Int × Int))])
  refine k ?_
  have H1 := H0.freeze 0 rfl
  have cc0 := mat_Of (n := 2) (ps := ([(0, 1)] : List (Int × Int))) (w := w0) H1.mb (by unfold I64; decide +kernel) (H1.rv 0 rfl)
  refine ca go36 rfl (ec rfl (ec rfl e0)) cc0 ?_
  rintro _ w1 ⟨a0, c0, rfl, xt1, rv0⟩
  have H2 := H1.ownsG rv0
  refine k (mv (v := .tuple #[.agg #[.int .i64 (ofMN 2 ([(0, 1)] : List (Int × Int))), .slice a0 (ofMR 2 ([(0, 1)] : List (Int × Int))).length c0], .int .i64 (ofME 2 ([(0, 1)] : List (Int × Int)))]) rfl rfl (k (xt rfl rfl rfl (k (xt rfl rfl rfl (k (al H2 ty38 ?_)))))))
  intro bb0 w2 xt2 (H3 : HI (fun _ => False) w w2 [box bb0 #[.int .i64 0, .slice none 0 0] 38, own w.heap.size 22 (.slice a0 (ofMR 2 ([(0, 1)] : List (Int × Int))).length c0) (ofMR 2 ([(0, 1)] : List (Int × Int))), imm (.slice (some ⟨g0, 0, none⟩) 1 1) ([(0, 1)] : List (Int × Int))])
  refine k (stX H3 0 rfl ty38 rfl rfl rfl rfl rfl rfl rfl ?_)
  intro w3 (H4 : HI (fun _ => False) w w3 [box bb0 #[.int .i64 (ofMN 2 ([(0, 1)] : List (Int × Int))), .slice a0 (ofMR 2 ([(0, 1)] : List (Int × Int))).length c0] 38, own w.heap.size 22 (.slice a0 (ofMR 2 ([(0, 1)] : List (Int × Int))).length c0) (ofMR 2 ([(0, 1)] : List (Int × Int))), imm (.slice (some ⟨g0, 0, none⟩) 1 1) ([(0, 1)] : List (Int × Int))])
  refine k (asg (v := .int .i64 (ofME 2 ([(0, 1)] : List (Int × Int)))) rfl rfl (z (nx (sq (rg (k (ldX H4 0 rfl ty38 rfl rfl (by decide) rfl (k ?_))))))))
  have H5 := H4.freeze 1 rfl
  have cc1 := mat_Set (mn := (ofMN 2 ([(0, 1)] : List (Int × Int)))) (mr := (ofMR 2 ([(0, 1)] : List (Int × Int)))) (i := 2) (j := 0) (w := w3) H5.mb (by unfold I64; decide +kernel) (H5.rv 1 rfl) (by unfold I64; decide +kernel) (by unfold I64; decide +kernel) (by decide +kernel) (by decide +kernel) (by decide +kernel)
  refine ca go57 rfl (ec rfl (ec rfl (ec rfl e0))) cc1 ?_
  rintro _ w4 ⟨a1, c1, rfl, xt3, rv1⟩
  have H6 := H5.ownsG rv1
  refine k (mv (v := .tuple #[.agg #[.int .i64 (setMN (ofMN 2 ([(0, 1)] : List (Int × Int))) 2 0), .slice a1 (setMR (ofMN 2 ([(0, 1)] : List (Int × Int))) (ofMR 2 ([(0, 1)] : List (Int × Int))) 2 0).length c1], .int .i64 (setME (ofMN 2 ([(0, 1)] : List (Int × Int))) 2 0)]) rfl rfl (k (xt rfl rfl rfl (k (xt rfl rfl rfl (k (al H6 ty38 ?_)))))))
  intro bb1 w5 xt4 (H7 : HI (fun _ => False) w w5 [box bb1 #[.int .i64 0, .slice none 0 0] 38, own w.heap.size 22 (.slice a1 (setMR (ofMN 2 ([(0, 1)] : List (Int × Int))) (ofMR 2 ([(0, 1)] : List (Int × Int))) 2 0).length c1) (setMR (ofMN 2 ([(0, 1)] : List (Int × Int))) (ofMR 2 ([(0, 1)] : List (Int × Int))) 2 0), box bb0 #[.int .i64 (ofMN 2 ([(0, 1)] : List (Int × Int))), .slice a0 (ofMR 2 ([(0, 1)] : List (Int × Int))).length c0] 38, imm (.slice a0 (ofMR 2 ([(0, 1)] : List (Int × Int))).length c0) (ofMR 2 ([(0, 1)] : List (Int × Int))), imm (.slice (some ⟨g0, 0, none⟩) 1 1) ([(0, 1)] : List (Int × Int))])
  refine k (stX H7 0 rfl ty38 rfl rfl rfl rfl rfl rfl rfl ?_)
  intro w6 (H8 : HI (fun _ => False) w w6 [box bb1 #[.int .i64 (setMN (ofMN 2 ([(0, 1)] : List (Int × Int))) 2 0), .slice a1 (setMR (ofMN 2 ([(0, 1)] : List (Int × Int))) (ofMR 2 ([(0, 1)] : List (Int × Int))) 2 0).length c1] 38, own w.heap.size 22 (.slice a1 (setMR (ofMN 2 ([(0, 1)] : List (Int × Int))) (ofMR 2 ([(0, 1)] : List (Int × Int))) 2 0).length c1) (setMR (ofMN 2 ([(0, 1)] : List (Int × Int))) (ofMR 2 ([(0, 1)] : List (Int × Int))) 2 0), box bb0 #[.int .i64 (ofMN 2 ([(0, 1)] : List (Int × Int))), .slice a0 (ofMR 2 ([(0, 1)] : List (Int × Int))).length c0] 38, imm (.slice a0 (ofMR 2 ([(0, 1)] : List (Int × Int))).length c0) (ofMR 2 ([(0, 1)] : List (Int × Int))), imm (.slice (some ⟨g0, 0, none⟩) 1 1) ([(0, 1)] : List (Int × Int))])
  refine k (asg (v := .int .i64 (setME (ofMN 2 ([(0, 1)] : List (Int × Int))) 2 0)) rfl rfl (z (nx (sq (rg (k (mv (v := .int .i64 (ofME 2 ([(0, 1)] : List (Int × Int)))) rfl rfl (k (eql rfl rfl rfl rfl (k (mv (v := .bool (decide ((ofME 2 ([(0, 1)] : List (Int × Int))) = 0))) rfl rfl ?_)))))))))))
  have tr0 : (decide ((ofME 2 ([(0, 1)] : List (Int × Int))) = 0)) = true := (by decide +kernel)
  refine k (gy rfl rfl rfl tr0 (fa fl38_1 rfl rfl (k (gy rfl rfl rfl tr0 (ldX H8 2 rfl ty36 rfl rfl (by decide) rfl (k (gy rfl rfl rfl tr0 (lnS rfl rfl un36 (k (gy rfl rfl rfl tr0 (eql rfl rfl rfl rfl (k (pickT rfl rfl rfl rfl tr0 rfl (k (mv (v := .bool (decide (((ofMR 2 ([(0, 1)] : List (Int × Int))).length : Int) = 2))) rfl rfl ?_)))))))))))))))
  have tr1 : (decide (((ofMR 2 ([(0, 1)] : List (Int × Int))).length : Int) = 2)) = true := (by decide +kernel)
  refine k (gy rfl rfl rfl tr1 (fa fl38_1 rfl rfl (k (gy rfl rfl rfl tr1 (ldX H8 2 rfl ty36 rfl rfl (by decide) rfl (k (gy rfl rfl rfl tr1 (ia (H8.rv 3 rfl) rfl rfl rfl rfl (by decide +kernel) un36 ty22 ?_))))))))
  intro ad0 x0 hx0 hA0
  refine k (gy rfl rfl rfl tr1 (ldL hA0.w ty22 rfl rfl ?_))
  intro a2 c2 rv2
  have ln0 := rv_len rv2
  have H9 := H8.put (it := imm (.slice a2 x0.length c2) x0) rfl rv2
  refine k (gy rfl rfl rfl tr1 (ia (H9.rv 0 rfl) rfl rfl rfl rfl (by have q0 := at_is hx0 (y := [2#64]) (by decide +kernel); subst q0; decide) un22 ty66 ?_))
  intro ad1 x1 hx1 hA1
  refine k (gy rfl rfl rfl tr1 (ldU hA1.w ty66 rfl rfl (k (gy rfl rfl rfl tr1 (eqU x1 (2#64) rfl rfl rfl rfl (k (pickT rfl rfl rfl rfl tr1 rfl (k (mv (v := .bool (decide (x1 = (2#64)))) rfl rfl ?_)))))))))
  have tr2 : (decide (x1 = (2#64))) = true := (by have q0 := at_is hx0 (y := [2#64]) (by decide +kernel); subst q0; have q1 := at_is hx1 (y := 2#64) (by decide); subst q1; rfl)
  refine k (gy rfl rfl rfl tr2 (fa fl38_1 rfl rfl (k (gy rfl rfl rfl tr2 (ldX H9 3 rfl ty36 rfl rfl (by decide) rfl (k (gy rfl rfl rfl tr2 (ia (H9.rv 4 rfl) rfl rfl rfl rfl (by decide +kernel) un36 ty22 ?_))))))))
  intro ad2 x2 hx2 hA2
  refine k (gy rfl rfl rfl tr2 (ldL hA2.w ty22 rfl rfl ?_))
  intro a3 c3 rv3
  have ln1 := rv_len rv3
  have H10 := H9.put (it := imm (.slice a3 x2.length c3) x2) rfl rv3
  refine k (gy rfl rfl rfl tr2 (ia (H10.rv 0 rfl) rfl rfl rfl rfl (by have q2 := at_is hx2 (y := [0#64]) (by decide +kernel); subst q2; decide) un22 ty66 ?_))
  intro ad3 x3 hx3 hA3
  refine k (gy rfl rfl rfl tr2 (ldU hA3.w ty66 rfl rfl (k (gy rfl rfl rfl tr2 (eqU x3 (0#64) rfl rfl rfl rfl (k (pickT rfl rfl rfl rfl tr2 rfl (k (mv (v := .bool (decide (x3 = (0#64)))) rfl rfl ?_)))))))))
  have tr3 : (decide (x3 = (0#64))) = true := (by have q2 := at_is hx2 (y := [0#64]) (by decide +kernel); subst q2; have q1 := at_is hx3 (y := 0#64) (by decide); subst q1; rfl)
  refine k (gy rfl rfl rfl tr3 (mv (v := .int .i64 (setME (ofMN 2 ([(0, 1)] : List (Int × Int))) 2 0)) rfl rfl (k (gy rfl rfl rfl tr3 (eql rfl rfl rfl rfl (k (pickT rfl rfl rfl rfl tr3 rfl (k (mv (v := .bool (decide ((setME (ofMN 2 ([(0, 1)] : List (Int × Int))) 2 0) = 1))) rfl rfl ?_)))))))))
  have tr4 : (decide ((setME (ofMN 2 ([(0, 1)] : List (Int × Int))) 2 0) = 1)) = true := (by decide +kernel)
  refine k (gy rfl rfl rfl tr4 (ldX H10 4 rfl ty38 rfl rfl (by decide) rfl (k (gy rfl rfl rfl tr4 ?_))))
  have cc2 := mat_Has (mn := (ofMN 2 ([(0, 1)] : List (Int × Int)))) (mr := (ofMR 2 ([(0, 1)] : List (Int × Int)))) (i := 0) (j := 1) (w := w6) H10.mb (by unfold I64; decide +kernel) (H10.rv 5 rfl) (by unfold I64; decide +kernel) (by unfold I64; decide +kernel) (by decide +kernel) (by decide +kernel) (by decide +kernel)
  refine ca go40 rfl (ec rfl (ec rfl (ec rfl e0))) cc2 ?_
  rintro _ w7 ⟨rfl, xt5⟩
  have H11 := H10.ext xt5
  refine k (pickT rfl rfl rfl rfl tr4 rfl (k (mv (v := .bool (hasM (ofMN 2 ([(0, 1)] : List (Int × Int))) (ofMR 2 ([(0, 1)] : List (Int × Int))) 0 1)) rfl rfl ?_)))
  have tr5 : (hasM (ofMN 2 ([(0, 1)] : List (Int × Int))) (ofMR 2 ([(0, 1)] : List (Int × Int))) 0 1) = true := (by decide +kernel)
  refine k (gy rfl rfl rfl tr5 (ldX H11 4 rfl ty38 rfl rfl (by decide) rfl (k (gy rfl rfl rfl tr5 ?_))))
  have cc3 := mat_Right (mn := (ofMN 2 ([(0, 1)] : List (Int × Int)))) (mr := (ofMR 2 ([(0, 1)] : List (Int × Int)))) (w := w7) H11.mb (by unfold I64; decide +kernel) (H11.rv 5 rfl)
  refine ca go61 rfl (ec rfl e0) cc3 ?_
  rintro _ w8 ⟨rfl, xt6⟩
  have H12 := H11.ext xt6
  refine k (pickT rfl rfl rfl rfl tr5 rfl (k (asg (v := .bool (rightM (ofMN 2 ([(0, 1)] : List (Int × Int))) (ofMR 2 ([(0, 1)] : List (Int × Int))))) rfl rfl (z (nx (rt (r1 rfl rfl ?_)))))))
  have tr6 : (rightM (ofMN 2 ([(0, 1)] : List (Int × Int))) (ofMR 2 ([(0, 1)] : List (Int × Int)))) = true := (by decide +kernel)
  have e0 : (rightM (ofMN 2 ([(0, 1)] : List (Int × Int))) (ofMR 2 ([(0, 1)] : List (Int × Int))) : Bool) = true := by exact tr6
  have ev_ := cg1 (fun (x_0 : Bool) => (.bool x_0 : Value)) e0
  exact ⟨ev_, H12.below⟩
/- eyewitness/eyewitnesslaw03.MatOne -/
set_option maxRecDepth 100000 in
set_option maxHeartbeats 1600000 in
theorem law_MatOne {M : Nat → Prop} {w : World} {mn : Int} {a_mr : Option Addr} {c_mr : Nat} {mr : List (List (BitVec 64))} {i : Int} {j : Int} (hM : ∀ b, M b → b < w.heap.size) (hT : TabAt 0 w) (h_mn : I64 mn) (h_mr : RV M w (.slice a_mr mr.length c_mr) mr) (h_i : 0 ≤ i ∧ i ≤ 255) (h_j : 0 ≤ j ∧ j ≤ 255) : Calls Tryd.prog 11 #[.agg #[.int .i64 mn, .slice a_mr mr.length c_mr], .int .u8 i, .int .u8 j] w (Ret fun v w' =>  v = .bool true ∧ Ext w w') := by
  refine enter 95 Tryd.func11 rfl rfl rfl fun f0 ha => ?_
  have H := HI.start (M0 := M) (w := w) hM
  have H0 := H.put (it := imm (.slice a_mr mr.length c_mr) mr) rfl (by rw [MS_nil]; exact h_mr)
  have ln_mr := rv_len h_mr
  have i0 : f0 0 = .agg #[.int .i64 mn, .slice a_mr mr.length c_mr] := ha 0 (by simp)
  have i1 : f0 1 = .int .u8 i := ha 1 (by simp)
  have i2 : f0 2 = .int .u8 j := ha 2 (by simp)
  refine sq (rg (k (bx H0 rfl i0 ?_)))
  intro bb0 w0 xt0 (H1 : HI M w w0 [box bb0 #[.int .i64 mn, .slice a_mr mr.length c_mr] 38, imm (.slice a_mr mr.length c_mr) mr])
  refine k (asg (v := .bool false) rfl rfl (z (nx (sq (sq (rg (k (ldX H1 0 rfl ty38 rfl rfl (by decide) rfl (k ?_)))))))))
  have cc0 := ref03_Small (mn := mn) (mr := mr) (mo := 20) (w := w0) H1.mb (by unfold I64 at *; omega) (H1.rv 1 rfl) (by unfold I64 at *; omega)
  refine ca go33 rfl (ec rfl (ec rfl e0)) cc0 ?_
  rintro _ w1 ⟨rfl, xt1⟩
  have H2 := H1.ext xt1
  refine k (not_ rfl rfl (k (mv (v := .bool (!(smallM mr 20))) rfl rfl ?_)))
  rcases Bool.eq_false_or_eq_true (!(smallM mr 20)) with b0 | b0
  · -- !(smallM mr 20) is True
    refine k (gn rfl rfl rfl b0 (k (gn rfl rfl rfl b0 (k (gn rfl rfl rfl b0 (k (pickT rfl rfl rfl rfl b0 rfl (k (mv (v := .bool true) rfl rfl (k (gn rfl rfl rfl rfl (k (gn rfl rfl rfl rfl (k (gn rfl rfl rfl rfl (k (pickT rfl rfl rfl rfl rfl rfl (z (nx (cdT rfl rfl rfl (sq (rg (k ?_)))))))))))))))))))))))
    have cc1 := awake03 (w := w1)
    refine ca go35 rfl e0 cc1 ?_
    rintro _ w2 ⟨rfl, xt2⟩
    have H3 := H2.ext xt2
    refine k (asg (v := .bool true) rfl rfl (z (nx (rt (then_ret (r1 rfl rfl ?_))))))
    exact ⟨rfl, H3.below⟩
  · -- !(smallM mr 20) is False
    refine k (gy rfl rfl rfl b0 (ldX H2 0 rfl ty38 rfl rfl (by decide) rfl (k (gy rfl rfl rfl b0 ?_))))
    have cc1 := ref03_Right (mn := mn) (mr := mr) (w := w1) H2.mb (by unfold I64 at *; omega) (H2.rv 1 rfl)
    refine ca go34 rfl (ec rfl e0) cc1 ?_
    rintro _ w2 ⟨rfl, xt2⟩
    have H3 := H2.ext xt2
    refine k (gy rfl rfl rfl b0 (not_ rfl rfl (k (pickF rfl rfl rfl rfl b0 rfl (k (mv (v := .bool (!(rightS mn mr))) rfl rfl ?_))))))
    rcases Bool.eq_false_or_eq_true (!(rightS mn mr)) with b1 | b1
    · -- !(rightS mn mr) is True
      refine k (gn rfl rfl rfl b1 (k (gn rfl rfl rfl b1 (k (gn rfl rfl rfl b1 (k (pickT rfl rfl rfl rfl b1 rfl (z (nx (cdT rfl rfl rfl (sq (rg (k ?_)))))))))))))
      have cc2 := awake03 (w := w2)
      refine ca go35 rfl e0 cc2 ?_
      rintro _ w3 ⟨rfl, xt3⟩
      have H4 := H3.ext xt3
      refine k (asg (v := .bool true) rfl rfl (z (nx (rt (then_ret (r1 rfl rfl ?_))))))
      exact ⟨rfl, H4.below⟩
    · -- !(rightS mn mr) is False
      refine k (gy rfl rfl rfl b1 (fa fl38_0 rfl rfl (k (gy rfl rfl rfl b1 (ldX H3 0 rfl ty3 rfl rfl (by decide) rfl (k (gy rfl rfl rfl b1 (eql rfl rfl rfl rfl (k (pickF rfl rfl rfl rfl b1 rfl (z (nx ?_))))))))))))
      refine cd (b := decide (mn = 0)) rfl rfl (fun b2 => ?_) (fun b2 => ?_)
      ·
        have p2 := of_decide_eq_true b2
        refine sq (rg (k ?_))
        have cc2 := awake03 (w := w2)
        refine ca go35 rfl e0 cc2 ?_
        rintro _ w3 ⟨rfl, xt3⟩
        have H4 := H3.ext xt3
        refine k (asg (v := .bool true) rfl rfl (z (nx (rt (then_ret (r1 rfl rfl ?_))))))
        exact ⟨rfl, H4.below⟩
      ·
        have p2 := of_decide_eq_false b2
        refine sk (nx (sq ?_))
        have rt_ : rightS mn mr = true := by simpa using ‹(!rightS mn mr) = false›
        have h0_ := right_pos rt_
        have h4_ := (right_sq rt_).2.2.1
        have hz_ : ¬ mn = 0 := by assumption
        have hin_ : inM mn [i % mn, j % mn] = true := inM_mod (by omega)
        have hl0_ := Int.emod_nonneg i hz_
        have hl1_ := Int.emod_nonneg j hz_
        have hl2_ := Int.emod_lt_of_pos i (show 0 < mn by omega)
        have hl3_ := Int.emod_lt_of_pos j (show 0 < mn by omega)
        refine dr 11 [fun (v : Value) (w' : World) => v = .int .u8 i, fun (v : Value) (w' : World) => v = .int .i64 i, fun (v : Value) (w' : World) => v = .pointer (some ⟨bb0, 0, none⟩), fun (v : Value) (w' : World) => v = .int .i64 mn, fun (v : Value) (w' : World) => v = .int .i64 (i % mn), fun (v : Value) (w' : World) => v = .int .u8 j, fun (v : Value) (w' : World) => v = .int .i64 j, fun (v : Value) (w' : World) => v = .pointer (some ⟨bb0, 0, none⟩), fun (v : Value) (w' : World) => v = .int .i64 mn, fun (v : Value) (w' : World) => v = .int .i64 (j % mn), fun (v : Value) (w' : World) => v = .int .i64 (i % mn)] rfl (by kernel_rfl) ?_ ?_
        ·
          refine ⟨fun _ => ⟨fun f0 w3 hf0 xt3 hp0 => ?_, fun _ _ _ _ h => h⟩, ?_⟩
          ·
            have H4 := H3.ext xt3
            refine mv rfl ((hf0 1 rfl).trans i1) ?_
            exact ⟨_, rfl, Ext.refl _, rfl⟩
          refine ⟨fun _ => ⟨fun f1 w4 hf1 xt4 hp1 => ?_, fun _ _ _ _ h => h⟩, ?_⟩
          ·
            have H5 := H3.ext xt4
            have s0 : f1 28 = .int .u8 i := hp1 0 rfl rfl
            refine cvI rfl s0 (by unfold I64 at *; omega) un5 un3 ?_
            exact ⟨_, rfl, Ext.refl _, rfl⟩
          refine ⟨fun _ => ⟨fun f2 w5 hf2 xt5 hp2 => ?_, fun _ _ _ _ h => h⟩, ?_⟩
          ·
            have H6 := H3.ext xt5
            refine fa fl38_0 rfl (hf2 3 rfl) ?_
            exact ⟨_, rfl, Ext.refl _, rfl⟩
          refine ⟨fun _ => ⟨fun f3 w6 hf3 xt6 hp3 => ?_, fun _ _ _ _ h => h⟩, ?_⟩
          ·
            have H7 := H3.ext xt6
            have s1 : f3 30 = .pointer (some ⟨bb0, 0, none⟩) := hp3 2 rfl rfl
            refine ldX H7 0 rfl ty3 rfl s1 (by decide) rfl ?_
            exact ⟨_, rfl, Ext.refl _, rfl⟩
          refine ⟨fun _ => ⟨fun f4 w7 hf4 xt7 hp4 => ?_, fun _ _ _ _ h => h⟩, ?_⟩
          ·
            have H8 := H3.ext xt7
            have s2 : f4 29 = .int .i64 i := hp4 1 rfl rfl
            have s3 : f4 31 = .int .i64 mn := hp4 3 rfl rfl
            refine rem rfl rfl s2 s3 (by first | omega | (simp; omega)) ?_
            exact ⟨_, rfl, Ext.refl _, rfl⟩
          refine ⟨fun _ => ⟨fun f5 w8 hf5 xt8 hp5 => ?_, fun _ _ _ _ h => h⟩, ?_⟩
          ·
            have H9 := H3.ext xt8
            refine mv rfl ((hf5 2 rfl).trans i2) ?_
            exact ⟨_, rfl, Ext.refl _, rfl⟩
          refine ⟨fun _ => ⟨fun f6 w9 hf6 xt9 hp6 => ?_, fun _ _ _ _ h => h⟩, ?_⟩
          ·
            have H10 := H3.ext xt9
            have s4 : f6 33 = .int .u8 j := hp6 5 rfl rfl
            refine cvI rfl s4 (by unfold I64 at *; omega) un5 un3 ?_
            exact ⟨_, rfl, Ext.refl _, rfl⟩
          refine ⟨fun _ => ⟨fun f7 w10 hf7 xt10 hp7 => ?_, fun _ _ _ _ h => h⟩, ?_⟩
          ·
            have H11 := H3.ext xt10
            refine fa fl38_0 rfl (hf7 3 rfl) ?_
            exact ⟨_, rfl, Ext.refl _, rfl⟩
          refine ⟨fun _ => ⟨fun f8 w11 hf8 xt11 hp8 => ?_, fun _ _ _ _ h => h⟩, ?_⟩
          ·
            have H12 := H3.ext xt11
            have s5 : f8 35 = .pointer (some ⟨bb0, 0, none⟩) := hp8 7 rfl rfl
            refine ldX H12 0 rfl ty3 rfl s5 (by decide) rfl ?_
            exact ⟨_, rfl, Ext.refl _, rfl⟩
          refine ⟨fun _ => ⟨fun f9 w12 hf9 xt12 hp9 => ?_, fun _ _ _ _ h => h⟩, ?_⟩
          ·
            have H13 := H3.ext xt12
            have s6 : f9 34 = .int .i64 j := hp9 6 rfl rfl
            have s7 : f9 36 = .int .i64 mn := hp9 8 rfl rfl
            refine rem rfl rfl s6 s7 (by first | omega | (simp; omega)) ?_
            exact ⟨_, rfl, Ext.refl _, rfl⟩
          refine ⟨fun _ => ⟨fun f10 w13 hf10 xt13 hp10 => ?_, fun _ _ _ _ h => h⟩, ?_⟩
          ·
            have H14 := H3.ext xt13
            have s8 : f10 32 = .int .i64 (i % mn) := hp10 4 rfl rfl
            refine asg rfl s8 ?_
            exact ⟨_, rfl, Ext.refl _, rfl⟩
          exact DSteps.rest rfl _
        · intro f11 w14 hf11 xt14 hp11
          have H15 := H3.ext xt14
          have s9 : f11 3 = .pointer (some ⟨bb0, 0, none⟩) := hf11 3 rfl
          have s10 : f11 7 = .int .i64 (i % mn) := hp11 10 rfl
          have s11 : f11 37 = .int .i64 (j % mn) := hp11 9 rfl
          refine k (asg rfl s11 (z (nx (sq (rg (k (ldX H15 0 rfl ty38 rfl s9 (by decide) rfl (k (mv rfl s10 (k (mv (v := .int .i64 (j % mn)) rfl rfl (k ?_))))))))))))
          have cc2 := mat_Set (mn := mn) (mr := mr) (i := (i % mn)) (j := (j % mn)) (w := w14) H15.mb (by unfold I64 at *; omega) (H15.rv 1 rfl) (by unfold I64 at *; omega) (by unfold I64 at *; omega) (by first | exact (right_sq rt_).1 | exact (right_sq rt_).2.1 | exact (right_sq rt_).2.2.1 | exact (right_sq rt_).2.2.2.2 | exact (right_sq (set_right rt_ hin_)).1 | exact (right_sq (set_right rt_ hin_)).2.1 | exact (right_sq (set_right rt_ hin_)).2.2.1 | exact (right_sq (set_right rt_ hin_)).2.2.2.2 | exact (right_sq (or_set_right rt_ hin_)).1 | exact (right_sq (or_set_right rt_ hin_)).2.1 | exact (right_sq (or_set_right rt_ hin_)).2.2.1 | exact (right_sq (or_set_right rt_ hin_)).2.2.2.2) (by first | exact (right_sq rt_).1 | exact (right_sq rt_).2.1 | exact (right_sq rt_).2.2.1 | exact (right_sq rt_).2.2.2.2 | exact (right_sq (set_right rt_ hin_)).1 | exact (right_sq (set_right rt_ hin_)).2.1 | exact (right_sq (set_right rt_ hin_)).2.2.1 | exact (right_sq (set_right rt_ hin_)).2.2.2.2 | exact (right_sq (or_set_right rt_ hin_)).1 | exact (right_sq (or_set_right rt_ hin_)).2.1 | exact (right_sq (or_set_right rt_ hin_)).2.2.1 | exact (right_sq (or_set_right rt_ hin_)).2.2.2.2) (by first | exact (right_sq rt_).1 | exact (right_sq rt_).2.1 | exact (right_sq rt_).2.2.1 | exact (right_sq rt_).2.2.2.2 | exact (right_sq (set_right rt_ hin_)).1 | exact (right_sq (set_right rt_ hin_)).2.1 | exact (right_sq (set_right rt_ hin_)).2.2.1 | exact (right_sq (set_right rt_ hin_)).2.2.2.2 | exact (right_sq (or_set_right rt_ hin_)).1 | exact (right_sq (or_set_right rt_ hin_)).2.1 | exact (right_sq (or_set_right rt_ hin_)).2.2.1 | exact (right_sq (or_set_right rt_ hin_)).2.2.2.2)
          refine ca go57 rfl (ec rfl (ec rfl (ec rfl e0))) cc2 ?_
          rintro _ w15 ⟨a0, c0, rfl, xt15, rv0⟩
          have H16 := H15.ownsG rv0
          refine k (mv (v := .tuple #[.agg #[.int .i64 (setMN mn (i % mn) (j % mn)), .slice a0 (setMR mn mr (i % mn) (j % mn)).length c0], .int .i64 (setME mn (i % mn) (j % mn))]) rfl rfl (k (xt rfl rfl rfl (k (xt rfl rfl rfl (k (al H16 ty38 ?_)))))))
          intro bb1 w16 xt16 (H17 : HI M w w16 [box bb1 #[.int .i64 0, .slice none 0 0] 38, own w.heap.size 22 (.slice a0 (setMR mn mr (i % mn) (j % mn)).length c0) (setMR mn mr (i % mn) (j % mn)), box bb0 #[.int .i64 mn, .slice a_mr mr.length c_mr] 38, imm (.slice a_mr mr.length c_mr) mr])
          refine k (stX H17 0 rfl ty38 rfl rfl rfl rfl rfl rfl rfl ?_)
          intro w17 (H18 : HI M w w17 [box bb1 #[.int .i64 (setMN mn (i % mn) (j % mn)), .slice a0 (setMR mn mr (i % mn) (j % mn)).length c0] 38, own w.heap.size 22 (.slice a0 (setMR mn mr (i % mn) (j % mn)).length c0) (setMR mn mr (i % mn) (j % mn)), box bb0 #[.int .i64 mn, .slice a_mr mr.length c_mr] 38, imm (.slice a_mr mr.length c_mr) mr])
          refine k (asg (v := .int .i64 (setME mn (i % mn) (j % mn))) rfl rfl (z (nx (sq (rg (k (ldX H18 2 rfl ty38 rfl s9 (by decide) rfl (k (ldX H18 0 rfl ty38 rfl rfl (by decide) rfl (k ?_))))))))))
          have H19 := H18.freeze 1 rfl
          have cc3 := mat_Or (an := mn) (ar := mr) (bn := (setMN mn (i % mn) (j % mn))) (br := (setMR mn mr (i % mn) (j % mn))) (w := w17) H19.mb (by unfold I64 at *; omega) (H19.rv 3 rfl) (by have h_ := right_sq (set_right rt_ hin_); unfold I64; omega) (H19.rv 1 rfl) (by first | exact (right_sq rt_).1 | exact (right_sq rt_).2.1 | exact (right_sq rt_).2.2.1 | exact (right_sq rt_).2.2.2.2 | exact (right_sq (set_right rt_ hin_)).1 | exact (right_sq (set_right rt_ hin_)).2.1 | exact (right_sq (set_right rt_ hin_)).2.2.1 | exact (right_sq (set_right rt_ hin_)).2.2.2.2 | exact (right_sq (or_set_right rt_ hin_)).1 | exact (right_sq (or_set_right rt_ hin_)).2.1 | exact (right_sq (or_set_right rt_ hin_)).2.2.1 | exact (right_sq (or_set_right rt_ hin_)).2.2.2.2) (by first | exact (right_sq rt_).1 | exact (right_sq rt_).2.1 | exact (right_sq rt_).2.2.1 | exact (right_sq rt_).2.2.2.2 | exact (right_sq (set_right rt_ hin_)).1 | exact (right_sq (set_right rt_ hin_)).2.1 | exact (right_sq (set_right rt_ hin_)).2.2.1 | exact (right_sq (set_right rt_ hin_)).2.2.2.2 | exact (right_sq (or_set_right rt_ hin_)).1 | exact (right_sq (or_set_right rt_ hin_)).2.1 | exact (right_sq (or_set_right rt_ hin_)).2.2.1 | exact (right_sq (or_set_right rt_ hin_)).2.2.2.2) (by first | exact (right_sq rt_).1 | exact (right_sq rt_).2.1 | exact (right_sq rt_).2.2.1 | exact (right_sq rt_).2.2.2.2 | exact (right_sq (set_right rt_ hin_)).1 | exact (right_sq (set_right rt_ hin_)).2.1 | exact (right_sq (set_right rt_ hin_)).2.2.1 | exact (right_sq (set_right rt_ hin_)).2.2.2.2 | exact (right_sq (or_set_right rt_ hin_)).1 | exact (right_sq (or_set_right rt_ hin_)).2.1 | exact (right_sq (or_set_right rt_ hin_)).2.2.1 | exact (right_sq (or_set_right rt_ hin_)).2.2.2.2) (by first | exact (right_sq rt_).1 | exact (right_sq rt_).2.1 | exact (right_sq rt_).2.2.1 | exact (right_sq rt_).2.2.2.2 | exact (right_sq (set_right rt_ hin_)).1 | exact (right_sq (set_right rt_ hin_)).2.1 | exact (right_sq (set_right rt_ hin_)).2.2.1 | exact (right_sq (set_right rt_ hin_)).2.2.2.2 | exact (right_sq (or_set_right rt_ hin_)).1 | exact (right_sq (or_set_right rt_ hin_)).2.1 | exact (right_sq (or_set_right rt_ hin_)).2.2.1 | exact (right_sq (or_set_right rt_ hin_)).2.2.2.2) (by first | exact (right_sq rt_).1 | exact (right_sq rt_).2.1 | exact (right_sq rt_).2.2.1 | exact (right_sq rt_).2.2.2.2 | exact (right_sq (set_right rt_ hin_)).1 | exact (right_sq (set_right rt_ hin_)).2.1 | exact (right_sq (set_right rt_ hin_)).2.2.1 | exact (right_sq (set_right rt_ hin_)).2.2.2.2 | exact (right_sq (or_set_right rt_ hin_)).1 | exact (right_sq (or_set_right rt_ hin_)).2.1 | exact (right_sq (or_set_right rt_ hin_)).2.2.1 | exact (right_sq (or_set_right rt_ hin_)).2.2.2.2) (by first | exact (right_sq rt_).1 | exact (right_sq rt_).2.1 | exact (right_sq rt_).2.2.1 | exact (right_sq rt_).2.2.2.2 | exact (right_sq (set_right rt_ hin_)).1 | exact (right_sq (set_right rt_ hin_)).2.1 | exact (right_sq (set_right rt_ hin_)).2.2.1 | exact (right_sq (set_right rt_ hin_)).2.2.2.2 | exact (right_sq (or_set_right rt_ hin_)).1 | exact (right_sq (or_set_right rt_ hin_)).2.1 | exact (right_sq (or_set_right rt_ hin_)).2.2.1 | exact (right_sq (or_set_right rt_ hin_)).2.2.2.2)
          refine ca go58 rfl (ec rfl (ec rfl e0)) cc3 ?_
          rintro _ w18 ⟨a1, c1, rfl, xt17, rv1⟩
          have H20 := H19.ownsG rv1
          refine k (mv (v := .tuple #[.agg #[.int .i64 (orMN mn (setMN mn (i % mn) (j % mn))), .slice a1 (orMR mn mr (setMN mn (i % mn) (j % mn)) (setMR mn mr (i % mn) (j % mn))).length c1], .int .i64 (orME mn (setMN mn (i % mn) (j % mn)))]) rfl rfl (k (xt rfl rfl rfl (k (xt rfl rfl rfl (k (al H20 ty38 ?_)))))))
          intro bb2 w19 xt18 (H21 : HI M w w19 [box bb2 #[.int .i64 0, .slice none 0 0] 38, own w.heap.size 22 (.slice a1 (orMR mn mr (setMN mn (i % mn) (j % mn)) (setMR mn mr (i % mn) (j % mn))).length c1) (orMR mn mr (setMN mn (i % mn) (j % mn)) (setMR mn mr (i % mn) (j % mn))), box bb1 #[.int .i64 (setMN mn (i % mn) (j % mn)), .slice a0 (setMR mn mr (i % mn) (j % mn)).length c0] 38, imm (.slice a0 (setMR mn mr (i % mn) (j % mn)).length c0) (setMR mn mr (i % mn) (j % mn)), box bb0 #[.int .i64 mn, .slice a_mr mr.length c_mr] 38, imm (.slice a_mr mr.length c_mr) mr])
          refine k (stX H21 0 rfl ty38 rfl rfl rfl rfl rfl rfl rfl ?_)
          intro w20 (H22 : HI M w w20 [box bb2 #[.int .i64 (orMN mn (setMN mn (i % mn) (j % mn))), .slice a1 (orMR mn mr (setMN mn (i % mn) (j % mn)) (setMR mn mr (i % mn) (j % mn))).length c1] 38, own w.heap.size 22 (.slice a1 (orMR mn mr (setMN mn (i % mn) (j % mn)) (setMR mn mr (i % mn) (j % mn))).length c1) (orMR mn mr (setMN mn (i % mn) (j % mn)) (setMR mn mr (i % mn) (j % mn))), box bb1 #[.int .i64 (setMN mn (i % mn) (j % mn)), .slice a0 (setMR mn mr (i % mn) (j % mn)).length c0] 38, imm (.slice a0 (setMR mn mr (i % mn) (j % mn)).length c0) (setMR mn mr (i % mn) (j % mn)), box bb0 #[.int .i64 mn, .slice a_mr mr.length c_mr] 38, imm (.slice a_mr mr.length c_mr) mr])
          refine k (asg (v := .int .i64 (orME mn (setMN mn (i % mn) (j % mn)))) rfl rfl (z (nx (sq (rg (k (asg (v := .int .i64 1) rfl rfl (z (nx (sq (sq (rg (k (ldX H22 4 rfl ty38 rfl s9 (by decide) rfl (k (mv rfl s10 (k (mv (v := .int .i64 (j % mn)) rfl rfl (k ?_)))))))))))))))))))
          have cc4 := mat_Has (mn := mn) (mr := mr) (i := (i % mn)) (j := (j % mn)) (w := w20) H22.mb (by unfold I64 at *; omega) (H22.rv 5 rfl) (by unfold I64 at *; omega) (by unfold I64 at *; omega) (by first | exact (right_sq rt_).1 | exact (right_sq rt_).2.1 | exact (right_sq rt_).2.2.1 | exact (right_sq rt_).2.2.2.2 | exact (right_sq (set_right rt_ hin_)).1 | exact (right_sq (set_right rt_ hin_)).2.1 | exact (right_sq (set_right rt_ hin_)).2.2.1 | exact (right_sq (set_right rt_ hin_)).2.2.2.2 | exact (right_sq (or_set_right rt_ hin_)).1 | exact (right_sq (or_set_right rt_ hin_)).2.1 | exact (right_sq (or_set_right rt_ hin_)).2.2.1 | exact (right_sq (or_set_right rt_ hin_)).2.2.2.2) (by first | exact (right_sq rt_).1 | exact (right_sq rt_).2.1 | exact (right_sq rt_).2.2.1 | exact (right_sq rt_).2.2.2.2 | exact (right_sq (set_right rt_ hin_)).1 | exact (right_sq (set_right rt_ hin_)).2.1 | exact (right_sq (set_right rt_ hin_)).2.2.1 | exact (right_sq (set_right rt_ hin_)).2.2.2.2 | exact (right_sq (or_set_right rt_ hin_)).1 | exact (right_sq (or_set_right rt_ hin_)).2.1 | exact (right_sq (or_set_right rt_ hin_)).2.2.1 | exact (right_sq (or_set_right rt_ hin_)).2.2.2.2) (by first | exact (right_sq rt_).1 | exact (right_sq rt_).2.1 | exact (right_sq rt_).2.2.1 | exact (right_sq rt_).2.2.2.2 | exact (right_sq (set_right rt_ hin_)).1 | exact (right_sq (set_right rt_ hin_)).2.1 | exact (right_sq (set_right rt_ hin_)).2.2.1 | exact (right_sq (set_right rt_ hin_)).2.2.2.2 | exact (right_sq (or_set_right rt_ hin_)).1 | exact (right_sq (or_set_right rt_ hin_)).2.1 | exact (right_sq (or_set_right rt_ hin_)).2.2.1 | exact (right_sq (or_set_right rt_ hin_)).2.2.2.2)
          refine ca go40 rfl (ec rfl (ec rfl (ec rfl e0))) cc4 ?_
          rintro _ w21 ⟨rfl, xt19⟩
          have H23 := H22.ext xt19
          refine z (nx ?_)
          refine cd (b := hasM mn mr (i % mn) (j % mn)) rfl rfl (fun b3 => ?_) (fun b3 => ?_)
          ·
            refine rg (k (asg (v := .int .i64 0) rfl rfl (z (nx (sq ?_)))))
            refine dr 34 [fun (v : Value) (w' : World) => v = .bool true, fun (v : Value) (w' : World) => v = .bool true, fun (v : Value) (w' : World) => v = .int .i64 (setME mn (i % mn) (j % mn)), fun (v : Value) (w' : World) => v = .bool (decide ((setME mn (i % mn) (j % mn)) = 0)), fun (v : Value) (w' : World) => v = .bool (decide ((setME mn (i % mn) (j % mn)) = 0)), fun (v : Value) (w' : World) => v = .bool (decide ((setME mn (i % mn) (j % mn)) = 0)), fun (v : Value) (w' : World) => v = .int .i64 (orME mn (setMN mn (i % mn) (j % mn))), fun (v : Value) (w' : World) => v = .bool (decide ((orME mn (setMN mn (i % mn) (j % mn))) = 0)), fun (v : Value) (w' : World) => v = .bool (decide ((orME mn (setMN mn (i % mn) (j % mn))) = 0)), fun (v : Value) (w' : World) => v = .bool (decide ((orME mn (setMN mn (i % mn) (j % mn))) = 0)), fun (v : Value) (w' : World) => v = .agg #[.int .i64 (setMN mn (i % mn) (j % mn)), .slice a0 (setMR mn mr (i % mn) (j % mn)).length c0], fun (v : Value) (w' : World) => v = .int .i64 (i % mn), fun (v : Value) (w' : World) => v = .int .i64 (j % mn), fun (v : Value) (w' : World) => v = .bool (hasM (setMN mn (i % mn) (j % mn)) (setMR mn mr (i % mn) (j % mn)) (i % mn) (j % mn)), fun (v : Value) (w' : World) => v = .bool (hasM (setMN mn (i % mn) (j % mn)) (setMR mn mr (i % mn) (j % mn)) (i % mn) (j % mn)), fun (v : Value) (w' : World) => v = .bool (hasM (setMN mn (i % mn) (j % mn)) (setMR mn mr (i % mn) (j % mn)) (i % mn) (j % mn)), fun (v : Value) (w' : World) => v = .agg #[.int .i64 (setMN mn (i % mn) (j % mn)), .slice a0 (setMR mn mr (i % mn) (j % mn)).length c0], fun (v : Value) (w' : World) => ∃ (a2 : Option Addr) (c2 : Nat), v = .slice a2 (pairsM (setMN mn (i % mn) (j % mn)) (setMR mn mr (i % mn) (j % mn))).length c2 ∧ RV (MS M [box bb2 #[.int .i64 (orMN mn (setMN mn (i % mn) (j % mn))), .slice a1 (orMR mn mr (setMN mn (i % mn) (j % mn)) (setMR mn mr (i % mn) (j % mn))).length c1] 38, own w.heap.size 22 (.slice a1 (orMR mn mr (setMN mn (i % mn) (j % mn)) (setMR mn mr (i % mn) (j % mn))).length c1) (orMR mn mr (setMN mn (i % mn) (j % mn)) (setMR mn mr (i % mn) (j % mn))), box bb1 #[.int .i64 (setMN mn (i % mn) (j % mn)), .slice a0 (setMR mn mr (i % mn) (j % mn)).length c0] 38, imm (.slice a0 (setMR mn mr (i % mn) (j % mn)).length c0) (setMR mn mr (i % mn) (j % mn)), box bb0 #[.int .i64 mn, .slice a_mr mr.length c_mr] 38, imm (.slice a_mr mr.length c_mr) mr]) w' (.slice a2 (pairsM (setMN mn (i % mn) (j % mn)) (setMR mn mr (i % mn) (j % mn))).length c2) (pairsM (setMN mn (i % mn) (j % mn)) (setMR mn mr (i % mn) (j % mn))), fun (v : Value) (w' : World) => v = .int .i64 ((pairsM (setMN mn (i % mn) (j % mn)) (setMR mn mr (i % mn) (j % mn))).length : Int), fun (v : Value) (w' : World) => v = .agg #[.int .i64 mn, .slice a_mr mr.length c_mr], fun (v : Value) (w' : World) => ∃ (a3 : Option Addr) (c3 : Nat), v = .slice a3 (pairsM mn mr).length c3 ∧ RV (MS M [box bb2 #[.int .i64 (orMN mn (setMN mn (i % mn) (j % mn))), .slice a1 (orMR mn mr (setMN mn (i % mn) (j % mn)) (setMR mn mr (i % mn) (j % mn))).length c1] 38, own w.heap.size 22 (.slice a1 (orMR mn mr (setMN mn (i % mn) (j % mn)) (setMR mn mr (i % mn) (j % mn))).length c1) (orMR mn mr (setMN mn (i % mn) (j % mn)) (setMR mn mr (i % mn) (j % mn))), box bb1 #[.int .i64 (setMN mn (i % mn) (j % mn)), .slice a0 (setMR mn mr (i % mn) (j % mn)).length c0] 38, imm (.slice a0 (setMR mn mr (i % mn) (j % mn)).length c0) (setMR mn mr (i % mn) (j % mn)), box bb0 #[.int .i64 mn, .slice a_mr mr.length c_mr] 38, imm (.slice a_mr mr.length c_mr) mr]) w' (.slice a3 (pairsM mn mr).length c3) (pairsM mn mr), fun (v : Value) (w' : World) => v = .int .i64 ((pairsM mn mr).length : Int), fun (v : Value) (w' : World) => v = .int .i64 0, fun (v : Value) (w' : World) => v = .int .i64 (((pairsM mn mr).length : Int) + 0), fun (v : Value) (w' : World) => v = .bool (decide (((pairsM (setMN mn (i % mn) (j % mn)) (setMR mn mr (i % mn) (j % mn))).length : Int) = (((pairsM mn mr).length : Int) + 0))), fun (v : Value) (w' : World) => v = .bool (decide (((pairsM (setMN mn (i % mn) (j % mn)) (setMR mn mr (i % mn) (j % mn))).length : Int) = (((pairsM mn mr).length : Int) + 0))), fun (v : Value) (w' : World) => v = .bool (decide (((pairsM (setMN mn (i % mn) (j % mn)) (setMR mn mr (i % mn) (j % mn))).length : Int) = (((pairsM mn mr).length : Int) + 0))), fun (v : Value) (w' : World) => v = .agg #[.int .i64 mn, .slice a_mr mr.length c_mr], fun (v : Value) (w' : World) => v = .agg #[.int .i64 (setMN mn (i % mn) (j % mn)), .slice a0 (setMR mn mr (i % mn) (j % mn)).length c0], fun (v : Value) (w' : World) => v = .bool (subM mn mr (setMN mn (i % mn) (j % mn)) (setMR mn mr (i % mn) (j % mn))), fun (v : Value) (w' : World) => v = .bool (subM mn mr (setMN mn (i % mn) (j % mn)) (setMR mn mr (i % mn) (j % mn))), fun (v : Value) (w' : World) => v = .bool (subM mn mr (setMN mn (i % mn) (j % mn)) (setMR mn mr (i % mn) (j % mn))), fun (v : Value) (w' : World) => v = .agg #[.int .i64 (orMN mn (setMN mn (i % mn) (j % mn))), .slice a1 (orMR mn mr (setMN mn (i % mn) (j % mn)) (setMR mn mr (i % mn) (j % mn))).length c1], fun (v : Value) (w' : World) => v = .agg #[.int .i64 (setMN mn (i % mn) (j % mn)), .slice a0 (setMR mn mr (i % mn) (j % mn)).length c0]] rfl (by kernel_rfl) ?_ ?_
            ·
              refine ⟨fun _ => ⟨fun f12 w27 hf12 xt25 hp12 => ?_, fun _ _ _ _ h => h⟩, ?_⟩
              ·
                have H31 := H23.ext xt25
                have cc10 := awake03 (w := w27)
                refine ca go35 rfl e0 cc10 ?_
                rintro _ w28 ⟨rfl, xt26⟩
                have H32 := H31.ext xt26
                exact ⟨_, rfl, xt26, rfl⟩
              refine ⟨fun _ => ⟨fun f13 w29 hf13 xt27 hp13 => ?_, fun _ _ _ _ h => h⟩, ?_⟩
              ·
                have H33 := H23.ext xt27
                have s12 : f13 55 = .bool true := hp13 0 rfl rfl
                refine mv rfl s12 ?_
                exact ⟨_, rfl, Ext.refl _, rfl⟩
              refine ⟨fun _ => ⟨fun f14 w30 hf14 xt28 hp14 => ?_, fun _ _ _ _ h => h⟩, ?_⟩
              ·
                have H34 := H23.ext xt28
                have s13 : f14 56 = .bool true := hp14 1 rfl rfl
                refine gy rfl rfl s13 rfl (mv rfl (hf14 10 rfl) ?_)
                exact ⟨_, rfl, Ext.refl _, rfl⟩
              refine ⟨fun _ => ⟨fun f15 w31 hf15 xt29 hp15 => ?_, fun _ _ _ _ h => h⟩, ?_⟩
              ·
                have H35 := H23.ext xt29
                have s14 : f15 56 = .bool true := hp15 1 rfl rfl
                have s15 : f15 57 = .int .i64 (setME mn (i % mn) (j % mn)) := hp15 2 rfl rfl
                refine gy rfl rfl s14 rfl (eql rfl rfl s15 rfl ?_)
                exact ⟨_, rfl, Ext.refl _, rfl⟩
              refine ⟨fun _ => ⟨fun f16 w32 hf16 xt30 hp16 => ?_, fun _ _ _ _ h => h⟩, ?_⟩
              ·
                have H36 := H23.ext xt30
                have s16 : f16 56 = .bool true := hp16 1 rfl rfl
                have s17 : f16 58 = .bool (decide ((setME mn (i % mn) (j % mn)) = 0)) := hp16 3 rfl rfl
                refine pickT rfl rfl rfl s16 rfl s17 ?_
                exact ⟨_, rfl, Ext.refl _, rfl⟩
              refine ⟨fun _ => ⟨fun f17 w33 hf17 xt31 hp17 => ?_, fun _ _ _ _ h => h⟩, ?_⟩
              ·
                have H37 := H23.ext xt31
                have s18 : f17 59 = .bool (decide ((setME mn (i % mn) (j % mn)) = 0)) := hp17 4 rfl rfl
                refine mv rfl s18 ?_
                exact ⟨_, rfl, Ext.refl _, rfl⟩
              refine ⟨fun _ => ⟨fun f18 w34 hf18 xt32 hp18 => ?_, fun _ _ _ _ h => h⟩, ?_⟩
              ·
                have H38 := H23.ext xt32
                have s19 : f18 60 = .bool (decide ((setME mn (i % mn) (j % mn)) = 0)) := hp18 5 rfl rfl
                refine gy rfl rfl s19 (decide_eq_true (set_e rt_ hin_)) (mv rfl (hf18 12 rfl) ?_)
                exact ⟨_, rfl, Ext.refl _, rfl⟩
              refine ⟨fun _ => ⟨fun f19 w35 hf19 xt33 hp19 => ?_, fun _ _ _ _ h => h⟩, ?_⟩
              ·
                have H39 := H23.ext xt33
                have s20 : f19 60 = .bool (decide ((setME mn (i % mn) (j % mn)) = 0)) := hp19 5 rfl rfl
                have s21 : f19 61 = .int .i64 (orME mn (setMN mn (i % mn) (j % mn))) := hp19 6 rfl rfl
                refine gy rfl rfl s20 (decide_eq_true (set_e rt_ hin_)) (eql rfl rfl s21 rfl ?_)
                exact ⟨_, rfl, Ext.refl _, rfl⟩
              refine ⟨fun _ => ⟨fun f20 w36 hf20 xt34 hp20 => ?_, fun _ _ _ _ h => h⟩, ?_⟩
              ·
                have H40 := H23.ext xt34
                have s22 : f20 60 = .bool (decide ((setME mn (i % mn) (j % mn)) = 0)) := hp20 5 rfl rfl
                have s23 : f20 62 = .bool (decide ((orME mn (setMN mn (i % mn) (j % mn))) = 0)) := hp20 7 rfl rfl
                refine pickT rfl rfl rfl s22 (decide_eq_true (set_e rt_ hin_)) s23 ?_
                exact ⟨_, rfl, Ext.refl _, rfl⟩
              refine ⟨fun _ => ⟨fun f21 w37 hf21 xt35 hp21 => ?_, fun _ _ _ _ h => h⟩, ?_⟩
              ·
                have H41 := H23.ext xt35
                have s24 : f21 63 = .bool (decide ((orME mn (setMN mn (i % mn) (j % mn))) = 0)) := hp21 8 rfl rfl
                refine mv rfl s24 ?_
                exact ⟨_, rfl, Ext.refl _, rfl⟩
              refine ⟨fun _ => ⟨fun f22 w38 hf22 xt36 hp22 => ?_, fun _ _ _ _ h => h⟩, ?_⟩
              ·
                have H42 := H23.ext xt36
                have s25 : f22 64 = .bool (decide ((orME mn (setMN mn (i % mn) (j % mn))) = 0)) := hp22 9 rfl rfl
                refine gy rfl rfl s25 (decide_eq_true (or_set_e rt_ hin_)) (ldX H42 2 rfl ty38 rfl (hf22 9 rfl) (by decide) rfl ?_)
                exact ⟨_, rfl, Ext.refl _, rfl⟩
              refine ⟨fun _ => ⟨fun f23 w39 hf23 xt37 hp23 => ?_, fun _ _ _ _ h => h⟩, ?_⟩
              ·
                have H43 := H23.ext xt37
                have s26 : f23 64 = .bool (decide ((orME mn (setMN mn (i % mn) (j % mn))) = 0)) := hp23 9 rfl rfl
                refine gy rfl rfl s26 (decide_eq_true (or_set_e rt_ hin_)) (mv rfl ((hf23 7 rfl).trans s10) ?_)
                exact ⟨_, rfl, Ext.refl _, rfl⟩
              refine ⟨fun _ => ⟨fun f24 w40 hf24 xt38 hp24 => ?_, fun _ _ _ _ h => h⟩, ?_⟩
              ·
                have H44 := H23.ext xt38
                have s27 : f24 64 = .bool (decide ((orME mn (setMN mn (i % mn) (j % mn))) = 0)) := hp24 9 rfl rfl
                refine gy rfl rfl s27 (decide_eq_true (or_set_e rt_ hin_)) (mv rfl (hf24 8 rfl) ?_)
                exact ⟨_, rfl, Ext.refl _, rfl⟩
              refine ⟨fun _ => ⟨fun f25 w41 hf25 xt39 hp25 => ?_, fun _ _ _ _ h => h⟩, ?_⟩
              ·
                have H45 := H23.ext xt39
                have s28 : f25 64 = .bool (decide ((orME mn (setMN mn (i % mn) (j % mn))) = 0)) := hp25 9 rfl rfl
                have s29 : f25 65 = .agg #[.int .i64 (setMN mn (i % mn) (j % mn)), .slice a0 (setMR mn mr (i % mn) (j % mn)).length c0] := hp25 10 rfl rfl
                have s30 : f25 66 = .int .i64 (i % mn) := hp25 11 rfl rfl
                have s31 : f25 67 = .int .i64 (j % mn) := hp25 12 rfl rfl
                refine gy rfl rfl s28 (decide_eq_true (or_set_e rt_ hin_)) ?_
                have cc11 := mat_Has (mn := (setMN mn (i % mn) (j % mn))) (mr := (setMR mn mr (i % mn) (j % mn))) (i := (i % mn)) (j := (j % mn)) (w := w41) H45.mb (by have h_ := right_sq (set_right rt_ hin_); unfold I64; omega) (H45.rv 3 rfl) (by unfold I64 at *; omega) (by unfold I64 at *; omega) (by first | exact (right_sq rt_).1 | exact (right_sq rt_).2.1 | exact (right_sq rt_).2.2.1 | exact (right_sq rt_).2.2.2.2 | exact (right_sq (set_right rt_ hin_)).1 | exact (right_sq (set_right rt_ hin_)).2.1 | exact (right_sq (set_right rt_ hin_)).2.2.1 | exact (right_sq (set_right rt_ hin_)).2.2.2.2 | exact (right_sq (or_set_right rt_ hin_)).1 | exact (right_sq (or_set_right rt_ hin_)).2.1 | exact (right_sq (or_set_right rt_ hin_)).2.2.1 | exact (right_sq (or_set_right rt_ hin_)).2.2.2.2) (by first | exact (right_sq rt_).1 | exact (right_sq rt_).2.1 | exact (right_sq rt_).2.2.1 | exact (right_sq rt_).2.2.2.2 | exact (right_sq (set_right rt_ hin_)).1 | exact (right_sq (set_right rt_ hin_)).2.1 | exact (right_sq (set_right rt_ hin_)).2.2.1 | exact (right_sq (set_right rt_ hin_)).2.2.2.2 | exact (right_sq (or_set_right rt_ hin_)).1 | exact (right_sq (or_set_right rt_ hin_)).2.1 | exact (right_sq (or_set_right rt_ hin_)).2.2.1 | exact (right_sq (or_set_right rt_ hin_)).2.2.2.2) (by first | exact (right_sq rt_).1 | exact (right_sq rt_).2.1 | exact (right_sq rt_).2.2.1 | exact (right_sq rt_).2.2.2.2 | exact (right_sq (set_right rt_ hin_)).1 | exact (right_sq (set_right rt_ hin_)).2.1 | exact (right_sq (set_right rt_ hin_)).2.2.1 | exact (right_sq (set_right rt_ hin_)).2.2.2.2 | exact (right_sq (or_set_right rt_ hin_)).1 | exact (right_sq (or_set_right rt_ hin_)).2.1 | exact (right_sq (or_set_right rt_ hin_)).2.2.1 | exact (right_sq (or_set_right rt_ hin_)).2.2.2.2)
                refine ca go40 rfl (ec s29 (ec s30 (ec s31 e0))) cc11 ?_
                rintro _ w42 ⟨rfl, xt40⟩
                have H46 := H45.ext xt40
                exact ⟨_, rfl, xt40, rfl⟩
              refine ⟨fun _ => ⟨fun f26 w43 hf26 xt41 hp26 => ?_, fun _ _ _ _ h => h⟩, ?_⟩
              ·
                have H47 := H23.ext xt41
                have s32 : f26 64 = .bool (decide ((orME mn (setMN mn (i % mn) (j % mn))) = 0)) := hp26 9 rfl rfl
                have s33 : f26 68 = .bool (hasM (setMN mn (i % mn) (j % mn)) (setMR mn mr (i % mn) (j % mn)) (i % mn) (j % mn)) := hp26 13 rfl rfl
                refine pickT rfl rfl rfl s32 (decide_eq_true (or_set_e rt_ hin_)) s33 ?_
                exact ⟨_, rfl, Ext.refl _, rfl⟩
              refine ⟨fun _ => ⟨fun f27 w44 hf27 xt42 hp27 => ?_, fun _ _ _ _ h => h⟩, ?_⟩
              ·
                have H48 := H23.ext xt42
                have s34 : f27 69 = .bool (hasM (setMN mn (i % mn) (j % mn)) (setMR mn mr (i % mn) (j % mn)) (i % mn) (j % mn)) := hp27 14 rfl rfl
                refine mv rfl s34 ?_
                exact ⟨_, rfl, Ext.refl _, rfl⟩
              refine ⟨fun _ => ⟨fun f28 w45 hf28 xt43 hp28 => ?_, fun _ _ _ _ h => h⟩, ?_⟩
              ·
                have H49 := H23.ext xt43
                have s35 : f28 70 = .bool (hasM (setMN mn (i % mn) (j % mn)) (setMR mn mr (i % mn) (j % mn)) (i % mn) (j % mn)) := hp28 15 rfl rfl
                refine gy rfl rfl s35 (set_has rt_ hin_) (ldX H49 2 rfl ty38 rfl (hf28 9 rfl) (by decide) rfl ?_)
                exact ⟨_, rfl, Ext.refl _, rfl⟩
              refine ⟨fun _ => ⟨fun f29 w46 hf29 xt44 hp29 => ?_, by rintro _ _ _ x_ ⟨a2, c2, e_, rv2⟩; exact ⟨a2, c2, e_, rv2.lift (Up.ext x_)⟩⟩, ?_⟩
              ·
                have H50 := H23.ext xt44
                have s36 : f29 70 = .bool (hasM (setMN mn (i % mn) (j % mn)) (setMR mn mr (i % mn) (j % mn)) (i % mn) (j % mn)) := hp29 15 rfl rfl
                have s37 : f29 71 = .agg #[.int .i64 (setMN mn (i % mn) (j % mn)), .slice a0 (setMR mn mr (i % mn) (j % mn)).length c0] := hp29 16 rfl rfl
                refine gy rfl rfl s36 (set_has rt_ hin_) ?_
                have cc12 := mat_Pairs (mn := (setMN mn (i % mn) (j % mn))) (mr := (setMR mn mr (i % mn) (j % mn))) (w := w46) H50.mb (hT.ext H50.below) (by have h_ := right_sq (set_right rt_ hin_); unfold I64; omega) (H50.rv 3 rfl) (by first | exact (right_sq rt_).1 | exact (right_sq rt_).2.1 | exact (right_sq rt_).2.2.1 | exact (right_sq rt_).2.2.2.2 | exact (right_sq (set_right rt_ hin_)).1 | exact (right_sq (set_right rt_ hin_)).2.1 | exact (right_sq (set_right rt_ hin_)).2.2.1 | exact (right_sq (set_right rt_ hin_)).2.2.2.2 | exact (right_sq (or_set_right rt_ hin_)).1 | exact (right_sq (or_set_right rt_ hin_)).2.1 | exact (right_sq (or_set_right rt_ hin_)).2.2.1 | exact (right_sq (or_set_right rt_ hin_)).2.2.2.2) (by first | exact (right_sq rt_).1 | exact (right_sq rt_).2.1 | exact (right_sq rt_).2.2.1 | exact (right_sq rt_).2.2.2.2 | exact (right_sq (set_right rt_ hin_)).1 | exact (right_sq (set_right rt_ hin_)).2.1 | exact (right_sq (set_right rt_ hin_)).2.2.1 | exact (right_sq (set_right rt_ hin_)).2.2.2.2 | exact (right_sq (or_set_right rt_ hin_)).1 | exact (right_sq (or_set_right rt_ hin_)).2.1 | exact (right_sq (or_set_right rt_ hin_)).2.2.1 | exact (right_sq (or_set_right rt_ hin_)).2.2.2.2) (by first | exact (right_sq rt_).1 | exact (right_sq rt_).2.1 | exact (right_sq rt_).2.2.1 | exact (right_sq rt_).2.2.2.2 | exact (right_sq (set_right rt_ hin_)).1 | exact (right_sq (set_right rt_ hin_)).2.1 | exact (right_sq (set_right rt_ hin_)).2.2.1 | exact (right_sq (set_right rt_ hin_)).2.2.2.2 | exact (right_sq (or_set_right rt_ hin_)).1 | exact (right_sq (or_set_right rt_ hin_)).2.1 | exact (right_sq (or_set_right rt_ hin_)).2.2.1 | exact (right_sq (or_set_right rt_ hin_)).2.2.2.2) (by first | exact (right_sq rt_).1 | exact (right_sq rt_).2.1 | exact (right_sq rt_).2.2.1 | exact (right_sq rt_).2.2.2.2 | exact (right_sq (set_right rt_ hin_)).1 | exact (right_sq (set_right rt_ hin_)).2.1 | exact (right_sq (set_right rt_ hin_)).2.2.1 | exact (right_sq (set_right rt_ hin_)).2.2.2.2 | exact (right_sq (or_set_right rt_ hin_)).1 | exact (right_sq (or_set_right rt_ hin_)).2.1 | exact (right_sq (or_set_right rt_ hin_)).2.2.1 | exact (right_sq (or_set_right rt_ hin_)).2.2.2.2)
                refine ca go37 rfl (ec s37 e0) cc12 ?_
                rintro _ w47 ⟨a4, c4, rfl, xt45, rv4⟩
                have H51 := H50.ext xt45
                have H52 := H51.put (it := imm (.slice a4 (pairsM (setMN mn (i % mn) (j % mn)) (setMR mn mr (i % mn) (j % mn))).length c4) (pairsM (setMN mn (i % mn) (j % mn)) (setMR mn mr (i % mn) (j % mn)))) rfl rv4
                exact ⟨_, rfl, xt45, ⟨a4, c4, rfl, rv4⟩⟩
              refine ⟨fun _ => ⟨fun f30 w48 hf30 xt46 hp30 => ?_, fun _ _ _ _ h => h⟩, ?_⟩
              ·
                have H53 := H23.ext xt46
                have s38 : f30 70 = .bool (hasM (setMN mn (i % mn) (j % mn)) (setMR mn mr (i % mn) (j % mn)) (i % mn) (j % mn)) := hp30 15 rfl rfl
                obtain ⟨a5, c5, s39, rv5⟩ : ∃ (a5 : Option Addr) (c5 : Nat), f30 72 = .slice a5 (pairsM (setMN mn (i % mn) (j % mn)) (setMR mn mr (i % mn) (j % mn))).length c5 ∧ RV (MS M [box bb2 #[.int .i64 (orMN mn (setMN mn (i % mn) (j % mn))), .slice a1 (orMR mn mr (setMN mn (i % mn) (j % mn)) (setMR mn mr (i % mn) (j % mn))).length c1] 38, own w.heap.size 22 (.slice a1 (orMR mn mr (setMN mn (i % mn) (j % mn)) (setMR mn mr (i % mn) (j % mn))).length c1) (orMR mn mr (setMN mn (i % mn) (j % mn)) (setMR mn mr (i % mn) (j % mn))), box bb1 #[.int .i64 (setMN mn (i % mn) (j % mn)), .slice a0 (setMR mn mr (i % mn) (j % mn)).length c0] 38, imm (.slice a0 (setMR mn mr (i % mn) (j % mn)).length c0) (setMR mn mr (i % mn) (j % mn)), box bb0 #[.int .i64 mn, .slice a_mr mr.length c_mr] 38, imm (.slice a_mr mr.length c_mr) mr]) w48 (.slice a5 (pairsM (setMN mn (i % mn) (j % mn)) (setMR mn mr (i % mn) (j % mn))).length c5) (pairsM (setMN mn (i % mn) (j % mn)) (setMR mn mr (i % mn) (j % mn))) := hp30 17 rfl rfl
                have H54 := H53.put (it := imm (.slice a5 (pairsM (setMN mn (i % mn) (j % mn)) (setMR mn mr (i % mn) (j % mn))).length c5) (pairsM (setMN mn (i % mn) (j % mn)) (setMR mn mr (i % mn) (j % mn)))) rfl rv5
                refine gy rfl rfl s38 (set_has rt_ hin_) (lnS rfl s39 un44 ?_)
                exact ⟨_, rfl, Ext.refl _, rfl⟩
              refine ⟨fun _ => ⟨fun f31 w49 hf31 xt47 hp31 => ?_, fun _ _ _ _ h => h⟩, ?_⟩
              ·
                have H55 := H23.ext xt47
                have s40 : f31 70 = .bool (hasM (setMN mn (i % mn) (j % mn)) (setMR mn mr (i % mn) (j % mn)) (i % mn) (j % mn)) := hp31 15 rfl rfl
                refine gy rfl rfl s40 (set_has rt_ hin_) (ldX H55 4 rfl ty38 rfl ((hf31 3 rfl).trans s9) (by decide) rfl ?_)
                exact ⟨_, rfl, Ext.refl _, rfl⟩
              refine ⟨fun _ => ⟨fun f32 w50 hf32 xt48 hp32 => ?_, by rintro _ _ _ x_ ⟨a3, c3, e_, rv3⟩; exact ⟨a3, c3, e_, rv3.lift (Up.ext x_)⟩⟩, ?_⟩
              ·
                have H56 := H23.ext xt48
                have s41 : f32 70 = .bool (hasM (setMN mn (i % mn) (j % mn)) (setMR mn mr (i % mn) (j % mn)) (i % mn) (j % mn)) := hp32 15 rfl rfl
                have s42 : f32 74 = .agg #[.int .i64 mn, .slice a_mr mr.length c_mr] := hp32 19 rfl rfl
                refine gy rfl rfl s41 (set_has rt_ hin_) ?_
                have cc13 := mat_Pairs (mn := mn) (mr := mr) (w := w50) H56.mb (hT.ext H56.below) (by unfold I64 at *; omega) (H56.rv 5 rfl) (by first | exact (right_sq rt_).1 | exact (right_sq rt_).2.1 | exact (right_sq rt_).2.2.1 | exact (right_sq rt_).2.2.2.2 | exact (right_sq (set_right rt_ hin_)).1 | exact (right_sq (set_right rt_ hin_)).2.1 | exact (right_sq (set_right rt_ hin_)).2.2.1 | exact (right_sq (set_right rt_ hin_)).2.2.2.2 | exact (right_sq (or_set_right rt_ hin_)).1 | exact (right_sq (or_set_right rt_ hin_)).2.1 | exact (right_sq (or_set_right rt_ hin_)).2.2.1 | exact (right_sq (or_set_right rt_ hin_)).2.2.2.2) (by first | exact (right_sq rt_).1 | exact (right_sq rt_).2.1 | exact (right_sq rt_).2.2.1 | exact (right_sq rt_).2.2.2.2 | exact (right_sq (set_right rt_ hin_)).1 | exact (right_sq (set_right rt_ hin_)).2.1 | exact (right_sq (set_right rt_ hin_)).2.2.1 | exact (right_sq (set_right rt_ hin_)).2.2.2.2 | exact (right_sq (or_set_right rt_ hin_)).1 | exact (right_sq (or_set_right rt_ hin_)).2.1 | exact (right_sq (or_set_right rt_ hin_)).2.2.1 | exact (right_sq (or_set_right rt_ hin_)).2.2.2.2) (by first | exact (right_sq rt_).1 | exact (right_sq rt_).2.1 | exact (right_sq rt_).2.2.1 | exact (right_sq rt_).2.2.2.2 | exact (right_sq (set_right rt_ hin_)).1 | exact (right_sq (set_right rt_ hin_)).2.1 | exact (right_sq (set_right rt_ hin_)).2.2.1 | exact (right_sq (set_right rt_ hin_)).2.2.2.2 | exact (right_sq (or_set_right rt_ hin_)).1 | exact (right_sq (or_set_right rt_ hin_)).2.1 | exact (right_sq (or_set_right rt_ hin_)).2.2.1 | exact (right_sq (or_set_right rt_ hin_)).2.2.2.2) (by first | exact (right_sq rt_).1 | exact (right_sq rt_).2.1 | exact (right_sq rt_).2.2.1 | exact (right_sq rt_).2.2.2.2 | exact (right_sq (set_right rt_ hin_)).1 | exact (right_sq (set_right rt_ hin_)).2.1 | exact (right_sq (set_right rt_ hin_)).2.2.1 | exact (right_sq (set_right rt_ hin_)).2.2.2.2 | exact (right_sq (or_set_right rt_ hin_)).1 | exact (right_sq (or_set_right rt_ hin_)).2.1 | exact (right_sq (or_set_right rt_ hin_)).2.2.1 | exact (right_sq (or_set_right rt_ hin_)).2.2.2.2)
                refine ca go37 rfl (ec s42 e0) cc13 ?_
                rintro _ w51 ⟨a6, c6, rfl, xt49, rv6⟩
                have H57 := H56.ext xt49
                have H58 := H57.put (it := imm (.slice a6 (pairsM mn mr).length c6) (pairsM mn mr)) rfl rv6
                exact ⟨_, rfl, xt49, ⟨a6, c6, rfl, rv6⟩⟩
              refine ⟨fun _ => ⟨fun f33 w52 hf33 xt50 hp33 => ?_, fun _ _ _ _ h => h⟩, ?_⟩
              ·
                have H59 := H23.ext xt50
                have s43 : f33 70 = .bool (hasM (setMN mn (i % mn) (j % mn)) (setMR mn mr (i % mn) (j % mn)) (i % mn) (j % mn)) := hp33 15 rfl rfl
                obtain ⟨a7, c7, s44, rv7⟩ : ∃ (a7 : Option Addr) (c7 : Nat), f33 75 = .slice a7 (pairsM mn mr).length c7 ∧ RV (MS M [box bb2 #[.int .i64 (orMN mn (setMN mn (i % mn) (j % mn))), .slice a1 (orMR mn mr (setMN mn (i % mn) (j % mn)) (setMR mn mr (i % mn) (j % mn))).length c1] 38, own w.heap.size 22 (.slice a1 (orMR mn mr (setMN mn (i % mn) (j % mn)) (setMR mn mr (i % mn) (j % mn))).length c1) (orMR mn mr (setMN mn (i % mn) (j % mn)) (setMR mn mr (i % mn) (j % mn))), box bb1 #[.int .i64 (setMN mn (i % mn) (j % mn)), .slice a0 (setMR mn mr (i % mn) (j % mn)).length c0] 38, imm (.slice a0 (setMR mn mr (i % mn) (j % mn)).length c0) (setMR mn mr (i % mn) (j % mn)), box bb0 #[.int .i64 mn, .slice a_mr mr.length c_mr] 38, imm (.slice a_mr mr.length c_mr) mr]) w52 (.slice a7 (pairsM mn mr).length c7) (pairsM mn mr) := hp33 20 rfl rfl
                have H60 := H59.put (it := imm (.slice a7 (pairsM mn mr).length c7) (pairsM mn mr)) rfl rv7
                refine gy rfl rfl s43 (set_has rt_ hin_) (lnS rfl s44 un44 ?_)
                exact ⟨_, rfl, Ext.refl _, rfl⟩
              refine ⟨fun _ => ⟨fun f34 w53 hf34 xt51 hp34 => ?_, fun _ _ _ _ h => h⟩, ?_⟩
              ·
                have H61 := H23.ext xt51
                have s45 : f34 70 = .bool (hasM (setMN mn (i % mn) (j % mn)) (setMR mn mr (i % mn) (j % mn)) (i % mn) (j % mn)) := hp34 15 rfl rfl
                refine gy rfl rfl s45 (set_has rt_ hin_) (mv rfl (hf34 13 rfl) ?_)
                exact ⟨_, rfl, Ext.refl _, rfl⟩
              refine ⟨fun _ => ⟨fun f35 w54 hf35 xt52 hp35 => ?_, fun _ _ _ _ h => h⟩, ?_⟩
              ·
                have H62 := H23.ext xt52
                have s46 : f35 70 = .bool (hasM (setMN mn (i % mn) (j % mn)) (setMR mn mr (i % mn) (j % mn)) (i % mn) (j % mn)) := hp35 15 rfl rfl
                have s47 : f35 76 = .int .i64 ((pairsM mn mr).length : Int) := hp35 21 rfl rfl
                have s48 : f35 77 = .int .i64 0 := hp35 22 rfl rfl
                refine gy rfl rfl s46 (set_has rt_ hin_) (add rfl rfl s47 s48 (by have h_ := right_pairs rt_; unfold I64; omega) ?_)
                exact ⟨_, rfl, Ext.refl _, rfl⟩
              refine ⟨fun _ => ⟨fun f36 w55 hf36 xt53 hp36 => ?_, fun _ _ _ _ h => h⟩, ?_⟩
              ·
                have H63 := H23.ext xt53
                have s49 : f36 70 = .bool (hasM (setMN mn (i % mn) (j % mn)) (setMR mn mr (i % mn) (j % mn)) (i % mn) (j % mn)) := hp36 15 rfl rfl
                have s50 : f36 73 = .int .i64 ((pairsM (setMN mn (i % mn) (j % mn)) (setMR mn mr (i % mn) (j % mn))).length : Int) := hp36 18 rfl rfl
                have s51 : f36 78 = .int .i64 (((pairsM mn mr).length : Int) + 0) := hp36 23 rfl rfl
                refine gy rfl rfl s49 (set_has rt_ hin_) (eql rfl rfl s50 s51 ?_)
                exact ⟨_, rfl, Ext.refl _, rfl⟩
              refine ⟨fun _ => ⟨fun f37 w56 hf37 xt54 hp37 => ?_, fun _ _ _ _ h => h⟩, ?_⟩
              ·
                have H64 := H23.ext xt54
                have s52 : f37 70 = .bool (hasM (setMN mn (i % mn) (j % mn)) (setMR mn mr (i % mn) (j % mn)) (i % mn) (j % mn)) := hp37 15 rfl rfl
                have s53 : f37 79 = .bool (decide (((pairsM (setMN mn (i % mn) (j % mn)) (setMR mn mr (i % mn) (j % mn))).length : Int) = (((pairsM mn mr).length : Int) + 0))) := hp37 24 rfl rfl
                refine pickT rfl rfl rfl s52 (set_has rt_ hin_) s53 ?_
                exact ⟨_, rfl, Ext.refl _, rfl⟩
              refine ⟨fun _ => ⟨fun f38 w57 hf38 xt55 hp38 => ?_, fun _ _ _ _ h => h⟩, ?_⟩
              ·
                have H65 := H23.ext xt55
                have s54 : f38 80 = .bool (decide (((pairsM (setMN mn (i % mn) (j % mn)) (setMR mn mr (i % mn) (j % mn))).length : Int) = (((pairsM mn mr).length : Int) + 0))) := hp38 25 rfl rfl
                refine mv rfl s54 ?_
                exact ⟨_, rfl, Ext.refl _, rfl⟩
              refine ⟨fun _ => ⟨fun f39 w58 hf39 xt56 hp39 => ?_, fun _ _ _ _ h => h⟩, ?_⟩
              ·
                have H66 := H23.ext xt56
                have s55 : f39 81 = .bool (decide (((pairsM (setMN mn (i % mn) (j % mn)) (setMR mn mr (i % mn) (j % mn))).length : Int) = (((pairsM mn mr).length : Int) + 0))) := hp39 26 rfl rfl
                refine gy rfl rfl s55 (decide_eq_true (by rw [set_len rt_ hin_, b3]; simp)) (ldX H66 4 rfl ty38 rfl ((hf39 3 rfl).trans s9) (by decide) rfl ?_)
                exact ⟨_, rfl, Ext.refl _, rfl⟩
              refine ⟨fun _ => ⟨fun f40 w59 hf40 xt57 hp40 => ?_, fun _ _ _ _ h => h⟩, ?_⟩
              ·
                have H67 := H23.ext xt57
                have s56 : f40 81 = .bool (decide (((pairsM (setMN mn (i % mn) (j % mn)) (setMR mn mr (i % mn) (j % mn))).length : Int) = (((pairsM mn mr).length : Int) + 0))) := hp40 26 rfl rfl
                refine gy rfl rfl s56 (decide_eq_true (by rw [set_len rt_ hin_, b3]; simp)) (ldX H67 2 rfl ty38 rfl (hf40 9 rfl) (by decide) rfl ?_)
                exact ⟨_, rfl, Ext.refl _, rfl⟩
              refine ⟨fun _ => ⟨fun f41 w60 hf41 xt58 hp41 => ?_, fun _ _ _ _ h => h⟩, ?_⟩
              ·
                have H68 := H23.ext xt58
                have s57 : f41 81 = .bool (decide (((pairsM (setMN mn (i % mn) (j % mn)) (setMR mn mr (i % mn) (j % mn))).length : Int) = (((pairsM mn mr).length : Int) + 0))) := hp41 26 rfl rfl
                have s58 : f41 82 = .agg #[.int .i64 mn, .slice a_mr mr.length c_mr] := hp41 27 rfl rfl
                have s59 : f41 83 = .agg #[.int .i64 (setMN mn (i % mn) (j % mn)), .slice a0 (setMR mn mr (i % mn) (j % mn)).length c0] := hp41 28 rfl rfl
                refine gy rfl rfl s57 (decide_eq_true (by rw [set_len rt_ hin_, b3]; simp)) ?_
                have cc14 := mat_Sub (an := mn) (ar := mr) (bn := (setMN mn (i % mn) (j % mn))) (br := (setMR mn mr (i % mn) (j % mn))) (w := w60) H68.mb (by unfold I64 at *; omega) (H68.rv 5 rfl) (by have h_ := right_sq (set_right rt_ hin_); unfold I64; omega) (H68.rv 3 rfl) (by first | exact (right_sq rt_).1 | exact (right_sq rt_).2.1 | exact (right_sq rt_).2.2.1 | exact (right_sq rt_).2.2.2.2 | exact (right_sq (set_right rt_ hin_)).1 | exact (right_sq (set_right rt_ hin_)).2.1 | exact (right_sq (set_right rt_ hin_)).2.2.1 | exact (right_sq (set_right rt_ hin_)).2.2.2.2 | exact (right_sq (or_set_right rt_ hin_)).1 | exact (right_sq (or_set_right rt_ hin_)).2.1 | exact (right_sq (or_set_right rt_ hin_)).2.2.1 | exact (right_sq (or_set_right rt_ hin_)).2.2.2.2) (by first | exact (right_sq rt_).1 | exact (right_sq rt_).2.1 | exact (right_sq rt_).2.2.1 | exact (right_sq rt_).2.2.2.2 | exact (right_sq (set_right rt_ hin_)).1 | exact (right_sq (set_right rt_ hin_)).2.1 | exact (right_sq (set_right rt_ hin_)).2.2.1 | exact (right_sq (set_right rt_ hin_)).2.2.2.2 | exact (right_sq (or_set_right rt_ hin_)).1 | exact (right_sq (or_set_right rt_ hin_)).2.1 | exact (right_sq (or_set_right rt_ hin_)).2.2.1 | exact (right_sq (or_set_right rt_ hin_)).2.2.2.2) (by first | exact (right_sq rt_).1 | exact (right_sq rt_).2.1 | exact (right_sq rt_).2.2.1 | exact (right_sq rt_).2.2.2.2 | exact (right_sq (set_right rt_ hin_)).1 | exact (right_sq (set_right rt_ hin_)).2.1 | exact (right_sq (set_right rt_ hin_)).2.2.1 | exact (right_sq (set_right rt_ hin_)).2.2.2.2 | exact (right_sq (or_set_right rt_ hin_)).1 | exact (right_sq (or_set_right rt_ hin_)).2.1 | exact (right_sq (or_set_right rt_ hin_)).2.2.1 | exact (right_sq (or_set_right rt_ hin_)).2.2.2.2) (by first | exact (right_sq rt_).1 | exact (right_sq rt_).2.1 | exact (right_sq rt_).2.2.1 | exact (right_sq rt_).2.2.2.2 | exact (right_sq (set_right rt_ hin_)).1 | exact (right_sq (set_right rt_ hin_)).2.1 | exact (right_sq (set_right rt_ hin_)).2.2.1 | exact (right_sq (set_right rt_ hin_)).2.2.2.2 | exact (right_sq (or_set_right rt_ hin_)).1 | exact (right_sq (or_set_right rt_ hin_)).2.1 | exact (right_sq (or_set_right rt_ hin_)).2.2.1 | exact (right_sq (or_set_right rt_ hin_)).2.2.2.2) (by first | exact (right_sq rt_).1 | exact (right_sq rt_).2.1 | exact (right_sq rt_).2.2.1 | exact (right_sq rt_).2.2.2.2 | exact (right_sq (set_right rt_ hin_)).1 | exact (right_sq (set_right rt_ hin_)).2.1 | exact (right_sq (set_right rt_ hin_)).2.2.1 | exact (right_sq (set_right rt_ hin_)).2.2.2.2 | exact (right_sq (or_set_right rt_ hin_)).1 | exact (right_sq (or_set_right rt_ hin_)).2.1 | exact (right_sq (or_set_right rt_ hin_)).2.2.1 | exact (right_sq (or_set_right rt_ hin_)).2.2.2.2) (by first | exact (right_sq rt_).1 | exact (right_sq rt_).2.1 | exact (right_sq rt_).2.2.1 | exact (right_sq rt_).2.2.2.2 | exact (right_sq (set_right rt_ hin_)).1 | exact (right_sq (set_right rt_ hin_)).2.1 | exact (right_sq (set_right rt_ hin_)).2.2.1 | exact (right_sq (set_right rt_ hin_)).2.2.2.2 | exact (right_sq (or_set_right rt_ hin_)).1 | exact (right_sq (or_set_right rt_ hin_)).2.1 | exact (right_sq (or_set_right rt_ hin_)).2.2.1 | exact (right_sq (or_set_right rt_ hin_)).2.2.2.2)
                refine ca go59 rfl (ec s58 (ec s59 e0)) cc14 ?_
                rintro _ w61 ⟨rfl, xt59⟩
                have H69 := H68.ext xt59
                exact ⟨_, rfl, xt59, rfl⟩
              refine ⟨fun _ => ⟨fun f42 w62 hf42 xt60 hp42 => ?_, fun _ _ _ _ h => h⟩, ?_⟩
              ·
                have H70 := H23.ext xt60
                have s60 : f42 81 = .bool (decide (((pairsM (setMN mn (i % mn) (j % mn)) (setMR mn mr (i % mn) (j % mn))).length : Int) = (((pairsM mn mr).length : Int) + 0))) := hp42 26 rfl rfl
                have s61 : f42 84 = .bool (subM mn mr (setMN mn (i % mn) (j % mn)) (setMR mn mr (i % mn) (j % mn))) := hp42 29 rfl rfl
                refine pickT rfl rfl rfl s60 (decide_eq_true (by rw [set_len rt_ hin_, b3]; simp)) s61 ?_
                exact ⟨_, rfl, Ext.refl _, rfl⟩
              refine ⟨fun _ => ⟨fun f43 w63 hf43 xt61 hp43 => ?_, fun _ _ _ _ h => h⟩, ?_⟩
              ·
                have H71 := H23.ext xt61
                have s62 : f43 85 = .bool (subM mn mr (setMN mn (i % mn) (j % mn)) (setMR mn mr (i % mn) (j % mn))) := hp43 30 rfl rfl
                refine mv rfl s62 ?_
                exact ⟨_, rfl, Ext.refl _, rfl⟩
              refine ⟨fun _ => ⟨fun f44 w64 hf44 xt62 hp44 => ?_, fun _ _ _ _ h => h⟩, ?_⟩
              ·
                have H72 := H23.ext xt62
                have s63 : f44 86 = .bool (subM mn mr (setMN mn (i % mn) (j % mn)) (setMR mn mr (i % mn) (j % mn))) := hp44 31 rfl rfl
                refine gy rfl rfl s63 (set_sub rt_ hin_) (ldX H72 0 rfl ty38 rfl (hf44 11 rfl) (by decide) rfl ?_)
                exact ⟨_, rfl, Ext.refl _, rfl⟩
              refine ⟨fun _ => ⟨fun f45 w65 hf45 xt63 hp45 => ?_, fun _ _ _ _ h => h⟩, ?_⟩
              ·
                have H73 := H23.ext xt63
                have s64 : f45 86 = .bool (subM mn mr (setMN mn (i % mn) (j % mn)) (setMR mn mr (i % mn) (j % mn))) := hp45 31 rfl rfl
                refine gy rfl rfl s64 (set_sub rt_ hin_) (ldX H73 2 rfl ty38 rfl (hf45 9 rfl) (by decide) rfl ?_)
                exact ⟨_, rfl, Ext.refl _, rfl⟩
              exact DSteps.rest rfl _
            · intro f46 w66 hf46 xt64 hp46
              have H74 := H23.ext xt64
              have s65 : f46 9 = .pointer (some ⟨bb1, 0, none⟩) := hf46 9 rfl
              have s66 : f46 86 = .bool (subM mn mr (setMN mn (i % mn) (j % mn)) (setMR mn mr (i % mn) (j % mn))) := hp46 31 rfl
              have s67 : f46 87 = .agg #[.int .i64 (orMN mn (setMN mn (i % mn) (j % mn))), .slice a1 (orMR mn mr (setMN mn (i % mn) (j % mn)) (setMR mn mr (i % mn) (j % mn))).length c1] := hp46 32 rfl
              have s68 : f46 88 = .agg #[.int .i64 (setMN mn (i % mn) (j % mn)), .slice a0 (setMR mn mr (i % mn) (j % mn)).length c0] := hp46 33 rfl
              refine k (gy rfl rfl s66 (set_sub rt_ hin_) ?_)
              have H75 := H74.freeze 1 rfl
              have cc15 := mat_Same (an := (orMN mn (setMN mn (i % mn) (j % mn)))) (ar := (orMR mn mr (setMN mn (i % mn) (j % mn)) (setMR mn mr (i % mn) (j % mn)))) (bn := (setMN mn (i % mn) (j % mn))) (br := (setMR mn mr (i % mn) (j % mn))) (w := w66) H75.mb (by have h_ := right_sq (or_set_right rt_ hin_); unfold I64; omega) (H75.rv 1 rfl) (by have h_ := right_sq (set_right rt_ hin_); unfold I64; omega) (H75.rv 3 rfl)
              refine ca go60 rfl (ec s67 (ec s68 e0)) cc15 ?_
              rintro _ w67 ⟨rfl, xt65⟩
              have H76 := H74.ext xt65
              refine k (pickT rfl rfl rfl s66 (set_sub rt_ hin_) rfl (k (mv (v := .bool (sameM (orMN mn (setMN mn (i % mn) (j % mn))) (orMR mn mr (setMN mn (i % mn) (j % mn)) (setMR mn mr (i % mn) (j % mn))) (setMN mn (i % mn) (j % mn)) (setMR mn mr (i % mn) (j % mn)))) rfl rfl (k (gy rfl rfl rfl (set_or_same rt_ hin_) (ldX H76 2 rfl ty38 rfl s65 (by decide) rfl (k (gy rfl rfl rfl (set_or_same rt_ hin_) ?_))))))))
              have cc16 := mat_Right (mn := (setMN mn (i % mn) (j % mn))) (mr := (setMR mn mr (i % mn) (j % mn))) (w := w67) H76.mb (by have h_ := right_sq (set_right rt_ hin_); unfold I64; omega) (H76.rv 3 rfl)
              refine ca go61 rfl (ec rfl e0) cc16 ?_
              rintro _ w68 ⟨rfl, xt66⟩
              have H77 := H76.ext xt66
              refine k (pickT rfl rfl rfl rfl (set_or_same rt_ hin_) rfl (k (asg (v := .bool (rightM (setMN mn (i % mn) (j % mn)) (setMR mn mr (i % mn) (j % mn)))) rfl rfl (z (nx (rt (r1 rfl rfl ?_)))))))
              have e0 : (rightM (setMN mn (i % mn) (j % mn)) (setMR mn mr (i % mn) (j % mn)) : Bool) = true := by exact (set_right2 rt_ hin_)
              have ev_ := cg1 (fun (x_0 : Bool) => (.bool x_0 : Value)) e0
              exact ⟨ev_, H77.below⟩
          ·
            refine sk (nx (sq ?_))
            refine dr 34 [fun (v : Value) (w' : World) => v = .bool true, fun (v : Value) (w' : World) => v = .bool true, fun (v : Value) (w' : World) => v = .int .i64 (setME mn (i % mn) (j % mn)), fun (v : Value) (w' : World) => v = .bool (decide ((setME mn (i % mn) (j % mn)) = 0)), fun (v : Value) (w' : World) => v = .bool (decide ((setME mn (i % mn) (j % mn)) = 0)), fun (v : Value) (w' : World) => v = .bool (decide ((setME mn (i % mn) (j % mn)) = 0)), fun (v : Value) (w' : World) => v = .int .i64 (orME mn (setMN mn (i % mn) (j % mn))), fun (v : Value) (w' : World) => v = .bool (decide ((orME mn (setMN mn (i % mn) (j % mn))) = 0)), fun (v : Value) (w' : World) => v = .bool (decide ((orME mn (setMN mn (i % mn) (j % mn))) = 0)), fun (v : Value) (w' : World) => v = .bool (decide ((orME mn (setMN mn (i % mn) (j % mn))) = 0)), fun (v : Value) (w' : World) => v = .agg #[.int .i64 (setMN mn (i % mn) (j % mn)), .slice a0 (setMR mn mr (i % mn) (j % mn)).length c0], fun (v : Value) (w' : World) => v = .int .i64 (i % mn), fun (v : Value) (w' : World) => v = .int .i64 (j % mn), fun (v : Value) (w' : World) => v = .bool (hasM (setMN mn (i % mn) (j % mn)) (setMR mn mr (i % mn) (j % mn)) (i % mn) (j % mn)), fun (v : Value) (w' : World) => v = .bool (hasM (setMN mn (i % mn) (j % mn)) (setMR mn mr (i % mn) (j % mn)) (i % mn) (j % mn)), fun (v : Value) (w' : World) => v = .bool (hasM (setMN mn (i % mn) (j % mn)) (setMR mn mr (i % mn) (j % mn)) (i % mn) (j % mn)), fun (v : Value) (w' : World) => v = .agg #[.int .i64 (setMN mn (i % mn) (j % mn)), .slice a0 (setMR mn mr (i % mn) (j % mn)).length c0], fun (v : Value) (w' : World) => ∃ (a2 : Option Addr) (c2 : Nat), v = .slice a2 (pairsM (setMN mn (i % mn) (j % mn)) (setMR mn mr (i % mn) (j % mn))).length c2 ∧ RV (MS M [box bb2 #[.int .i64 (orMN mn (setMN mn (i % mn) (j % mn))), .slice a1 (orMR mn mr (setMN mn (i % mn) (j % mn)) (setMR mn mr (i % mn) (j % mn))).length c1] 38, own w.heap.size 22 (.slice a1 (orMR mn mr (setMN mn (i % mn) (j % mn)) (setMR mn mr (i % mn) (j % mn))).length c1) (orMR mn mr (setMN mn (i % mn) (j % mn)) (setMR mn mr (i % mn) (j % mn))), box bb1 #[.int .i64 (setMN mn (i % mn) (j % mn)), .slice a0 (setMR mn mr (i % mn) (j % mn)).length c0] 38, imm (.slice a0 (setMR mn mr (i % mn) (j % mn)).length c0) (setMR mn mr (i % mn) (j % mn)), box bb0 #[.int .i64 mn, .slice a_mr mr.length c_mr] 38, imm (.slice a_mr mr.length c_mr) mr]) w' (.slice a2 (pairsM (setMN mn (i % mn) (j % mn)) (setMR mn mr (i % mn) (j % mn))).length c2) (pairsM (setMN mn (i % mn) (j % mn)) (setMR mn mr (i % mn) (j % mn))), fun (v : Value) (w' : World) => v = .int .i64 ((pairsM (setMN mn (i % mn) (j % mn)) (setMR mn mr (i % mn) (j % mn))).length : Int), fun (v : Value) (w' : World) => v = .agg #[.int .i64 mn, .slice a_mr mr.length c_mr], fun (v : Value) (w' : World) => ∃ (a3 : Option Addr) (c3 : Nat), v = .slice a3 (pairsM mn mr).length c3 ∧ RV (MS M [box bb2 #[.int .i64 (orMN mn (setMN mn (i % mn) (j % mn))), .slice a1 (orMR mn mr (setMN mn (i % mn) (j % mn)) (setMR mn mr (i % mn) (j % mn))).length c1] 38, own w.heap.size 22 (.slice a1 (orMR mn mr (setMN mn (i % mn) (j % mn)) (setMR mn mr (i % mn) (j % mn))).length c1) (orMR mn mr (setMN mn (i % mn) (j % mn)) (setMR mn mr (i % mn) (j % mn))), box bb1 #[.int .i64 (setMN mn (i % mn) (j % mn)), .slice a0 (setMR mn mr (i % mn) (j % mn)).length c0] 38, imm (.slice a0 (setMR mn mr (i % mn) (j % mn)).length c0) (setMR mn mr (i % mn) (j % mn)), box bb0 #[.int .i64 mn, .slice a_mr mr.length c_mr] 38, imm (.slice a_mr mr.length c_mr) mr]) w' (.slice a3 (pairsM mn mr).length c3) (pairsM mn mr), fun (v : Value) (w' : World) => v = .int .i64 ((pairsM mn mr).length : Int), fun (v : Value) (w' : World) => v = .int .i64 1, fun (v : Value) (w' : World) => v = .int .i64 (((pairsM mn mr).length : Int) + 1), fun (v : Value) (w' : World) => v = .bool (decide (((pairsM (setMN mn (i % mn) (j % mn)) (setMR mn mr (i % mn) (j % mn))).length : Int) = (((pairsM mn mr).length : Int) + 1))), fun (v : Value) (w' : World) => v = .bool (decide (((pairsM (setMN mn (i % mn) (j % mn)) (setMR mn mr (i % mn) (j % mn))).length : Int) = (((pairsM mn mr).length : Int) + 1))), fun (v : Value) (w' : World) => v = .bool (decide (((pairsM (setMN mn (i % mn) (j % mn)) (setMR mn mr (i % mn) (j % mn))).length : Int) = (((pairsM mn mr).length : Int) + 1))), fun (v : Value) (w' : World) => v = .agg #[.int .i64 mn, .slice a_mr mr.length c_mr], fun (v : Value) (w' : World) => v = .agg #[.int .i64 (setMN mn (i % mn) (j % mn)), .slice a0 (setMR mn mr (i % mn) (j % mn)).length c0], fun (v : Value) (w' : World) => v = .bool (subM mn mr (setMN mn (i % mn) (j % mn)) (setMR mn mr (i % mn) (j % mn))), fun (v : Value) (w' : World) => v = .bool (subM mn mr (setMN mn (i % mn) (j % mn)) (setMR mn mr (i % mn) (j % mn))), fun (v : Value) (w' : World) => v = .bool (subM mn mr (setMN mn (i % mn) (j % mn)) (setMR mn mr (i % mn) (j % mn))), fun (v : Value) (w' : World) => v = .agg #[.int .i64 (orMN mn (setMN mn (i % mn) (j % mn))), .slice a1 (orMR mn mr (setMN mn (i % mn) (j % mn)) (setMR mn mr (i % mn) (j % mn))).length c1], fun (v : Value) (w' : World) => v = .agg #[.int .i64 (setMN mn (i % mn) (j % mn)), .slice a0 (setMR mn mr (i % mn) (j % mn)).length c0]] rfl (by kernel_rfl) ?_ ?_
            ·
              refine ⟨fun _ => ⟨fun f12 w27 hf12 xt25 hp12 => ?_, fun _ _ _ _ h => h⟩, ?_⟩
              ·
                have H31 := H23.ext xt25
                have cc10 := awake03 (w := w27)
                refine ca go35 rfl e0 cc10 ?_
                rintro _ w28 ⟨rfl, xt26⟩
                have H32 := H31.ext xt26
                exact ⟨_, rfl, xt26, rfl⟩
              refine ⟨fun _ => ⟨fun f13 w29 hf13 xt27 hp13 => ?_, fun _ _ _ _ h => h⟩, ?_⟩
              ·
                have H33 := H23.ext xt27
                have s12 : f13 55 = .bool true := hp13 0 rfl rfl
                refine mv rfl s12 ?_
                exact ⟨_, rfl, Ext.refl _, rfl⟩
              refine ⟨fun _ => ⟨fun f14 w30 hf14 xt28 hp14 => ?_, fun _ _ _ _ h => h⟩, ?_⟩
              ·
                have H34 := H23.ext xt28
                have s13 : f14 56 = .bool true := hp14 1 rfl rfl
                refine gy rfl rfl s13 rfl (mv rfl (hf14 10 rfl) ?_)
                exact ⟨_, rfl, Ext.refl _, rfl⟩
              refine ⟨fun _ => ⟨fun f15 w31 hf15 xt29 hp15 => ?_, fun _ _ _ _ h => h⟩, ?_⟩
              ·
                have H35 := H23.ext xt29
                have s14 : f15 56 = .bool true := hp15 1 rfl rfl
                have s15 : f15 57 = .int .i64 (setME mn (i % mn) (j % mn)) := hp15 2 rfl rfl
                refine gy rfl rfl s14 rfl (eql rfl rfl s15 rfl ?_)
                exact ⟨_, rfl, Ext.refl _, rfl⟩
              refine ⟨fun _ => ⟨fun f16 w32 hf16 xt30 hp16 => ?_, fun _ _ _ _ h => h⟩, ?_⟩
              ·
                have H36 := H23.ext xt30
                have s16 : f16 56 = .bool true := hp16 1 rfl rfl
                have s17 : f16 58 = .bool (decide ((setME mn (i % mn) (j % mn)) = 0)) := hp16 3 rfl rfl
                refine pickT rfl rfl rfl s16 rfl s17 ?_
                exact ⟨_, rfl, Ext.refl _, rfl⟩
              refine ⟨fun _ => ⟨fun f17 w33 hf17 xt31 hp17 => ?_, fun _ _ _ _ h => h⟩, ?_⟩
              ·
                have H37 := H23.ext xt31
                have s18 : f17 59 = .bool (decide ((setME mn (i % mn) (j % mn)) = 0)) := hp17 4 rfl rfl
                refine mv rfl s18 ?_
                exact ⟨_, rfl, Ext.refl _, rfl⟩
              refine ⟨fun _ => ⟨fun f18 w34 hf18 xt32 hp18 => ?_, fun _ _ _ _ h => h⟩, ?_⟩
              ·
                have H38 := H23.ext xt32
                have s19 : f18 60 = .bool (decide ((setME mn (i % mn) (j % mn)) = 0)) := hp18 5 rfl rfl
                refine gy rfl rfl s19 (decide_eq_true (set_e rt_ hin_)) (mv rfl (hf18 12 rfl) ?_)
                exact ⟨_, rfl, Ext.refl _, rfl⟩
              refine ⟨fun _ => ⟨fun f19 w35 hf19 xt33 hp19 => ?_, fun _ _ _ _ h => h⟩, ?_⟩
              ·
                have H39 := H23.ext xt33
                have s20 : f19 60 = .bool (decide ((setME mn (i % mn) (j % mn)) = 0)) := hp19 5 rfl rfl
                have s21 : f19 61 = .int .i64 (orME mn (setMN mn (i % mn) (j % mn))) := hp19 6 rfl rfl
                refine gy rfl rfl s20 (decide_eq_true (set_e rt_ hin_)) (eql rfl rfl s21 rfl ?_)
                exact ⟨_, rfl, Ext.refl _, rfl⟩
              refine ⟨fun _ => ⟨fun f20 w36 hf20 xt34 hp20 => ?_, fun _ _ _ _ h => h⟩, ?_⟩
              ·
                have H40 := H23.ext xt34
                have s22 : f20 60 = .bool (decide ((setME mn (i % mn) (j % mn)) = 0)) := hp20 5 rfl rfl
                have s23 : f20 62 = .bool (decide ((orME mn (setMN mn (i % mn) (j % mn))) = 0)) := hp20 7 rfl rfl
                refine pickT rfl rfl rfl s22 (decide_eq_true (set_e rt_ hin_)) s23 ?_
                exact ⟨_, rfl, Ext.refl _, rfl⟩
              refine ⟨fun _ => ⟨fun f21 w37 hf21 xt35 hp21 => ?_, fun _ _ _ _ h => h⟩, ?_⟩
              ·
                have H41 := H23.ext xt35
                have s24 : f21 63 = .bool (decide ((orME mn (setMN mn (i % mn) (j % mn))) = 0)) := hp21 8 rfl rfl
                refine mv rfl s24 ?_
                exact ⟨_, rfl, Ext.refl _, rfl⟩
              refine ⟨fun _ => ⟨fun f22 w38 hf22 xt36 hp22 => ?_, fun _ _ _ _ h => h⟩, ?_⟩
              ·
                have H42 := H23.ext xt36
                have s25 : f22 64 = .bool (decide ((orME mn (setMN mn (i % mn) (j % mn))) = 0)) := hp22 9 rfl rfl
                refine gy rfl rfl s25 (decide_eq_true (or_set_e rt_ hin_)) (ldX H42 2 rfl ty38 rfl (hf22 9 rfl) (by decide) rfl ?_)
                exact ⟨_, rfl, Ext.refl _, rfl⟩
              refine ⟨fun _ => ⟨fun f23 w39 hf23 xt37 hp23 => ?_, fun _ _ _ _ h => h⟩, ?_⟩
              ·
                have H43 := H23.ext xt37
                have s26 : f23 64 = .bool (decide ((orME mn (setMN mn (i % mn) (j % mn))) = 0)) := hp23 9 rfl rfl
                refine gy rfl rfl s26 (decide_eq_true (or_set_e rt_ hin_)) (mv rfl ((hf23 7 rfl).trans s10) ?_)
                exact ⟨_, rfl, Ext.refl _, rfl⟩
              refine ⟨fun _ => ⟨fun f24 w40 hf24 xt38 hp24 => ?_, fun _ _ _ _ h => h⟩, ?_⟩
              ·
                have H44 := H23.ext xt38
                have s27 : f24 64 = .bool (decide ((orME mn (setMN mn (i % mn) (j % mn))) = 0)) := hp24 9 rfl rfl
                refine gy rfl rfl s27 (decide_eq_true (or_set_e rt_ hin_)) (mv rfl (hf24 8 rfl) ?_)
                exact ⟨_, rfl, Ext.refl _, rfl⟩
              refine ⟨fun _ => ⟨fun f25 w41 hf25 xt39 hp25 => ?_, fun _ _ _ _ h => h⟩, ?_⟩
              ·
                have H45 := H23.ext xt39
                have s28 : f25 64 = .bool (decide ((orME mn (setMN mn (i % mn) (j % mn))) = 0)) := hp25 9 rfl rfl
                have s29 : f25 65 = .agg #[.int .i64 (setMN mn (i % mn) (j % mn)), .slice a0 (setMR mn mr (i % mn) (j % mn)).length c0] := hp25 10 rfl rfl
                have s30 : f25 66 = .int .i64 (i % mn) := hp25 11 rfl rfl
                have s31 : f25 67 = .int .i64 (j % mn) := hp25 12 rfl rfl
                refine gy rfl rfl s28 (decide_eq_true (or_set_e rt_ hin_)) ?_
                have cc11 := mat_Has (mn := (setMN mn (i % mn) (j % mn))) (mr := (setMR mn mr (i % mn) (j % mn))) (i := (i % mn)) (j := (j % mn)) (w := w41) H45.mb (by have h_ := right_sq (set_right rt_ hin_); unfold I64; omega) (H45.rv 3 rfl) (by unfold I64 at *; omega) (by unfold I64 at *; omega) (by first | exact (right_sq rt_).1 | exact (right_sq rt_).2.1 | exact (right_sq rt_).2.2.1 | exact (right_sq rt_).2.2.2.2 | exact (right_sq (set_right rt_ hin_)).1 | exact (right_sq (set_right rt_ hin_)).2.1 | exact (right_sq (set_right rt_ hin_)).2.2.1 | exact (right_sq (set_right rt_ hin_)).2.2.2.2 | exact (right_sq (or_set_right rt_ hin_)).1 | exact (right_sq (or_set_right rt_ hin_)).2.1 | exact (right_sq (or_set_right rt_ hin_)).2.2.1 | exact (right_sq (or_set_right rt_ hin_)).2.2.2.2) (by first | exact (right_sq rt_).1 | exact (right_sq rt_).2.1 | exact (right_sq rt_).2.2.1 | exact (right_sq rt_).2.2.2.2 | exact (right_sq (set_right rt_ hin_)).1 | exact (right_sq (set_right rt_ hin_)).2.1 | exact (right_sq (set_right rt_ hin_)).2.2.1 | exact (right_sq (set_right rt_ hin_)).2.2.2.2 | exact (right_sq (or_set_right rt_ hin_)).1 | exact (right_sq (or_set_right rt_ hin_)).2.1 | exact (right_sq (or_set_right rt_ hin_)).2.2.1 | exact (right_sq (or_set_right rt_ hin_)).2.2.2.2) (by first | exact (right_sq rt_).1 | exact (right_sq rt_).2.1 | exact (right_sq rt_).2.2.1 | exact (right_sq rt_).2.2.2.2 | exact (right_sq (set_right rt_ hin_)).1 | exact (right_sq (set_right rt_ hin_)).2.1 | exact (right_sq (set_right rt_ hin_)).2.2.1 | exact (right_sq (set_right rt_ hin_)).2.2.2.2 | exact (right_sq (or_set_right rt_ hin_)).1 | exact (right_sq (or_set_right rt_ hin_)).2.1 | exact (right_sq (or_set_right rt_ hin_)).2.2.1 | exact (right_sq (or_set_right rt_ hin_)).2.2.2.2)
                refine ca go40 rfl (ec s29 (ec s30 (ec s31 e0))) cc11 ?_
                rintro _ w42 ⟨rfl, xt40⟩
                have H46 := H45.ext xt40
                exact ⟨_, rfl, xt40, rfl⟩
              refine ⟨fun _ => ⟨fun f26 w43 hf26 xt41 hp26 => ?_, fun _ _ _ _ h => h⟩, ?_⟩
              ·
                have H47 := H23.ext xt41
                have s32 : f26 64 = .bool (decide ((orME mn (setMN mn (i % mn) (j % mn))) = 0)) := hp26 9 rfl rfl
                have s33 : f26 68 = .bool (hasM (setMN mn (i % mn) (j % mn)) (setMR mn mr (i % mn) (j % mn)) (i % mn) (j % mn)) := hp26 13 rfl rfl
                refine pickT rfl rfl rfl s32 (decide_eq_true (or_set_e rt_ hin_)) s33 ?_
                exact ⟨_, rfl, Ext.refl _, rfl⟩
              refine ⟨fun _ => ⟨fun f27 w44 hf27 xt42 hp27 => ?_, fun _ _ _ _ h => h⟩, ?_⟩
              ·
                have H48 := H23.ext xt42
                have s34 : f27 69 = .bool (hasM (setMN mn (i % mn) (j % mn)) (setMR mn mr (i % mn) (j % mn)) (i % mn) (j % mn)) := hp27 14 rfl rfl
                refine mv rfl s34 ?_
                exact ⟨_, rfl, Ext.refl _, rfl⟩
              refine ⟨fun _ => ⟨fun f28 w45 hf28 xt43 hp28 => ?_, fun _ _ _ _ h => h⟩, ?_⟩
              ·
                have H49 := H23.ext xt43
                have s35 : f28 70 = .bool (hasM (setMN mn (i % mn) (j % mn)) (setMR mn mr (i % mn) (j % mn)) (i % mn) (j % mn)) := hp28 15 rfl rfl
                refine gy rfl rfl s35 (set_has rt_ hin_) (ldX H49 2 rfl ty38 rfl (hf28 9 rfl) (by decide) rfl ?_)
                exact ⟨_, rfl, Ext.refl _, rfl⟩
              refine ⟨fun _ => ⟨fun f29 w46 hf29 xt44 hp29 => ?_, by rintro _ _ _ x_ ⟨a2, c2, e_, rv2⟩; exact ⟨a2, c2, e_, rv2.lift (Up.ext x_)⟩⟩, ?_⟩
              ·
                have H50 := H23.ext xt44
                have s36 : f29 70 = .bool (hasM (setMN mn (i % mn) (j % mn)) (setMR mn mr (i % mn) (j % mn)) (i % mn) (j % mn)) := hp29 15 rfl rfl
                have s37 : f29 71 = .agg #[.int .i64 (setMN mn (i % mn) (j % mn)), .slice a0 (setMR mn mr (i % mn) (j % mn)).length c0] := hp29 16 rfl rfl
                refine gy rfl rfl s36 (set_has rt_ hin_) ?_
                have cc12 := mat_Pairs (mn := (setMN mn (i % mn) (j % mn))) (mr := (setMR mn mr (i % mn) (j % mn))) (w := w46) H50.mb (hT.ext H50.below) (by have h_ := right_sq (set_right rt_ hin_); unfold I64; omega) (H50.rv 3 rfl) (by first | exact (right_sq rt_).1 | exact (right_sq rt_).2.1 | exact (right_sq rt_).2.2.1 | exact (right_sq rt_).2.2.2.2 | exact (right_sq (set_right rt_ hin_)).1 | exact (right_sq (set_right rt_ hin_)).2.1 | exact (right_sq (set_right rt_ hin_)).2.2.1 | exact (right_sq (set_right rt_ hin_)).2.2.2.2 | exact (right_sq (or_set_right rt_ hin_)).1 | exact (right_sq (or_set_right rt_ hin_)).2.1 | exact (right_sq (or_set_right rt_ hin_)).2.2.1 | exact (right_sq (or_set_right rt_ hin_)).2.2.2.2) (by first | exact (right_sq rt_).1 | exact (right_sq rt_).2.1 | exact (right_sq rt_).2.2.1 | exact (right_sq rt_).2.2.2.2 | exact (right_sq (set_right rt_ hin_)).1 | exact (right_sq (set_right rt_ hin_)).2.1 | exact (right_sq (set_right rt_ hin_)).2.2.1 | exact (right_sq (set_right rt_ hin_)).2.2.2.2 | exact (right_sq (or_set_right rt_ hin_)).1 | exact (right_sq (or_set_right rt_ hin_)).2.1 | exact (right_sq (or_set_right rt_ hin_)).2.2.1 | exact (right_sq (or_set_right rt_ hin_)).2.2.2.2) (by first | exact (right_sq rt_).1 | exact (right_sq rt_).2.1 | exact (right_sq rt_).2.2.1 | exact (right_sq rt_).2.2.2.2 | exact (right_sq (set_right rt_ hin_)).1 | exact (right_sq (set_right rt_ hin_)).2.1 | exact (right_sq (set_right rt_ hin_)).2.2.1 | exact (right_sq (set_right rt_ hin_)).2.2.2.2 | exact (right_sq (or_set_right rt_ hin_)).1 | exact (right_sq (or_set_right rt_ hin_)).2.1 | exact (right_sq (or_set_right rt_ hin_)).2.2.1 | exact (right_sq (or_set_right rt_ hin_)).2.2.2.2) (by first | exact (right_sq rt_).1 | exact (right_sq rt_).2.1 | exact (right_sq rt_).2.2.1 | exact (right_sq rt_).2.2.2.2 | exact (right_sq (set_right rt_ hin_)).1 | exact (right_sq (set_right rt_ hin_)).2.1 | exact (right_sq (set_right rt_ hin_)).2.2.1 | exact (right_sq (set_right rt_ hin_)).2.2.2.2 | exact (right_sq (or_set_right rt_ hin_)).1 | exact (right_sq (or_set_right rt_ hin_)).2.1 | exact (right_sq (or_set_right rt_ hin_)).2.2.1 | exact (right_sq (or_set_right rt_ hin_)).2.2.2.2)
                refine ca go37 rfl (ec s37 e0) cc12 ?_
                rintro _ w47 ⟨a4, c4, rfl, xt45, rv4⟩
                have H51 := H50.ext xt45
                have H52 := H51.put (it := imm (.slice a4 (pairsM (setMN mn (i % mn) (j % mn)) (setMR mn mr (i % mn) (j % mn))).length c4) (pairsM (setMN mn (i % mn) (j % mn)) (setMR mn mr (i % mn) (j % mn)))) rfl rv4
                exact ⟨_, rfl, xt45, ⟨a4, c4, rfl, rv4⟩⟩
              refine ⟨fun _ => ⟨fun f30 w48 hf30 xt46 hp30 => ?_, fun _ _ _ _ h => h⟩, ?_⟩
              ·
                have H53 := H23.ext xt46
                have s38 : f30 70 = .bool (hasM (setMN mn (i % mn) (j % mn)) (setMR mn mr (i % mn) (j % mn)) (i % mn) (j % mn)) := hp30 15 rfl rfl
                obtain ⟨a5, c5, s39, rv5⟩ : ∃ (a5 : Option Addr) (c5 : Nat), f30 72 = .slice a5 (pairsM (setMN mn (i % mn) (j % mn)) (setMR mn mr (i % mn) (j % mn))).length c5 ∧ RV (MS M [box bb2 #[.int .i64 (orMN mn (setMN mn (i % mn) (j % mn))), .slice a1 (orMR mn mr (setMN mn (i % mn) (j % mn)) (setMR mn mr (i % mn) (j % mn))).length c1] 38, own w.heap.size 22 (.slice a1 (orMR mn mr (setMN mn (i % mn) (j % mn)) (setMR mn mr (i % mn) (j % mn))).length c1) (orMR mn mr (setMN mn (i % mn) (j % mn)) (setMR mn mr (i % mn) (j % mn))), box bb1 #[.int .i64 (setMN mn (i % mn) (j % mn)), .slice a0 (setMR mn mr (i % mn) (j % mn)).length c0] 38, imm (.slice a0 (setMR mn mr (i % mn) (j % mn)).length c0) (setMR mn mr (i % mn) (j % mn)), box bb0 #[.int .i64 mn, .slice a_mr mr.length c_mr] 38, imm (.slice a_mr mr.length c_mr) mr]) w48 (.slice a5 (pairsM (setMN mn (i % mn) (j % mn)) (setMR mn mr (i % mn) (j % mn))).length c5) (pairsM (setMN mn (i % mn) (j % mn)) (setMR mn mr (i % mn) (j % mn))) := hp30 17 rfl rfl
                have H54 := H53.put (it := imm (.slice a5 (pairsM (setMN mn (i % mn) (j % mn)) (setMR mn mr (i % mn) (j % mn))).length c5) (pairsM (setMN mn (i % mn) (j % mn)) (setMR mn mr (i % mn) (j % mn)))) rfl rv5
                refine gy rfl rfl s38 (set_has rt_ hin_) (lnS rfl s39 un44 ?_)
                exact ⟨_, rfl, Ext.refl _, rfl⟩
              refine ⟨fun _ => ⟨fun f31 w49 hf31 xt47 hp31 => ?_, fun _ _ _ _ h => h⟩, ?_⟩
              ·
                have H55 := H23.ext xt47
                have s40 : f31 70 = .bool (hasM (setMN mn (i % mn) (j % mn)) (setMR mn mr (i % mn) (j % mn)) (i % mn) (j % mn)) := hp31 15 rfl rfl
                refine gy rfl rfl s40 (set_has rt_ hin_) (ldX H55 4 rfl ty38 rfl ((hf31 3 rfl).trans s9) (by decide) rfl ?_)
                exact ⟨_, rfl, Ext.refl _, rfl⟩
              refine ⟨fun _ => ⟨fun f32 w50 hf32 xt48 hp32 => ?_, by rintro _ _ _ x_ ⟨a3, c3, e_, rv3⟩; exact ⟨a3, c3, e_, rv3.lift (Up.ext x_)⟩⟩, ?_⟩
              ·
                have H56 := H23.ext xt48
                have s41 : f32 70 = .bool (hasM (setMN mn (i % mn) (j % mn)) (setMR mn mr (i % mn) (j % mn)) (i % mn) (j % mn)) := hp32 15 rfl rfl
                have s42 : f32 74 = .agg #[.int .i64 mn, .slice a_mr mr.length c_mr] := hp32 19 rfl rfl
                refine gy rfl rfl s41 (set_has rt_ hin_) ?_
                have cc13 := mat_Pairs (mn := mn) (mr := mr) (w := w50) H56.mb (hT.ext H56.below) (by unfold I64 at *; omega) (H56.rv 5 rfl) (by first | exact (right_sq rt_).1 | exact (right_sq rt_).2.1 | exact (right_sq rt_).2.2.1 | exact (right_sq rt_).2.2.2.2 | exact (right_sq (set_right rt_ hin_)).1 | exact (right_sq (set_right rt_ hin_)).2.1 | exact (right_sq (set_right rt_ hin_)).2.2.1 | exact (right_sq (set_right rt_ hin_)).2.2.2.2 | exact (right_sq (or_set_right rt_ hin_)).1 | exact (right_sq (or_set_right rt_ hin_)).2.1 | exact (right_sq (or_set_right rt_ hin_)).2.2.1 | exact (right_sq (or_set_right rt_ hin_)).2.2.2.2) (by first | exact (right_sq rt_).1 | exact (right_sq rt_).2.1 | exact (right_sq rt_).2.2.1 | exact (right_sq rt_).2.2.2.2 | exact (right_sq (set_right rt_ hin_)).1 | exact (right_sq (set_right rt_ hin_)).2.1 | exact (right_sq (set_right rt_ hin_)).2.2.1 | exact (right_sq (set_right rt_ hin_)).2.2.2.2 | exact (right_sq (or_set_right rt_ hin_)).1 | exact (right_sq (or_set_right rt_ hin_)).2.1 | exact (right_sq (or_set_right rt_ hin_)).2.2.1 | exact (right_sq (or_set_right rt_ hin_)).2.2.2.2) (by first | exact (right_sq rt_).1 | exact (right_sq rt_).2.1 | exact (right_sq rt_).2.2.1 | exact (right_sq rt_).2.2.2.2 | exact (right_sq (set_right rt_ hin_)).1 | exact (right_sq (set_right rt_ hin_)).2.1 | exact (right_sq (set_right rt_ hin_)).2.2.1 | exact (right_sq (set_right rt_ hin_)).2.2.2.2 | exact (right_sq (or_set_right rt_ hin_)).1 | exact (right_sq (or_set_right rt_ hin_)).2.1 | exact (right_sq (or_set_right rt_ hin_)).2.2.1 | exact (right_sq (or_set_right rt_ hin_)).2.2.2.2) (by first | exact (right_sq rt_).1 | exact (right_sq rt_).2.1 | exact (right_sq rt_).2.2.1 | exact (right_sq rt_).2.2.2.2 | exact (right_sq (set_right rt_ hin_)).1 | exact (right_sq (set_right rt_ hin_)).2.1 | exact (right_sq (set_right rt_ hin_)).2.2.1 | exact (right_sq (set_right rt_ hin_)).2.2.2.2 | exact (right_sq (or_set_right rt_ hin_)).1 | exact (right_sq (or_set_right rt_ hin_)).2.1 | exact (right_sq (or_set_right rt_ hin_)).2.2.1 | exact (right_sq (or_set_right rt_ hin_)).2.2.2.2)
                refine ca go37 rfl (ec s42 e0) cc13 ?_
                rintro _ w51 ⟨a6, c6, rfl, xt49, rv6⟩
                have H57 := H56.ext xt49
                have H58 := H57.put (it := imm (.slice a6 (pairsM mn mr).length c6) (pairsM mn mr)) rfl rv6
                exact ⟨_, rfl, xt49, ⟨a6, c6, rfl, rv6⟩⟩
              refine ⟨fun _ => ⟨fun f33 w52 hf33 xt50 hp33 => ?_, fun _ _ _ _ h => h⟩, ?_⟩
              ·
                have H59 := H23.ext xt50
                have s43 : f33 70 = .bool (hasM (setMN mn (i % mn) (j % mn)) (setMR mn mr (i % mn) (j % mn)) (i % mn) (j % mn)) := hp33 15 rfl rfl
                obtain ⟨a7, c7, s44, rv7⟩ : ∃ (a7 : Option Addr) (c7 : Nat), f33 75 = .slice a7 (pairsM mn mr).length c7 ∧ RV (MS M [box bb2 #[.int .i64 (orMN mn (setMN mn (i % mn) (j % mn))), .slice a1 (orMR mn mr (setMN mn (i % mn) (j % mn)) (setMR mn mr (i % mn) (j % mn))).length c1] 38, own w.heap.size 22 (.slice a1 (orMR mn mr (setMN mn (i % mn) (j % mn)) (setMR mn mr (i % mn) (j % mn))).length c1) (orMR mn mr (setMN mn (i % mn) (j % mn)) (setMR mn mr (i % mn) (j % mn))), box bb1 #[.int .i64 (setMN mn (i % mn) (j % mn)), .slice a0 (setMR mn mr (i % mn) (j % mn)).length c0] 38, imm (.slice a0 (setMR mn mr (i % mn) (j % mn)).length c0) (setMR mn mr (i % mn) (j % mn)), box bb0 #[.int .i64 mn, .slice a_mr mr.length c_mr] 38, imm (.slice a_mr mr.length c_mr) mr]) w52 (.slice a7 (pairsM mn mr).length c7) (pairsM mn mr) := hp33 20 rfl rfl
                have H60 := H59.put (it := imm (.slice a7 (pairsM mn mr).length c7) (pairsM mn mr)) rfl rv7
                refine gy rfl rfl s43 (set_has rt_ hin_) (lnS rfl s44 un44 ?_)
                exact ⟨_, rfl, Ext.refl _, rfl⟩
              refine ⟨fun _ => ⟨fun f34 w53 hf34 xt51 hp34 => ?_, fun _ _ _ _ h => h⟩, ?_⟩
              ·
                have H61 := H23.ext xt51
                have s45 : f34 70 = .bool (hasM (setMN mn (i % mn) (j % mn)) (setMR mn mr (i % mn) (j % mn)) (i % mn) (j % mn)) := hp34 15 rfl rfl
                refine gy rfl rfl s45 (set_has rt_ hin_) (mv rfl (hf34 13 rfl) ?_)
                exact ⟨_, rfl, Ext.refl _, rfl⟩
              refine ⟨fun _ => ⟨fun f35 w54 hf35 xt52 hp35 => ?_, fun _ _ _ _ h => h⟩, ?_⟩
              ·
                have H62 := H23.ext xt52
                have s46 : f35 70 = .bool (hasM (setMN mn (i % mn) (j % mn)) (setMR mn mr (i % mn) (j % mn)) (i % mn) (j % mn)) := hp35 15 rfl rfl
                have s47 : f35 76 = .int .i64 ((pairsM mn mr).length : Int) := hp35 21 rfl rfl
                have s48 : f35 77 = .int .i64 1 := hp35 22 rfl rfl
                refine gy rfl rfl s46 (set_has rt_ hin_) (add rfl rfl s47 s48 (by have h_ := right_pairs rt_; unfold I64; omega) ?_)
                exact ⟨_, rfl, Ext.refl _, rfl⟩
              refine ⟨fun _ => ⟨fun f36 w55 hf36 xt53 hp36 => ?_, fun _ _ _ _ h => h⟩, ?_⟩
              ·
                have H63 := H23.ext xt53
                have s49 : f36 70 = .bool (hasM (setMN mn (i % mn) (j % mn)) (setMR mn mr (i % mn) (j % mn)) (i % mn) (j % mn)) := hp36 15 rfl rfl
                have s50 : f36 73 = .int .i64 ((pairsM (setMN mn (i % mn) (j % mn)) (setMR mn mr (i % mn) (j % mn))).length : Int) := hp36 18 rfl rfl
                have s51 : f36 78 = .int .i64 (((pairsM mn mr).length : Int) + 1) := hp36 23 rfl rfl
                refine gy rfl rfl s49 (set_has rt_ hin_) (eql rfl rfl s50 s51 ?_)
                exact ⟨_, rfl, Ext.refl _, rfl⟩
              refine ⟨fun _ => ⟨fun f37 w56 hf37 xt54 hp37 => ?_, fun _ _ _ _ h => h⟩, ?_⟩
              ·
                have H64 := H23.ext xt54
                have s52 : f37 70 = .bool (hasM (setMN mn (i % mn) (j % mn)) (setMR mn mr (i % mn) (j % mn)) (i % mn) (j % mn)) := hp37 15 rfl rfl
                have s53 : f37 79 = .bool (decide (((pairsM (setMN mn (i % mn) (j % mn)) (setMR mn mr (i % mn) (j % mn))).length : Int) = (((pairsM mn mr).length : Int) + 1))) := hp37 24 rfl rfl
                refine pickT rfl rfl rfl s52 (set_has rt_ hin_) s53 ?_
                exact ⟨_, rfl, Ext.refl _, rfl⟩
              refine ⟨fun _ => ⟨fun f38 w57 hf38 xt55 hp38 => ?_, fun _ _ _ _ h => h⟩, ?_⟩
              ·
                have H65 := H23.ext xt55
                have s54 : f38 80 = .bool (decide (((pairsM (setMN mn (i % mn) (j % mn)) (setMR mn mr (i % mn) (j % mn))).length : Int) = (((pairsM mn mr).length : Int) + 1))) := hp38 25 rfl rfl
                refine mv rfl s54 ?_
                exact ⟨_, rfl, Ext.refl _, rfl⟩
              refine ⟨fun _ => ⟨fun f39 w58 hf39 xt56 hp39 => ?_, fun _ _ _ _ h => h⟩, ?_⟩
              ·
                have H66 := H23.ext xt56
                have s55 : f39 81 = .bool (decide (((pairsM (setMN mn (i % mn) (j % mn)) (setMR mn mr (i % mn) (j % mn))).length : Int) = (((pairsM mn mr).length : Int) + 1))) := hp39 26 rfl rfl
                refine gy rfl rfl s55 (decide_eq_true (by rw [set_len rt_ hin_, b3]; simp)) (ldX H66 4 rfl ty38 rfl ((hf39 3 rfl).trans s9) (by decide) rfl ?_)
                exact ⟨_, rfl, Ext.refl _, rfl⟩
              refine ⟨fun _ => ⟨fun f40 w59 hf40 xt57 hp40 => ?_, fun _ _ _ _ h => h⟩, ?_⟩
              ·
                have H67 := H23.ext xt57
                have s56 : f40 81 = .bool (decide (((pairsM (setMN mn (i % mn) (j % mn)) (setMR mn mr (i % mn) (j % mn))).length : Int) = (((pairsM mn mr).length : Int) + 1))) := hp40 26 rfl rfl
                refine gy rfl rfl s56 (decide_eq_true (by rw [set_len rt_ hin_, b3]; simp)) (ldX H67 2 rfl ty38 rfl (hf40 9 rfl) (by decide) rfl ?_)
                exact ⟨_, rfl, Ext.refl _, rfl⟩
              refine ⟨fun _ => ⟨fun f41 w60 hf41 xt58 hp41 => ?_, fun _ _ _ _ h => h⟩, ?_⟩
              ·
                have H68 := H23.ext xt58
                have s57 : f41 81 = .bool (decide (((pairsM (setMN mn (i % mn) (j % mn)) (setMR mn mr (i % mn) (j % mn))).length : Int) = (((pairsM mn mr).length : Int) + 1))) := hp41 26 rfl rfl
                have s58 : f41 82 = .agg #[.int .i64 mn, .slice a_mr mr.length c_mr] := hp41 27 rfl rfl
                have s59 : f41 83 = .agg #[.int .i64 (setMN mn (i % mn) (j % mn)), .slice a0 (setMR mn mr (i % mn) (j % mn)).length c0] := hp41 28 rfl rfl
                refine gy rfl rfl s57 (decide_eq_true (by rw [set_len rt_ hin_, b3]; simp)) ?_
                have cc14 := mat_Sub (an := mn) (ar := mr) (bn := (setMN mn (i % mn) (j % mn))) (br := (setMR mn mr (i % mn) (j % mn))) (w := w60) H68.mb (by unfold I64 at *; omega) (H68.rv 5 rfl) (by have h_ := right_sq (set_right rt_ hin_); unfold I64; omega) (H68.rv 3 rfl) (by first | exact (right_sq rt_).1 | exact (right_sq rt_).2.1 | exact (right_sq rt_).2.2.1 | exact (right_sq rt_).2.2.2.2 | exact (right_sq (set_right rt_ hin_)).1 | exact (right_sq (set_right rt_ hin_)).2.1 | exact (right_sq (set_right rt_ hin_)).2.2.1 | exact (right_sq (set_right rt_ hin_)).2.2.2.2 | exact (right_sq (or_set_right rt_ hin_)).1 | exact (right_sq (or_set_right rt_ hin_)).2.1 | exact (right_sq (or_set_right rt_ hin_)).2.2.1 | exact (right_sq (or_set_right rt_ hin_)).2.2.2.2) (by first | exact (right_sq rt_).1 | exact (right_sq rt_).2.1 | exact (right_sq rt_).2.2.1 | exact (right_sq rt_).2.2.2.2 | exact (right_sq (set_right rt_ hin_)).1 | exact (right_sq (set_right rt_ hin_)).2.1 | exact (right_sq (set_right rt_ hin_)).2.2.1 | exact (right_sq (set_right rt_ hin_)).2.2.2.2 | exact (right_sq (or_set_right rt_ hin_)).1 | exact (right_sq (or_set_right rt_ hin_)).2.1 | exact (right_sq (or_set_right rt_ hin_)).2.2.1 | exact (right_sq (or_set_right rt_ hin_)).2.2.2.2) (by first | exact (right_sq rt_).1 | exact (right_sq rt_).2.1 | exact (right_sq rt_).2.2.1 | exact (right_sq rt_).2.2.2.2 | exact (right_sq (set_right rt_ hin_)).1 | exact (right_sq (set_right rt_ hin_)).2.1 | exact (right_sq (set_right rt_ hin_)).2.2.1 | exact (right_sq (set_right rt_ hin_)).2.2.2.2 | exact (right_sq (or_set_right rt_ hin_)).1 | exact (right_sq (or_set_right rt_ hin_)).2.1 | exact (right_sq (or_set_right rt_ hin_)).2.2.1 | exact (right_sq (or_set_right rt_ hin_)).2.2.2.2) (by first | exact (right_sq rt_).1 | exact (right_sq rt_).2.1 | exact (right_sq rt_).2.2.1 | exact (right_sq rt_).2.2.2.2 | exact (right_sq (set_right rt_ hin_)).1 | exact (right_sq (set_right rt_ hin_)).2.1 | exact (right_sq (set_right rt_ hin_)).2.2.1 | exact (right_sq (set_right rt_ hin_)).2.2.2.2 | exact (right_sq (or_set_right rt_ hin_)).1 | exact (right_sq (or_set_right rt_ hin_)).2.1 | exact (right_sq (or_set_right rt_ hin_)).2.2.1 | exact (right_sq (or_set_right rt_ hin_)).2.2.2.2) (by first | exact (right_sq rt_).1 | exact (right_sq rt_).2.1 | exact (right_sq rt_).2.2.1 | exact (right_sq rt_).2.2.2.2 | exact (right_sq (set_right rt_ hin_)).1 | exact (right_sq (set_right rt_ hin_)).2.1 | exact (right_sq (set_right rt_ hin_)).2.2.1 | exact (right_sq (set_right rt_ hin_)).2.2.2.2 | exact (right_sq (or_set_right rt_ hin_)).1 | exact (right_sq (or_set_right rt_ hin_)).2.1 | exact (right_sq (or_set_right rt_ hin_)).2.2.1 | exact (right_sq (or_set_right rt_ hin_)).2.2.2.2) (by first | exact (right_sq rt_).1 | exact (right_sq rt_).2.1 | exact (right_sq rt_).2.2.1 | exact (right_sq rt_).2.2.2.2 | exact (right_sq (set_right rt_ hin_)).1 | exact (right_sq (set_right rt_ hin_)).2.1 | exact (right_sq (set_right rt_ hin_)).2.2.1 | exact (right_sq (set_right rt_ hin_)).2.2.2.2 | exact (right_sq (or_set_right rt_ hin_)).1 | exact (right_sq (or_set_right rt_ hin_)).2.1 | exact (right_sq (or_set_right rt_ hin_)).2.2.1 | exact (right_sq (or_set_right rt_ hin_)).2.2.2.2)
                refine ca go59 rfl (ec s58 (ec s59 e0)) cc14 ?_
                rintro _ w61 ⟨rfl, xt59⟩
                have H69 := H68.ext xt59
                exact ⟨_, rfl, xt59, rfl⟩
              refine ⟨fun _ => ⟨fun f42 w62 hf42 xt60 hp42 => ?_, fun _ _ _ _ h => h⟩, ?_⟩
              ·
                have H70 := H23.ext xt60
                have s60 : f42 81 = .bool (decide (((pairsM (setMN mn (i % mn) (j % mn)) (setMR mn mr (i % mn) (j % mn))).length : Int) = (((pairsM mn mr).length : Int) + 1))) := hp42 26 rfl rfl
                have s61 : f42 84 = .bool (subM mn mr (setMN mn (i % mn) (j % mn)) (setMR mn mr (i % mn) (j % mn))) := hp42 29 rfl rfl
                refine pickT rfl rfl rfl s60 (decide_eq_true (by rw [set_len rt_ hin_, b3]; simp)) s61 ?_
                exact ⟨_, rfl, Ext.refl _, rfl⟩
              refine ⟨fun _ => ⟨fun f43 w63 hf43 xt61 hp43 => ?_, fun _ _ _ _ h => h⟩, ?_⟩
              ·
                have H71 := H23.ext xt61
                have s62 : f43 85 = .bool (subM mn mr (setMN mn (i % mn) (j % mn)) (setMR mn mr (i % mn) (j % mn))) := hp43 30 rfl rfl
                refine mv rfl s62 ?_
                exact ⟨_, rfl, Ext.refl _, rfl⟩
              refine ⟨fun _ => ⟨fun f44 w64 hf44 xt62 hp44 => ?_, fun _ _ _ _ h => h⟩, ?_⟩
              ·
                have H72 := H23.ext xt62
                have s63 : f44 86 = .bool (subM mn mr (setMN mn (i % mn) (j % mn)) (setMR mn mr (i % mn) (j % mn))) := hp44 31 rfl rfl
                refine gy rfl rfl s63 (set_sub rt_ hin_) (ldX H72 0 rfl ty38 rfl (hf44 11 rfl) (by decide) rfl ?_)
                exact ⟨_, rfl, Ext.refl _, rfl⟩
              refine ⟨fun _ => ⟨fun f45 w65 hf45 xt63 hp45 => ?_, fun _ _ _ _ h => h⟩, ?_⟩
              ·
                have H73 := H23.ext xt63
                have s64 : f45 86 = .bool (subM mn mr (setMN mn (i % mn) (j % mn)) (setMR mn mr (i % mn) (j % mn))) := hp45 31 rfl rfl
                refine gy rfl rfl s64 (set_sub rt_ hin_) (ldX H73 2 rfl ty38 rfl (hf45 9 rfl) (by decide) rfl ?_)
                exact ⟨_, rfl, Ext.refl _, rfl⟩
              exact DSteps.rest rfl _
            · intro f46 w66 hf46 xt64 hp46
              have H74 := H23.ext xt64
              have s65 : f46 9 = .pointer (some ⟨bb1, 0, none⟩) := hf46 9 rfl
              have s66 : f46 86 = .bool (subM mn mr (setMN mn (i % mn) (j % mn)) (setMR mn mr (i % mn) (j % mn))) := hp46 31 rfl
              have s67 : f46 87 = .agg #[.int .i64 (orMN mn (setMN mn (i % mn) (j % mn))), .slice a1 (orMR mn mr (setMN mn (i % mn) (j % mn)) (setMR mn mr (i % mn) (j % mn))).length c1] := hp46 32 rfl
              have s68 : f46 88 = .agg #[.int .i64 (setMN mn (i % mn) (j % mn)), .slice a0 (setMR mn mr (i % mn) (j % mn)).length c0] := hp46 33 rfl
              refine k (gy rfl rfl s66 (set_sub rt_ hin_) ?_)
              have H75 := H74.freeze 1 rfl
              have cc15 := mat_Same (an := (orMN mn (setMN mn (i % mn) (j % mn)))) (ar := (orMR mn mr (setMN mn (i % mn) (j % mn)) (setMR mn mr (i % mn) (j % mn)))) (bn := (setMN mn (i % mn) (j % mn))) (br := (setMR mn mr (i % mn) (j % mn))) (w := w66) H75.mb (by have h_ := right_sq (or_set_right rt_ hin_); unfold I64; omega) (H75.rv 1 rfl) (by have h_ := right_sq (set_right rt_ hin_); unfold I64; omega) (H75.rv 3 rfl)
              refine ca go60 rfl (ec s67 (ec s68 e0)) cc15 ?_
              rintro _ w67 ⟨rfl, xt65⟩
              have H76 := H74.ext xt65
              refine k (pickT rfl rfl rfl s66 (set_sub rt_ hin_) rfl (k (mv (v := .bool (sameM (orMN mn (setMN mn (i % mn) (j % mn))) (orMR mn mr (setMN mn (i % mn) (j % mn)) (setMR mn mr (i % mn) (j % mn))) (setMN mn (i % mn) (j % mn)) (setMR mn mr (i % mn) (j % mn)))) rfl rfl (k (gy rfl rfl rfl (set_or_same rt_ hin_) (ldX H76 2 rfl ty38 rfl s65 (by decide) rfl (k (gy rfl rfl rfl (set_or_same rt_ hin_) ?_))))))))
              have cc16 := mat_Right (mn := (setMN mn (i % mn) (j % mn))) (mr := (setMR mn mr (i % mn) (j % mn))) (w := w67) H76.mb (by have h_ := right_sq (set_right rt_ hin_); unfold I64; omega) (H76.rv 3 rfl)
              refine ca go61 rfl (ec rfl e0) cc16 ?_
              rintro _ w68 ⟨rfl, xt66⟩
              have H77 := H76.ext xt66
              refine k (pickT rfl rfl rfl rfl (set_or_same rt_ hin_) rfl (k (asg (v := .bool (rightM (setMN mn (i % mn) (j % mn)) (setMR mn mr (i % mn) (j % mn)))) rfl rfl (z (nx (rt (r1 rfl rfl ?_)))))))
              have e0 : (rightM (setMN mn (i % mn) (j % mn)) (setMR mn mr (i % mn) (j % mn)) : Bool) = true := by exact (set_right2 rt_ hin_)
              have ev_ := cg1 (fun (x_0 : Bool) => (.bool x_0 : Value)) e0
              exact ⟨ev_, H77.below⟩
end Go.Proofs.YtfakagpjgpbkbaaDoor
