/- PRINTED by my own tool (wip/tool/gen.py): contracts of Go functions of this seat, each with its proof. -/
import Derived.Test.YtmhopljngkgidaaDoorEngZN
import Derived.Test.YtmhopljngkgidaaDoorEwSpecZ
import Derived.Test.YtmhopljngkgidaaDoorR10Turn
import Derived.Test.YtmhopljngkgidaaDoorR10Join
import Derived.Test.YtmhopljngkgidaaDoorR10Ref
import Derived.Test.YtmhopljngkgidaaDoorR10Mt2
import Derived.Test.YtmhopljngkgidaaDoorR10Mat
import Derived.Test.YtmhopljngkgidaaDoorR10Or
import Derived.Test.YtmhopljngkgidaaDoorR10Fns
namespace Go.Proofs.YtmhopljngkgidaaDoor
open Go.Ew Go.RowKit
set_option linter.unusedVariables false
set_option linter.unusedSimpArgs false
attribute [local irreducible] WL WC SO Code.wp wpList retQ Ret
attribute [local irreducible] bitB hasW inR hasR setR countW countR subR words newR listR orR firstW tab8
theorem go15 : GoF Tryd.prog 15 := ⟨_, _, Tryd.func15, rfl, by kernel_rfl⟩
theorem go59 : GoF Tryd.prog 59 := ⟨_, _, Tryd.func59, rfl, by kernel_rfl⟩
theorem go19 : GoF Tryd.prog 19 := ⟨_, _, Tryd.func19, rfl, by kernel_rfl⟩
theorem go60 : GoF Tryd.prog 60 := ⟨_, _, Tryd.func60, rfl, by kernel_rfl⟩
/- eyewitness/eyewitnesslaw03.awake -/
set_option maxRecDepth 100000 in
set_option maxHeartbeats 1600000 in
theorem awake03 {w : World}  : Calls Tryd.prog 14 #[] w (Ret fun v w' =>  v = .bool true ∧ Ext w w') := by
  refine enter 54 Tryd.func14 rfl rfl rfl fun f0 ha => ?_
  have H := HI.start (M0 := (fun _ => False)) (w := w) (fun _ h => h.elim)
  refine sq (rg (k (asg (v := .bool false) rfl rfl (z (nx (sq (rg (k (bd (v := .agg #[.int .i64 0, .int .i64 1]) rfl (pbc rfl (pbc rfl pb0)) (fun _ => by kernel_rfl) (k (bs (xs := ([(0, 1)] : List (Int × Int))) (cells := #[.int .i64 0, .int .i64 1]) (e := 76) H rfl (pbc rfl pb0) (fun _ => by kernel_rfl) ⟨[.int .i64 0, .int .i64 1], [], rfl, ⟨_, _, rfl, ⟨rfl, (show I64 (0) from (by unfold I64; decide +kernel))⟩, ⟨rfl, (show I64 (1) from (by unfold I64; decide +kernel))⟩⟩, rfl⟩ rfl (by unfold maxLen; omega) ?_)))))))))))
  intro g0 w0 xt0 (H0 : HI (fun _ => False) w w0 [own w.heap.size 76 (.slice (some ⟨g0, 0, none⟩) 1 1) ([(0, 1)] : List (Int × Int))])
  refine k ?_
  have H1 := H0.freeze 0 rfl
  have cc0 := mat_Of (n := 2) (ps := ([(0, 1)] : List (Int × Int))) (w := w0) H1.mb (by unfold I64; decide +kernel) (H1.rv 0 rfl)
  refine ca go15 rfl (ec rfl (ec rfl e0)) cc0 ?_
  rintro _ w1 ⟨a0, c0, rfl, xt1, rv0⟩
  have H2 := H1.ownsG rv0
  refine k (mv (v := .tuple #[.agg #[.int .i64 (ofMN 2 ([(0, 1)] : List (Int × Int))), .slice a0 (ofMR 2 ([(0, 1)] : List (Int × Int))).length c0], .int .i64 (ofME 2 ([(0, 1)] : List (Int × Int)))]) rfl rfl (k (xt rfl rfl rfl (k (xt rfl rfl rfl (k (al H2 ty24 ?_)))))))
  intro bb0 w2 xt2 (H3 : HI (fun _ => False) w w2 [box bb0 #[.int .i64 0, .slice none 0 0] 24, own w.heap.size 73 (.slice a0 (ofMR 2 ([(0, 1)] : List (Int × Int))).length c0) (ofMR 2 ([(0, 1)] : List (Int × Int))), imm (.slice (some ⟨g0, 0, none⟩) 1 1) ([(0, 1)] : List (Int × Int))])
  refine k (stX H3 0 rfl ty24 rfl rfl rfl rfl rfl rfl rfl ?_)
  intro w3 (H4 : HI (fun _ => False) w w3 [box bb0 #[.int .i64 (ofMN 2 ([(0, 1)] : List (Int × Int))), .slice a0 (ofMR 2 ([(0, 1)] : List (Int × Int))).length c0] 24, own w.heap.size 73 (.slice a0 (ofMR 2 ([(0, 1)] : List (Int × Int))).length c0) (ofMR 2 ([(0, 1)] : List (Int × Int))), imm (.slice (some ⟨g0, 0, none⟩) 1 1) ([(0, 1)] : List (Int × Int))])
  refine k (asg (v := .int .i64 (ofME 2 ([(0, 1)] : List (Int × Int)))) rfl rfl (z (nx (sq (rg (k (ldX H4 0 rfl ty24 rfl rfl (by decide) rfl (k ?_))))))))
  have H5 := H4.freeze 1 rfl
  have cc1 := mat_Set (mn := (ofMN 2 ([(0, 1)] : List (Int × Int)))) (mr := (ofMR 2 ([(0, 1)] : List (Int × Int)))) (i := 2) (j := 0) (w := w3) H5.mb (by unfold I64; decide +kernel) (H5.rv 1 rfl) (by unfold I64; decide +kernel) (by unfold I64; decide +kernel) (by decide +kernel) (by decide +kernel) (by decide +kernel)
  refine ca go59 rfl (ec rfl (ec rfl (ec rfl e0))) cc1 ?_
  rintro _ w4 ⟨a1, c1, rfl, xt3, rv1⟩
  have H6 := H5.ownsG rv1
  refine k (mv (v := .tuple #[.agg #[.int .i64 (setMN (ofMN 2 ([(0, 1)] : List (Int × Int))) 2 0), .slice a1 (setMR (ofMN 2 ([(0, 1)] : List (Int × Int))) (ofMR 2 ([(0, 1)] : List (Int × Int))) 2 0).length c1], .int .i64 (setME (ofMN 2 ([(0, 1)] : List (Int × Int))) 2 0)]) rfl rfl (k (xt rfl rfl rfl (k (xt rfl rfl rfl (k (al H6 ty24 ?_)))))))
  intro bb1 w5 xt4 (H7 : HI (fun _ => False) w w5 [box bb1 #[.int .i64 0, .slice none 0 0] 24, own w.heap.size 73 (.slice a1 (setMR (ofMN 2 ([(0, 1)] : List (Int × Int))) (ofMR 2 ([(0, 1)] : List (Int × Int))) 2 0).length c1) (setMR (ofMN 2 ([(0, 1)] : List (Int × Int))) (ofMR 2 ([(0, 1)] : List (Int × Int))) 2 0), box bb0 #[.int .i64 (ofMN 2 ([(0, 1)] : List (Int × Int))), .slice a0 (ofMR 2 ([(0, 1)] : List (Int × Int))).length c0] 24, imm (.slice a0 (ofMR 2 ([(0, 1)] : List (Int × Int))).length c0) (ofMR 2 ([(0, 1)] : List (Int × Int))), imm (.slice (some ⟨g0, 0, none⟩) 1 1) ([(0, 1)] : List (Int × Int))])
  refine k (stX H7 0 rfl ty24 rfl rfl rfl rfl rfl rfl rfl ?_)
  intro w6 (H8 : HI (fun _ => False) w w6 [box bb1 #[.int .i64 (setMN (ofMN 2 ([(0, 1)] : List (Int × Int))) 2 0), .slice a1 (setMR (ofMN 2 ([(0, 1)] : List (Int × Int))) (ofMR 2 ([(0, 1)] : List (Int × Int))) 2 0).length c1] 24, own w.heap.size 73 (.slice a1 (setMR (ofMN 2 ([(0, 1)] : List (Int × Int))) (ofMR 2 ([(0, 1)] : List (Int × Int))) 2 0).length c1) (setMR (ofMN 2 ([(0, 1)] : List (Int × Int))) (ofMR 2 ([(0, 1)] : List (Int × Int))) 2 0), box bb0 #[.int .i64 (ofMN 2 ([(0, 1)] : List (Int × Int))), .slice a0 (ofMR 2 ([(0, 1)] : List (Int × Int))).length c0] 24, imm (.slice a0 (ofMR 2 ([(0, 1)] : List (Int × Int))).length c0) (ofMR 2 ([(0, 1)] : List (Int × Int))), imm (.slice (some ⟨g0, 0, none⟩) 1 1) ([(0, 1)] : List (Int × Int))])
  refine k (asg (v := .int .i64 (setME (ofMN 2 ([(0, 1)] : List (Int × Int))) 2 0)) rfl rfl (z (nx (sq (rg (k (mv (v := .int .i64 (ofME 2 ([(0, 1)] : List (Int × Int)))) rfl rfl (k (eql rfl rfl rfl rfl (k (mv (v := .bool (decide ((ofME 2 ([(0, 1)] : List (Int × Int))) = 0))) rfl rfl ?_)))))))))))
  have tr0 : (decide ((ofME 2 ([(0, 1)] : List (Int × Int))) = 0)) = true := (by decide +kernel)
  refine k (gy rfl rfl rfl tr0 (fa fl24_1 rfl rfl (k (gy rfl rfl rfl tr0 (ldX H8 2 rfl ty22 rfl rfl (by decide) rfl (k (gy rfl rfl rfl tr0 (lnS rfl rfl un22 (k (gy rfl rfl rfl tr0 (eql rfl rfl rfl rfl (k (pickT rfl rfl rfl rfl tr0 rfl (k (mv (v := .bool (decide (((ofMR 2 ([(0, 1)] : List (Int × Int))).length : Int) = 2))) rfl rfl ?_)))))))))))))))
  have tr1 : (decide (((ofMR 2 ([(0, 1)] : List (Int × Int))).length : Int) = 2)) = true := (by decide +kernel)
  refine k (gy rfl rfl rfl tr1 (fa fl24_1 rfl rfl (k (gy rfl rfl rfl tr1 (ldX H8 2 rfl ty22 rfl rfl (by decide) rfl (k (gy rfl rfl rfl tr1 (ia (H8.rv 3 rfl) rfl rfl rfl rfl (by decide +kernel) un22 ty73 ?_))))))))
  intro ad0 x0 hx0 hA0
  refine k (gy rfl rfl rfl tr1 (ldL hA0.w ty73 rfl rfl ?_))
  intro a2 c2 rv2
  have ln0 := rv_len rv2
  have H9 := H8.put (it := imm (.slice a2 x0.length c2) x0) rfl rv2
  refine k (gy rfl rfl rfl tr1 (ia (H9.rv 0 rfl) rfl rfl rfl rfl (by have q0 := at_is hx0 (y := [2#64]) (by decide +kernel); subst q0; decide) un73 ty77 ?_))
  intro ad1 x1 hx1 hA1
  refine k (gy rfl rfl rfl tr1 (ldU hA1.w ty77 rfl rfl (k (gy rfl rfl rfl tr1 (eqU x1 (2#64) rfl rfl rfl rfl (k (pickT rfl rfl rfl rfl tr1 rfl (k (mv (v := .bool (decide (x1 = (2#64)))) rfl rfl ?_)))))))))
  have tr2 : (decide (x1 = (2#64))) = true := (by have q0 := at_is hx0 (y := [2#64]) (by decide +kernel); subst q0; have q1 := at_is hx1 (y := 2#64) (by decide); subst q1; rfl)
  refine k (gy rfl rfl rfl tr2 (fa fl24_1 rfl rfl (k (gy rfl rfl rfl tr2 (ldX H9 3 rfl ty22 rfl rfl (by decide) rfl (k (gy rfl rfl rfl tr2 (ia (H9.rv 4 rfl) rfl rfl rfl rfl (by decide +kernel) un22 ty73 ?_))))))))
  intro ad2 x2 hx2 hA2
  refine k (gy rfl rfl rfl tr2 (ldL hA2.w ty73 rfl rfl ?_))
  intro a3 c3 rv3
  have ln1 := rv_len rv3
  have H10 := H9.put (it := imm (.slice a3 x2.length c3) x2) rfl rv3
  refine k (gy rfl rfl rfl tr2 (ia (H10.rv 0 rfl) rfl rfl rfl rfl (by have q2 := at_is hx2 (y := [0#64]) (by decide +kernel); subst q2; decide) un73 ty77 ?_))
  intro ad3 x3 hx3 hA3
  refine k (gy rfl rfl rfl tr2 (ldU hA3.w ty77 rfl rfl (k (gy rfl rfl rfl tr2 (eqU x3 (0#64) rfl rfl rfl rfl (k (pickT rfl rfl rfl rfl tr2 rfl (k (mv (v := .bool (decide (x3 = (0#64)))) rfl rfl ?_)))))))))
  have tr3 : (decide (x3 = (0#64))) = true := (by have q2 := at_is hx2 (y := [0#64]) (by decide +kernel); subst q2; have q1 := at_is hx3 (y := 0#64) (by decide); subst q1; rfl)
  refine k (gy rfl rfl rfl tr3 (mv (v := .int .i64 (setME (ofMN 2 ([(0, 1)] : List (Int × Int))) 2 0)) rfl rfl (k (gy rfl rfl rfl tr3 (eql rfl rfl rfl rfl (k (pickT rfl rfl rfl rfl tr3 rfl (k (mv (v := .bool (decide ((setME (ofMN 2 ([(0, 1)] : List (Int × Int))) 2 0) = 1))) rfl rfl ?_)))))))))
  have tr4 : (decide ((setME (ofMN 2 ([(0, 1)] : List (Int × Int))) 2 0) = 1)) = true := (by decide +kernel)
  refine k (gy rfl rfl rfl tr4 (ldX H10 4 rfl ty24 rfl rfl (by decide) rfl (k (gy rfl rfl rfl tr4 ?_))))
  have cc2 := mat_Has (mn := (ofMN 2 ([(0, 1)] : List (Int × Int)))) (mr := (ofMR 2 ([(0, 1)] : List (Int × Int)))) (i := 0) (j := 1) (w := w6) H10.mb (by unfold I64; decide +kernel) (H10.rv 5 rfl) (by unfold I64; decide +kernel) (by unfold I64; decide +kernel) (by decide +kernel) (by decide +kernel) (by decide +kernel)
  refine ca go19 rfl (ec rfl (ec rfl (ec rfl e0))) cc2 ?_
  rintro _ w7 ⟨rfl, xt5⟩
  have H11 := H10.ext xt5
  refine k (pickT rfl rfl rfl rfl tr4 rfl (k (mv (v := .bool (hasM (ofMN 2 ([(0, 1)] : List (Int × Int))) (ofMR 2 ([(0, 1)] : List (Int × Int))) 0 1)) rfl rfl ?_)))
  have tr5 : (hasM (ofMN 2 ([(0, 1)] : List (Int × Int))) (ofMR 2 ([(0, 1)] : List (Int × Int))) 0 1) = true := (by decide +kernel)
  refine k (gy rfl rfl rfl tr5 (ldX H11 4 rfl ty24 rfl rfl (by decide) rfl (k (gy rfl rfl rfl tr5 ?_))))
  have cc3 := mat_Right (mn := (ofMN 2 ([(0, 1)] : List (Int × Int)))) (mr := (ofMR 2 ([(0, 1)] : List (Int × Int)))) (w := w7) H11.mb (by unfold I64; decide +kernel) (H11.rv 5 rfl)
  refine ca go60 rfl (ec rfl e0) cc3 ?_
  rintro _ w8 ⟨rfl, xt6⟩
  have H12 := H11.ext xt6
  refine k (pickT rfl rfl rfl rfl tr5 rfl (k (asg (v := .bool (rightM (ofMN 2 ([(0, 1)] : List (Int × Int))) (ofMR 2 ([(0, 1)] : List (Int × Int))))) rfl rfl (z (nx (rt (r1 rfl rfl ?_)))))))
  have tr6 : (rightM (ofMN 2 ([(0, 1)] : List (Int × Int))) (ofMR 2 ([(0, 1)] : List (Int × Int)))) = true := (by decide +kernel)
  have e0 : (rightM (ofMN 2 ([(0, 1)] : List (Int × Int))) (ofMR 2 ([(0, 1)] : List (Int × Int))) : Bool) = true := by exact tr6
  have ev_ := cg1 (fun (x_0 : Bool) => (.bool x_0 : Value)) e0
  exact ⟨ev_, H12.below⟩
end Go.Proofs.YtmhopljngkgidaaDoor
