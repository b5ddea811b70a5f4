/- PRINTED by my own tool (wip/tool/gen.py): contracts of Go functions of this seat, each with its proof. -/
import Derived.Test.YtfakagpjgpbkbaaProg
import Derived.Test.YtfakagpjgpbkbaaEwSpecE
import Derived.Test.YtfakagpjgpbkbaaR02aFns
import Derived.Test.YtfakagpjgpbkbaaR02aMat
import Derived.Test.YtfakagpjgpbkbaaR02aRef
namespace Go.Proofs.Ytfakagpjgpbkbaa
open Go.Ew Go.RowKit
set_option linter.unusedVariables false
set_option linter.unusedSimpArgs false
attribute [local irreducible] WL WC SO Code.wp wpList retQ Ret
attribute [local irreducible] bitB hasW inR hasR setR countW countR subR words newR
theorem go13 : GoF Try.prog 13 := ⟨_, _, Try.func13, rfl, by kernel_rfl⟩
theorem go24 : GoF Try.prog 24 := ⟨_, _, Try.func24, rfl, by kernel_rfl⟩
theorem go25 : GoF Try.prog 25 := ⟨_, _, Try.func25, rfl, by kernel_rfl⟩
theorem go26 : GoF Try.prog 26 := ⟨_, _, Try.func26, rfl, by kernel_rfl⟩
theorem go12 : GoF Try.prog 12 := ⟨_, _, Try.func12, rfl, by kernel_rfl⟩
theorem un4 : Try.prog.underlying 4 = some (.bool) := by kernel_rfl
theorem go14 : GoF Try.prog 14 := ⟨_, _, Try.func14, rfl, by kernel_rfl⟩
theorem go16 : GoF Try.prog 16 := ⟨_, _, Try.func16, rfl, by kernel_rfl⟩
/- eyewitness/eyewitnesslaw03.awake -/
set_option maxRecDepth 100000 in
set_option maxHeartbeats 200000 in
theorem awake03 {w : World}  : Calls Try.prog 12 #[] w (Ret fun v w' =>  v = .bool true ∧ Ext w w') := by
  refine enter 54 Try.func12 rfl rfl rfl fun f0 ha => ?_
  have H := HI.start (M0 := (fun _ => False)) (w := w) (fun _ h => h.elim)
  refine sq (rg (k (asg rfl rfl (z (nx (sq (rg (k (bd (v := .agg #[.int .i64 0, .int .i64 1]) rfl (pbc rfl (pbc rfl pb0)) (fun _ => by kernel_rfl) (k (bs (xs := ([(0, 1)] : List (Int × Int))) (cells := #[.int .i64 0, .int .i64 1]) (e := 47) H rfl (pbc rfl pb0) (fun _ => by kernel_rfl) ⟨[.int .i64 0, .int .i64 1], [], rfl, ⟨_, _, rfl, ⟨rfl, (by unfold I64; decide +kernel)⟩, ⟨rfl, (by unfold I64; decide +kernel)⟩⟩, rfl⟩ rfl (by unfold maxLen; omega) ?_)))))))))))
  intro g0 w0 xt0 (H0 : HI (fun _ => False) w w0 [own w.heap.size 47 (.slice (some ⟨g0, 0, none⟩) 1 1) ([(0, 1)] : List (Int × Int))])
  refine k ?_
  have H1 := H0.freeze 0 rfl
  have cc0 := mat_Of (n := 2) (ps := ([(0, 1)] : List (Int × Int))) (w := w0) H1.mb (by unfold I64; decide +kernel) (H1.rv 0 rfl)
  refine ca go13 rfl (ec rfl (ec rfl e0)) cc0 ?_
  rintro _ w1 ⟨a0, c0, rfl, xt1, rv0⟩
  have H2 := H1.ownsG rv0
  refine k (mv rfl rfl (k (xt rfl rfl rfl (k (xt rfl rfl rfl (k (al H2 ty33 ?_)))))))
  intro bb0 w2 xt2 (H3 : HI (fun _ => False) w w2 [box bb0 #[.int .i64 0, .slice none 0 0] 33, own w.heap.size 22 (.slice a0 (ofMR 2 ([(0, 1)] : List (Int × Int))).length c0) (ofMR 2 ([(0, 1)] : List (Int × Int))), imm (.slice (some ⟨g0, 0, none⟩) 1 1) ([(0, 1)] : List (Int × Int))])
  refine k (stX H3 0 rfl ty33 rfl rfl rfl rfl rfl rfl rfl ?_)
  intro w3 (H4 : HI (fun _ => False) w w3 [box bb0 #[.int .i64 (ofMN 2 ([(0, 1)] : List (Int × Int))), .slice a0 (ofMR 2 ([(0, 1)] : List (Int × Int))).length c0] 33, own w.heap.size 22 (.slice a0 (ofMR 2 ([(0, 1)] : List (Int × Int))).length c0) (ofMR 2 ([(0, 1)] : List (Int × Int))), imm (.slice (some ⟨g0, 0, none⟩) 1 1) ([(0, 1)] : List (Int × Int))])
  refine k (asg rfl rfl (z (nx (sq (rg (k (ldX H4 0 rfl ty33 rfl rfl (by decide) rfl (k ?_))))))))
  have H5 := H4.freeze 1 rfl
  have cc1 := mat_Set (mn := (ofMN 2 ([(0, 1)] : List (Int × Int)))) (mr := (ofMR 2 ([(0, 1)] : List (Int × Int)))) (i := 2) (j := 0) (w := w3) H5.mb (by unfold I64; decide +kernel) (H5.rv 1 rfl) (by unfold I64; decide +kernel) (by unfold I64; decide +kernel) (by decide +kernel) (by decide +kernel) (by decide +kernel)
  refine ca go24 rfl (ec rfl (ec rfl (ec rfl e0))) cc1 ?_
  rintro _ w4 ⟨a1, c1, rfl, xt3, rv1⟩
  have H6 := H5.ownsG rv1
  refine k (mv rfl rfl (k (xt rfl rfl rfl (k (xt rfl rfl rfl (k (al H6 ty33 ?_)))))))
  intro bb1 w5 xt4 (H7 : HI (fun _ => False) w w5 [box bb1 #[.int .i64 0, .slice none 0 0] 33, own w.heap.size 22 (.slice a1 (setMR (ofMN 2 ([(0, 1)] : List (Int × Int))) (ofMR 2 ([(0, 1)] : List (Int × Int))) 2 0).length c1) (setMR (ofMN 2 ([(0, 1)] : List (Int × Int))) (ofMR 2 ([(0, 1)] : List (Int × Int))) 2 0), box bb0 #[.int .i64 (ofMN 2 ([(0, 1)] : List (Int × Int))), .slice a0 (ofMR 2 ([(0, 1)] : List (Int × Int))).length c0] 33, imm (.slice a0 (ofMR 2 ([(0, 1)] : List (Int × Int))).length c0) (ofMR 2 ([(0, 1)] : List (Int × Int))), imm (.slice (some ⟨g0, 0, none⟩) 1 1) ([(0, 1)] : List (Int × Int))])
  refine k (stX H7 0 rfl ty33 rfl rfl rfl rfl rfl rfl rfl ?_)
  intro w6 (H8 : HI (fun _ => False) w w6 [box bb1 #[.int .i64 (setMN (ofMN 2 ([(0, 1)] : List (Int × Int))) 2 0), .slice a1 (setMR (ofMN 2 ([(0, 1)] : List (Int × Int))) (ofMR 2 ([(0, 1)] : List (Int × Int))) 2 0).length c1] 33, own w.heap.size 22 (.slice a1 (setMR (ofMN 2 ([(0, 1)] : List (Int × Int))) (ofMR 2 ([(0, 1)] : List (Int × Int))) 2 0).length c1) (setMR (ofMN 2 ([(0, 1)] : List (Int × Int))) (ofMR 2 ([(0, 1)] : List (Int × Int))) 2 0), box bb0 #[.int .i64 (ofMN 2 ([(0, 1)] : List (Int × Int))), .slice a0 (ofMR 2 ([(0, 1)] : List (Int × Int))).length c0] 33, imm (.slice a0 (ofMR 2 ([(0, 1)] : List (Int × Int))).length c0) (ofMR 2 ([(0, 1)] : List (Int × Int))), imm (.slice (some ⟨g0, 0, none⟩) 1 1) ([(0, 1)] : List (Int × Int))])
  refine k (asg rfl rfl (z (nx (sq (rg (k (mv rfl rfl (k (eql rfl rfl rfl rfl (k (mv rfl rfl (k (gy rfl rfl rfl (by decide +kernel) (fa fl33_1 rfl rfl (k (gy rfl rfl rfl (by decide +kernel) (ldX H8 2 rfl ty31 rfl rfl (by decide) rfl (k (gy rfl rfl rfl (by decide +kernel) (lnS rfl rfl un31 (k (gy rfl rfl rfl (by decide +kernel) (eql rfl rfl rfl rfl (k (pickT rfl rfl rfl rfl (by decide +kernel) rfl (k (mv rfl rfl (k (gy rfl rfl rfl (by decide +kernel) (fa fl33_1 rfl rfl (k (gy rfl rfl rfl (by decide +kernel) (ldX H8 2 rfl ty31 rfl rfl (by decide) rfl (k (gy rfl rfl rfl (by decide +kernel) (ia (H8.rv 3 rfl) rfl rfl rfl rfl (by decide +kernel) un31 ty22 ?_))))))))))))))))))))))))))))))))))))
  intro ad0 x0 hx0 hA0
  refine k (gy rfl rfl rfl (by decide +kernel) (ldL hA0.w ty22 rfl rfl ?_))
  intro a2 c2 rv2
  have H9 := H8.put (it := imm (.slice a2 x0.length c2) x0) rfl rv2
  refine k (gy rfl rfl rfl (by decide +kernel) (ia (H9.rv 0 rfl) rfl rfl rfl rfl (by have q0 := at_is hx0 (y := [2#64]) (by decide +kernel); subst q0; decide) un22 ty41 ?_))
  intro ad1 x1 hx1 hA1
  refine k (gy rfl rfl rfl (by decide +kernel) (ldU hA1.w ty41 rfl rfl (k (gy rfl rfl rfl (by decide +kernel) (eqU x1 (2#64) rfl rfl rfl rfl (k (pickT rfl rfl rfl rfl (by decide +kernel) rfl (k (mv rfl rfl (k (gy rfl rfl rfl (by have q0 := at_is hx0 (y := [2#64]) (by decide +kernel); subst q0; have q1 := at_is hx1 (y := 2#64) (by decide); subst q1; rfl) (fa fl33_1 rfl rfl (k (gy rfl rfl rfl (by have q0 := at_is hx0 (y := [2#64]) (by decide +kernel); subst q0; have q1 := at_is hx1 (y := 2#64) (by decide); subst q1; rfl) (ldX H9 3 rfl ty31 rfl rfl (by decide) rfl (k (gy rfl rfl rfl (by have q0 := at_is hx0 (y := [2#64]) (by decide +kernel); subst q0; have q1 := at_is hx1 (y := 2#64) (by decide); subst q1; rfl) (ia (H9.rv 4 rfl) rfl rfl rfl rfl (by decide +kernel) un31 ty22 ?_))))))))))))))))))
  intro ad2 x2 hx2 hA2
  refine k (gy rfl rfl rfl (by have q0 := at_is hx0 (y := [2#64]) (by decide +kernel); subst q0; have q1 := at_is hx1 (y := 2#64) (by decide); subst q1; rfl) (ldL hA2.w ty22 rfl rfl ?_))
  intro a3 c3 rv3
  have H10 := H9.put (it := imm (.slice a3 x2.length c3) x2) rfl rv3
  refine k (gy rfl rfl rfl (by have q0 := at_is hx0 (y := [2#64]) (by decide +kernel); subst q0; have q1 := at_is hx1 (y := 2#64) (by decide); subst q1; rfl) (ia (H10.rv 0 rfl) rfl rfl rfl rfl (by have q2 := at_is hx2 (y := [0#64]) (by decide +kernel); subst q2; decide) un22 ty41 ?_))
  intro ad3 x3 hx3 hA3
  refine k (gy rfl rfl rfl (by have q0 := at_is hx0 (y := [2#64]) (by decide +kernel); subst q0; have q1 := at_is hx1 (y := 2#64) (by decide); subst q1; rfl) (ldU hA3.w ty41 rfl rfl (k (gy rfl rfl rfl (by have q0 := at_is hx0 (y := [2#64]) (by decide +kernel); subst q0; have q1 := at_is hx1 (y := 2#64) (by decide); subst q1; rfl) (eqU x3 (0#64) rfl rfl rfl rfl (k (pickT rfl rfl rfl rfl (by have q0 := at_is hx0 (y := [2#64]) (by decide +kernel); subst q0; have q1 := at_is hx1 (y := 2#64) (by decide); subst q1; rfl) rfl (k (mv rfl rfl (k (gy rfl rfl rfl (by have q2 := at_is hx2 (y := [0#64]) (by decide +kernel); subst q2; have q1 := at_is hx3 (y := 0#64) (by decide); subst q1; rfl) (mv rfl rfl (k (gy rfl rfl rfl (by have q2 := at_is hx2 (y := [0#64]) (by decide +kernel); subst q2; have q1 := at_is hx3 (y := 0#64) (by decide); subst q1; rfl) (eql rfl rfl rfl rfl (k (pickT rfl rfl rfl rfl (by have q2 := at_is hx2 (y := [0#64]) (by decide +kernel); subst q2; have q1 := at_is hx3 (y := 0#64) (by decide); subst q1; rfl) rfl (k (mv rfl rfl (k (gy rfl rfl rfl (by decide +kernel) (ldX H10 4 rfl ty33 rfl rfl (by decide) rfl (k (gy rfl rfl rfl (by decide +kernel) ?_))))))))))))))))))))))))
  have cc2 := mat_Has (mn := (ofMN 2 ([(0, 1)] : List (Int × Int)))) (mr := (ofMR 2 ([(0, 1)] : List (Int × Int)))) (i := 0) (j := 1) (w := w6) H10.mb (by unfold I64; decide +kernel) (H10.rv 5 rfl) (by unfold I64; decide +kernel) (by unfold I64; decide +kernel) (by decide +kernel) (by decide +kernel) (by decide +kernel)
  refine ca go25 rfl (ec rfl (ec rfl (ec rfl e0))) cc2 ?_
  rintro _ w7 ⟨rfl, xt5⟩
  have H11 := H10.ext xt5
  refine k (pickT rfl rfl rfl rfl (by decide +kernel) rfl (k (mv rfl rfl (k (gy rfl rfl rfl (by decide +kernel) (ldX H11 4 rfl ty33 rfl rfl (by decide) rfl (k (gy rfl rfl rfl (by decide +kernel) ?_))))))))
  have cc3 := mat_Right (mn := (ofMN 2 ([(0, 1)] : List (Int × Int)))) (mr := (ofMR 2 ([(0, 1)] : List (Int × Int)))) (w := w7) H11.mb (by unfold I64; decide +kernel) (H11.rv 5 rfl)
  refine ca go26 rfl (ec rfl e0) cc3 ?_
  rintro _ w8 ⟨rfl, xt6⟩
  have H12 := H11.ext xt6
  refine k (pickT rfl rfl rfl rfl (by decide +kernel) rfl (k (asg rfl rfl (z (nx (rt (r1 rfl rfl ?_)))))))
  have e0 : (rightM (ofMN 2 ([(0, 1)] : List (Int × Int))) (ofMR 2 ([(0, 1)] : List (Int × Int))) : Bool) = true := by exact (by decide +kernel)
  have ev_ := cg1 (fun (x_0 : Bool) => (.bool x_0 : Value)) e0
  exact ⟨ev_, H12.below⟩
/- eyewitness/eyewitnesslaw03.MatMakes -/
set_option maxRecDepth 100000 in
set_option maxHeartbeats 200000 in
theorem law_MatMakes {M : Nat → Prop} {w : World} {n : Int} {a_ps : Option Addr} {c_ps : Nat} {ps : List (Int × Int)} (hM : ∀ b, M b → b < w.heap.size) (h_n : I64 n) (h_ps : RV M w (.slice a_ps ps.length c_ps) ps) : Calls Try.prog 4 #[.int .i64 n, .slice a_ps ps.length c_ps] w (Ret fun v w' =>  v = .bool true ∧ Ext w w') := by
  refine enter 82 Try.func4 rfl rfl rfl fun f0 ha => ?_
  have H := HI.start (M0 := M) (w := w) hM
  have H0 := H.put (it := imm (.slice a_ps ps.length c_ps) ps) rfl (by rw [MS_nil]; exact h_ps)
  have ln_ps := rv_len h_ps
  have i0 : f0 0 = .int .i64 n := ha 0 (by simp)
  have i1 : f0 1 = .slice a_ps ps.length c_ps := ha 1 (by simp)
  refine sq (rg (k (asg rfl rfl (z (nx (sq (sq (rg (k (mv rfl i0 (k (gtr rfl rfl rfl rfl (k (mv rfl rfl ?_))))))))))))))
  rcases Bool.eq_false_or_eq_true (decide (70 < n)) with b0 | b0
  · -- decide (70 < n) is True
    have p0 := of_decide_eq_true b0
    refine k (gn rfl rfl rfl b0 (k (gn rfl rfl rfl b0 (k (gn rfl rfl rfl b0 (k (pickT rfl rfl rfl rfl b0 rfl (z (nx (cdT rfl rfl rfl (sq (rg (k (mv rfl i0 (k ?_)))))))))))))))
    have cc0 := mat_New (n := n) (w := w) H0.mb (by unfold I64 at *; omega)
    refine ca go11 rfl (ec rfl e0) cc0 ?_
    rintro _ w0 ⟨a0, c0, rfl, xt0, rv0⟩
    have H1 := H0.ownsG rv0
    refine k (mv rfl rfl (k (xt rfl rfl rfl (k (xt rfl rfl rfl (k (al H1 ty33 ?_)))))))
    intro bb0 w1 xt1 (H2 : HI M w w1 [box bb0 #[.int .i64 0, .slice none 0 0] 33, own w.heap.size 22 (.slice a0 (newMR n).length c0) (newMR n), imm (.slice a_ps ps.length c_ps) ps])
    refine k (stX H2 0 rfl ty33 rfl rfl rfl rfl rfl rfl rfl ?_)
    intro w2 (H3 : HI M w w2 [box bb0 #[.int .i64 (newMN n), .slice a0 (newMR n).length c0] 33, own w.heap.size 22 (.slice a0 (newMR n).length c0) (newMR n), imm (.slice a_ps ps.length c_ps) ps])
    refine k (asg rfl rfl (z (nx (sq (rg (k ?_))))))
    have cc1 := awake03 (w := w2)
    refine ca go12 rfl e0 cc1 ?_
    rintro _ w3 ⟨rfl, xt2⟩
    have H4 := H3.ext xt2
    refine k (mv rfl rfl (k (gy rfl rfl rfl rfl (mv rfl i0 (k (gy rfl rfl rfl rfl (geq rfl rfl rfl rfl (k (gy rfl rfl rfl rfl (mv rfl rfl ?_))))))))))
    rcases Bool.eq_false_or_eq_true (decide (0 ≤ n)) with b1 | b1
    · -- decide (0 ≤ n) is True
      have p1 := of_decide_eq_true b1
      refine k (gy rfl rfl rfl b1 (mv rfl i0 (k (gy rfl rfl rfl b1 (leq rfl rfl rfl rfl (k (gy rfl rfl rfl rfl (pickT rfl rfl rfl rfl b1 rfl (k (gy rfl rfl rfl rfl (mv rfl rfl (k (gy rfl rfl rfl rfl (eql rfl rfl rfl rfl (k (gy rfl rfl rfl rfl (eqB rfl rfl rfl rfl un4 (k (pickT rfl rfl rfl rfl rfl rfl (k (asg rfl rfl (z (nx (rt (then_ret (r1 rfl rfl ?_))))))))))))))))))))))))))
      have e0 : ((decide (n ≤ 4096)) == (decide ((newME n) = 0)) : Bool) = true := by exact (by rw [newME_dec]; unfold okN; simp_all)
      have ev_ := cg1 (fun (x_0 : Bool) => (.bool x_0 : Value)) e0
      exact ⟨ev_, H4.below⟩
    · -- decide (0 ≤ n) is False
      have p1 := of_decide_eq_false b1
      refine k (gn rfl rfl rfl b1 (k (gn rfl rfl rfl b1 (k (gy rfl rfl rfl rfl (pickF rfl rfl rfl rfl b1 rfl (k (gy rfl rfl rfl rfl (mv rfl rfl (k (gy rfl rfl rfl rfl (eql rfl rfl rfl rfl (k (gy rfl rfl rfl rfl (eqB rfl rfl rfl rfl un4 (k (pickT rfl rfl rfl rfl rfl rfl (k (asg rfl rfl (z (nx (rt (then_ret (r1 rfl rfl ?_))))))))))))))))))))))))
      have e0 : (false == (decide ((newME n) = 0)) : Bool) = true := by exact (by rw [newME_dec]; unfold okN; simp_all)
      have ev_ := cg1 (fun (x_0 : Bool) => (.bool x_0 : Value)) e0
      exact ⟨ev_, H4.below⟩
  · -- decide (70 < n) is False
    have p0 := of_decide_eq_false b0
    refine k (gy rfl rfl rfl b0 (mv rfl i1 (k (gy rfl rfl rfl b0 (lnS rfl rfl un30 (k (gy rfl rfl rfl b0 (gtr rfl rfl rfl rfl (k (pickF rfl rfl rfl rfl b0 rfl (z (nx ?_))))))))))))
    refine cd (b := decide (60 < (ps.length : Int))) rfl rfl (fun b2 => ?_) (fun b2 => ?_)
    ·
      have p2 := of_decide_eq_true b2
      refine sq (rg (k (mv rfl i0 (k ?_))))
      have cc2 := mat_New (n := n) (w := w) H0.mb (by unfold I64 at *; omega)
      refine ca go11 rfl (ec rfl e0) cc2 ?_
      rintro _ w4 ⟨a1, c1, rfl, xt3, rv1⟩
      have H5 := H0.ownsG rv1
      refine k (mv rfl rfl (k (xt rfl rfl rfl (k (xt rfl rfl rfl (k (al H5 ty33 ?_)))))))
      intro bb1 w5 xt4 (H6 : HI M w w5 [box bb1 #[.int .i64 0, .slice none 0 0] 33, own w.heap.size 22 (.slice a1 (newMR n).length c1) (newMR n), imm (.slice a_ps ps.length c_ps) ps])
      refine k (stX H6 0 rfl ty33 rfl rfl rfl rfl rfl rfl rfl ?_)
      intro w6 (H7 : HI M w w6 [box bb1 #[.int .i64 (newMN n), .slice a1 (newMR n).length c1] 33, own w.heap.size 22 (.slice a1 (newMR n).length c1) (newMR n), imm (.slice a_ps ps.length c_ps) ps])
      refine k (asg rfl rfl (z (nx (sq (rg (k ?_))))))
      have cc3 := awake03 (w := w6)
      refine ca go12 rfl e0 cc3 ?_
      rintro _ w7 ⟨rfl, xt5⟩
      have H8 := H7.ext xt5
      refine k (mv rfl rfl (k (gy rfl rfl rfl rfl (mv rfl i0 (k (gy rfl rfl rfl rfl (geq rfl rfl rfl rfl (k (gy rfl rfl rfl rfl (mv rfl rfl ?_))))))))))
      rcases Bool.eq_false_or_eq_true (decide (0 ≤ n)) with b3 | b3
      · -- decide (0 ≤ n) is True
        have p3 := of_decide_eq_true b3
        refine k (gy rfl rfl rfl b3 (mv rfl i0 (k (gy rfl rfl rfl b3 (leq rfl rfl rfl rfl (k (gy rfl rfl rfl rfl (pickT rfl rfl rfl rfl b3 rfl (k (gy rfl rfl rfl rfl (mv rfl rfl (k (gy rfl rfl rfl rfl (eql rfl rfl rfl rfl (k (gy rfl rfl rfl rfl (eqB rfl rfl rfl rfl un4 (k (pickT rfl rfl rfl rfl rfl rfl (k (asg rfl rfl (z (nx (rt (then_ret (r1 rfl rfl ?_))))))))))))))))))))))))))
        have e0 : ((decide (n ≤ 4096)) == (decide ((newME n) = 0)) : Bool) = true := by exact (by rw [newME_dec]; unfold okN; simp_all)
        have ev_ := cg1 (fun (x_0 : Bool) => (.bool x_0 : Value)) e0
        exact ⟨ev_, H8.below⟩
      · -- decide (0 ≤ n) is False
        have p3 := of_decide_eq_false b3
        refine k (gn rfl rfl rfl b3 (k (gn rfl rfl rfl b3 (k (gy rfl rfl rfl rfl (pickF rfl rfl rfl rfl b3 rfl (k (gy rfl rfl rfl rfl (mv rfl rfl (k (gy rfl rfl rfl rfl (eql rfl rfl rfl rfl (k (gy rfl rfl rfl rfl (eqB rfl rfl rfl rfl un4 (k (pickT rfl rfl rfl rfl rfl rfl (k (asg rfl rfl (z (nx (rt (then_ret (r1 rfl rfl ?_))))))))))))))))))))))))
        have e0 : (false == (decide ((newME n) = 0)) : Bool) = true := by exact (by rw [newME_dec]; unfold okN; simp_all)
        have ev_ := cg1 (fun (x_0 : Bool) => (.bool x_0 : Value)) e0
        exact ⟨ev_, H8.below⟩
    ·
      have p2 := of_decide_eq_false b2
      refine sk (nx (sq (rg (k (mv rfl i0 (k (mv rfl i1 (k ?_))))))))
      have cc4 := mat_Of (n := n) (ps := ps) (w := w) H0.mb (by unfold I64 at *; omega) (H0.rv 0 rfl)
      refine ca go13 rfl (ec rfl (ec rfl e0)) cc4 ?_
      rintro _ w8 ⟨a2, c2, rfl, xt6, rv2⟩
      have H9 := H0.ownsG rv2
      refine k (mv rfl rfl (k (xt rfl rfl rfl (k (xt rfl rfl rfl (k (al H9 ty33 ?_)))))))
      intro bb2 w9 xt7 (H10 : HI M w w9 [box bb2 #[.int .i64 0, .slice none 0 0] 33, own w.heap.size 22 (.slice a2 (ofMR n ps).length c2) (ofMR n ps), imm (.slice a_ps ps.length c_ps) ps])
      refine k (stX H10 0 rfl ty33 rfl rfl rfl rfl rfl rfl rfl ?_)
      intro w10 (H11 : HI M w w10 [box bb2 #[.int .i64 (ofMN n ps), .slice a2 (ofMR n ps).length c2] 33, own w.heap.size 22 (.slice a2 (ofMR n ps).length c2) (ofMR n ps), imm (.slice a_ps ps.length c_ps) ps])
      refine k (asg rfl rfl (z (nx (sq (rg (k (mv rfl i0 (k (mv rfl i1 (k ?_))))))))))
      have cc5 := ref03_Of (n := n) (ps := ps) (w := w10) H11.mb (by unfold I64 at *; omega) (H11.rv 2 rfl)
      refine ca go14 rfl (ec rfl (ec rfl e0)) cc5 ?_
      rintro _ w11 ⟨a3, c3, rfl, xt8, rv3⟩
      have H12 := H11.ext xt8
      have H13 := H12.put (it := imm (.slice a3 (ofMR n ps).length c3) (ofMR n ps)) rfl rv3
      refine k (mv rfl rfl (k (xt rfl rfl rfl (k (xt rfl rfl rfl (k (al H13 ty33 ?_)))))))
      intro bb3 w12 xt9 (H14 : HI M w w12 [box bb3 #[.int .i64 0, .slice none 0 0] 33, imm (.slice a3 (ofMR n ps).length c3) (ofMR n ps), box bb2 #[.int .i64 (ofMN n ps), .slice a2 (ofMR n ps).length c2] 33, own w.heap.size 22 (.slice a2 (ofMR n ps).length c2) (ofMR n ps), imm (.slice a_ps ps.length c_ps) ps])
      refine k (stX H14 0 rfl ty33 rfl rfl rfl rfl rfl rfl rfl ?_)
      intro w13 (H15 : HI M w w13 [box bb3 #[.int .i64 (ofMN n ps), .slice a3 (ofMR n ps).length c3] 33, imm (.slice a3 (ofMR n ps).length c3) (ofMR n ps), box bb2 #[.int .i64 (ofMN n ps), .slice a2 (ofMR n ps).length c2] 33, own w.heap.size 22 (.slice a2 (ofMR n ps).length c2) (ofMR n ps), imm (.slice a_ps ps.length c_ps) ps])
      refine k (asg rfl rfl (z (nx (sq (rg (k (mv rfl i0 (k ?_))))))))
      have cc6 := mat_New (n := n) (w := w13) H15.mb (by unfold I64 at *; omega)
      refine ca go11 rfl (ec rfl e0) cc6 ?_
      rintro _ w14 ⟨a4, c4, rfl, xt10, rv4⟩
      have H16 := H15.ownsG rv4
      refine k (mv rfl rfl (k (xt rfl rfl rfl (k (xt rfl rfl rfl (k (al H16 ty33 ?_)))))))
      intro bb4 w15 xt11 (H17 : HI M w w15 [box bb4 #[.int .i64 0, .slice none 0 0] 33, own w.heap.size 22 (.slice a4 (newMR n).length c4) (newMR n), box bb3 #[.int .i64 (ofMN n ps), .slice a3 (ofMR n ps).length c3] 33, imm (.slice a3 (ofMR n ps).length c3) (ofMR n ps), box bb2 #[.int .i64 (ofMN n ps), .slice a2 (ofMR n ps).length c2] 33, own w.heap.size 22 (.slice a2 (ofMR n ps).length c2) (ofMR n ps), imm (.slice a_ps ps.length c_ps) ps])
      refine k (stX H17 0 rfl ty33 rfl rfl rfl rfl rfl rfl rfl ?_)
      intro w16 (H18 : HI M w w16 [box bb4 #[.int .i64 (newMN n), .slice a4 (newMR n).length c4] 33, own w.heap.size 22 (.slice a4 (newMR n).length c4) (newMR n), box bb3 #[.int .i64 (ofMN n ps), .slice a3 (ofMR n ps).length c3] 33, imm (.slice a3 (ofMR n ps).length c3) (ofMR n ps), box bb2 #[.int .i64 (ofMN n ps), .slice a2 (ofMR n ps).length c2] 33, own w.heap.size 22 (.slice a2 (ofMR n ps).length c2) (ofMR n ps), imm (.slice a_ps ps.length c_ps) ps])
      refine k (asg rfl rfl (z (nx (sq (rg (k (mv rfl i0 (k ?_))))))))
      have cc7 := ref03_New (n := n) (w := w16) H18.mb (by unfold I64 at *; omega)
      refine ca go15 rfl (ec rfl e0) cc7 ?_
      rintro _ w17 ⟨a5, c5, rfl, xt12, rv5⟩
      have H19 := H18.ownsG rv5
      refine k (mv rfl rfl (k (xt rfl rfl rfl (k (xt rfl rfl rfl (k (al H19 ty33 ?_)))))))
      intro bb5 w18 xt13 (H20 : HI M w w18 [box bb5 #[.int .i64 0, .slice none 0 0] 33, own w.heap.size 22 (.slice a5 (newMR n).length c5) (newMR n), box bb4 #[.int .i64 (newMN n), .slice a4 (newMR n).length c4] 33, own w.heap.size 22 (.slice a4 (newMR n).length c4) (newMR n), box bb3 #[.int .i64 (ofMN n ps), .slice a3 (ofMR n ps).length c3] 33, imm (.slice a3 (ofMR n ps).length c3) (ofMR n ps), box bb2 #[.int .i64 (ofMN n ps), .slice a2 (ofMR n ps).length c2] 33, own w.heap.size 22 (.slice a2 (ofMR n ps).length c2) (ofMR n ps), imm (.slice a_ps ps.length c_ps) ps])
      refine k (stX H20 0 rfl ty33 rfl rfl rfl rfl rfl rfl rfl ?_)
      intro w19 (H21 : HI M w w19 [box bb5 #[.int .i64 (newMN n), .slice a5 (newMR n).length c5] 33, own w.heap.size 22 (.slice a5 (newMR n).length c5) (newMR n), box bb4 #[.int .i64 (newMN n), .slice a4 (newMR n).length c4] 33, own w.heap.size 22 (.slice a4 (newMR n).length c4) (newMR n), box bb3 #[.int .i64 (ofMN n ps), .slice a3 (ofMR n ps).length c3] 33, imm (.slice a3 (ofMR n ps).length c3) (ofMR n ps), box bb2 #[.int .i64 (ofMN n ps), .slice a2 (ofMR n ps).length c2] 33, own w.heap.size 22 (.slice a2 (ofMR n ps).length c2) (ofMR n ps), imm (.slice a_ps ps.length c_ps) ps])
      refine k (asg rfl rfl (z (nx (sq (rg (k ?_))))))
      have cc8 := awake03 (w := w19)
      refine ca go12 rfl e0 cc8 ?_
      rintro _ w20 ⟨rfl, xt14⟩
      have H22 := H21.ext xt14
      refine k (mv rfl rfl (k (gy rfl rfl rfl rfl (ldX H22 6 rfl ty33 rfl rfl (by decide) rfl (k (gy rfl rfl rfl rfl (ldX H22 4 rfl ty33 rfl rfl (by decide) rfl (k (gy rfl rfl rfl rfl ?_)))))))))
      have H23 := H22.freeze 7 rfl
      have cc9 := ref03_Equal (an := (ofMN n ps)) (ar := (ofMR n ps)) (bn := (ofMN n ps)) (br := (ofMR n ps)) (w := w20) H23.mb (by unfold ofMN; split; exact h_n; unfold I64; omega) (H23.rv 7 rfl) (by unfold ofMN; split; exact h_n; unfold I64; omega) (H23.rv 5 rfl)
      refine ca go16 rfl (ec rfl (ec rfl e0)) cc9 ?_
      rintro _ w21 ⟨rfl, xt15⟩
      have H24 := H23.ext xt15
      refine k (pickT rfl rfl rfl rfl rfl rfl (k (mv rfl rfl (k (gy rfl rfl rfl (eqM_refl _ _) (mv rfl rfl (k (gy rfl rfl rfl (eqM_refl _ _) (mv rfl rfl (k (gy rfl rfl rfl (eqM_refl _ _) (eql rfl rfl rfl rfl (k (pickT rfl rfl rfl rfl (eqM_refl _ _) rfl (k (mv rfl rfl (k (gy rfl rfl rfl (by simp) (ldX H24 2 rfl ty33 rfl rfl (by decide) rfl (k (gy rfl rfl rfl (by simp) (ldX H24 0 rfl ty33 rfl rfl (by decide) rfl (k (gy rfl rfl rfl (by simp) ?_))))))))))))))))))))))))
      have H25 := H24.freeze 3 rfl
      have H26 := H25.freeze 1 rfl
      have cc10 := ref03_Equal (an := (newMN n)) (ar := (newMR n)) (bn := (newMN n)) (br := (newMR n)) (w := w21) H26.mb (by unfold newMN; split; exact h_n; unfold I64; omega) (H26.rv 3 rfl) (by unfold newMN; split; exact h_n; unfold I64; omega) (H26.rv 1 rfl)
      refine ca go16 rfl (ec rfl (ec rfl e0)) cc10 ?_
      rintro _ w22 ⟨rfl, xt16⟩
      have H27 := H26.ext xt16
      refine k (pickT rfl rfl rfl rfl (by simp) rfl (k (mv rfl rfl (k (gy rfl rfl rfl (eqM_refl _ _) (mv rfl rfl (k (gy rfl rfl rfl (eqM_refl _ _) (mv rfl rfl (k (gy rfl rfl rfl (eqM_refl _ _) (eql rfl rfl rfl rfl (k (pickT rfl rfl rfl rfl (eqM_refl _ _) rfl (k (asg rfl rfl (z (nx (rt (r1 rfl rfl ?_))))))))))))))))))))
      have e0 : (decide ((newME n) = (newME n)) : Bool) = true := by exact (by simp)
      have ev_ := cg1 (fun (x_0 : Bool) => (.bool x_0 : Value)) e0
      exact ⟨ev_, H27.below⟩
end Go.Proofs.Ytfakagpjgpbkbaa
