/- PRINTED by my own tool (wip/tool/gen.py): contracts of Go functions of this seat, each with its proof. -/
import Derived.Test.YtfakagpjgpbkbaaDoorR02dMat
import Derived.Test.YtfakagpjgpbkbaaDoorR02dFns
import Derived.Test.YtfakagpjgpbkbaaDoorEngW
import Derived.Test.YtfakagpjgpbkbaaDoorEwSpecW
namespace Go.Proofs.YtfakagpjgpbkbaaDoor
open Go.Ew Go.RowKit
set_option linter.unusedVariables false
set_option linter.unusedSimpArgs false
attribute [local irreducible] WL WC SO Code.wp wpList retQ Ret
attribute [local irreducible] bitB hasW inR hasR setR countW countR subR words newR listR orR firstW tab8
theorem go32 : GoF Tryd.prog 32 := ⟨_, _, Tryd.func32, rfl, by kernel_rfl⟩
theorem go85 : GoF Tryd.prog 85 := ⟨_, _, Tryd.func85, rfl, by kernel_rfl⟩
theorem go14 : GoF Tryd.prog 14 := ⟨_, _, Tryd.func14, rfl, by kernel_rfl⟩
theorem go25 : GoF Tryd.prog 25 := ⟨_, _, Tryd.func25, rfl, by kernel_rfl⟩
theorem go27 : GoF Tryd.prog 27 := ⟨_, _, Tryd.func27, rfl, by kernel_rfl⟩
/- slices.EqualFunc[[][]uint64,[][]uint64,[]uint64,[]uint64] -/
set_option maxRecDepth 100000 in
set_option maxHeartbeats 1600000 in
theorem equalFunc_row {M : Nat → Prop} {w : World} {a_a : Option Addr} {c_a : Nat} {a : List (List (BitVec 64))} {a_b : Option Addr} {c_b : Nat} {b : List (List (BitVec 64))} {g_p : Nat} {C_p : List Value} {p : (List (BitVec 64)) → (List (BitVec 64)) → Bool} (hM : ∀ b, M b → b < w.heap.size) (h_a : RV M w (.slice a_a a.length c_a) a) (h_b : RV M w (.slice a_b b.length c_b) b) (h_p : FP2 Tryd.prog g_p C_p M w a b p) : Calls Tryd.prog 85 #[.slice a_a a.length c_a, .slice a_b b.length c_b, .func (.func g_p) #[] C_p.toArray] w (Ret fun v w' =>  v = .bool (allQ p a b) ∧ Ext w w') := by
  refine enter 32 Tryd.func85 rfl rfl rfl fun f0 ha => ?_
  have H := HI.start (M0 := M) (w := w) hM
  have H0 := H.put (it := imm (.slice a_a a.length c_a) a) rfl (by rw [MS_nil]; exact h_a)
  have H1 := H0.put (it := imm (.slice a_b b.length c_b) b) rfl (by rw [MS_cons_none rfl, MS_nil]; exact h_b)
  have ln_a := rv_len h_a
  have ln_b := rv_len h_b
  have i0 : f0 0 = .slice a_a a.length c_a := ha 0 (by simp)
  have i1 : f0 1 = .slice a_b b.length c_b := ha 1 (by simp)
  have i2 : f0 2 = .func (.func g_p) #[] C_p.toArray := ha 2 (by simp)
  refine sq (rg (k (asg (v := .bool false) rfl rfl (z (nx (sq (sq (rg (k (mv rfl i0 (k (lnS rfl rfl un36 (k (mv rfl i1 (k (lnS rfl rfl un36 (k (neq rfl rfl rfl rfl (z (nx ?_))))))))))))))))))))
  refine cd (b := !decide ((a.length : Int) = (b.length : Int))) rfl rfl (fun b0 => ?_) (fun b0 => ?_)
  ·
    have p0 := of_decide_eq_false (nott b0)
    refine sq (rg (k (asg (v := .bool false) rfl rfl (z (nx (rt (then_ret (r1 rfl rfl ?_))))))))
    have e0 : (false : Bool) = allQ p a b := by first | exact allQ_len p0 | exact allQ_no hx0 hx1 (by simpa using b2) | exact allQ_no hx0 hx1 b2 | exact allQ_end (by omega) hs (by omega)
    have ev_ := cg1 (fun (x_0 : Bool) => (.bool x_0 : Value)) e0
    exact ⟨ev_, H1.below⟩
  ·
    have p0 := of_decide_eq_true (notf b0)
    refine sk (nx (sq (sq (rg (k (mv rfl i0 (k (lnS rfl rfl un36 (k (mv (v := .int .i64 0) rfl rfl (z (nx (bk ?_)))))))))))))
    refine lp (fun m f w' => ∃ (j : Nat), m = a.length - j ∧ f 1 = .slice a_b b.length c_b ∧ f 2 = .func (.func g_p) #[] C_p.toArray ∧ f 15 = .slice a_a a.length c_a ∧ f 16 = .int .i64 (a.length : Int) ∧ f 17 = .int .i64 (j : Int) ∧  HI M w w' [imm (.slice a_b b.length c_b) b, imm (.slice a_a a.length c_a) a] ∧ (j ≤ a.length) ∧ (allTo p a b j = true)) _ ⟨0, rfl, i1, i2, rfl, rfl, (ieq rfl (by first | rfl | omega | simp)), H1, (by first | assumption | omega | simp | (simp; omega)), (by rfl)⟩ ?_
    rintro _ f0 w0 ⟨j, rfl, s0, s1, s2, s3, s4, H2, hk, hs⟩
    refine sq (rg (k (lss rfl rfl s4 s3 (z (nx (sq ?_))))))
    refine cd (b := decide ((j : Int) < (a.length : Int))) rfl rfl (fun b1 => ?_) (fun b1 => ?_)
    ·
      have p1 := of_decide_eq_true b1
      refine sk (nx (sq (bk (sq (rg (k (mv rfl s4 (k (ia (H2.rv 1 rfl) rfl rfl s2 s4 (by first | omega | (simp; omega)) un36 ty22 ?_)))))))))
      intro ad0 x0 hx0 hA0
      refine k (ldL hA0.w ty22 rfl rfl ?_)
      intro a0 c0 rv0
      have ln0 := rv_len rv0
      have H3 := H2.put (it := imm (.slice a0 x0.length c0) x0) rfl rv0
      refine k (asg (v := .int .i64 (j : Int)) rfl rfl (k (asg (v := .slice a0 x0.length c0) rfl rfl (z (nx (sq (rg (k (mv rfl s0 (k (mv (v := .int .i64 (j : Int)) rfl rfl (k (ia (H3.rv 1 rfl) rfl rfl rfl rfl (by first | omega | (simp; omega)) un36 ty22 ?_)))))))))))))
      intro ad1 x1 hx1 hA1
      refine k (ldL hA1.w ty22 rfl rfl ?_)
      intro a1 c1 rv1
      have ln1 := rv_len rv1
      have H4 := H3.put (it := imm (.slice a1 x1.length c1) x1) rfl rv1
      refine k (asg (v := .slice a1 x1.length c1) rfl rfl (z (nx (sq (rg (k (mv rfl s1 (k (mv (v := .slice a0 x0.length c0) rfl rfl (k (mv (v := .slice a1 x1.length c1) rfl rfl (k (cf h_p.1 rfl rfl rfl (ec rfl (ec rfl e0)) (h_p.2 _ _ _ _ _ (List.mem_of_getElem? hx0) (List.mem_of_getElem? hx1) H4.below ((H4.rv 1 rfl).lift H4.out) ((H4.rv 0 rfl).lift H4.out)) ?_)))))))))))))
      rintro _ w1 ⟨rfl, xt0⟩
      have H5 := H4.ext xt0
      refine k (not_ rfl rfl (z (nx ?_)))
      refine cd (b := !(p x0 x1)) rfl rfl (fun b2 => ?_) (fun b2 => ?_)
      ·
        refine sq (rg (k (asg (v := .bool false) rfl rfl (z (nx (rt (inb_ret (then_ret (loop_ret (inb_ret (then_ret (r1 rfl rfl ?_))))))))))))
        have e0 : (false : Bool) = allQ p a b := by first | exact allQ_len p0 | exact allQ_no hx0 hx1 (by simpa using b2) | exact allQ_no hx0 hx1 b2 | exact allQ_end (by omega) hs (by omega)
        have ev_ := cg1 (fun (x_0 : Bool) => (.bool x_0 : Value)) e0
        exact ⟨ev_, H5.below⟩
      ·
        refine sk (inb_normal (nx (rg (k (add rfl rfl s4 rfl (by unfold I64 at *; omega) (k (mv (v := .int .i64 ((j : Int) + 1)) rfl rfl (z ?_))))))))
        have H6 : HI M w w1 [imm (.slice a_b b.length c_b) b, imm (.slice a_a a.length c_a) a] := H5.pickN [2, 3] (by decide) rfl
        refine loopN _ ?_ ⟨(j + 1), rfl, s0, s1, s2, s3, (ieq rfl (by first | rfl | omega | (push_cast; omega))), H6, (by first | assumption | omega | simp | (simp; omega)), (by exact allTo_step hs hx0 hx1 (by simpa using b2))⟩
        omega
    ·
      have p1 := of_decide_eq_false b1
      refine ex (then_exit (loop_exit (inb_here (nx (sq (rg (k (asg (v := .bool true) rfl rfl (z (nx (rt (r1 rfl rfl ?_))))))))))))
      have e0 : (true : Bool) = allQ p a b := by first | exact allQ_len p0 | exact allQ_no hx0 hx1 (by simpa using b2) | exact allQ_no hx0 hx1 b2 | exact allQ_end (by omega) hs (by omega)
      have ev_ := cg1 (fun (x_0 : Bool) => (.bool x_0 : Value)) e0
      exact ⟨ev_, H2.below⟩
/- eyewitness/mat.Same -/
set_option maxRecDepth 100000 in
set_option maxHeartbeats 1600000 in
theorem mat_Same {M : Nat → Prop} {w : World} {an : Int} {a_ar : Option Addr} {c_ar : Nat} {ar : List (List (BitVec 64))} {bn : Int} {a_br : Option Addr} {c_br : Nat} {br : List (List (BitVec 64))} (hM : ∀ b, M b → b < w.heap.size) (h_an : I64 an) (h_ar : RV M w (.slice a_ar ar.length c_ar) ar) (h_bn : I64 bn) (h_br : RV M w (.slice a_br br.length c_br) br) : Calls Tryd.prog 60 #[.agg #[.int .i64 an, .slice a_ar ar.length c_ar], .agg #[.int .i64 bn, .slice a_br br.length c_br]] w (Ret fun v w' =>  v = .bool (sameM an ar bn br) ∧ Ext w w') := by
  refine enter 17 Tryd.func60 rfl rfl rfl fun f0 ha => ?_
  have H := HI.start (M0 := M) (w := w) hM
  have H0 := H.put (it := imm (.slice a_ar ar.length c_ar) ar) rfl (by rw [MS_nil]; exact h_ar)
  have H1 := H0.put (it := imm (.slice a_br br.length c_br) br) rfl (by rw [MS_cons_none rfl, MS_nil]; exact h_br)
  have ln_ar := rv_len h_ar
  have ln_br := rv_len h_br
  have i0 : f0 0 = .agg #[.int .i64 an, .slice a_ar ar.length c_ar] := ha 0 (by simp)
  have i1 : f0 1 = .agg #[.int .i64 bn, .slice a_br br.length c_br] := ha 1 (by simp)
  refine sq (rg (k (bx H1 rfl i0 ?_)))
  intro bb0 w0 xt0 (H2 : HI M w w0 [box bb0 #[.int .i64 an, .slice a_ar ar.length c_ar] 38, imm (.slice a_br br.length c_br) br, imm (.slice a_ar ar.length c_ar) ar])
  refine k (bx H2 rfl i1 ?_)
  intro bb1 w1 xt1 (H3 : HI M w w1 [box bb1 #[.int .i64 bn, .slice a_br br.length c_br] 38, box bb0 #[.int .i64 an, .slice a_ar ar.length c_ar] 38, imm (.slice a_br br.length c_br) br, imm (.slice a_ar ar.length c_ar) ar])
  refine k (asg (v := .bool false) rfl rfl (z (nx (sq (rg (k (fa fl38_0 rfl rfl (k (ldX H3 1 rfl ty3 rfl rfl (by decide) rfl (k (fa fl38_0 rfl rfl (k (ldX H3 0 rfl ty3 rfl rfl (by decide) rfl (k (eql rfl rfl rfl rfl (k (mv (v := .bool (decide (an = bn))) rfl rfl ?_)))))))))))))))))
  rcases Bool.eq_false_or_eq_true (decide (an = bn)) with b0 | b0
  · -- decide (an = bn) is True
    have p0 := of_decide_eq_true b0
    refine k (gy rfl rfl rfl b0 (fa fl38_1 rfl rfl (k (gy rfl rfl rfl b0 (ldX H3 1 rfl ty36 rfl rfl (by decide) rfl (k (gy rfl rfl rfl b0 (fa fl38_1 rfl rfl (k (gy rfl rfl rfl b0 (ldX H3 0 rfl ty36 rfl rfl (by decide) rfl (k (gy rfl rfl rfl b0 ?_)))))))))))))
    have cc0 := equalFunc_row (a := ar) (b := br) (p := (fun (x_ : List (BitVec 64)) (y_ : List (BitVec 64)) => decide (x_ = y_))) (w := w1) H3.mb (H3.rv 3 rfl) (H3.rv 2 rfl) ⟨go32, fun w_ v_ x_ u_ y_ hx_ hy_ e_ hv_ hu_ => by obtain ⟨_, ⟨v2_, rfl, r_⟩, rfl⟩ := hv_; obtain ⟨_, ⟨u2_, rfl, q_⟩, rfl⟩ := hu_; obtain ⟨a_, c_, rfl, r2_⟩ := RS.explicit r_; obtain ⟨d_, f_, rfl, q2_⟩ := RS.explicit q_; exact row_Same (M := fun _ => False) (fun _ h_ => h_.elim) (r2_.lift (Up.less fun _ _ h_ => h_.elim)) (q2_.lift (Up.less fun _ _ h_ => h_.elim))⟩
    refine ca go85 rfl (ec rfl (ec rfl (ec rfl e0))) cc0 ?_
    rintro _ w2 ⟨rfl, xt2⟩
    have H4 := H3.ext xt2
    refine k (pickT rfl rfl rfl rfl b0 rfl (k (asg (v := .bool (allQ (fun (x_ : List (BitVec 64)) (y_ : List (BitVec 64)) => decide (x_ = y_)) ar br)) rfl rfl (z (nx (rt (r1 rfl rfl ?_)))))))
    have e0 : (allQ (fun (x_ : List (BitVec 64)) (y_ : List (BitVec 64)) => decide (x_ = y_)) ar br : Bool) = sameM an ar bn br := by first | (unfold sameM; rw [allQ_eq, b0]; rfl) | (unfold sameM; rw [b0]; rfl)
    have ev_ := cg1 (fun (x_0 : Bool) => (.bool x_0 : Value)) e0
    exact ⟨ev_, H4.below⟩
  · -- decide (an = bn) is False
    have p0 := of_decide_eq_false b0
    refine k (gn rfl rfl rfl b0 (k (gn rfl rfl rfl b0 (k (gn rfl rfl rfl b0 (k (gn rfl rfl rfl b0 (k (gn rfl rfl rfl b0 (k (pickF rfl rfl rfl rfl b0 rfl (k (asg (v := .bool false) rfl rfl (z (nx (rt (r1 rfl rfl ?_)))))))))))))))))
    have e0 : (false : Bool) = sameM an ar bn br := by first | (unfold sameM; rw [allQ_eq, b0]; rfl) | (unfold sameM; rw [b0]; rfl)
    have ev_ := cg1 (fun (x_0 : Bool) => (.bool x_0 : Value)) e0
    exact ⟨ev_, H3.below⟩
/- eyewitness/mat.Pairs -/
set_option maxRecDepth 100000 in
set_option maxHeartbeats 1600000 in
theorem mat_Pairs {M : Nat → Prop} {w : World} {mn : Int} {a_mr : Option Addr} {c_mr : Nat} {mr : List (List (BitVec 64))} (hM : ∀ b, M b → b < w.heap.size) (hT : TabAt 0 w) (h_mn : I64 mn) (h_mr : RV M w (.slice a_mr mr.length c_mr) mr) (hsq_m : ((mr.length : Nat) : Int) = mn) (hrw_m : ∀ x ∈ mr, x.length ≤ 1000000000) (hl4_m : mn ≤ 4096) (hrs_m : ∀ x ∈ mr, x.length ≤ 64) : Calls Tryd.prog 37 #[.agg #[.int .i64 mn, .slice a_mr mr.length c_mr]] w (Ret fun v w' => ∃ (a0 : Option Addr) (c0 : Nat), v = .slice a0 (pairsM mn mr).length c0 ∧ Ext w w' ∧ RV M w' (.slice a0 (pairsM mn mr).length c0) (pairsM mn mr)) := by
  refine enter 32 Tryd.func37 rfl rfl rfl fun f0 ha => ?_
  have H := HI.start (M0 := M) (w := w) hM
  have H0 := H.put (it := imm (.slice a_mr mr.length c_mr) mr) rfl (by rw [MS_nil]; exact h_mr)
  have ln_mr := rv_len h_mr
  have i0 : f0 0 = .agg #[.int .i64 mn, .slice a_mr mr.length c_mr] := ha 0 (by simp)
  refine sq (rg (k (bx H0 rfl i0 ?_)))
  intro bb0 w0 xt0 (H1 : HI M w w0 [box bb0 #[.int .i64 mn, .slice a_mr mr.length c_mr] 38, imm (.slice a_mr mr.length c_mr) mr])
  refine k (asg (v := .slice none 0 0) rfl rfl (z (nx (sq (rg (k (asg (v := .slice none 0 0) rfl rfl (z (nx (sq (sq (rg (k (fa fl38_1 rfl rfl (k (ldX H1 0 rfl ty36 rfl rfl (by decide) rfl (k (lnS rfl rfl un36 (k (mv (v := .int .i64 0) rfl rfl (z (nx (bk ?_)))))))))))))))))))))))
  have H2 := H1.nil_ (Int × Int) 72
  refine lp (fun m f w' => ∃ (i : Nat) (xs : List (Int × Int)) (a0 : Option Addr) (c0 : Nat), m = mr.length - i ∧ f 3 = .slice a0 xs.length c0 ∧ f 9 = .slice a_mr mr.length c_mr ∧ f 10 = .int .i64 (mr.length : Int) ∧ f 11 = .int .i64 (i : Int) ∧  HI M w w' [own w.heap.size 72 (.slice a0 xs.length c0) xs, box bb0 #[.int .i64 mn, .slice a_mr mr.length c_mr] 38, imm (.slice a_mr mr.length c_mr) mr] ∧ (i ≤ mr.length) ∧ (xs = pairsTo mr i)) _ ⟨0, ([] : List (Int × Int)), none, 0, rfl, rfl, rfl, rfl, (ieq rfl (by first | rfl | omega | simp)), H2, (by first | assumption | omega | simp | (simp; omega)), (by rfl)⟩ ?_
  rintro _ f0 w1 ⟨i, xs, a0, c0, rfl, s0, s1, s2, s3, H3, hi_, hs⟩
  refine sq (rg (k (lss rfl rfl s3 s2 (z (nx (sq ?_))))))
  refine cd (b := decide ((i : Int) < (mr.length : Int))) rfl rfl (fun b0 => ?_) (fun b0 => ?_)
  ·
    have p0 := of_decide_eq_true b0
    refine sk (nx (sq (bk (sq (rg (k (mv rfl s3 (k (ia (H3.rv 2 rfl) rfl rfl s1 s3 (by first | omega | (simp; omega)) un36 ty22 ?_)))))))))
    intro ad0 x0 hx0 hA0
    refine k (ldL hA0.w ty22 rfl rfl ?_)
    intro a1 c1 rv0
    have ln0 := rv_len rv0
    have H4 := H3.put (it := imm (.slice a1 x0.length c1) x0) rfl rv0
    refine k (asg (v := .int .i64 (i : Int)) rfl rfl (k (asg (v := .slice a1 x0.length c1) rfl rfl (z (nx (sq (rg (k (mv (v := .slice a1 x0.length c1) rfl rfl (k ?_))))))))))
    have cc0 := row_List (r := x0) (w := w1) H4.mb (hT.ext H4.below) (H4.rv 0 rfl) (by have h_ := hrs_m _ (List.mem_of_getElem? hx0); omega)
    refine ca go14 rfl (ec rfl e0) cc0 ?_
    rintro _ w2 ⟨a2, c2, rfl, xt1, rv1⟩
    have H5 := H4.ownsG rv1
    refine k (lnS rfl rfl un24 (k (mv (v := .int .i64 0) rfl rfl (z (nx (bk ?_))))))
    refine lp (fun m f w' => ∃ (q : Nat) (xs2 : List (Int × Int)) (a3 : Option Addr) (c3 : Nat), m = (listR x0).length - q ∧ f 3 = .slice a3 xs2.length c3 ∧ f 4 = .int .i64 (i : Int) ∧ f 9 = .slice a_mr mr.length c_mr ∧ f 10 = .int .i64 (mr.length : Int) ∧ f 11 = .int .i64 (i : Int) ∧ f 17 = .slice a2 (listR x0).length c2 ∧ f 18 = .int .i64 ((listR x0).length : Int) ∧ f 19 = .int .i64 (q : Int) ∧  HI M w w' [own w.heap.size 3 (.slice a2 (listR x0).length c2) (listR x0), imm (.slice a1 x0.length c1) x0, own w.heap.size 72 (.slice a3 xs2.length c3) xs2, box bb0 #[.int .i64 mn, .slice a_mr mr.length c_mr] 38, imm (.slice a_mr mr.length c_mr) mr] ∧ (q ≤ (listR x0).length) ∧ (xs2 = pairsTo mr i ++ ((listR x0).take q).map fun j => (((i : Nat) : Int), j))) _ ⟨0, xs, a0, c0, rfl, s0, rfl, s1, s2, s3, rfl, rfl, (ieq rfl (by first | rfl | omega | simp)), H5, (by first | assumption | omega | simp | (simp; omega)), (by rw [hs]; simp)⟩ ?_
    rintro _ f1 w3 ⟨q, xs2, a3, c3, rfl, s4, s5, s6, s7, s8, s9, s10, s11, H6, hq_, hs2⟩
    refine sq (rg (k (lss rfl rfl s11 s10 (z (nx (sq ?_))))))
    refine cd (b := decide ((q : Int) < ((listR x0).length : Int))) rfl rfl (fun b1 => ?_) (fun b1 => ?_)
    ·
      have p1 := of_decide_eq_true b1
      refine sk (nx (sq (bk (sq (rg (k (iaO (H6.at_ 0 rfl) rfl rfl s9 s11 (by first | omega | (simp; omega)) un24 ty3 ?_)))))))
      intro g0 x1 hv0 hx1 hA1
      refine k (ldI hA1 ty3 rfl rfl ?_)
      intro rv2
      refine k (asg (v := .int .i64 x1) rfl rfl (z (nx (rg (k (mv rfl s4 (k (mv rfl s5 (k (mv (v := .int .i64 x1) rfl rfl (k (bd (v := .agg #[.int .i64 (i : Int), .int .i64 x1]) rfl (pbc rfl (pbc rfl pb0)) (fun _ => by kernel_rfl) (k (bs (xs := ([((i : Int), x1)] : List (Int × Int))) (cells := #[.int .i64 (i : Int), .int .i64 x1]) (e := 72) H6 rfl (pbc rfl pb0) (fun _ => by kernel_rfl) ⟨[.int .i64 (i : Int), .int .i64 x1], [], rfl, ⟨_, _, rfl, ⟨rfl, (show I64 ((i : Int)) from (by unfold I64 at *; omega))⟩, ⟨rfl, (show I64 (x1) from (by unfold I64 at *; omega))⟩⟩, rfl⟩ rfl (by unfold maxLen; omega) ?_))))))))))))))
      intro g1 w4 xt2 (H7 : HI M w w4 [own w.heap.size 72 (.slice (some ⟨g1, 0, none⟩) 1 1) ([((i : Int), x1)] : List (Int × Int)), own w.heap.size 3 (.slice a2 (listR x0).length c2) (listR x0), imm (.slice a1 x0.length c1) x0, own w.heap.size 72 (.slice a3 xs2.length c3) xs2, box bb0 #[.int .i64 mn, .slice a_mr mr.length c_mr] 38, imm (.slice a_mr mr.length c_mr) mr])
      refine k (ap H7 3 rfl rfl rfl rfl rfl rfl (own_src (H7.at_ 0 rfl)) un44 ty72 rfl (by have h1_ := pairsTo_len hrs_m i; have h2_ := listR_length x0; have h3_ := hrs_m _ (List.mem_of_getElem? hx0); rw [hs2, List.length_append, List.length_map, List.length_take]; simp only [List.length_cons, List.length_nil]; omega) (by have h1_ := pairsTo_len hrs_m i; have h2_ := listR_length x0; have h3_ := hrs_m _ (List.mem_of_getElem? hx0); rw [hs2, List.length_append, List.length_map, List.length_take]; simp only [List.length_cons, List.length_nil]; omega) ?_)
      intro a4 c4 w5 (H8 : HI M w w5 [own w.heap.size 72 (.slice (some ⟨g1, 0, none⟩) 1 1) ([((i : Int), x1)] : List (Int × Int)), own w.heap.size 3 (.slice a2 (listR x0).length c2) (listR x0), imm (.slice a1 x0.length c1) x0, own w.heap.size 72 (.slice a4 (xs2 ++ ([((i : Int), x1)] : List (Int × Int))).length c4) (xs2 ++ ([((i : Int), x1)] : List (Int × Int))), box bb0 #[.int .i64 mn, .slice a_mr mr.length c_mr] 38, imm (.slice a_mr mr.length c_mr) mr])
      refine k (asg (v := .slice a4 (xs2 ++ ([((i : Int), x1)] : List (Int × Int))).length c4) rfl rfl (z (inb_normal (nx (rg (k (add rfl rfl s11 rfl (by have h2_ := listR_length x0; have h3_ := hrs_m _ (List.mem_of_getElem? hx0); unfold I64; omega) (k (mv (v := .int .i64 ((q : Int) + 1)) rfl rfl (z ?_))))))))))
      have H9 : HI M w w5 [own w.heap.size 3 (.slice a2 (listR x0).length c2) (listR x0), imm (.slice a1 x0.length c1) x0, own w.heap.size 72 (.slice a4 (xs2 ++ ([((i : Int), x1)] : List (Int × Int))).length c4) (xs2 ++ ([((i : Int), x1)] : List (Int × Int))), box bb0 #[.int .i64 mn, .slice a_mr mr.length c_mr] 38, imm (.slice a_mr mr.length c_mr) mr] := H8.pickN [1, 2, 3, 4, 5] (by decide) rfl
      refine loopN _ ?_ ⟨(q + 1), (xs2 ++ ([((i : Int), x1)] : List (Int × Int))), a4, c4, rfl, rfl, s5, s6, s7, s8, s9, s10, (ieq rfl (by first | rfl | omega | (push_cast; omega))), H9, (by first | assumption | omega | simp | (simp; omega)), (by rw [hs2]; exact pair_step hx1)⟩
      omega
    ·
      have p1 := of_decide_eq_false b1
      refine ex (then_exit (loop_exit (inb_here (inb_normal (nx (rg (k (add rfl rfl s8 rfl (by unfold I64 at *; omega) (k (mv (v := .int .i64 ((i : Int) + 1)) rfl rfl (z ?_)))))))))))
      have H7 : HI M w w3 [own w.heap.size 72 (.slice a3 xs2.length c3) xs2, box bb0 #[.int .i64 mn, .slice a_mr mr.length c_mr] 38, imm (.slice a_mr mr.length c_mr) mr] := H6.pickN [2, 3, 4] (by decide) rfl
      refine loopN _ ?_ ⟨(i + 1), xs2, a3, c3, rfl, s4, s6, s7, (ieq rfl (by first | rfl | omega | (push_cast; omega))), H7, (by first | assumption | omega | simp | (simp; omega)), (by rw [hs2]; exact pair_row hx0 (by omega))⟩
      omega
  ·
    have p0 := of_decide_eq_false b0
    refine ex (then_exit (loop_exit (inb_here (nx (sq (rg (k (mv rfl s0 (k (asg (v := .slice a0 xs.length c0) rfl rfl (z (nx (rt (r1 rfl rfl ?_))))))))))))))
    have e0 : (xs : List (Int × Int)) = pairsM mn mr := by rw [hs]; exact pairs_end (by omega) (by omega)
    have ev_ := cg1 (fun (x_0 : List (Int × Int)) => (.slice a0 x_0.length c0 : Value)) e0
    exact ⟨a0, c0, ev_, H3.below, (congrArg (fun (x_ : List (Int × Int)) => RV _ _ (.slice a0 x_.length c0) x_) e0).mp (H3.outO 0 rfl)⟩
/- eyewitness/mat.Or -/
set_option maxRecDepth 100000 in
set_option maxHeartbeats 1600000 in
theorem mat_Or {M : Nat → Prop} {w : World} {an : Int} {a_ar : Option Addr} {c_ar : Nat} {ar : List (List (BitVec 64))} {bn : Int} {a_br : Option Addr} {c_br : Nat} {br : List (List (BitVec 64))} (hM : ∀ b, M b → b < w.heap.size) (h_an : I64 an) (h_ar : RV M w (.slice a_ar ar.length c_ar) ar) (h_bn : I64 bn) (h_br : RV M w (.slice a_br br.length c_br) br) (hsq_a : ((ar.length : Nat) : Int) = an) (hrw_a : ∀ x ∈ ar, x.length ≤ 1000000000) (hl4_a : an ≤ 4096) (hsq_b : ((br.length : Nat) : Int) = bn) (hrw_b : ∀ x ∈ br, x.length ≤ 1000000000) (hl4_b : bn ≤ 4096) : Calls Tryd.prog 58 #[.agg #[.int .i64 an, .slice a_ar ar.length c_ar], .agg #[.int .i64 bn, .slice a_br br.length c_br]] w (Ret fun v w' => ∃ (a0 : Option Addr) (c0 : Nat), v = .tuple #[.agg #[.int .i64 (orMN an bn), .slice a0 (orMR an ar bn br).length c0], .int .i64 (orME an bn)] ∧ Ext w w' ∧ OwnsG M 22 w (orMR an ar bn br) (.slice a0 (orMR an ar bn br).length c0) w') := by
  refine enter 41 Tryd.func58 rfl rfl rfl fun f0 ha => ?_
  have H := HI.start (M0 := M) (w := w) hM
  have H0 := H.put (it := imm (.slice a_ar ar.length c_ar) ar) rfl (by rw [MS_nil]; exact h_ar)
  have H1 := H0.put (it := imm (.slice a_br br.length c_br) br) rfl (by rw [MS_cons_none rfl, MS_nil]; exact h_br)
  have ln_ar := rv_len h_ar
  have ln_br := rv_len h_br
  have i0 : f0 0 = .agg #[.int .i64 an, .slice a_ar ar.length c_ar] := ha 0 (by simp)
  have i1 : f0 1 = .agg #[.int .i64 bn, .slice a_br br.length c_br] := ha 1 (by simp)
  refine sq (rg (k (bx H1 rfl i0 ?_)))
  intro bb0 w0 xt0 (H2 : HI M w w0 [box bb0 #[.int .i64 an, .slice a_ar ar.length c_ar] 38, imm (.slice a_br br.length c_br) br, imm (.slice a_ar ar.length c_ar) ar])
  refine k (bx H2 rfl i1 ?_)
  intro bb1 w1 xt1 (H3 : HI M w w1 [box bb1 #[.int .i64 bn, .slice a_br br.length c_br] 38, box bb0 #[.int .i64 an, .slice a_ar ar.length c_ar] 38, imm (.slice a_br br.length c_br) br, imm (.slice a_ar ar.length c_ar) ar])
  refine k (al H3 ty38 ?_)
  intro bb2 w2 xt2 (H4 : HI M w w2 [box bb2 #[.int .i64 0, .slice none 0 0] 38, box bb1 #[.int .i64 bn, .slice a_br br.length c_br] 38, box bb0 #[.int .i64 an, .slice a_ar ar.length c_ar] 38, imm (.slice a_br br.length c_br) br, imm (.slice a_ar ar.length c_ar) ar])
  refine k (asg (v := .int .i64 0) rfl rfl (z (nx (sq (sq (rg (k (fa fl38_0 rfl rfl (k (ldX H4 2 rfl ty3 rfl rfl (by decide) rfl (k (fa fl38_0 rfl rfl (k (ldX H4 1 rfl ty3 rfl rfl (by decide) rfl (k (neq rfl rfl rfl rfl (z (nx ?_))))))))))))))))))
  refine cd (b := !decide (an = bn)) rfl rfl (fun b0 => ?_) (fun b0 => ?_)
  ·
    have p0 := of_decide_eq_false (nott b0)
    refine sq (rg (k (bd (v := .agg #[.int .i64 0, .slice none 0 0]) rfl pb0 (fun _ => by kernel_rfl) (k (stX H4 0 rfl ty38 rfl rfl rfl rfl rfl rfl rfl ?_)))))
    intro w3 (H5 : HI M w w3 [box bb2 #[.int .i64 0, .slice none 0 0] 38, box bb1 #[.int .i64 bn, .slice a_br br.length c_br] 38, box bb0 #[.int .i64 an, .slice a_ar ar.length c_ar] 38, imm (.slice a_br br.length c_br) br, imm (.slice a_ar ar.length c_ar) ar])
    refine k (asg (v := .int .i64 1) rfl rfl (z (nx (rt (then_ret (rc2 H5 0 rfl ty38 rfl rfl rfl rfl rfl (by decide) ?_))))))
    have e0 : (0 : Int) = orMN an bn := by first | exact (orM_no (ar := ar) (br := br) p0).1.symm | exact (orM_yes (ar := ar) (br := br) p0).1.symm
    have e1 : ([] : List (List (BitVec 64))) = orMR an ar bn br := by first | exact (orM_no p0).2.1.symm | (rw [(orM_yes p0).2.1, hs]; exact orFill_end (by omega) hk)
    have e2 : (1 : Int) = orME an bn := by first | exact (orM_no (ar := ar) (br := br) p0).2.2.symm | exact (orM_yes (ar := ar) (br := br) p0).2.2.symm
    have ev_ := cg3 (fun (x_0 : Int) (x_1 : List (List (BitVec 64))) (x_2 : Int) => (.tuple #[.agg #[.int .i64 x_0, .slice none x_1.length 0], .int .i64 x_2] : Value)) e0 e1 e2
    exact ⟨none, 0, ev_, H5.below, (congrArg (fun (x_ : List (List (BitVec 64))) => OwnsG _ _ _ x_ (.slice none x_.length 0) _) e1).mp (ownsG_nil H5.below)⟩
  ·
    have p0 := of_decide_eq_true (notf b0)
    refine sk (nx (sq (rg (k (fa fl38_0 rfl rfl (k (ldX H4 2 rfl ty3 rfl rfl (by decide) rfl (k ?_))))))))
    have n0 : ((an.toNat : Nat) : Int) = an := Int.toNat_of_nonneg (by omega)
    refine mk (m := an.toNat) (zx := ([] : (List (BitVec 64)))) H4 rfl rfl (by rw [n0]; exact rfl) (by rw [n0]; exact rfl) un36 ty22 (fun _ _ => ⟨_, rfl, rs_nil _ _⟩) (by omega) (by omega) ?_
    intro g0 w3 xt3 (H5 : HI M w w3 [own w.heap.size 22 (.slice (some ⟨g0, 0, none⟩) an.toNat an.toNat) (List.replicate an.toNat ([] : (List (BitVec 64)))), box bb2 #[.int .i64 0, .slice none 0 0] 38, box bb1 #[.int .i64 bn, .slice a_br br.length c_br] 38, box bb0 #[.int .i64 an, .slice a_ar ar.length c_ar] 38, imm (.slice a_br br.length c_br) br, imm (.slice a_ar ar.length c_ar) ar])
    refine k (asg (v := .slice (some ⟨g0, 0, none⟩) an.toNat an.toNat) rfl rfl (z (nx (sq (sq (rg (k (mv (v := .slice (some ⟨g0, 0, none⟩) an.toNat an.toNat) rfl rfl (k (lnS rfl rfl un36 (k (mv (v := .int .i64 0) rfl rfl (z (nx (bk ?_)))))))))))))))
    refine lp (fun m f w' => ∃ (j : Nat) (xs : List (List (BitVec 64))), m = an.toNat - j ∧ f 2 = .pointer (some ⟨bb0, 0, none⟩) ∧ f 3 = .pointer (some ⟨bb1, 0, none⟩) ∧ f 4 = .pointer (some ⟨bb2, 0, none⟩) ∧ f 6 = .slice (some ⟨g0, 0, none⟩) an.toNat an.toNat ∧ f 18 = .int .i64 (an.toNat : Int) ∧ f 19 = .int .i64 (j : Int) ∧  HI M w w' [own w.heap.size 22 (.slice (some ⟨g0, 0, none⟩) an.toNat an.toNat) xs, box bb2 #[.int .i64 0, .slice none 0 0] 38, box bb1 #[.int .i64 bn, .slice a_br br.length c_br] 38, box bb0 #[.int .i64 an, .slice a_ar ar.length c_ar] 38, imm (.slice a_br br.length c_br) br, imm (.slice a_ar ar.length c_ar) ar] ∧ (j ≤ an.toNat) ∧ (xs.length = an.toNat) ∧ (xs = orFill ar br an.toNat j)) _ ⟨0, (List.replicate an.toNat ([] : (List (BitVec 64)))), rfl, rfl, rfl, rfl, rfl, rfl, (ieq rfl (by first | rfl | omega | simp)), H5, (by first | assumption | omega | simp | (simp; omega)), (by simp), (by exact orFill_zero _ _ _)⟩ ?_
    rintro _ f0 w4 ⟨j, xs, rfl, s0, s1, s2, s3, s4, s5, H6, hk, hl, hs⟩
    refine sq (rg (k (lss rfl rfl s5 s4 (z (nx (sq ?_))))))
    refine cd (b := decide ((j : Int) < (an.toNat : Int))) rfl rfl (fun b1 => ?_) (fun b1 => ?_)
    ·
      have p1 := of_decide_eq_true b1
      refine sk (nx (sq (bk (sq (rg (k (mv rfl s5 (k (asg (v := .int .i64 (j : Int)) rfl rfl (z (nx ?_)))))))))))
      obtain ⟨x0, hx0⟩ : ∃ x, ar[(j : Int).toNat]? = some x := ⟨_, List.getElem?_eq_getElem (by first | omega | (simp; omega))⟩
      obtain ⟨x1, hx1⟩ : ∃ x, br[(j : Int).toNat]? = some x := ⟨_, List.getElem?_eq_getElem (by first | omega | (simp; omega))⟩
      refine dr 13 [fun (v : Value) (w' : World) => v = .slice (some ⟨g0, 0, none⟩) an.toNat an.toNat, fun (v : Value) (w' : World) => v = .int .i64 (j : Int), fun (v : Value) (w' : World) => v = .pointer (some ⟨bb0, 1, none⟩), fun (v : Value) (w' : World) => v = .slice a_ar ar.length c_ar, fun (v : Value) (w' : World) => v = .int .i64 (j : Int), fun (v : Value) (w' : World) => ∃ (ad0 : Addr), v = .pointer (some ad0) ∧ At (MS M [own w.heap.size 22 (.slice (some ⟨g0, 0, none⟩) an.toNat an.toNat) xs, box bb2 #[.int .i64 0, .slice none 0 0] 38, box bb1 #[.int .i64 bn, .slice a_br br.length c_br] 38, box bb0 #[.int .i64 an, .slice a_ar ar.length c_ar] 38, imm (.slice a_br br.length c_br) br, imm (.slice a_ar ar.length c_ar) ar]) w' ad0 x0, fun (v : Value) (w' : World) => ∃ (a0 : Option Addr) (c0 : Nat), v = .slice a0 x0.length c0 ∧ RV (MS M [own w.heap.size 22 (.slice (some ⟨g0, 0, none⟩) an.toNat an.toNat) xs, box bb2 #[.int .i64 0, .slice none 0 0] 38, box bb1 #[.int .i64 bn, .slice a_br br.length c_br] 38, box bb0 #[.int .i64 an, .slice a_ar ar.length c_ar] 38, imm (.slice a_br br.length c_br) br, imm (.slice a_ar ar.length c_ar) ar]) w' (.slice a0 x0.length c0) x0, fun (v : Value) (w' : World) => v = .pointer (some ⟨bb1, 1, none⟩), fun (v : Value) (w' : World) => v = .slice a_br br.length c_br, fun (v : Value) (w' : World) => v = .int .i64 (j : Int), fun (v : Value) (w' : World) => ∃ (ad1 : Addr), v = .pointer (some ad1) ∧ At (MS M [own w.heap.size 22 (.slice (some ⟨g0, 0, none⟩) an.toNat an.toNat) xs, box bb2 #[.int .i64 0, .slice none 0 0] 38, box bb1 #[.int .i64 bn, .slice a_br br.length c_br] 38, box bb0 #[.int .i64 an, .slice a_ar ar.length c_ar] 38, imm (.slice a_br br.length c_br) br, imm (.slice a_ar ar.length c_ar) ar]) w' ad1 x1, fun (v : Value) (w' : World) => ∃ (a1 : Option Addr) (c1 : Nat), v = .slice a1 x1.length c1 ∧ RV (MS M [own w.heap.size 22 (.slice (some ⟨g0, 0, none⟩) an.toNat an.toNat) xs, box bb2 #[.int .i64 0, .slice none 0 0] 38, box bb1 #[.int .i64 bn, .slice a_br br.length c_br] 38, box bb0 #[.int .i64 an, .slice a_ar ar.length c_ar] 38, imm (.slice a_br br.length c_br) br, imm (.slice a_ar ar.length c_ar) ar]) w' (.slice a1 x1.length c1) x1, fun (v : Value) (w' : World) => ∃ (a2 : Option Addr) (c2 : Nat), v = .slice a2 (orR x0 x1).length c2 ∧ RV (MS M [own w.heap.size 22 (.slice (some ⟨g0, 0, none⟩) an.toNat an.toNat) xs, box bb2 #[.int .i64 0, .slice none 0 0] 38, box bb1 #[.int .i64 bn, .slice a_br br.length c_br] 38, box bb0 #[.int .i64 an, .slice a_ar ar.length c_ar] 38, imm (.slice a_br br.length c_br) br, imm (.slice a_ar ar.length c_ar) ar]) w' (.slice a2 (orR x0 x1).length c2) (orR x0 x1)] rfl (by kernel_rfl) ?_ ?_
      ·
        refine ⟨fun _ => ⟨fun f1 w6 hf0 xt5 hp0 => ?_, fun _ _ _ _ h => h⟩, ?_⟩
        ·
          have H11 := H6.ext xt5
          refine mv rfl ((hf0 6 rfl).trans s3) ?_
          exact ⟨_, rfl, Ext.refl _, rfl⟩
        refine ⟨fun _ => ⟨fun f2 w7 hf1 xt6 hp1 => ?_, fun _ _ _ _ h => h⟩, ?_⟩
        ·
          have H12 := H6.ext xt6
          refine mv rfl (hf1 7 rfl) ?_
          exact ⟨_, rfl, Ext.refl _, rfl⟩
        refine ⟨fun _ => ⟨fun f3 w8 hf2 xt7 hp2 => ?_, fun _ _ _ _ h => h⟩, ?_⟩
        ·
          have H13 := H6.ext xt7
          refine fa fl38_1 rfl ((hf2 2 rfl).trans s0) ?_
          exact ⟨_, rfl, Ext.refl _, rfl⟩
        refine ⟨fun _ => ⟨fun f4 w9 hf3 xt8 hp3 => ?_, fun _ _ _ _ h => h⟩, ?_⟩
        ·
          have H14 := H6.ext xt8
          have s6 : f4 24 = .pointer (some ⟨bb0, 1, none⟩) := hp3 2 rfl rfl
          refine ldX H14 3 rfl ty36 rfl s6 (by decide) rfl ?_
          exact ⟨_, rfl, Ext.refl _, rfl⟩
        refine ⟨fun _ => ⟨fun f5 w10 hf4 xt9 hp4 => ?_, fun _ _ _ _ h => h⟩, ?_⟩
        ·
          have H15 := H6.ext xt9
          refine mv rfl (hf4 7 rfl) ?_
          exact ⟨_, rfl, Ext.refl _, rfl⟩
        refine ⟨fun _ => ⟨fun f6 w11 hf5 xt10 hp5 => ?_, by rintro _ _ _ x_ ⟨ad0, e_, hA0⟩; exact ⟨ad0, e_, hA0.lift (Up.ext x_)⟩⟩, ?_⟩
        ·
          have H16 := H6.ext xt10
          have s7 : f6 25 = .slice a_ar ar.length c_ar := hp5 3 rfl rfl
          have s8 : f6 26 = .int .i64 (j : Int) := hp5 4 rfl rfl
          refine ia (H16.rv 5 rfl) rfl rfl s7 s8 (by first | omega | (simp; omega)) un36 ty22 ?_
          intro ad2 x2 hx2 hA2
          obtain rfl : x0 = x2 := Option.some.inj (hx0.symm.trans hx2)
          exact ⟨_, rfl, Ext.refl _, ⟨ad2, rfl, hA2⟩⟩
        refine ⟨fun _ => ⟨fun f7 w12 hf6 xt11 hp6 => ?_, by rintro _ _ _ x_ ⟨a0, c0, e_, rv0⟩; exact ⟨a0, c0, e_, rv0.lift (Up.ext x_)⟩⟩, ?_⟩
        ·
          have H17 := H6.ext xt11
          obtain ⟨ad3, s9, hA3⟩ : ∃ (ad3 : Addr), f7 27 = .pointer (some ad3) ∧ At (MS M [own w.heap.size 22 (.slice (some ⟨g0, 0, none⟩) an.toNat an.toNat) xs, box bb2 #[.int .i64 0, .slice none 0 0] 38, box bb1 #[.int .i64 bn, .slice a_br br.length c_br] 38, box bb0 #[.int .i64 an, .slice a_ar ar.length c_ar] 38, imm (.slice a_br br.length c_br) br, imm (.slice a_ar ar.length c_ar) ar]) w12 ad3 x0 := hp6 5 rfl rfl
          have H18 := H17.put (it := atI ad3 x0) rfl hA3
          refine ldL (H18.atv 0 rfl).w ty22 rfl s9 ?_
          intro a3 c3 rv4
          have ln2 := rv_len rv4
          have H19 := H18.put (it := imm (.slice a3 x0.length c3) x0) rfl rv4
          exact ⟨_, rfl, Ext.refl _, ⟨a3, c3, rfl, (rv_drop rfl rv4)⟩⟩
        refine ⟨fun _ => ⟨fun f8 w13 hf7 xt12 hp7 => ?_, fun _ _ _ _ h => h⟩, ?_⟩
        ·
          have H20 := H6.ext xt12
          refine fa fl38_1 rfl ((hf7 3 rfl).trans s1) ?_
          exact ⟨_, rfl, Ext.refl _, rfl⟩
        refine ⟨fun _ => ⟨fun f9 w14 hf8 xt13 hp8 => ?_, fun _ _ _ _ h => h⟩, ?_⟩
        ·
          have H21 := H6.ext xt13
          have s10 : f9 29 = .pointer (some ⟨bb1, 1, none⟩) := hp8 7 rfl rfl
          refine ldX H21 2 rfl ty36 rfl s10 (by decide) rfl ?_
          exact ⟨_, rfl, Ext.refl _, rfl⟩
        refine ⟨fun _ => ⟨fun f10 w15 hf9 xt14 hp9 => ?_, fun _ _ _ _ h => h⟩, ?_⟩
        ·
          have H22 := H6.ext xt14
          refine mv rfl (hf9 7 rfl) ?_
          exact ⟨_, rfl, Ext.refl _, rfl⟩
        refine ⟨fun _ => ⟨fun f11 w16 hf10 xt15 hp10 => ?_, by rintro _ _ _ x_ ⟨ad1, e_, hA1⟩; exact ⟨ad1, e_, hA1.lift (Up.ext x_)⟩⟩, ?_⟩
        ·
          have H23 := H6.ext xt15
          have s11 : f11 30 = .slice a_br br.length c_br := hp10 8 rfl rfl
          have s12 : f11 31 = .int .i64 (j : Int) := hp10 9 rfl rfl
          refine ia (H23.rv 4 rfl) rfl rfl s11 s12 (by first | omega | (simp; omega)) un36 ty22 ?_
          intro ad4 x3 hx3 hA4
          obtain rfl : x1 = x3 := Option.some.inj (hx1.symm.trans hx3)
          exact ⟨_, rfl, Ext.refl _, ⟨ad4, rfl, hA4⟩⟩
        refine ⟨fun _ => ⟨fun f12 w17 hf11 xt16 hp11 => ?_, by rintro _ _ _ x_ ⟨a1, c1, e_, rv1⟩; exact ⟨a1, c1, e_, rv1.lift (Up.ext x_)⟩⟩, ?_⟩
        ·
          have H24 := H6.ext xt16
          obtain ⟨ad5, s13, hA5⟩ : ∃ (ad5 : Addr), f12 32 = .pointer (some ad5) ∧ At (MS M [own w.heap.size 22 (.slice (some ⟨g0, 0, none⟩) an.toNat an.toNat) xs, box bb2 #[.int .i64 0, .slice none 0 0] 38, box bb1 #[.int .i64 bn, .slice a_br br.length c_br] 38, box bb0 #[.int .i64 an, .slice a_ar ar.length c_ar] 38, imm (.slice a_br br.length c_br) br, imm (.slice a_ar ar.length c_ar) ar]) w17 ad5 x1 := hp11 10 rfl rfl
          have H25 := H24.put (it := atI ad5 x1) rfl hA5
          refine ldL (H25.atv 0 rfl).w ty22 rfl s13 ?_
          intro a4 c4 rv5
          have ln3 := rv_len rv5
          have H26 := H25.put (it := imm (.slice a4 x1.length c4) x1) rfl rv5
          exact ⟨_, rfl, Ext.refl _, ⟨a4, c4, rfl, (rv_drop rfl rv5)⟩⟩
        refine ⟨fun _ => ⟨fun f13 w18 hf12 xt17 hp12 => ?_, by rintro _ _ _ x_ ⟨a2, c2, e_, rv3⟩; exact ⟨a2, c2, e_, rv3.lift (Up.ext x_)⟩⟩, ?_⟩
        ·
          have H27 := H6.ext xt17
          obtain ⟨a5, c5, s14, rv6⟩ : ∃ (a5 : Option Addr) (c5 : Nat), f13 28 = .slice a5 x0.length c5 ∧ RV (MS M [own w.heap.size 22 (.slice (some ⟨g0, 0, none⟩) an.toNat an.toNat) xs, box bb2 #[.int .i64 0, .slice none 0 0] 38, box bb1 #[.int .i64 bn, .slice a_br br.length c_br] 38, box bb0 #[.int .i64 an, .slice a_ar ar.length c_ar] 38, imm (.slice a_br br.length c_br) br, imm (.slice a_ar ar.length c_ar) ar]) w18 (.slice a5 x0.length c5) x0 := hp12 6 rfl rfl
          have H28 := H27.put (it := imm (.slice a5 x0.length c5) x0) rfl rv6
          obtain ⟨a6, c6, s15, rv7⟩ : ∃ (a6 : Option Addr) (c6 : Nat), f13 33 = .slice a6 x1.length c6 ∧ RV (MS M [own w.heap.size 22 (.slice (some ⟨g0, 0, none⟩) an.toNat an.toNat) xs, box bb2 #[.int .i64 0, .slice none 0 0] 38, box bb1 #[.int .i64 bn, .slice a_br br.length c_br] 38, box bb0 #[.int .i64 an, .slice a_ar ar.length c_ar] 38, imm (.slice a_br br.length c_br) br, imm (.slice a_ar ar.length c_ar) ar]) w18 (.slice a6 x1.length c6) x1 := hp12 11 rfl rfl
          have H29 := H28.put (it := imm (.slice a6 x1.length c6) x1) rfl (by rw [MS_cons_none rfl]; exact rv7)
          have cc1 := row_Or (a := x0) (b := x1) (w := w18) H29.mb (H29.rv 1 rfl) (H29.rv 0 rfl) (by first | exact hrw_a _ (List.mem_of_getElem? hx0) | exact hrw_b _ (List.mem_of_getElem? hx1)) (by first | exact hrw_a _ (List.mem_of_getElem? hx0) | exact hrw_b _ (List.mem_of_getElem? hx1))
          refine ca go25 rfl (ec s14 (ec s15 e0)) cc1 ?_
          rintro _ w19 ⟨a7, c7, rfl, xt18, rv8⟩
          have rv9 := OwnsG.rv rv8 H29.mb
          have H30 := H29.ext xt18
          have H31 := H30.put (it := imm (.slice a7 (orR x0 x1).length c7) (orR x0 x1)) rfl rv9
          exact ⟨_, rfl, xt18, ⟨a7, c7, rfl, (rv_drop rfl (rv_drop rfl rv9))⟩⟩
        exact DSteps.rest rfl _
      · intro f14 w20 hf13 xt19 hp13
        have H32 := H6.ext xt19
        have s16 : f14 2 = .pointer (some ⟨bb0, 0, none⟩) := (hf13 2 rfl).trans s0
        have s17 : f14 3 = .pointer (some ⟨bb1, 0, none⟩) := (hf13 3 rfl).trans s1
        have s18 : f14 4 = .pointer (some ⟨bb2, 0, none⟩) := (hf13 4 rfl).trans s2
        have s19 : f14 6 = .slice (some ⟨g0, 0, none⟩) an.toNat an.toNat := (hf13 6 rfl).trans s3
        have s20 : f14 18 = .int .i64 (an.toNat : Int) := (hf13 18 rfl).trans s4
        have s21 : f14 19 = .int .i64 (j : Int) := (hf13 19 rfl).trans s5
        have s22 : f14 22 = .slice (some ⟨g0, 0, none⟩) an.toNat an.toNat := hp13 0 rfl
        have s23 : f14 23 = .int .i64 (j : Int) := hp13 1 rfl
        obtain ⟨a8, c8, s24, rv10⟩ : ∃ (a8 : Option Addr) (c8 : Nat), f14 34 = .slice a8 (orR x0 x1).length c8 ∧ RV (MS M [own w.heap.size 22 (.slice (some ⟨g0, 0, none⟩) an.toNat an.toNat) xs, box bb2 #[.int .i64 0, .slice none 0 0] 38, box bb1 #[.int .i64 bn, .slice a_br br.length c_br] 38, box bb0 #[.int .i64 an, .slice a_ar ar.length c_ar] 38, imm (.slice a_br br.length c_br) br, imm (.slice a_ar ar.length c_ar) ar]) w20 (.slice a8 (orR x0 x1).length c8) (orR x0 x1) := hp13 12 rfl
        have H33 := H32.put (it := imm (.slice a8 (orR x0 x1).length c8) (orR x0 x1)) rfl rv10
        refine k (iaO (H33.at_ 1 rfl) rfl rfl s22 s23 (by first | omega | (simp; omega)) un36 ty22 ?_)
        intro g1 x4 hv0 hx4 hA6
        refine k (stO H33 1 rfl hv0 rfl (by first | omega | (simp; omega)) ty22 rfl rfl rfl s24 (H33.rv 0 rfl) ?_)
        intro w21 (H34 : HI M w w21 [imm (.slice a8 (orR x0 x1).length c8) (orR x0 x1), own w.heap.size 22 (.slice (some ⟨g0, 0, none⟩) an.toNat an.toNat) (xs.set ((j : Int).toNat) (orR x0 x1)), box bb2 #[.int .i64 0, .slice none 0 0] 38, box bb1 #[.int .i64 bn, .slice a_br br.length c_br] 38, box bb0 #[.int .i64 an, .slice a_ar ar.length c_ar] 38, imm (.slice a_br br.length c_br) br, imm (.slice a_ar ar.length c_ar) ar])
        refine z (inb_normal (nx (rg (k (add rfl rfl s21 rfl (by unfold I64 at *; omega) (k (mv (v := .int .i64 ((j : Int) + 1)) rfl rfl (z ?_))))))))
        have H35 : HI M w w21 [own w.heap.size 22 (.slice (some ⟨g0, 0, none⟩) an.toNat an.toNat) (xs.set ((j : Int).toNat) (orR x0 x1)), box bb2 #[.int .i64 0, .slice none 0 0] 38, box bb1 #[.int .i64 bn, .slice a_br br.length c_br] 38, box bb0 #[.int .i64 an, .slice a_ar ar.length c_ar] 38, imm (.slice a_br br.length c_br) br, imm (.slice a_ar ar.length c_ar) ar] := H34.pickN [1, 2, 3, 4, 5, 6] (by decide) rfl
        refine loopN _ ?_ ⟨(j + 1), (xs.set ((j : Int).toNat) (orR x0 x1)), rfl, s16, s17, s18, s19, s20, (ieq rfl (by first | rfl | omega | (push_cast; omega))), H35, (by first | assumption | omega | simp | (simp; omega)), (by simpa using hl), (by rw [hs]; exact orFill_set (by omega) hx0 hx1)⟩
        omega
    ·
      have p1 := of_decide_eq_false b1
      refine ex (then_exit (loop_exit (inb_here (nx (sq (rg (k (fa fl38_0 rfl s0 (k (ldX H6 3 rfl ty3 rfl rfl (by decide) rfl (k (mv rfl s3 (k (bd (v := .agg #[.int .i64 an, .slice (some ⟨g0, 0, none⟩) an.toNat an.toNat]) rfl (pbc rfl (pbc rfl pb0)) (fun _ => by kernel_rfl) (k (stX H6 1 rfl ty38 rfl rfl s2 rfl rfl rfl rfl ?_))))))))))))))))
      intro w5 (H7 : HI M w w5 [own w.heap.size 22 (.slice (some ⟨g0, 0, none⟩) an.toNat an.toNat) xs, box bb2 #[.int .i64 an, .slice (some ⟨g0, 0, none⟩) an.toNat an.toNat] 38, box bb1 #[.int .i64 bn, .slice a_br br.length c_br] 38, box bb0 #[.int .i64 an, .slice a_ar ar.length c_ar] 38, imm (.slice a_br br.length c_br) br, imm (.slice a_ar ar.length c_ar) ar])
      refine k (asg (v := .int .i64 0) rfl rfl (z (nx (rt (rc2 H7 1 rfl ty38 rfl rfl rfl s2 rfl (by decide) ?_)))))
      have e0 : (an : Int) = orMN an bn := by first | exact (orM_no (ar := ar) (br := br) p0).1.symm | exact (orM_yes (ar := ar) (br := br) p0).1.symm
      have e1 : (xs : List (List (BitVec 64))) = orMR an ar bn br := by first | exact (orM_no p0).2.1.symm | (rw [(orM_yes p0).2.1, hs]; exact orFill_end (by omega) hk)
      have l1 : an.toNat = (orMR an ar bn br).length := by first | rfl | (rw [← e1]; omega) | (rw [← e1]; simp) | simp
      have e2 : (0 : Int) = orME an bn := by first | exact (orM_no (ar := ar) (br := br) p0).2.2.symm | exact (orM_yes (ar := ar) (br := br) p0).2.2.symm
      have ev_ := cg3 (fun (x_0 : Int) (n_1 : Nat) (x_2 : Int) => (.tuple #[.agg #[.int .i64 x_0, .slice (some ⟨g0, 0, none⟩) n_1 an.toNat], .int .i64 x_2] : Value)) e0 l1 e2
      exact ⟨(some ⟨g0, 0, none⟩), an.toNat, ev_, H7.below, (congrArg (fun (n_ : Nat) => OwnsG _ _ _ (orMR an ar bn br) (.slice (some ⟨g0, 0, none⟩) n_ an.toNat) _) l1).mp ((congrArg (fun (x_ : List (List (BitVec 64))) => OwnsG _ _ _ x_ (.slice (some ⟨g0, 0, none⟩) an.toNat an.toNat) _) e1).mp (H7.ownsG_out 0 rfl))⟩
/- eyewitness/mat.Sub -/
set_option maxRecDepth 100000 in
set_option maxHeartbeats 1600000 in
theorem mat_Sub {M : Nat → Prop} {w : World} {an : Int} {a_ar : Option Addr} {c_ar : Nat} {ar : List (List (BitVec 64))} {bn : Int} {a_br : Option Addr} {c_br : Nat} {br : List (List (BitVec 64))} (hM : ∀ b, M b → b < w.heap.size) (h_an : I64 an) (h_ar : RV M w (.slice a_ar ar.length c_ar) ar) (h_bn : I64 bn) (h_br : RV M w (.slice a_br br.length c_br) br) (hsq_a : ((ar.length : Nat) : Int) = an) (hrw_a : ∀ x ∈ ar, x.length ≤ 1000000000) (hl4_a : an ≤ 4096) (hsq_b : ((br.length : Nat) : Int) = bn) (hrw_b : ∀ x ∈ br, x.length ≤ 1000000000) (hl4_b : bn ≤ 4096) : Calls Tryd.prog 59 #[.agg #[.int .i64 an, .slice a_ar ar.length c_ar], .agg #[.int .i64 bn, .slice a_br br.length c_br]] w (Ret fun v w' =>  v = .bool (subM an ar bn br) ∧ Ext w w') := by
  refine enter 29 Tryd.func59 rfl rfl rfl fun f0 ha => ?_
  have H := HI.start (M0 := M) (w := w) hM
  have H0 := H.put (it := imm (.slice a_ar ar.length c_ar) ar) rfl (by rw [MS_nil]; exact h_ar)
  have H1 := H0.put (it := imm (.slice a_br br.length c_br) br) rfl (by rw [MS_cons_none rfl, MS_nil]; exact h_br)
  have ln_ar := rv_len h_ar
  have ln_br := rv_len h_br
  have i0 : f0 0 = .agg #[.int .i64 an, .slice a_ar ar.length c_ar] := ha 0 (by simp)
  have i1 : f0 1 = .agg #[.int .i64 bn, .slice a_br br.length c_br] := ha 1 (by simp)
  refine sq (rg (k (bx H1 rfl i0 ?_)))
  intro bb0 w0 xt0 (H2 : HI M w w0 [box bb0 #[.int .i64 an, .slice a_ar ar.length c_ar] 38, imm (.slice a_br br.length c_br) br, imm (.slice a_ar ar.length c_ar) ar])
  refine k (bx H2 rfl i1 ?_)
  intro bb1 w1 xt1 (H3 : HI M w w1 [box bb1 #[.int .i64 bn, .slice a_br br.length c_br] 38, box bb0 #[.int .i64 an, .slice a_ar ar.length c_ar] 38, imm (.slice a_br br.length c_br) br, imm (.slice a_ar ar.length c_ar) ar])
  refine k (asg (v := .bool false) rfl rfl (z (nx (sq (sq (rg (k (fa fl38_0 rfl rfl (k (ldX H3 1 rfl ty3 rfl rfl (by decide) rfl (k (fa fl38_0 rfl rfl (k (ldX H3 0 rfl ty3 rfl rfl (by decide) rfl (k (neq rfl rfl rfl rfl (z (nx ?_))))))))))))))))))
  refine cd (b := !decide (an = bn)) rfl rfl (fun b0 => ?_) (fun b0 => ?_)
  ·
    have p0 := of_decide_eq_false (nott b0)
    refine sq (rg (k (asg (v := .bool false) rfl rfl (z (nx (rt (then_ret (r1 rfl rfl ?_))))))))
    have e0 : (false : Bool) = subM an ar bn br := by first | exact subM_ne p0 | exact subM_no (i := j) (by omega) hx0 hx1 (by simpa using b2) | exact subM_yes (by omega) (by omega) (by omega) hs
    have ev_ := cg1 (fun (x_0 : Bool) => (.bool x_0 : Value)) e0
    exact ⟨ev_, H3.below⟩
  ·
    have p0 := of_decide_eq_true (notf b0)
    refine sk (nx (sq (sq (rg (k (fa fl38_1 rfl rfl (k (ldX H3 1 rfl ty36 rfl rfl (by decide) rfl (k (lnS rfl rfl un36 (k (mv (v := .int .i64 0) rfl rfl (z (nx (bk ?_)))))))))))))))
    refine lp (fun m f w' => ∃ (j : Nat), m = ar.length - j ∧ f 3 = .pointer (some ⟨bb1, 0, none⟩) ∧ f 13 = .slice a_ar ar.length c_ar ∧ f 14 = .int .i64 (ar.length : Int) ∧ f 15 = .int .i64 (j : Int) ∧  HI M w w' [box bb1 #[.int .i64 bn, .slice a_br br.length c_br] 38, box bb0 #[.int .i64 an, .slice a_ar ar.length c_ar] 38, imm (.slice a_br br.length c_br) br, imm (.slice a_ar ar.length c_ar) ar] ∧ (j ≤ ar.length) ∧ (subRs ar br j = true)) _ ⟨0, rfl, rfl, rfl, rfl, (ieq rfl (by first | rfl | omega | simp)), H3, (by first | assumption | omega | simp | (simp; omega)), (by rfl)⟩ ?_
    rintro _ f0 w2 ⟨j, rfl, s0, s1, s2, s3, H4, hk, hs⟩
    refine sq (rg (k (lss rfl rfl s3 s2 (z (nx (sq ?_))))))
    refine cd (b := decide ((j : Int) < (ar.length : Int))) rfl rfl (fun b1 => ?_) (fun b1 => ?_)
    ·
      have p1 := of_decide_eq_true b1
      refine sk (nx (sq (bk (sq (rg (k (mv rfl s3 (k (ia (H4.rv 3 rfl) rfl rfl s1 s3 (by first | omega | (simp; omega)) un36 ty22 ?_)))))))))
      intro ad0 x0 hx0 hA0
      refine k (ldL hA0.w ty22 rfl rfl ?_)
      intro a0 c0 rv0
      have ln0 := rv_len rv0
      have H5 := H4.put (it := imm (.slice a0 x0.length c0) x0) rfl rv0
      refine k (asg (v := .int .i64 (j : Int)) rfl rfl (k (asg (v := .slice a0 x0.length c0) rfl rfl (z (nx (sq (rg (k (mv (v := .slice a0 x0.length c0) rfl rfl (k (fa fl38_1 rfl s0 (k (ldX H5 1 rfl ty36 rfl rfl (by decide) rfl (k (mv (v := .int .i64 (j : Int)) rfl rfl (k (ia (H5.rv 3 rfl) rfl rfl rfl rfl (by first | omega | (simp; omega)) un36 ty22 ?_)))))))))))))))))
      intro ad1 x1 hx1 hA1
      refine k (ldL hA1.w ty22 rfl rfl ?_)
      intro a1 c1 rv1
      have ln1 := rv_len rv1
      have H6 := H5.put (it := imm (.slice a1 x1.length c1) x1) rfl rv1
      refine k ?_
      have cc0 := row_Sub (a := x0) (b := x1) (w := w2) H6.mb (H6.rv 1 rfl) (H6.rv 0 rfl)
      refine ca go27 rfl (ec rfl (ec rfl e0)) cc0 ?_
      rintro _ w3 ⟨rfl, xt2⟩
      have H7 := H6.ext xt2
      refine k (not_ rfl rfl (z (nx ?_)))
      refine cd (b := !(subR x0 x1)) rfl rfl (fun b2 => ?_) (fun b2 => ?_)
      ·
        refine sq (rg (k (asg (v := .bool false) rfl rfl (z (nx (rt (inb_ret (then_ret (loop_ret (inb_ret (then_ret (r1 rfl rfl ?_))))))))))))
        have e0 : (false : Bool) = subM an ar bn br := by first | exact subM_ne p0 | exact subM_no (i := j) (by omega) hx0 hx1 (by simpa using b2) | exact subM_yes (by omega) (by omega) (by omega) hs
        have ev_ := cg1 (fun (x_0 : Bool) => (.bool x_0 : Value)) e0
        exact ⟨ev_, H7.below⟩
      ·
        refine sk (inb_normal (nx (rg (k (add rfl rfl s3 rfl (by unfold I64 at *; omega) (k (mv (v := .int .i64 ((j : Int) + 1)) rfl rfl (z ?_))))))))
        have H8 : HI M w w3 [box bb1 #[.int .i64 bn, .slice a_br br.length c_br] 38, box bb0 #[.int .i64 an, .slice a_ar ar.length c_ar] 38, imm (.slice a_br br.length c_br) br, imm (.slice a_ar ar.length c_ar) ar] := H7.pickN [2, 3, 4, 5] (by decide) rfl
        refine loopN _ ?_ ⟨(j + 1), rfl, s0, s1, s2, (ieq rfl (by first | rfl | omega | (push_cast; omega))), H8, (by first | assumption | omega | simp | (simp; omega)), (by exact subRs_step hs hx0 hx1 (by simpa using b2))⟩
        omega
    ·
      have p1 := of_decide_eq_false b1
      refine ex (then_exit (loop_exit (inb_here (nx (sq (rg (k (asg (v := .bool true) rfl rfl (z (nx (rt (r1 rfl rfl ?_))))))))))))
      have e0 : (true : Bool) = subM an ar bn br := by first | exact subM_ne p0 | exact subM_no (i := j) (by omega) hx0 hx1 (by simpa using b2) | exact subM_yes (by omega) (by omega) (by omega) hs
      have ev_ := cg1 (fun (x_0 : Bool) => (.bool x_0 : Value)) e0
      exact ⟨ev_, H4.below⟩
end Go.Proofs.YtfakagpjgpbkbaaDoor
