/- PRINTED by my own tool (wip/tool/gen.py): contracts of Go functions of this seat, each with its proof. -/
import Derived.Test.YtmhopljngkgidaaDoorOwnA
import Derived.Test.YtmhopljngkgidaaDoorOwnB
import Derived.Test.YtmhopljngkgidaaDoorGenB
import Derived.Test.YtmhopljngkgidaaDoorGenA
namespace Go.Proofs.YtmhopljngkgidaaDoor
open Go.Ew Go.RowKit
set_option linter.unusedVariables false
set_option linter.unusedSimpArgs false
attribute [local irreducible] WL WC SO Code.wp wpList retQ Ret
attribute [local irreducible] bitB hasW inR hasR setR countW countR subR words newR listR orR firstW tab8
theorem go93 : GoF Tryd.prog 93 := ⟨_, _, Tryd.func93, rfl, by kernel_rfl⟩
set_option maxRecDepth 100000 in
set_option maxHeartbeats 1600000 in
theorem ref16_Of {M : Nat → Prop} {w : World} {mn : Int} {a_mr : Option Addr} {c_mr : Nat} {mr : List (List (BitVec 64))} {o : Int} (hM : ∀ b, M b → b < w.heap.size) (h_mn : I64 mn) (h_mr : RV M w (.slice a_mr mr.length c_mr) mr) (h_o : I64 o) (rt_m : rightS mn mr = true) : Calls Tryd.prog 50 #[.agg #[.int .i64 mn, .slice a_mr mr.length c_mr], .int .i64 o] w (Ret fun v w' => ∃ (a0 : Option Addr) (c0 : Nat), v = .slice a0 (pastL mn mr o).length c0 ∧ Ext w w' ∧ OwnsG M 3 w (pastL mn mr o) (.slice a0 (pastL mn mr o).length c0) w') := by
  refine enter 22 Tryd.func50 rfl rfl rfl fun f0 ha => ?_
  have H := HI.start (M0 := M) (w := w) hM
  have H0 := H.put (it := imm (.slice a_mr mr.length c_mr) mr) rfl (by rw [MS_nil]; exact h_mr)
  have ln_mr := rv_len h_mr
  have i0 : f0 0 = .agg #[.int .i64 mn, .slice a_mr mr.length c_mr] := ha 0 (by simp)
  have i1 : f0 1 = .int .i64 o := ha 1 (by simp)
  have hl_ := (right_sq rt_m).1; have h4_ := (right_sq rt_m).2.2.1; have h0_ := right_pos rt_m
  refine sq (rg (k (bx H0 rfl i0 ?_)))
  intro bb0 w0 xt0 (H1 : HI M w w0 [box bb0 #[.int .i64 mn, .slice a_mr mr.length c_mr] 24, imm (.slice a_mr mr.length c_mr) mr])
  refine k (asg (v := .slice none 0 0) rfl rfl (z (nx (sq (rg (k (asg (v := .slice none 0 0) rfl rfl (z (nx (sq (sq (rg (k (asg (v := .int .i64 0) rfl rfl (z (nx (bk ?_)))))))))))))))))
  have H2 := H1.nil_ Int 3
  refine lp (fun m f w' => ∃ (q : Nat) (out : List Int) (a0 : Option Addr) (c0 : Nat), m = mn.toNat - q ∧ f 1 = .int .i64 o ∧ f 2 = .pointer (some ⟨bb0, 0, none⟩) ∧ f 5 = .slice a0 out.length c0 ∧ f 6 = .int .i64 (q : Int) ∧  HI M w w' [own w.heap.size 3 (.slice a0 out.length c0) out, box bb0 #[.int .i64 mn, .slice a_mr mr.length c_mr] 24, imm (.slice a_mr mr.length c_mr) mr] ∧ (q ≤ mn.toNat) ∧ (out = pastO mn mr o q)) _ ⟨0, ([] : List Int), none, 0, rfl, i1, rfl, rfl, (ieq rfl (by first | rfl | omega | simp)), H2, (by first | assumption | omega | simp | (simp; omega)), (by rfl)⟩ ?_
  rintro _ f0 w1 ⟨q, out, a0, c0, rfl, s0, s1, s2, s3, H3, hq_, hs⟩
  refine sq (sq (rg (k (mv rfl s3 (k (fa fl24_0 rfl s1 (k (ldX H3 1 rfl ty3 rfl rfl (by decide) rfl (k (lss rfl rfl rfl rfl (z (nx ?_))))))))))))
  refine cd (b := decide ((q : Int) < mn)) rfl rfl (fun b0 => ?_) (fun b0 => ?_)
  ·
    have p0 := of_decide_eq_true b0
    refine sk (nx (sq (bk (sq (rg (k (ldX H3 1 rfl ty24 rfl s1 (by decide) rfl (k (mv rfl s3 (k (mv rfl s0 (k ?_))))))))))))
    have cc0 := ref03_Has (mn := mn) (mr := mr) (i := (q : Int)) (j := o) (w := w1) H3.mb (by unfold I64 at *; omega) (H3.rv 2 rfl) (by unfold I64 at *; omega) (by unfold I64 at *; omega) (by exact (right_sq rt_m).1) (by exact (right_sq rt_m).2.1) (by exact (right_sq rt_m).2.2.1)
    refine ca go45 rfl (ec rfl (ec rfl (ec rfl e0))) cc0 ?_
    rintro _ w2 ⟨rfl, xt1⟩
    have H4 := H3.ext xt1
    refine z (nx ?_)
    refine cd (b := hasM mn mr (q : Int) o) rfl rfl (fun b1 => ?_) (fun b1 => ?_)
    ·
      refine rg (k (mv rfl s2 (k (mv rfl s3 (k (bs (xs := ([(q : Int)] : List Int)) (cells := #[.int .i64 (q : Int)]) (e := 3) H4 rfl (pbc rfl pb0) (fun _ => by kernel_rfl) ⟨[.int .i64 (q : Int)], [], rfl, ⟨rfl, (show I64 ((q : Int)) from (by unfold I64 at *; omega))⟩, rfl⟩ rfl (by unfold maxLen; omega) ?_))))))
      intro g0 w3 xt2 (H5 : HI M w w3 [own w.heap.size 3 (.slice (some ⟨g0, 0, none⟩) 1 1) ([(q : Int)] : List Int), own w.heap.size 3 (.slice a0 out.length c0) out, box bb0 #[.int .i64 mn, .slice a_mr mr.length c_mr] 24, imm (.slice a_mr mr.length c_mr) mr])
      refine k (ap H5 1 rfl rfl rfl rfl rfl rfl (own_src (H5.at_ 0 rfl)) un42 ty3 rfl (by have h_ := pastO_len mn mr o q; rw [hs]; simp only [List.length_cons, List.length_nil]; omega) (by have h_ := pastO_len mn mr o q; rw [hs]; simp only [List.length_cons, List.length_nil]; omega) ?_)
      intro a1 c1 w4 (H6 : HI M w w4 [own w.heap.size 3 (.slice (some ⟨g0, 0, none⟩) 1 1) ([(q : Int)] : List Int), own w.heap.size 3 (.slice a1 (out ++ ([(q : Int)] : List Int)).length c1) (out ++ ([(q : Int)] : List Int)), box bb0 #[.int .i64 mn, .slice a_mr mr.length c_mr] 24, imm (.slice a_mr mr.length c_mr) mr])
      refine k (asg (v := .slice a1 (out ++ ([(q : Int)] : List Int)).length c1) rfl rfl (z (inb_normal (nx (rg (k (mv rfl s3 (k (add rfl rfl rfl rfl (by unfold I64 at *; omega) (k (asg (v := .int .i64 ((q : Int) + 1)) rfl rfl (z ?_))))))))))))
      have H7 : HI M w w4 [own w.heap.size 3 (.slice a1 (out ++ ([(q : Int)] : List Int)).length c1) (out ++ ([(q : Int)] : List Int)), box bb0 #[.int .i64 mn, .slice a_mr mr.length c_mr] 24, imm (.slice a_mr mr.length c_mr) mr] := H6.pickN [1, 2, 3] (by decide) rfl
      refine loopN _ ?_ ⟨(q + 1), (out ++ ([(q : Int)] : List Int)), a1, c1, rfl, s0, s1, rfl, (ieq rfl (by first | rfl | omega | (push_cast; omega))), H7, (by first | assumption | omega | simp | (simp; omega)), (by rw [hs]; first | exact pastO_yes (by assumption) | exact pastO_no (by assumption))⟩
      omega
    ·
      refine sk (inb_normal (nx (rg (k (mv rfl s3 (k (add rfl rfl rfl rfl (by unfold I64 at *; omega) (k (asg (v := .int .i64 ((q : Int) + 1)) rfl rfl (z ?_))))))))))
      refine loopN _ ?_ ⟨(q + 1), out, a0, c0, rfl, s0, s1, s2, (ieq rfl (by first | rfl | omega | (push_cast; omega))), H4, (by first | assumption | omega | simp | (simp; omega)), (by rw [hs]; first | exact pastO_yes (by assumption) | exact pastO_no (by assumption))⟩
      omega
  ·
    have p0 := of_decide_eq_false b0
    refine ex (then_exit (loop_exit (inb_here (nx (sq (rg (k (mv rfl s2 (k (asg (v := .slice a0 out.length c0) rfl rfl (z (nx (rt (r1 rfl rfl ?_))))))))))))))
    have e0 : (out : List Int) = pastL mn mr o := by rw [hs, show q = mn.toNat from by omega]; exact past_of rt_m o
    have ev_ := cg1 (fun (x_0 : List Int) => (.slice a0 x_0.length c0 : Value)) e0
    exact ⟨a0, c0, ev_, H3.below, (congrArg (fun (x_ : List Int) => OwnsG _ _ _ x_ (.slice a0 x_.length c0) _) e0).mp (H3.ownsG_out 0 rfl)⟩
set_option maxRecDepth 100000 in
set_option maxHeartbeats 1600000 in
theorem ref16_With {M : Nat → Prop} {w : World} {mn : Int} {a_mr : Option Addr} {c_mr : Nat} {mr : List (List (BitVec 64))} {o : Int} (hM : ∀ b, M b → b < w.heap.size) (h_mn : I64 mn) (h_mr : RV M w (.slice a_mr mr.length c_mr) mr) (h_o : I64 o) (rt_m : rightS mn mr = true) : Calls Tryd.prog 52 #[.agg #[.int .i64 mn, .slice a_mr mr.length c_mr], .int .i64 o] w (Ret fun v w' => ∃ (a0 : Option Addr) (c0 : Nat), v = .slice a0 (withL mn mr o).length c0 ∧ Ext w w' ∧ OwnsG M 3 w (withL mn mr o) (.slice a0 (withL mn mr o).length c0) w') := by
  refine enter 37 Tryd.func52 rfl rfl rfl fun f0 ha => ?_
  have H := HI.start (M0 := M) (w := w) hM
  have H0 := H.put (it := imm (.slice a_mr mr.length c_mr) mr) rfl (by rw [MS_nil]; exact h_mr)
  have ln_mr := rv_len h_mr
  have i0 : f0 0 = .agg #[.int .i64 mn, .slice a_mr mr.length c_mr] := ha 0 (by simp)
  have i1 : f0 1 = .int .i64 o := ha 1 (by simp)
  have hl_ := (right_sq rt_m).1; have h4_ := (right_sq rt_m).2.2.1; have h0_ := right_pos rt_m
  refine sq (rg (k (bx H0 rfl i0 ?_)))
  intro bb0 w0 xt0 (H1 : HI M w w0 [box bb0 #[.int .i64 mn, .slice a_mr mr.length c_mr] 24, imm (.slice a_mr mr.length c_mr) mr])
  refine k (asg (v := .slice none 0 0) rfl rfl (z (nx (sq (rg (k (asg (v := .slice none 0 0) rfl rfl (z (nx (sq (sq (rg (k (asg (v := .int .i64 0) rfl rfl (z (nx (bk ?_)))))))))))))))))
  have H2 := H1.nil_ Int 3
  refine lp (fun m f w' => ∃ (q : Nat) (out : List Int) (a0 : Option Addr) (c0 : Nat), m = mn.toNat - q ∧ f 1 = .int .i64 o ∧ f 2 = .pointer (some ⟨bb0, 0, none⟩) ∧ f 5 = .slice a0 out.length c0 ∧ f 6 = .int .i64 (q : Int) ∧  HI M w w' [own w.heap.size 3 (.slice a0 out.length c0) out, box bb0 #[.int .i64 mn, .slice a_mr mr.length c_mr] 24, imm (.slice a_mr mr.length c_mr) mr] ∧ (q ≤ mn.toNat) ∧ (q = 0 ∨ (0 ≤ o ∧ o < mn)) ∧ (out = withO mn mr o q)) _ ⟨0, ([] : List Int), none, 0, rfl, i1, rfl, rfl, (ieq rfl (by first | rfl | omega | simp)), H2, (by first | assumption | omega | simp | (simp; omega)), (by first | assumption | omega | simp | (simp; omega)), (by rfl)⟩ ?_
  rintro _ f0 w1 ⟨q, out, a0, c0, rfl, s0, s1, s2, s3, H3, hq_, hr_, hs⟩
  refine sq (sq (rg (k (mv rfl s3 (k (fa fl24_0 rfl s1 (k (ldX H3 1 rfl ty3 rfl rfl (by decide) rfl (k (lss rfl rfl rfl rfl (k (mv (v := .bool (decide ((q : Int) < mn))) rfl rfl ?_))))))))))))
  rcases Bool.eq_false_or_eq_true (decide ((q : Int) < mn)) with b0 | b0
  · -- decide ((q : Int) < mn) is True
    have p0 := of_decide_eq_true b0
    refine k (gy rfl rfl rfl b0 (mv rfl s0 (k (gy rfl rfl rfl b0 (geq rfl rfl rfl rfl (k (pickT rfl rfl rfl rfl b0 rfl (k (mv (v := .bool (decide (0 ≤ o))) rfl rfl ?_)))))))))
    rcases Bool.eq_false_or_eq_true (decide (0 ≤ o)) with b1 | b1
    · -- decide (0 ≤ o) is True
      have p1 := of_decide_eq_true b1
      refine k (gy rfl rfl rfl b1 (mv rfl s0 (k (gy rfl rfl rfl b1 (fa fl24_0 rfl s1 (k (gy rfl rfl rfl b1 (ldX H3 1 rfl ty3 rfl rfl (by decide) rfl (k (gy rfl rfl rfl b1 (lss rfl rfl rfl rfl (k (pickT rfl rfl rfl rfl b1 rfl (z (nx ?_)))))))))))))))
      refine cd (b := decide (o < mn)) rfl rfl (fun b2 => ?_) (fun b2 => ?_)
      ·
        have p2 := of_decide_eq_true b2
        refine sk (nx (sq (bk (sq (rg (k (mv rfl s3 (k (mv rfl s0 (k (eql rfl rfl rfl rfl (k (mv (v := .bool (decide ((q : Int) = o))) rfl rfl ?_)))))))))))))
        rcases Bool.eq_false_or_eq_true (decide ((q : Int) = o)) with b3 | b3
        · -- decide ((q : Int) = o) is True
          have p3 := of_decide_eq_true b3
          refine k (gn rfl rfl rfl b3 (k (gn rfl rfl rfl b3 (k (gn rfl rfl rfl b3 (k (gn rfl rfl rfl b3 (k (pickT rfl rfl rfl rfl b3 rfl (z (nx (cdT rfl rfl rfl (rg (k (mv rfl s2 (k (mv rfl s3 (k (bs (xs := ([(q : Int)] : List Int)) (cells := #[.int .i64 (q : Int)]) (e := 3) H3 rfl (pbc rfl pb0) (fun _ => by kernel_rfl) ⟨[.int .i64 (q : Int)], [], rfl, ⟨rfl, (show I64 ((q : Int)) from (by unfold I64 at *; omega))⟩, rfl⟩ rfl (by unfold maxLen; omega) ?_)))))))))))))))))))
          intro g0 w2 xt1 (H4 : HI M w w2 [own w.heap.size 3 (.slice (some ⟨g0, 0, none⟩) 1 1) ([(q : Int)] : List Int), own w.heap.size 3 (.slice a0 out.length c0) out, box bb0 #[.int .i64 mn, .slice a_mr mr.length c_mr] 24, imm (.slice a_mr mr.length c_mr) mr])
          refine k (ap H4 1 rfl rfl rfl rfl rfl rfl (own_src (H4.at_ 0 rfl)) un42 ty3 rfl (by have h_ := withO_len mn mr o q; rw [hs]; simp only [List.length_cons, List.length_nil]; omega) (by have h_ := withO_len mn mr o q; rw [hs]; simp only [List.length_cons, List.length_nil]; omega) ?_)
          intro a1 c1 w3 (H5 : HI M w w3 [own w.heap.size 3 (.slice (some ⟨g0, 0, none⟩) 1 1) ([(q : Int)] : List Int), own w.heap.size 3 (.slice a1 (out ++ ([(q : Int)] : List Int)).length c1) (out ++ ([(q : Int)] : List Int)), box bb0 #[.int .i64 mn, .slice a_mr mr.length c_mr] 24, imm (.slice a_mr mr.length c_mr) mr])
          refine k (asg (v := .slice a1 (out ++ ([(q : Int)] : List Int)).length c1) rfl rfl (z (inb_normal (nx (rg (k (mv rfl s3 (k (add rfl rfl rfl rfl (by unfold I64 at *; omega) (k (asg (v := .int .i64 ((q : Int) + 1)) rfl rfl (z ?_))))))))))))
          have H6 : HI M w w3 [own w.heap.size 3 (.slice a1 (out ++ ([(q : Int)] : List Int)).length c1) (out ++ ([(q : Int)] : List Int)), box bb0 #[.int .i64 mn, .slice a_mr mr.length c_mr] 24, imm (.slice a_mr mr.length c_mr) mr] := H5.pickN [1, 2, 3] (by decide) rfl
          refine loopN _ ?_ ⟨(q + 1), (out ++ ([(q : Int)] : List Int)), a1, c1, rfl, s0, s1, rfl, (ieq rfl (by first | rfl | omega | (push_cast; omega))), H6, (by first | assumption | omega | simp | (simp; omega)), (by omega), (by rw [hs]; first | exact withO_yes (.inl (by assumption)) | exact withO_yes (.inr (by assumption)) | exact withO_no (by assumption) (by assumption))⟩
          omega
        · -- decide ((q : Int) = o) is False
          have p3 := of_decide_eq_false b3
          refine k (gy rfl rfl rfl b3 (ldX H3 1 rfl ty24 rfl s1 (by decide) rfl (k (gy rfl rfl rfl b3 (mv rfl s3 (k (gy rfl rfl rfl b3 (mv rfl s0 (k (gy rfl rfl rfl b3 ?_))))))))))
          have cc0 := ref03_Has (mn := mn) (mr := mr) (i := (q : Int)) (j := o) (w := w1) H3.mb (by unfold I64 at *; omega) (H3.rv 2 rfl) (by unfold I64 at *; omega) (by unfold I64 at *; omega) (by exact (right_sq rt_m).1) (by exact (right_sq rt_m).2.1) (by exact (right_sq rt_m).2.2.1)
          refine ca go45 rfl (ec rfl (ec rfl (ec rfl e0))) cc0 ?_
          rintro _ w2 ⟨rfl, xt1⟩
          have H4 := H3.ext xt1
          refine k (pickF rfl rfl rfl rfl b3 rfl (z (nx ?_)))
          refine cd (b := hasM mn mr (q : Int) o) rfl rfl (fun b4 => ?_) (fun b4 => ?_)
          ·
            refine rg (k (mv rfl s2 (k (mv rfl s3 (k (bs (xs := ([(q : Int)] : List Int)) (cells := #[.int .i64 (q : Int)]) (e := 3) H4 rfl (pbc rfl pb0) (fun _ => by kernel_rfl) ⟨[.int .i64 (q : Int)], [], rfl, ⟨rfl, (show I64 ((q : Int)) from (by unfold I64 at *; omega))⟩, rfl⟩ rfl (by unfold maxLen; omega) ?_))))))
            intro g0 w3 xt2 (H5 : HI M w w3 [own w.heap.size 3 (.slice (some ⟨g0, 0, none⟩) 1 1) ([(q : Int)] : List Int), own w.heap.size 3 (.slice a0 out.length c0) out, box bb0 #[.int .i64 mn, .slice a_mr mr.length c_mr] 24, imm (.slice a_mr mr.length c_mr) mr])
            refine k (ap H5 1 rfl rfl rfl rfl rfl rfl (own_src (H5.at_ 0 rfl)) un42 ty3 rfl (by have h_ := withO_len mn mr o q; rw [hs]; simp only [List.length_cons, List.length_nil]; omega) (by have h_ := withO_len mn mr o q; rw [hs]; simp only [List.length_cons, List.length_nil]; omega) ?_)
            intro a1 c1 w4 (H6 : HI M w w4 [own w.heap.size 3 (.slice (some ⟨g0, 0, none⟩) 1 1) ([(q : Int)] : List Int), own w.heap.size 3 (.slice a1 (out ++ ([(q : Int)] : List Int)).length c1) (out ++ ([(q : Int)] : List Int)), box bb0 #[.int .i64 mn, .slice a_mr mr.length c_mr] 24, imm (.slice a_mr mr.length c_mr) mr])
            refine k (asg (v := .slice a1 (out ++ ([(q : Int)] : List Int)).length c1) rfl rfl (z (inb_normal (nx (rg (k (mv rfl s3 (k (add rfl rfl rfl rfl (by unfold I64 at *; omega) (k (asg (v := .int .i64 ((q : Int) + 1)) rfl rfl (z ?_))))))))))))
            have H7 : HI M w w4 [own w.heap.size 3 (.slice a1 (out ++ ([(q : Int)] : List Int)).length c1) (out ++ ([(q : Int)] : List Int)), box bb0 #[.int .i64 mn, .slice a_mr mr.length c_mr] 24, imm (.slice a_mr mr.length c_mr) mr] := H6.pickN [1, 2, 3] (by decide) rfl
            refine loopN _ ?_ ⟨(q + 1), (out ++ ([(q : Int)] : List Int)), a1, c1, rfl, s0, s1, rfl, (ieq rfl (by first | rfl | omega | (push_cast; omega))), H7, (by first | assumption | omega | simp | (simp; omega)), (by omega), (by rw [hs]; first | exact withO_yes (.inl (by assumption)) | exact withO_yes (.inr (by assumption)) | exact withO_no (by assumption) (by assumption))⟩
            omega
          ·
            refine sk (inb_normal (nx (rg (k (mv rfl s3 (k (add rfl rfl rfl rfl (by unfold I64 at *; omega) (k (asg (v := .int .i64 ((q : Int) + 1)) rfl rfl (z ?_))))))))))
            refine loopN _ ?_ ⟨(q + 1), out, a0, c0, rfl, s0, s1, s2, (ieq rfl (by first | rfl | omega | (push_cast; omega))), H4, (by first | assumption | omega | simp | (simp; omega)), (by omega), (by rw [hs]; first | exact withO_yes (.inl (by assumption)) | exact withO_yes (.inr (by assumption)) | exact withO_no (by assumption) (by assumption))⟩
            omega
      ·
        have p2 := of_decide_eq_false b2
        refine ex (then_exit (loop_exit (inb_here (nx (sq (rg (k (mv rfl s2 (k (asg (v := .slice a0 out.length c0) rfl rfl (z (nx (rt (r1 rfl rfl ?_))))))))))))))
        have e0 : (out : List Int) = withL mn mr o := by rw [hs]; exact with_end rt_m (by omega) hq_ (by omega)
        have ev_ := cg1 (fun (x_0 : List Int) => (.slice a0 x_0.length c0 : Value)) e0
        exact ⟨a0, c0, ev_, H3.below, (congrArg (fun (x_ : List Int) => OwnsG _ _ _ x_ (.slice a0 x_.length c0) _) e0).mp (H3.ownsG_out 0 rfl)⟩
    · -- decide (0 ≤ o) is False
      have p1 := of_decide_eq_false b1
      refine k (gn rfl rfl rfl b1 (k (gn rfl rfl rfl b1 (k (gn rfl rfl rfl b1 (k (gn rfl rfl rfl b1 (k (pickF rfl rfl rfl rfl b1 rfl (z (nx (cdF rfl rfl rfl (ex (then_exit (loop_exit (inb_here (nx (sq (rg (k (mv rfl s2 (k (asg (v := .slice a0 out.length c0) rfl rfl (z (nx (rt (r1 rfl rfl ?_)))))))))))))))))))))))))))
      have e0 : (out : List Int) = withL mn mr o := by rw [hs]; exact with_end rt_m (by omega) hq_ (by omega)
      have ev_ := cg1 (fun (x_0 : List Int) => (.slice a0 x_0.length c0 : Value)) e0
      exact ⟨a0, c0, ev_, H3.below, (congrArg (fun (x_ : List Int) => OwnsG _ _ _ x_ (.slice a0 x_.length c0) _) e0).mp (H3.ownsG_out 0 rfl)⟩
  · -- decide ((q : Int) < mn) is False
    have p0 := of_decide_eq_false b0
    refine k (gn rfl rfl rfl b0 (k (gn rfl rfl rfl b0 (k (pickF rfl rfl rfl rfl b0 rfl (k (mv (v := .bool false) rfl rfl (k (gn rfl rfl rfl rfl (k (gn rfl rfl rfl rfl (k (gn rfl rfl rfl rfl (k (gn rfl rfl rfl rfl (k (pickF rfl rfl rfl rfl rfl rfl (z (nx (cdF rfl rfl rfl (ex (then_exit (loop_exit (inb_here (nx (sq (rg (k (mv rfl s2 (k (asg (v := .slice a0 out.length c0) rfl rfl (z (nx (rt (r1 rfl rfl ?_)))))))))))))))))))))))))))))))))))
    have e0 : (out : List Int) = withL mn mr o := by rw [hs]; exact with_end rt_m (by omega) hq_ (by omega)
    have ev_ := cg1 (fun (x_0 : List Int) => (.slice a0 x_0.length c0 : Value)) e0
    exact ⟨a0, c0, ev_, H3.below, (congrArg (fun (x_ : List Int) => OwnsG _ _ _ x_ (.slice a0 x_.length c0) _) e0).mp (H3.ownsG_out 0 rfl)⟩
set_option maxRecDepth 100000 in
set_option maxHeartbeats 1600000 in
theorem ref16_Writes {M : Nat → Prop} {w : World} {a_fv : Option Addr} {n_fv c_fv : Nat} {a_fi : Option Addr} {c_fi : Nat} {fi : List (Int × Int × Bool × Int × Int)} {a_fo : Option Addr} {n_fo c_fo : Nat} {a_l : Option Addr} {c_l : Nat} {l : List Int} {vr : Int} (hM : ∀ b, M b → b < w.heap.size) (h_fi : RV M w (.slice a_fi fi.length c_fi) fi) (h_l : RV M w (.slice a_l l.length c_l) l) (h_vr : I64 vr) (hln_l : l.length ≤ 1000000000) : Calls Tryd.prog 54 #[.agg #[.slice a_fv n_fv c_fv, .slice a_fi fi.length c_fi, .slice a_fo n_fo c_fo], .slice a_l l.length c_l, .int .i64 vr] w (Ret fun v w' => ∃ (a0 : Option Addr) (c0 : Nat), v = .slice a0 (keepL (wrB fi vr) l).length c0 ∧ Ext w w' ∧ OwnsG M 3 w (keepL (wrB fi vr) l) (.slice a0 (keepL (wrB fi vr) l).length c0) w') := by
  refine enter 62 Tryd.func54 rfl rfl rfl fun f0 ha => ?_
  have H := HI.start (M0 := M) (w := w) hM
  have H0 := H.put (it := imm (.slice a_fi fi.length c_fi) fi) rfl (by rw [MS_nil]; exact h_fi)
  have H1 := H0.put (it := imm (.slice a_l l.length c_l) l) rfl (by rw [MS_cons_none rfl, MS_nil]; exact h_l)
  have ln_fi := rv_len h_fi
  have ln_l := rv_len h_l
  have i0 : f0 0 = .agg #[.slice a_fv n_fv c_fv, .slice a_fi fi.length c_fi, .slice a_fo n_fo c_fo] := ha 0 (by simp)
  have i1 : f0 1 = .slice a_l l.length c_l := ha 1 (by simp)
  have i2 : f0 2 = .int .i64 vr := ha 2 (by simp)
  refine sq (rg (k (bx H1 rfl i0 ?_)))
  intro bb0 w0 xt0 (H2 : HI M w w0 [box bb0 #[.slice a_fv n_fv c_fv, .slice a_fi fi.length c_fi, .slice a_fo n_fo c_fo] 66, imm (.slice a_l l.length c_l) l, imm (.slice a_fi fi.length c_fi) fi])
  refine k (asg (v := .slice none 0 0) rfl rfl (z (nx (sq (rg (k (asg (v := .slice none 0 0) rfl rfl (z (nx (sq (sq (rg (k (asg (v := .int .i64 0) rfl rfl (z (nx (bk ?_)))))))))))))))))
  have H3 := H2.nil_ Int 3
  refine lp (fun m f w' => ∃ (q : Nat) (out : List Int) (a0 : Option Addr) (c0 : Nat), m = l.length - q ∧ f 1 = .slice a_l l.length c_l ∧ f 2 = .int .i64 vr ∧ f 3 = .pointer (some ⟨bb0, 0, none⟩) ∧ f 7 = .slice a0 out.length c0 ∧ f 8 = .int .i64 (q : Int) ∧  HI M w w' [own w.heap.size 3 (.slice a0 out.length c0) out, box bb0 #[.slice a_fv n_fv c_fv, .slice a_fi fi.length c_fi, .slice a_fo n_fo c_fo] 66, imm (.slice a_l l.length c_l) l, imm (.slice a_fi fi.length c_fi) fi] ∧ (q ≤ l.length) ∧ (out = keepL (wrB fi vr) (l.take q))) _ ⟨0, ([] : List Int), none, 0, rfl, i1, i2, rfl, rfl, (ieq rfl (by first | rfl | omega | simp)), H3, (by first | assumption | omega | simp | (simp; omega)), (by rfl)⟩ ?_
  rintro _ f0 w1 ⟨q, out, a0, c0, rfl, s0, s1, s2, s3, s4, H4, hq_, hs⟩
  refine sq (sq (rg (k (mv rfl s4 (k (mv rfl s0 (k (lnS rfl rfl un42 (k (lss rfl rfl rfl rfl (z (nx ?_))))))))))))
  refine cd (b := decide ((q : Int) < (l.length : Int))) rfl rfl (fun b0 => ?_) (fun b0 => ?_)
  ·
    have p0 := of_decide_eq_true b0
    refine sk (nx (sq (bk (sq ?_))))
    obtain ⟨x0, hx0⟩ : ∃ x, l[(q : Int).toNat]? = some x := ⟨_, List.getElem?_eq_getElem (by first | omega | (simp; omega))⟩
    rcases Bool.eq_false_or_eq_true (decide (0 ≤ x0)) with b1 | b1
    · -- decide (0 ≤ x0) is True
      have p1 := of_decide_eq_true b1
      rcases Bool.eq_false_or_eq_true (decide (x0 < (fi.length : Int))) with b2 | b2
      · -- decide (x0 < (fi.length : Int)) is True
        have p2 := of_decide_eq_true b2
        obtain ⟨x6, hx6⟩ : ∃ x, fi[x0.toNat]? = some x := ⟨_, List.getElem?_eq_getElem (by first | omega | (simp; omega))⟩
        rcases Bool.eq_false_or_eq_true (x6.2.2.1) with b3 | b3
        · -- x6.2.2.1 is True
          refine dr 37 [fun (v : Value) (w' : World) => v = .slice a_l l.length c_l, fun (v : Value) (w' : World) => v = .int .i64 (q : Int), fun (v : Value) (w' : World) => ∃ (ad7 : Addr), v = .pointer (some ad7) ∧ At (MS M [own w.heap.size 3 (.slice a0 out.length c0) out, box bb0 #[.slice a_fv n_fv c_fv, .slice a_fi fi.length c_fi, .slice a_fo n_fo c_fo] 66, imm (.slice a_l l.length c_l) l, imm (.slice a_fi fi.length c_fi) fi]) w' ad7 x0, fun (v : Value) (w' : World) => v = .int .i64 x0 ∧ I64 (x0), fun (v : Value) (w' : World) => v = .bool (decide (0 ≤ x0)), fun (v : Value) (w' : World) => v = .bool (decide (0 ≤ x0)), fun (v : Value) (w' : World) => v = .slice a_l l.length c_l, fun (v : Value) (w' : World) => v = .int .i64 (q : Int), fun (v : Value) (w' : World) => ∃ (ad8 : Addr), v = .pointer (some ad8) ∧ At (MS M [own w.heap.size 3 (.slice a0 out.length c0) out, box bb0 #[.slice a_fv n_fv c_fv, .slice a_fi fi.length c_fi, .slice a_fo n_fo c_fo] 66, imm (.slice a_l l.length c_l) l, imm (.slice a_fi fi.length c_fi) fi]) w' ad8 x0, fun (v : Value) (w' : World) => v = .int .i64 x0 ∧ I64 (x0), fun (v : Value) (w' : World) => v = .pointer (some ⟨bb0, 1, none⟩), fun (v : Value) (w' : World) => v = .slice a_fi fi.length c_fi, fun (v : Value) (w' : World) => v = .int .i64 (fi.length : Int), fun (v : Value) (w' : World) => v = .bool (decide (x0 < (fi.length : Int))), fun (v : Value) (w' : World) => v = .bool (decide (x0 < (fi.length : Int))), fun (v : Value) (w' : World) => v = .bool (decide (x0 < (fi.length : Int))), fun (v : Value) (w' : World) => v = .pointer (some ⟨bb0, 1, none⟩), fun (v : Value) (w' : World) => v = .slice a_fi fi.length c_fi, fun (v : Value) (w' : World) => v = .slice a_l l.length c_l, fun (v : Value) (w' : World) => v = .int .i64 (q : Int), fun (v : Value) (w' : World) => ∃ (ad9 : Addr), v = .pointer (some ad9) ∧ At (MS M [own w.heap.size 3 (.slice a0 out.length c0) out, box bb0 #[.slice a_fv n_fv c_fv, .slice a_fi fi.length c_fi, .slice a_fo n_fo c_fo] 66, imm (.slice a_l l.length c_l) l, imm (.slice a_fi fi.length c_fi) fi]) w' ad9 x0, fun (v : Value) (w' : World) => v = .int .i64 x0 ∧ I64 (x0), fun (v : Value) (w' : World) => ∃ (ad10 : Addr), v = .pointer (some ad10) ∧ At (MS M [own w.heap.size 3 (.slice a0 out.length c0) out, box bb0 #[.slice a_fv n_fv c_fv, .slice a_fi fi.length c_fi, .slice a_fo n_fo c_fo] 66, imm (.slice a_l l.length c_l) l, imm (.slice a_fi fi.length c_fi) fi]) w' ad10 x6, fun (v : Value) (w' : World) => ∃ (ad10 : Addr), v = .pointer (some ((ad10).add 2)) ∧ At (MS M [own w.heap.size 3 (.slice a0 out.length c0) out, box bb0 #[.slice a_fv n_fv c_fv, .slice a_fi fi.length c_fi, .slice a_fo n_fo c_fo] 66, imm (.slice a_l l.length c_l) l, imm (.slice a_fi fi.length c_fi) fi]) w' ad10 x6, fun (v : Value) (w' : World) => v = .bool x6.2.2.1, fun (v : Value) (w' : World) => v = .bool x6.2.2.1, fun (v : Value) (w' : World) => v = .bool x6.2.2.1, fun (v : Value) (w' : World) => v = .pointer (some ⟨bb0, 1, none⟩), fun (v : Value) (w' : World) => v = .slice a_fi fi.length c_fi, fun (v : Value) (w' : World) => v = .slice a_l l.length c_l, fun (v : Value) (w' : World) => v = .int .i64 (q : Int), fun (v : Value) (w' : World) => ∃ (ad11 : Addr), v = .pointer (some ad11) ∧ At (MS M [own w.heap.size 3 (.slice a0 out.length c0) out, box bb0 #[.slice a_fv n_fv c_fv, .slice a_fi fi.length c_fi, .slice a_fo n_fo c_fo] 66, imm (.slice a_l l.length c_l) l, imm (.slice a_fi fi.length c_fi) fi]) w' ad11 x0, fun (v : Value) (w' : World) => v = .int .i64 x0 ∧ I64 (x0), fun (v : Value) (w' : World) => ∃ (ad12 : Addr), v = .pointer (some ad12) ∧ At (MS M [own w.heap.size 3 (.slice a0 out.length c0) out, box bb0 #[.slice a_fv n_fv c_fv, .slice a_fi fi.length c_fi, .slice a_fo n_fo c_fo] 66, imm (.slice a_l l.length c_l) l, imm (.slice a_fi fi.length c_fi) fi]) w' ad12 x6, fun (v : Value) (w' : World) => ∃ (ad12 : Addr), v = .pointer (some ((ad12).add 3)) ∧ At (MS M [own w.heap.size 3 (.slice a0 out.length c0) out, box bb0 #[.slice a_fv n_fv c_fv, .slice a_fi fi.length c_fi, .slice a_fo n_fo c_fo] 66, imm (.slice a_l l.length c_l) l, imm (.slice a_fi fi.length c_fi) fi]) w' ad12 x6, fun (v : Value) (w' : World) => v = .int .i64 x6.2.2.2.1 ∧ I64 (x6.2.2.2.1), fun (v : Value) (w' : World) => v = .int .i64 vr] rfl (by kernel_rfl) ?_ ?_
          ·
            refine ⟨fun _ => ⟨fun f1 w2 hf0 xt1 hp0 => ?_, fun _ _ _ _ h => h⟩, ?_⟩
            ·
              have H5 := H4.ext xt1
              refine mv rfl ((hf0 1 rfl).trans s0) ?_
              exact ⟨_, rfl, Ext.refl _, rfl⟩
            refine ⟨fun _ => ⟨fun f2 w3 hf1 xt2 hp1 => ?_, fun _ _ _ _ h => h⟩, ?_⟩
            ·
              have H6 := H4.ext xt2
              refine mv rfl ((hf1 8 rfl).trans s4) ?_
              exact ⟨_, rfl, Ext.refl _, rfl⟩
            refine ⟨fun _ => ⟨fun f3 w4 hf2 xt3 hp2 => ?_, by rintro _ _ _ x_ ⟨ad7, e_, hA7⟩; exact ⟨ad7, e_, hA7.lift (Up.ext x_)⟩⟩, ?_⟩
            ·
              have H7 := H4.ext xt3
              have s5 : f3 15 = .slice a_l l.length c_l := hp2 0 rfl rfl
              have s6 : f3 16 = .int .i64 (q : Int) := hp2 1 rfl rfl
              refine ia (H7.rv 2 rfl) rfl rfl s5 s6 (by first | omega | (simp; omega)) un42 ty3 ?_
              intro ad13 x13 hx13 hA13
              obtain rfl : x0 = x13 := Option.some.inj (hx0.symm.trans hx13)
              exact ⟨_, rfl, Ext.refl _, ⟨ad13, rfl, hA13⟩⟩
            refine ⟨fun _ => ⟨fun f4 w5 hf3 xt4 hp3 => ?_, fun _ _ _ _ h => h⟩, ?_⟩
            ·
              have H8 := H4.ext xt4
              obtain ⟨ad14, s7, hA14⟩ : ∃ (ad14 : Addr), f4 17 = .pointer (some ad14) ∧ At (MS M [own w.heap.size 3 (.slice a0 out.length c0) out, box bb0 #[.slice a_fv n_fv c_fv, .slice a_fi fi.length c_fi, .slice a_fo n_fo c_fo] 66, imm (.slice a_l l.length c_l) l, imm (.slice a_fi fi.length c_fi) fi]) w5 ad14 x0 := hp3 2 rfl rfl
              have H9 := H8.put (it := atI ad14 x0) rfl hA14
              refine ldI (H9.atv 0 rfl).w ty3 rfl s7 ?_
              intro rv11
              exact ⟨_, rfl, Ext.refl _, ⟨rfl, rv11⟩⟩
            refine ⟨fun _ => ⟨fun f5 w6 hf4 xt5 hp4 => ?_, fun _ _ _ _ h => h⟩, ?_⟩
            ·
              have H10 := H4.ext xt5
              obtain ⟨s8, rv12⟩ : f5 18 = .int .i64 x0 ∧ I64 (x0) := hp4 3 rfl rfl
              refine geq rfl rfl s8 rfl ?_
              exact ⟨_, rfl, Ext.refl _, rfl⟩
            refine ⟨fun _ => ⟨fun f6 w7 hf5 xt6 hp5 => ?_, fun _ _ _ _ h => h⟩, ?_⟩
            ·
              have H11 := H4.ext xt6
              have s9 : f6 19 = .bool (decide (0 ≤ x0)) := hp5 4 rfl rfl
              refine mv rfl s9 ?_
              exact ⟨_, rfl, Ext.refl _, rfl⟩
            refine ⟨fun _ => ⟨fun f7 w8 hf6 xt7 hp6 => ?_, fun _ _ _ _ h => h⟩, ?_⟩
            ·
              have H12 := H4.ext xt7
              have s10 : f7 20 = .bool (decide (0 ≤ x0)) := hp6 5 rfl rfl
              refine gy rfl rfl s10 b1 (mv rfl ((hf6 1 rfl).trans s0) ?_)
              exact ⟨_, rfl, Ext.refl _, rfl⟩
            refine ⟨fun _ => ⟨fun f8 w9 hf7 xt8 hp7 => ?_, fun _ _ _ _ h => h⟩, ?_⟩
            ·
              have H13 := H4.ext xt8
              have s11 : f8 20 = .bool (decide (0 ≤ x0)) := hp7 5 rfl rfl
              refine gy rfl rfl s11 b1 (mv rfl ((hf7 8 rfl).trans s4) ?_)
              exact ⟨_, rfl, Ext.refl _, rfl⟩
            refine ⟨fun _ => ⟨fun f9 w10 hf8 xt9 hp8 => ?_, by rintro _ _ _ x_ ⟨ad8, e_, hA8⟩; exact ⟨ad8, e_, hA8.lift (Up.ext x_)⟩⟩, ?_⟩
            ·
              have H14 := H4.ext xt9
              have s12 : f9 20 = .bool (decide (0 ≤ x0)) := hp8 5 rfl rfl
              have s13 : f9 21 = .slice a_l l.length c_l := hp8 6 rfl rfl
              have s14 : f9 22 = .int .i64 (q : Int) := hp8 7 rfl rfl
              refine gy rfl rfl s12 b1 (ia (H14.rv 2 rfl) rfl rfl s13 s14 (by first | omega | (simp; omega)) un42 ty3 ?_)
              intro ad15 x14 hx14 hA15
              obtain rfl : x0 = x14 := Option.some.inj (hx0.symm.trans hx14)
              exact ⟨_, rfl, Ext.refl _, ⟨ad15, rfl, hA15⟩⟩
            refine ⟨fun _ => ⟨fun f10 w11 hf9 xt10 hp9 => ?_, fun _ _ _ _ h => h⟩, ?_⟩
            ·
              have H15 := H4.ext xt10
              have s15 : f10 20 = .bool (decide (0 ≤ x0)) := hp9 5 rfl rfl
              obtain ⟨ad16, s16, hA16⟩ : ∃ (ad16 : Addr), f10 23 = .pointer (some ad16) ∧ At (MS M [own w.heap.size 3 (.slice a0 out.length c0) out, box bb0 #[.slice a_fv n_fv c_fv, .slice a_fi fi.length c_fi, .slice a_fo n_fo c_fo] 66, imm (.slice a_l l.length c_l) l, imm (.slice a_fi fi.length c_fi) fi]) w11 ad16 x0 := hp9 8 rfl rfl
              have H16 := H15.put (it := atI ad16 x0) rfl hA16
              refine gy rfl rfl s15 b1 (ldI (H16.atv 0 rfl).w ty3 rfl s16 ?_)
              intro rv13
              exact ⟨_, rfl, Ext.refl _, ⟨rfl, rv13⟩⟩
            refine ⟨fun _ => ⟨fun f11 w12 hf10 xt11 hp10 => ?_, fun _ _ _ _ h => h⟩, ?_⟩
            ·
              have H17 := H4.ext xt11
              have s17 : f11 20 = .bool (decide (0 ≤ x0)) := hp10 5 rfl rfl
              refine gy rfl rfl s17 b1 (fa fl66_1 rfl ((hf10 3 rfl).trans s2) ?_)
              exact ⟨_, rfl, Ext.refl _, rfl⟩
            refine ⟨fun _ => ⟨fun f12 w13 hf11 xt12 hp11 => ?_, fun _ _ _ _ h => h⟩, ?_⟩
            ·
              have H18 := H4.ext xt12
              have s18 : f12 20 = .bool (decide (0 ≤ x0)) := hp11 5 rfl rfl
              have s19 : f12 25 = .pointer (some ⟨bb0, 1, none⟩) := hp11 10 rfl rfl
              refine gy rfl rfl s18 b1 (ldX H18 1 rfl ty64 rfl s19 (by decide) rfl ?_)
              exact ⟨_, rfl, Ext.refl _, rfl⟩
            refine ⟨fun _ => ⟨fun f13 w14 hf12 xt13 hp12 => ?_, fun _ _ _ _ h => h⟩, ?_⟩
            ·
              have H19 := H4.ext xt13
              have s20 : f13 20 = .bool (decide (0 ≤ x0)) := hp12 5 rfl rfl
              have s21 : f13 26 = .slice a_fi fi.length c_fi := hp12 11 rfl rfl
              refine gy rfl rfl s20 b1 (lnS rfl s21 un64 ?_)
              exact ⟨_, rfl, Ext.refl _, rfl⟩
            refine ⟨fun _ => ⟨fun f14 w15 hf13 xt14 hp13 => ?_, fun _ _ _ _ h => h⟩, ?_⟩
            ·
              have H20 := H4.ext xt14
              have s22 : f14 20 = .bool (decide (0 ≤ x0)) := hp13 5 rfl rfl
              obtain ⟨s23, rv14⟩ : f14 24 = .int .i64 x0 ∧ I64 (x0) := hp13 9 rfl rfl
              have s24 : f14 27 = .int .i64 (fi.length : Int) := hp13 12 rfl rfl
              refine gy rfl rfl s22 b1 (lss rfl rfl s23 s24 ?_)
              exact ⟨_, rfl, Ext.refl _, rfl⟩
            refine ⟨fun _ => ⟨fun f15 w16 hf14 xt15 hp14 => ?_, fun _ _ _ _ h => h⟩, ?_⟩
            ·
              have H21 := H4.ext xt15
              have s25 : f15 20 = .bool (decide (0 ≤ x0)) := hp14 5 rfl rfl
              have s26 : f15 28 = .bool (decide (x0 < (fi.length : Int))) := hp14 13 rfl rfl
              refine pickT rfl rfl rfl s25 b1 s26 ?_
              exact ⟨_, rfl, Ext.refl _, rfl⟩
            refine ⟨fun _ => ⟨fun f16 w17 hf15 xt16 hp15 => ?_, fun _ _ _ _ h => h⟩, ?_⟩
            ·
              have H22 := H4.ext xt16
              have s27 : f16 29 = .bool (decide (x0 < (fi.length : Int))) := hp15 14 rfl rfl
              refine mv rfl s27 ?_
              exact ⟨_, rfl, Ext.refl _, rfl⟩
            refine ⟨fun _ => ⟨fun f17 w18 hf16 xt17 hp16 => ?_, fun _ _ _ _ h => h⟩, ?_⟩
            ·
              have H23 := H4.ext xt17
              have s28 : f17 30 = .bool (decide (x0 < (fi.length : Int))) := hp16 15 rfl rfl
              refine gy rfl rfl s28 b2 (fa fl66_1 rfl ((hf16 3 rfl).trans s2) ?_)
              exact ⟨_, rfl, Ext.refl _, rfl⟩
            refine ⟨fun _ => ⟨fun f18 w19 hf17 xt18 hp17 => ?_, fun _ _ _ _ h => h⟩, ?_⟩
            ·
              have H24 := H4.ext xt18
              have s29 : f18 30 = .bool (decide (x0 < (fi.length : Int))) := hp17 15 rfl rfl
              have s30 : f18 31 = .pointer (some ⟨bb0, 1, none⟩) := hp17 16 rfl rfl
              refine gy rfl rfl s29 b2 (ldX H24 1 rfl ty64 rfl s30 (by decide) rfl ?_)
              exact ⟨_, rfl, Ext.refl _, rfl⟩
            refine ⟨fun _ => ⟨fun f19 w20 hf18 xt19 hp18 => ?_, fun _ _ _ _ h => h⟩, ?_⟩
            ·
              have H25 := H4.ext xt19
              have s31 : f19 30 = .bool (decide (x0 < (fi.length : Int))) := hp18 15 rfl rfl
              refine gy rfl rfl s31 b2 (mv rfl ((hf18 1 rfl).trans s0) ?_)
              exact ⟨_, rfl, Ext.refl _, rfl⟩
            refine ⟨fun _ => ⟨fun f20 w21 hf19 xt20 hp19 => ?_, fun _ _ _ _ h => h⟩, ?_⟩
            ·
              have H26 := H4.ext xt20
              have s32 : f20 30 = .bool (decide (x0 < (fi.length : Int))) := hp19 15 rfl rfl
              refine gy rfl rfl s32 b2 (mv rfl ((hf19 8 rfl).trans s4) ?_)
              exact ⟨_, rfl, Ext.refl _, rfl⟩
            refine ⟨fun _ => ⟨fun f21 w22 hf20 xt21 hp20 => ?_, by rintro _ _ _ x_ ⟨ad9, e_, hA9⟩; exact ⟨ad9, e_, hA9.lift (Up.ext x_)⟩⟩, ?_⟩
            ·
              have H27 := H4.ext xt21
              have s33 : f21 30 = .bool (decide (x0 < (fi.length : Int))) := hp20 15 rfl rfl
              have s34 : f21 33 = .slice a_l l.length c_l := hp20 18 rfl rfl
              have s35 : f21 34 = .int .i64 (q : Int) := hp20 19 rfl rfl
              refine gy rfl rfl s33 b2 (ia (H27.rv 2 rfl) rfl rfl s34 s35 (by first | omega | (simp; omega)) un42 ty3 ?_)
              intro ad17 x15 hx15 hA17
              obtain rfl : x0 = x15 := Option.some.inj (hx0.symm.trans hx15)
              exact ⟨_, rfl, Ext.refl _, ⟨ad17, rfl, hA17⟩⟩
            refine ⟨fun _ => ⟨fun f22 w23 hf21 xt22 hp21 => ?_, fun _ _ _ _ h => h⟩, ?_⟩
            ·
              have H28 := H4.ext xt22
              have s36 : f22 30 = .bool (decide (x0 < (fi.length : Int))) := hp21 15 rfl rfl
              obtain ⟨ad18, s37, hA18⟩ : ∃ (ad18 : Addr), f22 35 = .pointer (some ad18) ∧ At (MS M [own w.heap.size 3 (.slice a0 out.length c0) out, box bb0 #[.slice a_fv n_fv c_fv, .slice a_fi fi.length c_fi, .slice a_fo n_fo c_fo] 66, imm (.slice a_l l.length c_l) l, imm (.slice a_fi fi.length c_fi) fi]) w23 ad18 x0 := hp21 20 rfl rfl
              have H29 := H28.put (it := atI ad18 x0) rfl hA18
              refine gy rfl rfl s36 b2 (ldI (H29.atv 0 rfl).w ty3 rfl s37 ?_)
              intro rv15
              exact ⟨_, rfl, Ext.refl _, ⟨rfl, rv15⟩⟩
            refine ⟨fun _ => ⟨fun f23 w24 hf22 xt23 hp22 => ?_, by rintro _ _ _ x_ ⟨ad10, e_, hA10⟩; exact ⟨ad10, e_, hA10.lift (Up.ext x_)⟩⟩, ?_⟩
            ·
              have H30 := H4.ext xt23
              have s38 : f23 30 = .bool (decide (x0 < (fi.length : Int))) := hp22 15 rfl rfl
              have s39 : f23 32 = .slice a_fi fi.length c_fi := hp22 17 rfl rfl
              obtain ⟨s40, rv16⟩ : f23 36 = .int .i64 x0 ∧ I64 (x0) := hp22 21 rfl rfl
              refine gy rfl rfl s38 b2 (ia (H30.rv 3 rfl) rfl rfl s39 s40 (by first | omega | (simp; omega)) un64 ty102 ?_)
              intro ad19 x16 hx16 hA19
              obtain rfl : x6 = x16 := Option.some.inj (hx6.symm.trans hx16)
              exact ⟨_, rfl, Ext.refl _, ⟨ad19, rfl, hA19⟩⟩
            refine ⟨fun _ => ⟨fun f24 w25 hf23 xt24 hp23 => ?_, by rintro _ _ _ x_ ⟨ad10, e_, hA10⟩; exact ⟨ad10, e_, hA10.lift (Up.ext x_)⟩⟩, ?_⟩
            ·
              have H31 := H4.ext xt24
              have s41 : f24 30 = .bool (decide (x0 < (fi.length : Int))) := hp23 15 rfl rfl
              obtain ⟨ad20, s42, hA20⟩ : ∃ (ad20 : Addr), f24 37 = .pointer (some ad20) ∧ At (MS M [own w.heap.size 3 (.slice a0 out.length c0) out, box bb0 #[.slice a_fv n_fv c_fv, .slice a_fi fi.length c_fi, .slice a_fo n_fo c_fo] 66, imm (.slice a_l l.length c_l) l, imm (.slice a_fi fi.length c_fi) fi]) w25 ad20 x6 := hp23 22 rfl rfl
              have H32 := H31.put (it := atI ad20 x6) rfl hA20
              refine gy rfl rfl s41 b2 (fa fl102_2 rfl s42 ?_)
              exact ⟨_, rfl, Ext.refl _, ⟨ad20, rfl, (by assumption)⟩⟩
            refine ⟨fun _ => ⟨fun f25 w26 hf24 xt25 hp24 => ?_, fun _ _ _ _ h => h⟩, ?_⟩
            ·
              have H33 := H4.ext xt25
              have s43 : f25 30 = .bool (decide (x0 < (fi.length : Int))) := hp24 15 rfl rfl
              obtain ⟨ad21, s44, hA21⟩ : ∃ (ad21 : Addr), f25 38 = .pointer (some ((ad21).add 2)) ∧ At (MS M [own w.heap.size 3 (.slice a0 out.length c0) out, box bb0 #[.slice a_fv n_fv c_fv, .slice a_fi fi.length c_fi, .slice a_fo n_fo c_fo] 66, imm (.slice a_l l.length c_l) l, imm (.slice a_fi fi.length c_fi) fi]) w26 ad21 x6 := hp24 23 rfl rfl
              have H34 := H33.put (it := atI ad21 x6) rfl hA21
              refine gy rfl rfl s43 b2 (ldB (((H34.atv 0 rfl)).s2).fst.w ty4 rfl s44 ?_)
              exact ⟨_, rfl, Ext.refl _, rfl⟩
            refine ⟨fun _ => ⟨fun f26 w27 hf25 xt26 hp25 => ?_, fun _ _ _ _ h => h⟩, ?_⟩
            ·
              have H35 := H4.ext xt26
              have s45 : f26 30 = .bool (decide (x0 < (fi.length : Int))) := hp25 15 rfl rfl
              have s46 : f26 39 = .bool x6.2.2.1 := hp25 24 rfl rfl
              refine pickT rfl rfl rfl s45 b2 s46 ?_
              exact ⟨_, rfl, Ext.refl _, rfl⟩
            refine ⟨fun _ => ⟨fun f27 w28 hf26 xt27 hp26 => ?_, fun _ _ _ _ h => h⟩, ?_⟩
            ·
              have H36 := H4.ext xt27
              have s47 : f27 40 = .bool x6.2.2.1 := hp26 25 rfl rfl
              refine mv rfl s47 ?_
              exact ⟨_, rfl, Ext.refl _, rfl⟩
            refine ⟨fun _ => ⟨fun f28 w29 hf27 xt28 hp27 => ?_, fun _ _ _ _ h => h⟩, ?_⟩
            ·
              have H37 := H4.ext xt28
              have s48 : f28 41 = .bool x6.2.2.1 := hp27 26 rfl rfl
              refine gy rfl rfl s48 b3 (fa fl66_1 rfl ((hf27 3 rfl).trans s2) ?_)
              exact ⟨_, rfl, Ext.refl _, rfl⟩
            refine ⟨fun _ => ⟨fun f29 w30 hf28 xt29 hp28 => ?_, fun _ _ _ _ h => h⟩, ?_⟩
            ·
              have H38 := H4.ext xt29
              have s49 : f29 41 = .bool x6.2.2.1 := hp28 26 rfl rfl
              have s50 : f29 42 = .pointer (some ⟨bb0, 1, none⟩) := hp28 27 rfl rfl
              refine gy rfl rfl s49 b3 (ldX H38 1 rfl ty64 rfl s50 (by decide) rfl ?_)
              exact ⟨_, rfl, Ext.refl _, rfl⟩
            refine ⟨fun _ => ⟨fun f30 w31 hf29 xt30 hp29 => ?_, fun _ _ _ _ h => h⟩, ?_⟩
            ·
              have H39 := H4.ext xt30
              have s51 : f30 41 = .bool x6.2.2.1 := hp29 26 rfl rfl
              refine gy rfl rfl s51 b3 (mv rfl ((hf29 1 rfl).trans s0) ?_)
              exact ⟨_, rfl, Ext.refl _, rfl⟩
            refine ⟨fun _ => ⟨fun f31 w32 hf30 xt31 hp30 => ?_, fun _ _ _ _ h => h⟩, ?_⟩
            ·
              have H40 := H4.ext xt31
              have s52 : f31 41 = .bool x6.2.2.1 := hp30 26 rfl rfl
              refine gy rfl rfl s52 b3 (mv rfl ((hf30 8 rfl).trans s4) ?_)
              exact ⟨_, rfl, Ext.refl _, rfl⟩
            refine ⟨fun _ => ⟨fun f32 w33 hf31 xt32 hp31 => ?_, by rintro _ _ _ x_ ⟨ad11, e_, hA11⟩; exact ⟨ad11, e_, hA11.lift (Up.ext x_)⟩⟩, ?_⟩
            ·
              have H41 := H4.ext xt32
              have s53 : f32 41 = .bool x6.2.2.1 := hp31 26 rfl rfl
              have s54 : f32 44 = .slice a_l l.length c_l := hp31 29 rfl rfl
              have s55 : f32 45 = .int .i64 (q : Int) := hp31 30 rfl rfl
              refine gy rfl rfl s53 b3 (ia (H41.rv 2 rfl) rfl rfl s54 s55 (by first | omega | (simp; omega)) un42 ty3 ?_)
              intro ad22 x17 hx17 hA22
              obtain rfl : x0 = x17 := Option.some.inj (hx0.symm.trans hx17)
              exact ⟨_, rfl, Ext.refl _, ⟨ad22, rfl, hA22⟩⟩
            refine ⟨fun _ => ⟨fun f33 w34 hf32 xt33 hp32 => ?_, fun _ _ _ _ h => h⟩, ?_⟩
            ·
              have H42 := H4.ext xt33
              have s56 : f33 41 = .bool x6.2.2.1 := hp32 26 rfl rfl
              obtain ⟨ad23, s57, hA23⟩ : ∃ (ad23 : Addr), f33 46 = .pointer (some ad23) ∧ At (MS M [own w.heap.size 3 (.slice a0 out.length c0) out, box bb0 #[.slice a_fv n_fv c_fv, .slice a_fi fi.length c_fi, .slice a_fo n_fo c_fo] 66, imm (.slice a_l l.length c_l) l, imm (.slice a_fi fi.length c_fi) fi]) w34 ad23 x0 := hp32 31 rfl rfl
              have H43 := H42.put (it := atI ad23 x0) rfl hA23
              refine gy rfl rfl s56 b3 (ldI (H43.atv 0 rfl).w ty3 rfl s57 ?_)
              intro rv17
              exact ⟨_, rfl, Ext.refl _, ⟨rfl, rv17⟩⟩
            refine ⟨fun _ => ⟨fun f34 w35 hf33 xt34 hp33 => ?_, by rintro _ _ _ x_ ⟨ad12, e_, hA12⟩; exact ⟨ad12, e_, hA12.lift (Up.ext x_)⟩⟩, ?_⟩
            ·
              have H44 := H4.ext xt34
              have s58 : f34 41 = .bool x6.2.2.1 := hp33 26 rfl rfl
              have s59 : f34 43 = .slice a_fi fi.length c_fi := hp33 28 rfl rfl
              obtain ⟨s60, rv18⟩ : f34 47 = .int .i64 x0 ∧ I64 (x0) := hp33 32 rfl rfl
              refine gy rfl rfl s58 b3 (ia (H44.rv 3 rfl) rfl rfl s59 s60 (by first | omega | (simp; omega)) un64 ty102 ?_)
              intro ad24 x18 hx18 hA24
              obtain rfl : x6 = x18 := Option.some.inj (hx6.symm.trans hx18)
              exact ⟨_, rfl, Ext.refl _, ⟨ad24, rfl, hA24⟩⟩
            refine ⟨fun _ => ⟨fun f35 w36 hf34 xt35 hp34 => ?_, by rintro _ _ _ x_ ⟨ad12, e_, hA12⟩; exact ⟨ad12, e_, hA12.lift (Up.ext x_)⟩⟩, ?_⟩
            ·
              have H45 := H4.ext xt35
              have s61 : f35 41 = .bool x6.2.2.1 := hp34 26 rfl rfl
              obtain ⟨ad25, s62, hA25⟩ : ∃ (ad25 : Addr), f35 48 = .pointer (some ad25) ∧ At (MS M [own w.heap.size 3 (.slice a0 out.length c0) out, box bb0 #[.slice a_fv n_fv c_fv, .slice a_fi fi.length c_fi, .slice a_fo n_fo c_fo] 66, imm (.slice a_l l.length c_l) l, imm (.slice a_fi fi.length c_fi) fi]) w36 ad25 x6 := hp34 33 rfl rfl
              have H46 := H45.put (it := atI ad25 x6) rfl hA25
              refine gy rfl rfl s61 b3 (fa fl102_3 rfl s62 ?_)
              exact ⟨_, rfl, Ext.refl _, ⟨ad25, rfl, (by assumption)⟩⟩
            refine ⟨fun _ => ⟨fun f36 w37 hf35 xt36 hp35 => ?_, fun _ _ _ _ h => h⟩, ?_⟩
            ·
              have H47 := H4.ext xt36
              have s63 : f36 41 = .bool x6.2.2.1 := hp35 26 rfl rfl
              obtain ⟨ad26, s64, hA26⟩ : ∃ (ad26 : Addr), f36 49 = .pointer (some ((ad26).add 3)) ∧ At (MS M [own w.heap.size 3 (.slice a0 out.length c0) out, box bb0 #[.slice a_fv n_fv c_fv, .slice a_fi fi.length c_fi, .slice a_fo n_fo c_fo] 66, imm (.slice a_l l.length c_l) l, imm (.slice a_fi fi.length c_fi) fi]) w37 ad26 x6 := hp35 34 rfl rfl
              have H48 := H47.put (it := atI ad26 x6) rfl hA26
              refine gy rfl rfl s63 b3 (ldI (((H48.atv 0 rfl)).s3).fst.w ty3 rfl s64 ?_)
              intro rv19
              exact ⟨_, rfl, Ext.refl _, ⟨rfl, rv19⟩⟩
            refine ⟨fun _ => ⟨fun f37 w38 hf36 xt37 hp36 => ?_, fun _ _ _ _ h => h⟩, ?_⟩
            ·
              have H49 := H4.ext xt37
              have s65 : f37 41 = .bool x6.2.2.1 := hp36 26 rfl rfl
              refine gy rfl rfl s65 b3 (mv rfl ((hf36 2 rfl).trans s1) ?_)
              exact ⟨_, rfl, Ext.refl _, rfl⟩
            exact DSteps.rest rfl _
          · intro f38 w39 hf37 xt38 hp37
            have H50 := H4.ext xt38
            have s66 : f38 1 = .slice a_l l.length c_l := (hf37 1 rfl).trans s0
            have s67 : f38 2 = .int .i64 vr := (hf37 2 rfl).trans s1
            have s68 : f38 3 = .pointer (some ⟨bb0, 0, none⟩) := (hf37 3 rfl).trans s2
            have s69 : f38 7 = .slice a0 out.length c0 := (hf37 7 rfl).trans s3
            have s70 : f38 8 = .int .i64 (q : Int) := (hf37 8 rfl).trans s4
            have s71 : f38 41 = .bool x6.2.2.1 := hp37 26 rfl
            obtain ⟨s72, rv20⟩ : f38 50 = .int .i64 x6.2.2.2.1 ∧ I64 (x6.2.2.2.1) := hp37 35 rfl
            have s73 : f38 51 = .int .i64 vr := hp37 36 rfl
            refine k (gy rfl rfl s71 b3 (eql rfl rfl s72 s73 (k (pickT rfl rfl rfl s71 b3 rfl (z (nx ?_))))))
            refine cd (b := decide (x6.2.2.2.1 = vr)) rfl rfl (fun b4 => ?_) (fun b4 => ?_)
            ·
              have p4 := of_decide_eq_true b4
              refine rg (k (mv rfl s69 (k (mv rfl s66 (k (mv rfl s70 (k (ia (H50.rv 2 rfl) rfl rfl rfl rfl (by first | omega | (simp; omega)) un42 ty3 ?_))))))))
              intro ad27 x19 hx19 hA27
              refine k (ldI hA27.w ty3 rfl rfl ?_)
              intro rv21
              refine k (bs (xs := ([x19] : List Int)) (cells := #[.int .i64 x19]) (e := 3) H50 rfl (pbc rfl pb0) (fun _ => by kernel_rfl) ⟨[.int .i64 x19], [], rfl, ⟨rfl, (show I64 (x19) from (by unfold I64 at *; omega))⟩, rfl⟩ rfl (by unfold maxLen; omega) ?_)
              intro g0 w40 xt39 (H51 : HI M w w40 [own w.heap.size 3 (.slice (some ⟨g0, 0, none⟩) 1 1) ([x19] : List Int), own w.heap.size 3 (.slice a0 out.length c0) out, box bb0 #[.slice a_fv n_fv c_fv, .slice a_fi fi.length c_fi, .slice a_fo n_fo c_fo] 66, imm (.slice a_l l.length c_l) l, imm (.slice a_fi fi.length c_fi) fi])
              refine k (ap H51 1 rfl rfl rfl rfl rfl rfl (own_src (H51.at_ 0 rfl)) un42 ty3 rfl (by have h_ := keep_len l q (wrB fi vr); rw [hs]; simp only [List.length_cons, List.length_nil]; omega) (by have h_ := keep_len l q (wrB fi vr); rw [hs]; simp only [List.length_cons, List.length_nil]; omega) ?_)
              intro a1 c1 w41 (H52 : HI M w w41 [own w.heap.size 3 (.slice (some ⟨g0, 0, none⟩) 1 1) ([x19] : List Int), own w.heap.size 3 (.slice a1 (out ++ ([x19] : List Int)).length c1) (out ++ ([x19] : List Int)), box bb0 #[.slice a_fv n_fv c_fv, .slice a_fi fi.length c_fi, .slice a_fo n_fo c_fo] 66, imm (.slice a_l l.length c_l) l, imm (.slice a_fi fi.length c_fi) fi])
              refine k (asg (v := .slice a1 (out ++ ([x19] : List Int)).length c1) rfl rfl (z (inb_normal (nx (rg (k (mv rfl s70 (k (add rfl rfl rfl rfl (by unfold I64 at *; omega) (k (asg (v := .int .i64 ((q : Int) + 1)) rfl rfl (z ?_))))))))))))
              have H53 : HI M w w41 [own w.heap.size 3 (.slice a1 (out ++ ([x19] : List Int)).length c1) (out ++ ([x19] : List Int)), box bb0 #[.slice a_fv n_fv c_fv, .slice a_fi fi.length c_fi, .slice a_fo n_fo c_fo] 66, imm (.slice a_l l.length c_l) l, imm (.slice a_fi fi.length c_fi) fi] := H52.pickN [1, 2, 3, 4] (by decide) rfl
              refine loopN _ ?_ ⟨(q + 1), (out ++ ([x19] : List Int)), a1, c1, rfl, s66, s67, s68, rfl, (ieq rfl (by first | rfl | omega | (push_cast; omega))), H53, (by first | assumption | omega | simp | (simp; omega)), (by (try (have e_ := at_is hx1 hx0; subst e_)); (try (have e_ := at_is hx2 hx0; subst e_)); (try (have e_ := at_is hx3 hx0; subst e_)); (try (have e_ := at_is hx4 hx0; subst e_)); (try (have e_ := at_is hx5 hx0; subst e_)); (try (have e_ := at_is hx6 hx0; subst e_)); (try (have e_ := at_is hx7 hx0; subst e_)); (try (have e_ := at_is hx8 hx0; subst e_)); (try (have e_ := at_is hx9 hx0; subst e_)); (try (have e_ := at_is hx10 hx0; subst e_)); (try (have e_ := at_is hx11 hx0; subst e_)); (try (have e_ := at_is hx12 hx0; subst e_)); (try (have e_ := at_is hx13 hx0; subst e_)); (try (have e_ := at_is hx14 hx0; subst e_)); (try (have e_ := at_is hx15 hx0; subst e_)); (try (have e_ := at_is hx16 hx0; subst e_)); (try (have e_ := at_is hx17 hx0; subst e_)); (try (have e_ := at_is hx18 hx0; subst e_)); (try (have e_ := at_is hx19 hx0; subst e_)); (try (have e_ := at_is hx20 hx0; subst e_)); (try (have e_ := at_is hx21 hx0; subst e_)); (try (have e_ := at_is hx22 hx0; subst e_)); (try (have e_ := at_is hx23 hx0; subst e_)); (try (have e_ := at_is hx24 hx0; subst e_)); (try (have e_ := at_is hx25 hx0; subst e_)); (try (have e_ := at_is hx26 hx0; subst e_)); (try (have e_ := at_is hx27 hx0; subst e_)); (try (have e_ := at_is hx28 hx0; subst e_)); (try (have e_ := at_is hx29 hx0; subst e_)); (try (have e_ := at_is hx30 hx0; subst e_)); (try (have e_ := at_is hx31 hx0; subst e_)); (try (have e_ := at_is hx32 hx0; subst e_)); (try (have e_ := at_is hx33 hx0; subst e_)); (try (have e_ := at_is hx34 hx0; subst e_)); (try (have e_ := at_is hx35 hx0; subst e_)); (try (have e_ := at_is hx36 hx0; subst e_)); (try (have e_ := at_is hx37 hx0; subst e_)); (try (have e_ := at_is hx38 hx0; subst e_)); (try (have e_ := at_is hx39 hx0; subst e_)); rw [hs]; first | exact keep_yes hx0 (by exact wrB_yes (by omega) (by assumption) (by assumption) (by assumption)) | exact keep_no hx0 (by first | exact wrB_neg (by omega) | exact wrB_out (by omega) | exact wrB_nw (by omega) (by assumption) (by assumption) | exact wrB_nv (by omega) (by assumption) (by assumption)))⟩
              omega
            ·
              have p4 := of_decide_eq_false b4
              refine sk (inb_normal (nx (rg (k (mv rfl s70 (k (add rfl rfl rfl rfl (by unfold I64 at *; omega) (k (asg (v := .int .i64 ((q : Int) + 1)) rfl rfl (z ?_))))))))))
              refine loopN _ ?_ ⟨(q + 1), out, a0, c0, rfl, s66, s67, s68, s69, (ieq rfl (by first | rfl | omega | (push_cast; omega))), H50, (by first | assumption | omega | simp | (simp; omega)), (by (try (have e_ := at_is hx1 hx0; subst e_)); (try (have e_ := at_is hx2 hx0; subst e_)); (try (have e_ := at_is hx3 hx0; subst e_)); (try (have e_ := at_is hx4 hx0; subst e_)); (try (have e_ := at_is hx5 hx0; subst e_)); (try (have e_ := at_is hx6 hx0; subst e_)); (try (have e_ := at_is hx7 hx0; subst e_)); (try (have e_ := at_is hx8 hx0; subst e_)); (try (have e_ := at_is hx9 hx0; subst e_)); (try (have e_ := at_is hx10 hx0; subst e_)); (try (have e_ := at_is hx11 hx0; subst e_)); (try (have e_ := at_is hx12 hx0; subst e_)); (try (have e_ := at_is hx13 hx0; subst e_)); (try (have e_ := at_is hx14 hx0; subst e_)); (try (have e_ := at_is hx15 hx0; subst e_)); (try (have e_ := at_is hx16 hx0; subst e_)); (try (have e_ := at_is hx17 hx0; subst e_)); (try (have e_ := at_is hx18 hx0; subst e_)); (try (have e_ := at_is hx19 hx0; subst e_)); (try (have e_ := at_is hx20 hx0; subst e_)); (try (have e_ := at_is hx21 hx0; subst e_)); (try (have e_ := at_is hx22 hx0; subst e_)); (try (have e_ := at_is hx23 hx0; subst e_)); (try (have e_ := at_is hx24 hx0; subst e_)); (try (have e_ := at_is hx25 hx0; subst e_)); (try (have e_ := at_is hx26 hx0; subst e_)); (try (have e_ := at_is hx27 hx0; subst e_)); (try (have e_ := at_is hx28 hx0; subst e_)); (try (have e_ := at_is hx29 hx0; subst e_)); (try (have e_ := at_is hx30 hx0; subst e_)); (try (have e_ := at_is hx31 hx0; subst e_)); (try (have e_ := at_is hx32 hx0; subst e_)); (try (have e_ := at_is hx33 hx0; subst e_)); (try (have e_ := at_is hx34 hx0; subst e_)); (try (have e_ := at_is hx35 hx0; subst e_)); (try (have e_ := at_is hx36 hx0; subst e_)); (try (have e_ := at_is hx37 hx0; subst e_)); (try (have e_ := at_is hx38 hx0; subst e_)); (try (have e_ := at_is hx39 hx0; subst e_)); rw [hs]; first | exact keep_yes hx0 (by exact wrB_yes (by omega) (by assumption) (by assumption) (by assumption)) | exact keep_no hx0 (by first | exact wrB_neg (by omega) | exact wrB_out (by omega) | exact wrB_nw (by omega) (by assumption) (by assumption) | exact wrB_nv (by omega) (by assumption) (by assumption)))⟩
              omega
        · -- x6.2.2.1 is False
          refine dr 37 [fun (v : Value) (w' : World) => v = .slice a_l l.length c_l, fun (v : Value) (w' : World) => v = .int .i64 (q : Int), fun (v : Value) (w' : World) => ∃ (ad7 : Addr), v = .pointer (some ad7) ∧ At (MS M [own w.heap.size 3 (.slice a0 out.length c0) out, box bb0 #[.slice a_fv n_fv c_fv, .slice a_fi fi.length c_fi, .slice a_fo n_fo c_fo] 66, imm (.slice a_l l.length c_l) l, imm (.slice a_fi fi.length c_fi) fi]) w' ad7 x0, fun (v : Value) (w' : World) => v = .int .i64 x0 ∧ I64 (x0), fun (v : Value) (w' : World) => v = .bool (decide (0 ≤ x0)), fun (v : Value) (w' : World) => v = .bool (decide (0 ≤ x0)), fun (v : Value) (w' : World) => v = .slice a_l l.length c_l, fun (v : Value) (w' : World) => v = .int .i64 (q : Int), fun (v : Value) (w' : World) => ∃ (ad8 : Addr), v = .pointer (some ad8) ∧ At (MS M [own w.heap.size 3 (.slice a0 out.length c0) out, box bb0 #[.slice a_fv n_fv c_fv, .slice a_fi fi.length c_fi, .slice a_fo n_fo c_fo] 66, imm (.slice a_l l.length c_l) l, imm (.slice a_fi fi.length c_fi) fi]) w' ad8 x0, fun (v : Value) (w' : World) => v = .int .i64 x0 ∧ I64 (x0), fun (v : Value) (w' : World) => v = .pointer (some ⟨bb0, 1, none⟩), fun (v : Value) (w' : World) => v = .slice a_fi fi.length c_fi, fun (v : Value) (w' : World) => v = .int .i64 (fi.length : Int), fun (v : Value) (w' : World) => v = .bool (decide (x0 < (fi.length : Int))), fun (v : Value) (w' : World) => v = .bool (decide (x0 < (fi.length : Int))), fun (v : Value) (w' : World) => v = .bool (decide (x0 < (fi.length : Int))), fun (v : Value) (w' : World) => v = .pointer (some ⟨bb0, 1, none⟩), fun (v : Value) (w' : World) => v = .slice a_fi fi.length c_fi, fun (v : Value) (w' : World) => v = .slice a_l l.length c_l, fun (v : Value) (w' : World) => v = .int .i64 (q : Int), fun (v : Value) (w' : World) => ∃ (ad9 : Addr), v = .pointer (some ad9) ∧ At (MS M [own w.heap.size 3 (.slice a0 out.length c0) out, box bb0 #[.slice a_fv n_fv c_fv, .slice a_fi fi.length c_fi, .slice a_fo n_fo c_fo] 66, imm (.slice a_l l.length c_l) l, imm (.slice a_fi fi.length c_fi) fi]) w' ad9 x0, fun (v : Value) (w' : World) => v = .int .i64 x0 ∧ I64 (x0), fun (v : Value) (w' : World) => ∃ (ad10 : Addr), v = .pointer (some ad10) ∧ At (MS M [own w.heap.size 3 (.slice a0 out.length c0) out, box bb0 #[.slice a_fv n_fv c_fv, .slice a_fi fi.length c_fi, .slice a_fo n_fo c_fo] 66, imm (.slice a_l l.length c_l) l, imm (.slice a_fi fi.length c_fi) fi]) w' ad10 x6, fun (v : Value) (w' : World) => ∃ (ad10 : Addr), v = .pointer (some ((ad10).add 2)) ∧ At (MS M [own w.heap.size 3 (.slice a0 out.length c0) out, box bb0 #[.slice a_fv n_fv c_fv, .slice a_fi fi.length c_fi, .slice a_fo n_fo c_fo] 66, imm (.slice a_l l.length c_l) l, imm (.slice a_fi fi.length c_fi) fi]) w' ad10 x6, fun (v : Value) (w' : World) => v = .bool x6.2.2.1, fun (v : Value) (w' : World) => v = .bool x6.2.2.1, fun (v : Value) (w' : World) => v = .bool x6.2.2.1, fun (v : Value) (_ : World) => v = undef, fun (v : Value) (_ : World) => v = undef, fun (v : Value) (_ : World) => v = undef, fun (v : Value) (_ : World) => v = undef, fun (v : Value) (_ : World) => v = undef, fun (v : Value) (_ : World) => v = undef, fun (v : Value) (_ : World) => v = undef, fun (v : Value) (_ : World) => v = undef, fun (v : Value) (_ : World) => v = undef, fun (v : Value) (_ : World) => v = undef] rfl (by kernel_rfl) ?_ ?_
          ·
            refine ⟨fun _ => ⟨fun f1 w2 hf0 xt1 hp0 => ?_, fun _ _ _ _ h => h⟩, ?_⟩
            ·
              have H5 := H4.ext xt1
              refine mv rfl ((hf0 1 rfl).trans s0) ?_
              exact ⟨_, rfl, Ext.refl _, rfl⟩
            refine ⟨fun _ => ⟨fun f2 w3 hf1 xt2 hp1 => ?_, fun _ _ _ _ h => h⟩, ?_⟩
            ·
              have H6 := H4.ext xt2
              refine mv rfl ((hf1 8 rfl).trans s4) ?_
              exact ⟨_, rfl, Ext.refl _, rfl⟩
            refine ⟨fun _ => ⟨fun f3 w4 hf2 xt3 hp2 => ?_, by rintro _ _ _ x_ ⟨ad7, e_, hA7⟩; exact ⟨ad7, e_, hA7.lift (Up.ext x_)⟩⟩, ?_⟩
            ·
              have H7 := H4.ext xt3
              have s5 : f3 15 = .slice a_l l.length c_l := hp2 0 rfl rfl
              have s6 : f3 16 = .int .i64 (q : Int) := hp2 1 rfl rfl
              refine ia (H7.rv 2 rfl) rfl rfl s5 s6 (by first | omega | (simp; omega)) un42 ty3 ?_
              intro ad11 x11 hx11 hA11
              obtain rfl : x0 = x11 := Option.some.inj (hx0.symm.trans hx11)
              exact ⟨_, rfl, Ext.refl _, ⟨ad11, rfl, hA11⟩⟩
            refine ⟨fun _ => ⟨fun f4 w5 hf3 xt4 hp3 => ?_, fun _ _ _ _ h => h⟩, ?_⟩
            ·
              have H8 := H4.ext xt4
              obtain ⟨ad12, s7, hA12⟩ : ∃ (ad12 : Addr), f4 17 = .pointer (some ad12) ∧ At (MS M [own w.heap.size 3 (.slice a0 out.length c0) out, box bb0 #[.slice a_fv n_fv c_fv, .slice a_fi fi.length c_fi, .slice a_fo n_fo c_fo] 66, imm (.slice a_l l.length c_l) l, imm (.slice a_fi fi.length c_fi) fi]) w5 ad12 x0 := hp3 2 rfl rfl
              have H9 := H8.put (it := atI ad12 x0) rfl hA12
              refine ldI (H9.atv 0 rfl).w ty3 rfl s7 ?_
              intro rv9
              exact ⟨_, rfl, Ext.refl _, ⟨rfl, rv9⟩⟩
            refine ⟨fun _ => ⟨fun f5 w6 hf4 xt5 hp4 => ?_, fun _ _ _ _ h => h⟩, ?_⟩
            ·
              have H10 := H4.ext xt5
              obtain ⟨s8, rv10⟩ : f5 18 = .int .i64 x0 ∧ I64 (x0) := hp4 3 rfl rfl
              refine geq rfl rfl s8 rfl ?_
              exact ⟨_, rfl, Ext.refl _, rfl⟩
            refine ⟨fun _ => ⟨fun f6 w7 hf5 xt6 hp5 => ?_, fun _ _ _ _ h => h⟩, ?_⟩
            ·
              have H11 := H4.ext xt6
              have s9 : f6 19 = .bool (decide (0 ≤ x0)) := hp5 4 rfl rfl
              refine mv rfl s9 ?_
              exact ⟨_, rfl, Ext.refl _, rfl⟩
            refine ⟨fun _ => ⟨fun f7 w8 hf6 xt7 hp6 => ?_, fun _ _ _ _ h => h⟩, ?_⟩
            ·
              have H12 := H4.ext xt7
              have s10 : f7 20 = .bool (decide (0 ≤ x0)) := hp6 5 rfl rfl
              refine gy rfl rfl s10 b1 (mv rfl ((hf6 1 rfl).trans s0) ?_)
              exact ⟨_, rfl, Ext.refl _, rfl⟩
            refine ⟨fun _ => ⟨fun f8 w9 hf7 xt8 hp7 => ?_, fun _ _ _ _ h => h⟩, ?_⟩
            ·
              have H13 := H4.ext xt8
              have s11 : f8 20 = .bool (decide (0 ≤ x0)) := hp7 5 rfl rfl
              refine gy rfl rfl s11 b1 (mv rfl ((hf7 8 rfl).trans s4) ?_)
              exact ⟨_, rfl, Ext.refl _, rfl⟩
            refine ⟨fun _ => ⟨fun f9 w10 hf8 xt9 hp8 => ?_, by rintro _ _ _ x_ ⟨ad8, e_, hA8⟩; exact ⟨ad8, e_, hA8.lift (Up.ext x_)⟩⟩, ?_⟩
            ·
              have H14 := H4.ext xt9
              have s12 : f9 20 = .bool (decide (0 ≤ x0)) := hp8 5 rfl rfl
              have s13 : f9 21 = .slice a_l l.length c_l := hp8 6 rfl rfl
              have s14 : f9 22 = .int .i64 (q : Int) := hp8 7 rfl rfl
              refine gy rfl rfl s12 b1 (ia (H14.rv 2 rfl) rfl rfl s13 s14 (by first | omega | (simp; omega)) un42 ty3 ?_)
              intro ad13 x12 hx12 hA13
              obtain rfl : x0 = x12 := Option.some.inj (hx0.symm.trans hx12)
              exact ⟨_, rfl, Ext.refl _, ⟨ad13, rfl, hA13⟩⟩
            refine ⟨fun _ => ⟨fun f10 w11 hf9 xt10 hp9 => ?_, fun _ _ _ _ h => h⟩, ?_⟩
            ·
              have H15 := H4.ext xt10
              have s15 : f10 20 = .bool (decide (0 ≤ x0)) := hp9 5 rfl rfl
              obtain ⟨ad14, s16, hA14⟩ : ∃ (ad14 : Addr), f10 23 = .pointer (some ad14) ∧ At (MS M [own w.heap.size 3 (.slice a0 out.length c0) out, box bb0 #[.slice a_fv n_fv c_fv, .slice a_fi fi.length c_fi, .slice a_fo n_fo c_fo] 66, imm (.slice a_l l.length c_l) l, imm (.slice a_fi fi.length c_fi) fi]) w11 ad14 x0 := hp9 8 rfl rfl
              have H16 := H15.put (it := atI ad14 x0) rfl hA14
              refine gy rfl rfl s15 b1 (ldI (H16.atv 0 rfl).w ty3 rfl s16 ?_)
              intro rv11
              exact ⟨_, rfl, Ext.refl _, ⟨rfl, rv11⟩⟩
            refine ⟨fun _ => ⟨fun f11 w12 hf10 xt11 hp10 => ?_, fun _ _ _ _ h => h⟩, ?_⟩
            ·
              have H17 := H4.ext xt11
              have s17 : f11 20 = .bool (decide (0 ≤ x0)) := hp10 5 rfl rfl
              refine gy rfl rfl s17 b1 (fa fl66_1 rfl ((hf10 3 rfl).trans s2) ?_)
              exact ⟨_, rfl, Ext.refl _, rfl⟩
            refine ⟨fun _ => ⟨fun f12 w13 hf11 xt12 hp11 => ?_, fun _ _ _ _ h => h⟩, ?_⟩
            ·
              have H18 := H4.ext xt12
              have s18 : f12 20 = .bool (decide (0 ≤ x0)) := hp11 5 rfl rfl
              have s19 : f12 25 = .pointer (some ⟨bb0, 1, none⟩) := hp11 10 rfl rfl
              refine gy rfl rfl s18 b1 (ldX H18 1 rfl ty64 rfl s19 (by decide) rfl ?_)
              exact ⟨_, rfl, Ext.refl _, rfl⟩
            refine ⟨fun _ => ⟨fun f13 w14 hf12 xt13 hp12 => ?_, fun _ _ _ _ h => h⟩, ?_⟩
            ·
              have H19 := H4.ext xt13
              have s20 : f13 20 = .bool (decide (0 ≤ x0)) := hp12 5 rfl rfl
              have s21 : f13 26 = .slice a_fi fi.length c_fi := hp12 11 rfl rfl
              refine gy rfl rfl s20 b1 (lnS rfl s21 un64 ?_)
              exact ⟨_, rfl, Ext.refl _, rfl⟩
            refine ⟨fun _ => ⟨fun f14 w15 hf13 xt14 hp13 => ?_, fun _ _ _ _ h => h⟩, ?_⟩
            ·
              have H20 := H4.ext xt14
              have s22 : f14 20 = .bool (decide (0 ≤ x0)) := hp13 5 rfl rfl
              obtain ⟨s23, rv12⟩ : f14 24 = .int .i64 x0 ∧ I64 (x0) := hp13 9 rfl rfl
              have s24 : f14 27 = .int .i64 (fi.length : Int) := hp13 12 rfl rfl
              refine gy rfl rfl s22 b1 (lss rfl rfl s23 s24 ?_)
              exact ⟨_, rfl, Ext.refl _, rfl⟩
            refine ⟨fun _ => ⟨fun f15 w16 hf14 xt15 hp14 => ?_, fun _ _ _ _ h => h⟩, ?_⟩
            ·
              have H21 := H4.ext xt15
              have s25 : f15 20 = .bool (decide (0 ≤ x0)) := hp14 5 rfl rfl
              have s26 : f15 28 = .bool (decide (x0 < (fi.length : Int))) := hp14 13 rfl rfl
              refine pickT rfl rfl rfl s25 b1 s26 ?_
              exact ⟨_, rfl, Ext.refl _, rfl⟩
            refine ⟨fun _ => ⟨fun f16 w17 hf15 xt16 hp15 => ?_, fun _ _ _ _ h => h⟩, ?_⟩
            ·
              have H22 := H4.ext xt16
              have s27 : f16 29 = .bool (decide (x0 < (fi.length : Int))) := hp15 14 rfl rfl
              refine mv rfl s27 ?_
              exact ⟨_, rfl, Ext.refl _, rfl⟩
            refine ⟨fun _ => ⟨fun f17 w18 hf16 xt17 hp16 => ?_, fun _ _ _ _ h => h⟩, ?_⟩
            ·
              have H23 := H4.ext xt17
              have s28 : f17 30 = .bool (decide (x0 < (fi.length : Int))) := hp16 15 rfl rfl
              refine gy rfl rfl s28 b2 (fa fl66_1 rfl ((hf16 3 rfl).trans s2) ?_)
              exact ⟨_, rfl, Ext.refl _, rfl⟩
            refine ⟨fun _ => ⟨fun f18 w19 hf17 xt18 hp17 => ?_, fun _ _ _ _ h => h⟩, ?_⟩
            ·
              have H24 := H4.ext xt18
              have s29 : f18 30 = .bool (decide (x0 < (fi.length : Int))) := hp17 15 rfl rfl
              have s30 : f18 31 = .pointer (some ⟨bb0, 1, none⟩) := hp17 16 rfl rfl
              refine gy rfl rfl s29 b2 (ldX H24 1 rfl ty64 rfl s30 (by decide) rfl ?_)
              exact ⟨_, rfl, Ext.refl _, rfl⟩
            refine ⟨fun _ => ⟨fun f19 w20 hf18 xt19 hp18 => ?_, fun _ _ _ _ h => h⟩, ?_⟩
            ·
              have H25 := H4.ext xt19
              have s31 : f19 30 = .bool (decide (x0 < (fi.length : Int))) := hp18 15 rfl rfl
              refine gy rfl rfl s31 b2 (mv rfl ((hf18 1 rfl).trans s0) ?_)
              exact ⟨_, rfl, Ext.refl _, rfl⟩
            refine ⟨fun _ => ⟨fun f20 w21 hf19 xt20 hp19 => ?_, fun _ _ _ _ h => h⟩, ?_⟩
            ·
              have H26 := H4.ext xt20
              have s32 : f20 30 = .bool (decide (x0 < (fi.length : Int))) := hp19 15 rfl rfl
              refine gy rfl rfl s32 b2 (mv rfl ((hf19 8 rfl).trans s4) ?_)
              exact ⟨_, rfl, Ext.refl _, rfl⟩
            refine ⟨fun _ => ⟨fun f21 w22 hf20 xt21 hp20 => ?_, by rintro _ _ _ x_ ⟨ad9, e_, hA9⟩; exact ⟨ad9, e_, hA9.lift (Up.ext x_)⟩⟩, ?_⟩
            ·
              have H27 := H4.ext xt21
              have s33 : f21 30 = .bool (decide (x0 < (fi.length : Int))) := hp20 15 rfl rfl
              have s34 : f21 33 = .slice a_l l.length c_l := hp20 18 rfl rfl
              have s35 : f21 34 = .int .i64 (q : Int) := hp20 19 rfl rfl
              refine gy rfl rfl s33 b2 (ia (H27.rv 2 rfl) rfl rfl s34 s35 (by first | omega | (simp; omega)) un42 ty3 ?_)
              intro ad15 x13 hx13 hA15
              obtain rfl : x0 = x13 := Option.some.inj (hx0.symm.trans hx13)
              exact ⟨_, rfl, Ext.refl _, ⟨ad15, rfl, hA15⟩⟩
            refine ⟨fun _ => ⟨fun f22 w23 hf21 xt22 hp21 => ?_, fun _ _ _ _ h => h⟩, ?_⟩
            ·
              have H28 := H4.ext xt22
              have s36 : f22 30 = .bool (decide (x0 < (fi.length : Int))) := hp21 15 rfl rfl
              obtain ⟨ad16, s37, hA16⟩ : ∃ (ad16 : Addr), f22 35 = .pointer (some ad16) ∧ At (MS M [own w.heap.size 3 (.slice a0 out.length c0) out, box bb0 #[.slice a_fv n_fv c_fv, .slice a_fi fi.length c_fi, .slice a_fo n_fo c_fo] 66, imm (.slice a_l l.length c_l) l, imm (.slice a_fi fi.length c_fi) fi]) w23 ad16 x0 := hp21 20 rfl rfl
              have H29 := H28.put (it := atI ad16 x0) rfl hA16
              refine gy rfl rfl s36 b2 (ldI (H29.atv 0 rfl).w ty3 rfl s37 ?_)
              intro rv13
              exact ⟨_, rfl, Ext.refl _, ⟨rfl, rv13⟩⟩
            refine ⟨fun _ => ⟨fun f23 w24 hf22 xt23 hp22 => ?_, by rintro _ _ _ x_ ⟨ad10, e_, hA10⟩; exact ⟨ad10, e_, hA10.lift (Up.ext x_)⟩⟩, ?_⟩
            ·
              have H30 := H4.ext xt23
              have s38 : f23 30 = .bool (decide (x0 < (fi.length : Int))) := hp22 15 rfl rfl
              have s39 : f23 32 = .slice a_fi fi.length c_fi := hp22 17 rfl rfl
              obtain ⟨s40, rv14⟩ : f23 36 = .int .i64 x0 ∧ I64 (x0) := hp22 21 rfl rfl
              refine gy rfl rfl s38 b2 (ia (H30.rv 3 rfl) rfl rfl s39 s40 (by first | omega | (simp; omega)) un64 ty102 ?_)
              intro ad17 x14 hx14 hA17
              obtain rfl : x6 = x14 := Option.some.inj (hx6.symm.trans hx14)
              exact ⟨_, rfl, Ext.refl _, ⟨ad17, rfl, hA17⟩⟩
            refine ⟨fun _ => ⟨fun f24 w25 hf23 xt24 hp23 => ?_, by rintro _ _ _ x_ ⟨ad10, e_, hA10⟩; exact ⟨ad10, e_, hA10.lift (Up.ext x_)⟩⟩, ?_⟩
            ·
              have H31 := H4.ext xt24
              have s41 : f24 30 = .bool (decide (x0 < (fi.length : Int))) := hp23 15 rfl rfl
              obtain ⟨ad18, s42, hA18⟩ : ∃ (ad18 : Addr), f24 37 = .pointer (some ad18) ∧ At (MS M [own w.heap.size 3 (.slice a0 out.length c0) out, box bb0 #[.slice a_fv n_fv c_fv, .slice a_fi fi.length c_fi, .slice a_fo n_fo c_fo] 66, imm (.slice a_l l.length c_l) l, imm (.slice a_fi fi.length c_fi) fi]) w25 ad18 x6 := hp23 22 rfl rfl
              have H32 := H31.put (it := atI ad18 x6) rfl hA18
              refine gy rfl rfl s41 b2 (fa fl102_2 rfl s42 ?_)
              exact ⟨_, rfl, Ext.refl _, ⟨ad18, rfl, (by assumption)⟩⟩
            refine ⟨fun _ => ⟨fun f25 w26 hf24 xt25 hp24 => ?_, fun _ _ _ _ h => h⟩, ?_⟩
            ·
              have H33 := H4.ext xt25
              have s43 : f25 30 = .bool (decide (x0 < (fi.length : Int))) := hp24 15 rfl rfl
              obtain ⟨ad19, s44, hA19⟩ : ∃ (ad19 : Addr), f25 38 = .pointer (some ((ad19).add 2)) ∧ At (MS M [own w.heap.size 3 (.slice a0 out.length c0) out, box bb0 #[.slice a_fv n_fv c_fv, .slice a_fi fi.length c_fi, .slice a_fo n_fo c_fo] 66, imm (.slice a_l l.length c_l) l, imm (.slice a_fi fi.length c_fi) fi]) w26 ad19 x6 := hp24 23 rfl rfl
              have H34 := H33.put (it := atI ad19 x6) rfl hA19
              refine gy rfl rfl s43 b2 (ldB (((H34.atv 0 rfl)).s2).fst.w ty4 rfl s44 ?_)
              exact ⟨_, rfl, Ext.refl _, rfl⟩
            refine ⟨fun _ => ⟨fun f26 w27 hf25 xt26 hp25 => ?_, fun _ _ _ _ h => h⟩, ?_⟩
            ·
              have H35 := H4.ext xt26
              have s45 : f26 30 = .bool (decide (x0 < (fi.length : Int))) := hp25 15 rfl rfl
              have s46 : f26 39 = .bool x6.2.2.1 := hp25 24 rfl rfl
              refine pickT rfl rfl rfl s45 b2 s46 ?_
              exact ⟨_, rfl, Ext.refl _, rfl⟩
            refine ⟨fun _ => ⟨fun f27 w28 hf26 xt27 hp26 => ?_, fun _ _ _ _ h => h⟩, ?_⟩
            ·
              have H36 := H4.ext xt27
              have s47 : f27 40 = .bool x6.2.2.1 := hp26 25 rfl rfl
              refine mv rfl s47 ?_
              exact ⟨_, rfl, Ext.refl _, rfl⟩
            refine ⟨fun _ => ⟨fun f28 w29 hf27 xt28 hp27 => ?_, fun _ _ _ _ h => h⟩, ?_⟩
            ·
              have H37 := H4.ext xt28
              have s48 : f28 41 = .bool x6.2.2.1 := hp27 26 rfl rfl
              refine gn rfl rfl s48 b3 ?_
              exact ⟨_, rfl, Ext.refl _, rfl⟩
            refine ⟨fun _ => ⟨fun f29 w30 hf28 xt29 hp28 => ?_, fun _ _ _ _ h => h⟩, ?_⟩
            ·
              have H38 := H4.ext xt29
              have s49 : f29 41 = .bool x6.2.2.1 := hp28 26 rfl rfl
              have s50 : f29 42 = undef := hp28 27 rfl rfl
              refine gn rfl rfl s49 b3 ?_
              exact ⟨_, rfl, Ext.refl _, rfl⟩
            refine ⟨fun _ => ⟨fun f30 w31 hf29 xt30 hp29 => ?_, fun _ _ _ _ h => h⟩, ?_⟩
            ·
              have H39 := H4.ext xt30
              have s51 : f30 41 = .bool x6.2.2.1 := hp29 26 rfl rfl
              refine gn rfl rfl s51 b3 ?_
              exact ⟨_, rfl, Ext.refl _, rfl⟩
            refine ⟨fun _ => ⟨fun f31 w32 hf30 xt31 hp30 => ?_, fun _ _ _ _ h => h⟩, ?_⟩
            ·
              have H40 := H4.ext xt31
              have s52 : f31 41 = .bool x6.2.2.1 := hp30 26 rfl rfl
              refine gn rfl rfl s52 b3 ?_
              exact ⟨_, rfl, Ext.refl _, rfl⟩
            refine ⟨fun _ => ⟨fun f32 w33 hf31 xt32 hp31 => ?_, fun _ _ _ _ h => h⟩, ?_⟩
            ·
              have H41 := H4.ext xt32
              have s53 : f32 41 = .bool x6.2.2.1 := hp31 26 rfl rfl
              have s54 : f32 44 = undef := hp31 29 rfl rfl
              have s55 : f32 45 = undef := hp31 30 rfl rfl
              refine gn rfl rfl s53 b3 ?_
              exact ⟨_, rfl, Ext.refl _, rfl⟩
            refine ⟨fun _ => ⟨fun f33 w34 hf32 xt33 hp32 => ?_, fun _ _ _ _ h => h⟩, ?_⟩
            ·
              have H42 := H4.ext xt33
              have s56 : f33 41 = .bool x6.2.2.1 := hp32 26 rfl rfl
              have s57 : f33 46 = undef := hp32 31 rfl rfl
              refine gn rfl rfl s56 b3 ?_
              exact ⟨_, rfl, Ext.refl _, rfl⟩
            refine ⟨fun _ => ⟨fun f34 w35 hf33 xt34 hp33 => ?_, fun _ _ _ _ h => h⟩, ?_⟩
            ·
              have H43 := H4.ext xt34
              have s58 : f34 41 = .bool x6.2.2.1 := hp33 26 rfl rfl
              have s59 : f34 43 = undef := hp33 28 rfl rfl
              have s60 : f34 47 = undef := hp33 32 rfl rfl
              refine gn rfl rfl s58 b3 ?_
              exact ⟨_, rfl, Ext.refl _, rfl⟩
            refine ⟨fun _ => ⟨fun f35 w36 hf34 xt35 hp34 => ?_, fun _ _ _ _ h => h⟩, ?_⟩
            ·
              have H44 := H4.ext xt35
              have s61 : f35 41 = .bool x6.2.2.1 := hp34 26 rfl rfl
              have s62 : f35 48 = undef := hp34 33 rfl rfl
              refine gn rfl rfl s61 b3 ?_
              exact ⟨_, rfl, Ext.refl _, rfl⟩
            refine ⟨fun _ => ⟨fun f36 w37 hf35 xt36 hp35 => ?_, fun _ _ _ _ h => h⟩, ?_⟩
            ·
              have H45 := H4.ext xt36
              have s63 : f36 41 = .bool x6.2.2.1 := hp35 26 rfl rfl
              have s64 : f36 49 = undef := hp35 34 rfl rfl
              refine gn rfl rfl s63 b3 ?_
              exact ⟨_, rfl, Ext.refl _, rfl⟩
            refine ⟨fun _ => ⟨fun f37 w38 hf36 xt37 hp36 => ?_, fun _ _ _ _ h => h⟩, ?_⟩
            ·
              have H46 := H4.ext xt37
              have s65 : f37 41 = .bool x6.2.2.1 := hp36 26 rfl rfl
              refine gn rfl rfl s65 b3 ?_
              exact ⟨_, rfl, Ext.refl _, rfl⟩
            exact DSteps.rest rfl _
          · intro f38 w39 hf37 xt38 hp37
            have H47 := H4.ext xt38
            have s66 : f38 1 = .slice a_l l.length c_l := (hf37 1 rfl).trans s0
            have s67 : f38 2 = .int .i64 vr := (hf37 2 rfl).trans s1
            have s68 : f38 3 = .pointer (some ⟨bb0, 0, none⟩) := (hf37 3 rfl).trans s2
            have s69 : f38 7 = .slice a0 out.length c0 := (hf37 7 rfl).trans s3
            have s70 : f38 8 = .int .i64 (q : Int) := (hf37 8 rfl).trans s4
            have s71 : f38 41 = .bool x6.2.2.1 := hp37 26 rfl
            have s72 : f38 50 = undef := hp37 35 rfl
            have s73 : f38 51 = undef := hp37 36 rfl
            refine k (gn rfl rfl s71 b3 (k (pickF rfl rfl rfl s71 b3 rfl (z (nx (cdF rfl rfl rfl (sk (inb_normal (nx (rg (k (mv rfl s70 (k (add rfl rfl rfl rfl (by unfold I64 at *; omega) (k (asg (v := .int .i64 ((q : Int) + 1)) rfl rfl (z ?_)))))))))))))))))
            refine loopN _ ?_ ⟨(q + 1), out, a0, c0, rfl, s66, s67, s68, s69, (ieq rfl (by first | rfl | omega | (push_cast; omega))), H47, (by first | assumption | omega | simp | (simp; omega)), (by (try (have e_ := at_is hx1 hx0; subst e_)); (try (have e_ := at_is hx2 hx0; subst e_)); (try (have e_ := at_is hx3 hx0; subst e_)); (try (have e_ := at_is hx4 hx0; subst e_)); (try (have e_ := at_is hx5 hx0; subst e_)); (try (have e_ := at_is hx6 hx0; subst e_)); (try (have e_ := at_is hx7 hx0; subst e_)); (try (have e_ := at_is hx8 hx0; subst e_)); (try (have e_ := at_is hx9 hx0; subst e_)); (try (have e_ := at_is hx10 hx0; subst e_)); (try (have e_ := at_is hx11 hx0; subst e_)); (try (have e_ := at_is hx12 hx0; subst e_)); (try (have e_ := at_is hx13 hx0; subst e_)); (try (have e_ := at_is hx14 hx0; subst e_)); (try (have e_ := at_is hx15 hx0; subst e_)); (try (have e_ := at_is hx16 hx0; subst e_)); (try (have e_ := at_is hx17 hx0; subst e_)); (try (have e_ := at_is hx18 hx0; subst e_)); (try (have e_ := at_is hx19 hx0; subst e_)); (try (have e_ := at_is hx20 hx0; subst e_)); (try (have e_ := at_is hx21 hx0; subst e_)); (try (have e_ := at_is hx22 hx0; subst e_)); (try (have e_ := at_is hx23 hx0; subst e_)); (try (have e_ := at_is hx24 hx0; subst e_)); (try (have e_ := at_is hx25 hx0; subst e_)); (try (have e_ := at_is hx26 hx0; subst e_)); (try (have e_ := at_is hx27 hx0; subst e_)); (try (have e_ := at_is hx28 hx0; subst e_)); (try (have e_ := at_is hx29 hx0; subst e_)); (try (have e_ := at_is hx30 hx0; subst e_)); (try (have e_ := at_is hx31 hx0; subst e_)); (try (have e_ := at_is hx32 hx0; subst e_)); (try (have e_ := at_is hx33 hx0; subst e_)); (try (have e_ := at_is hx34 hx0; subst e_)); (try (have e_ := at_is hx35 hx0; subst e_)); (try (have e_ := at_is hx36 hx0; subst e_)); (try (have e_ := at_is hx37 hx0; subst e_)); (try (have e_ := at_is hx38 hx0; subst e_)); (try (have e_ := at_is hx39 hx0; subst e_)); rw [hs]; first | exact keep_yes hx0 (by exact wrB_yes (by omega) (by assumption) (by assumption) (by assumption)) | exact keep_no hx0 (by first | exact wrB_neg (by omega) | exact wrB_out (by omega) | exact wrB_nw (by omega) (by assumption) (by assumption) | exact wrB_nv (by omega) (by assumption) (by assumption)))⟩
            omega
      · -- decide (x0 < (fi.length : Int)) is False
        have p2 := of_decide_eq_false b2
        refine dr 37 [fun (v : Value) (w' : World) => v = .slice a_l l.length c_l, fun (v : Value) (w' : World) => v = .int .i64 (q : Int), fun (v : Value) (w' : World) => ∃ (ad3 : Addr), v = .pointer (some ad3) ∧ At (MS M [own w.heap.size 3 (.slice a0 out.length c0) out, box bb0 #[.slice a_fv n_fv c_fv, .slice a_fi fi.length c_fi, .slice a_fo n_fo c_fo] 66, imm (.slice a_l l.length c_l) l, imm (.slice a_fi fi.length c_fi) fi]) w' ad3 x0, fun (v : Value) (w' : World) => v = .int .i64 x0 ∧ I64 (x0), fun (v : Value) (w' : World) => v = .bool (decide (0 ≤ x0)), fun (v : Value) (w' : World) => v = .bool (decide (0 ≤ x0)), fun (v : Value) (w' : World) => v = .slice a_l l.length c_l, fun (v : Value) (w' : World) => v = .int .i64 (q : Int), fun (v : Value) (w' : World) => ∃ (ad4 : Addr), v = .pointer (some ad4) ∧ At (MS M [own w.heap.size 3 (.slice a0 out.length c0) out, box bb0 #[.slice a_fv n_fv c_fv, .slice a_fi fi.length c_fi, .slice a_fo n_fo c_fo] 66, imm (.slice a_l l.length c_l) l, imm (.slice a_fi fi.length c_fi) fi]) w' ad4 x0, fun (v : Value) (w' : World) => v = .int .i64 x0 ∧ I64 (x0), fun (v : Value) (w' : World) => v = .pointer (some ⟨bb0, 1, none⟩), fun (v : Value) (w' : World) => v = .slice a_fi fi.length c_fi, fun (v : Value) (w' : World) => v = .int .i64 (fi.length : Int), fun (v : Value) (w' : World) => v = .bool (decide (x0 < (fi.length : Int))), fun (v : Value) (w' : World) => v = .bool (decide (x0 < (fi.length : Int))), fun (v : Value) (w' : World) => v = .bool (decide (x0 < (fi.length : Int))), fun (v : Value) (_ : World) => v = undef, fun (v : Value) (_ : World) => v = undef, fun (v : Value) (_ : World) => v = undef, fun (v : Value) (_ : World) => v = undef, fun (v : Value) (_ : World) => v = undef, fun (v : Value) (_ : World) => v = undef, fun (v : Value) (_ : World) => v = undef, fun (v : Value) (_ : World) => v = undef, fun (v : Value) (_ : World) => v = undef, fun (v : Value) (w' : World) => v = .bool false, fun (v : Value) (w' : World) => v = .bool false, fun (v : Value) (_ : World) => v = undef, fun (v : Value) (_ : World) => v = undef, fun (v : Value) (_ : World) => v = undef, fun (v : Value) (_ : World) => v = undef, fun (v : Value) (_ : World) => v = undef, fun (v : Value) (_ : World) => v = undef, fun (v : Value) (_ : World) => v = undef, fun (v : Value) (_ : World) => v = undef, fun (v : Value) (_ : World) => v = undef, fun (v : Value) (_ : World) => v = undef] rfl (by kernel_rfl) ?_ ?_
        ·
          refine ⟨fun _ => ⟨fun f1 w2 hf0 xt1 hp0 => ?_, fun _ _ _ _ h => h⟩, ?_⟩
          ·
            have H5 := H4.ext xt1
            refine mv rfl ((hf0 1 rfl).trans s0) ?_
            exact ⟨_, rfl, Ext.refl _, rfl⟩
          refine ⟨fun _ => ⟨fun f2 w3 hf1 xt2 hp1 => ?_, fun _ _ _ _ h => h⟩, ?_⟩
          ·
            have H6 := H4.ext xt2
            refine mv rfl ((hf1 8 rfl).trans s4) ?_
            exact ⟨_, rfl, Ext.refl _, rfl⟩
          refine ⟨fun _ => ⟨fun f3 w4 hf2 xt3 hp2 => ?_, by rintro _ _ _ x_ ⟨ad3, e_, hA3⟩; exact ⟨ad3, e_, hA3.lift (Up.ext x_)⟩⟩, ?_⟩
          ·
            have H7 := H4.ext xt3
            have s5 : f3 15 = .slice a_l l.length c_l := hp2 0 rfl rfl
            have s6 : f3 16 = .int .i64 (q : Int) := hp2 1 rfl rfl
            refine ia (H7.rv 2 rfl) rfl rfl s5 s6 (by first | omega | (simp; omega)) un42 ty3 ?_
            intro ad5 x5 hx5 hA5
            obtain rfl : x0 = x5 := Option.some.inj (hx0.symm.trans hx5)
            exact ⟨_, rfl, Ext.refl _, ⟨ad5, rfl, hA5⟩⟩
          refine ⟨fun _ => ⟨fun f4 w5 hf3 xt4 hp3 => ?_, fun _ _ _ _ h => h⟩, ?_⟩
          ·
            have H8 := H4.ext xt4
            obtain ⟨ad6, s7, hA6⟩ : ∃ (ad6 : Addr), f4 17 = .pointer (some ad6) ∧ At (MS M [own w.heap.size 3 (.slice a0 out.length c0) out, box bb0 #[.slice a_fv n_fv c_fv, .slice a_fi fi.length c_fi, .slice a_fo n_fo c_fo] 66, imm (.slice a_l l.length c_l) l, imm (.slice a_fi fi.length c_fi) fi]) w5 ad6 x0 := hp3 2 rfl rfl
            have H9 := H8.put (it := atI ad6 x0) rfl hA6
            refine ldI (H9.atv 0 rfl).w ty3 rfl s7 ?_
            intro rv5
            exact ⟨_, rfl, Ext.refl _, ⟨rfl, rv5⟩⟩
          refine ⟨fun _ => ⟨fun f5 w6 hf4 xt5 hp4 => ?_, fun _ _ _ _ h => h⟩, ?_⟩
          ·
            have H10 := H4.ext xt5
            obtain ⟨s8, rv6⟩ : f5 18 = .int .i64 x0 ∧ I64 (x0) := hp4 3 rfl rfl
            refine geq rfl rfl s8 rfl ?_
            exact ⟨_, rfl, Ext.refl _, rfl⟩
          refine ⟨fun _ => ⟨fun f6 w7 hf5 xt6 hp5 => ?_, fun _ _ _ _ h => h⟩, ?_⟩
          ·
            have H11 := H4.ext xt6
            have s9 : f6 19 = .bool (decide (0 ≤ x0)) := hp5 4 rfl rfl
            refine mv rfl s9 ?_
            exact ⟨_, rfl, Ext.refl _, rfl⟩
          refine ⟨fun _ => ⟨fun f7 w8 hf6 xt7 hp6 => ?_, fun _ _ _ _ h => h⟩, ?_⟩
          ·
            have H12 := H4.ext xt7
            have s10 : f7 20 = .bool (decide (0 ≤ x0)) := hp6 5 rfl rfl
            refine gy rfl rfl s10 b1 (mv rfl ((hf6 1 rfl).trans s0) ?_)
            exact ⟨_, rfl, Ext.refl _, rfl⟩
          refine ⟨fun _ => ⟨fun f8 w9 hf7 xt8 hp7 => ?_, fun _ _ _ _ h => h⟩, ?_⟩
          ·
            have H13 := H4.ext xt8
            have s11 : f8 20 = .bool (decide (0 ≤ x0)) := hp7 5 rfl rfl
            refine gy rfl rfl s11 b1 (mv rfl ((hf7 8 rfl).trans s4) ?_)
            exact ⟨_, rfl, Ext.refl _, rfl⟩
          refine ⟨fun _ => ⟨fun f9 w10 hf8 xt9 hp8 => ?_, by rintro _ _ _ x_ ⟨ad4, e_, hA4⟩; exact ⟨ad4, e_, hA4.lift (Up.ext x_)⟩⟩, ?_⟩
          ·
            have H14 := H4.ext xt9
            have s12 : f9 20 = .bool (decide (0 ≤ x0)) := hp8 5 rfl rfl
            have s13 : f9 21 = .slice a_l l.length c_l := hp8 6 rfl rfl
            have s14 : f9 22 = .int .i64 (q : Int) := hp8 7 rfl rfl
            refine gy rfl rfl s12 b1 (ia (H14.rv 2 rfl) rfl rfl s13 s14 (by first | omega | (simp; omega)) un42 ty3 ?_)
            intro ad7 x6 hx6 hA7
            obtain rfl : x0 = x6 := Option.some.inj (hx0.symm.trans hx6)
            exact ⟨_, rfl, Ext.refl _, ⟨ad7, rfl, hA7⟩⟩
          refine ⟨fun _ => ⟨fun f10 w11 hf9 xt10 hp9 => ?_, fun _ _ _ _ h => h⟩, ?_⟩
          ·
            have H15 := H4.ext xt10
            have s15 : f10 20 = .bool (decide (0 ≤ x0)) := hp9 5 rfl rfl
            obtain ⟨ad8, s16, hA8⟩ : ∃ (ad8 : Addr), f10 23 = .pointer (some ad8) ∧ At (MS M [own w.heap.size 3 (.slice a0 out.length c0) out, box bb0 #[.slice a_fv n_fv c_fv, .slice a_fi fi.length c_fi, .slice a_fo n_fo c_fo] 66, imm (.slice a_l l.length c_l) l, imm (.slice a_fi fi.length c_fi) fi]) w11 ad8 x0 := hp9 8 rfl rfl
            have H16 := H15.put (it := atI ad8 x0) rfl hA8
            refine gy rfl rfl s15 b1 (ldI (H16.atv 0 rfl).w ty3 rfl s16 ?_)
            intro rv7
            exact ⟨_, rfl, Ext.refl _, ⟨rfl, rv7⟩⟩
          refine ⟨fun _ => ⟨fun f11 w12 hf10 xt11 hp10 => ?_, fun _ _ _ _ h => h⟩, ?_⟩
          ·
            have H17 := H4.ext xt11
            have s17 : f11 20 = .bool (decide (0 ≤ x0)) := hp10 5 rfl rfl
            refine gy rfl rfl s17 b1 (fa fl66_1 rfl ((hf10 3 rfl).trans s2) ?_)
            exact ⟨_, rfl, Ext.refl _, rfl⟩
          refine ⟨fun _ => ⟨fun f12 w13 hf11 xt12 hp11 => ?_, fun _ _ _ _ h => h⟩, ?_⟩
          ·
            have H18 := H4.ext xt12
            have s18 : f12 20 = .bool (decide (0 ≤ x0)) := hp11 5 rfl rfl
            have s19 : f12 25 = .pointer (some ⟨bb0, 1, none⟩) := hp11 10 rfl rfl
            refine gy rfl rfl s18 b1 (ldX H18 1 rfl ty64 rfl s19 (by decide) rfl ?_)
            exact ⟨_, rfl, Ext.refl _, rfl⟩
          refine ⟨fun _ => ⟨fun f13 w14 hf12 xt13 hp12 => ?_, fun _ _ _ _ h => h⟩, ?_⟩
          ·
            have H19 := H4.ext xt13
            have s20 : f13 20 = .bool (decide (0 ≤ x0)) := hp12 5 rfl rfl
            have s21 : f13 26 = .slice a_fi fi.length c_fi := hp12 11 rfl rfl
            refine gy rfl rfl s20 b1 (lnS rfl s21 un64 ?_)
            exact ⟨_, rfl, Ext.refl _, rfl⟩
          refine ⟨fun _ => ⟨fun f14 w15 hf13 xt14 hp13 => ?_, fun _ _ _ _ h => h⟩, ?_⟩
          ·
            have H20 := H4.ext xt14
            have s22 : f14 20 = .bool (decide (0 ≤ x0)) := hp13 5 rfl rfl
            obtain ⟨s23, rv8⟩ : f14 24 = .int .i64 x0 ∧ I64 (x0) := hp13 9 rfl rfl
            have s24 : f14 27 = .int .i64 (fi.length : Int) := hp13 12 rfl rfl
            refine gy rfl rfl s22 b1 (lss rfl rfl s23 s24 ?_)
            exact ⟨_, rfl, Ext.refl _, rfl⟩
          refine ⟨fun _ => ⟨fun f15 w16 hf14 xt15 hp14 => ?_, fun _ _ _ _ h => h⟩, ?_⟩
          ·
            have H21 := H4.ext xt15
            have s25 : f15 20 = .bool (decide (0 ≤ x0)) := hp14 5 rfl rfl
            have s26 : f15 28 = .bool (decide (x0 < (fi.length : Int))) := hp14 13 rfl rfl
            refine pickT rfl rfl rfl s25 b1 s26 ?_
            exact ⟨_, rfl, Ext.refl _, rfl⟩
          refine ⟨fun _ => ⟨fun f16 w17 hf15 xt16 hp15 => ?_, fun _ _ _ _ h => h⟩, ?_⟩
          ·
            have H22 := H4.ext xt16
            have s27 : f16 29 = .bool (decide (x0 < (fi.length : Int))) := hp15 14 rfl rfl
            refine mv rfl s27 ?_
            exact ⟨_, rfl, Ext.refl _, rfl⟩
          refine ⟨fun _ => ⟨fun f17 w18 hf16 xt17 hp16 => ?_, fun _ _ _ _ h => h⟩, ?_⟩
          ·
            have H23 := H4.ext xt17
            have s28 : f17 30 = .bool (decide (x0 < (fi.length : Int))) := hp16 15 rfl rfl
            refine gn rfl rfl s28 b2 ?_
            exact ⟨_, rfl, Ext.refl _, rfl⟩
          refine ⟨fun _ => ⟨fun f18 w19 hf17 xt18 hp17 => ?_, fun _ _ _ _ h => h⟩, ?_⟩
          ·
            have H24 := H4.ext xt18
            have s29 : f18 30 = .bool (decide (x0 < (fi.length : Int))) := hp17 15 rfl rfl
            have s30 : f18 31 = undef := hp17 16 rfl rfl
            refine gn rfl rfl s29 b2 ?_
            exact ⟨_, rfl, Ext.refl _, rfl⟩
          refine ⟨fun _ => ⟨fun f19 w20 hf18 xt19 hp18 => ?_, fun _ _ _ _ h => h⟩, ?_⟩
          ·
            have H25 := H4.ext xt19
            have s31 : f19 30 = .bool (decide (x0 < (fi.length : Int))) := hp18 15 rfl rfl
            refine gn rfl rfl s31 b2 ?_
            exact ⟨_, rfl, Ext.refl _, rfl⟩
          refine ⟨fun _ => ⟨fun f20 w21 hf19 xt20 hp19 => ?_, fun _ _ _ _ h => h⟩, ?_⟩
          ·
            have H26 := H4.ext xt20
            have s32 : f20 30 = .bool (decide (x0 < (fi.length : Int))) := hp19 15 rfl rfl
            refine gn rfl rfl s32 b2 ?_
            exact ⟨_, rfl, Ext.refl _, rfl⟩
          refine ⟨fun _ => ⟨fun f21 w22 hf20 xt21 hp20 => ?_, fun _ _ _ _ h => h⟩, ?_⟩
          ·
            have H27 := H4.ext xt21
            have s33 : f21 30 = .bool (decide (x0 < (fi.length : Int))) := hp20 15 rfl rfl
            have s34 : f21 33 = undef := hp20 18 rfl rfl
            have s35 : f21 34 = undef := hp20 19 rfl rfl
            refine gn rfl rfl s33 b2 ?_
            exact ⟨_, rfl, Ext.refl _, rfl⟩
          refine ⟨fun _ => ⟨fun f22 w23 hf21 xt22 hp21 => ?_, fun _ _ _ _ h => h⟩, ?_⟩
          ·
            have H28 := H4.ext xt22
            have s36 : f22 30 = .bool (decide (x0 < (fi.length : Int))) := hp21 15 rfl rfl
            have s37 : f22 35 = undef := hp21 20 rfl rfl
            refine gn rfl rfl s36 b2 ?_
            exact ⟨_, rfl, Ext.refl _, rfl⟩
          refine ⟨fun _ => ⟨fun f23 w24 hf22 xt23 hp22 => ?_, fun _ _ _ _ h => h⟩, ?_⟩
          ·
            have H29 := H4.ext xt23
            have s38 : f23 30 = .bool (decide (x0 < (fi.length : Int))) := hp22 15 rfl rfl
            have s39 : f23 32 = undef := hp22 17 rfl rfl
            have s40 : f23 36 = undef := hp22 21 rfl rfl
            refine gn rfl rfl s38 b2 ?_
            exact ⟨_, rfl, Ext.refl _, rfl⟩
          refine ⟨fun _ => ⟨fun f24 w25 hf23 xt24 hp23 => ?_, fun _ _ _ _ h => h⟩, ?_⟩
          ·
            have H30 := H4.ext xt24
            have s41 : f24 30 = .bool (decide (x0 < (fi.length : Int))) := hp23 15 rfl rfl
            have s42 : f24 37 = undef := hp23 22 rfl rfl
            refine gn rfl rfl s41 b2 ?_
            exact ⟨_, rfl, Ext.refl _, rfl⟩
          refine ⟨fun _ => ⟨fun f25 w26 hf24 xt25 hp24 => ?_, fun _ _ _ _ h => h⟩, ?_⟩
          ·
            have H31 := H4.ext xt25
            have s43 : f25 30 = .bool (decide (x0 < (fi.length : Int))) := hp24 15 rfl rfl
            have s44 : f25 38 = undef := hp24 23 rfl rfl
            refine gn rfl rfl s43 b2 ?_
            exact ⟨_, rfl, Ext.refl _, rfl⟩
          refine ⟨fun _ => ⟨fun f26 w27 hf25 xt26 hp25 => ?_, fun _ _ _ _ h => h⟩, ?_⟩
          ·
            have H32 := H4.ext xt26
            have s45 : f26 30 = .bool (decide (x0 < (fi.length : Int))) := hp25 15 rfl rfl
            have s46 : f26 39 = undef := hp25 24 rfl rfl
            refine pickF rfl rfl rfl s45 b2 rfl ?_
            exact ⟨_, rfl, Ext.refl _, rfl⟩
          refine ⟨fun _ => ⟨fun f27 w28 hf26 xt27 hp26 => ?_, fun _ _ _ _ h => h⟩, ?_⟩
          ·
            have H33 := H4.ext xt27
            have s47 : f27 40 = .bool false := hp26 25 rfl rfl
            refine mv rfl s47 ?_
            exact ⟨_, rfl, Ext.refl _, rfl⟩
          refine ⟨fun _ => ⟨fun f28 w29 hf27 xt28 hp27 => ?_, fun _ _ _ _ h => h⟩, ?_⟩
          ·
            have H34 := H4.ext xt28
            have s48 : f28 41 = .bool false := hp27 26 rfl rfl
            refine gn rfl rfl s48 rfl ?_
            exact ⟨_, rfl, Ext.refl _, rfl⟩
          refine ⟨fun _ => ⟨fun f29 w30 hf28 xt29 hp28 => ?_, fun _ _ _ _ h => h⟩, ?_⟩
          ·
            have H35 := H4.ext xt29
            have s49 : f29 41 = .bool false := hp28 26 rfl rfl
            have s50 : f29 42 = undef := hp28 27 rfl rfl
            refine gn rfl rfl s49 rfl ?_
            exact ⟨_, rfl, Ext.refl _, rfl⟩
          refine ⟨fun _ => ⟨fun f30 w31 hf29 xt30 hp29 => ?_, fun _ _ _ _ h => h⟩, ?_⟩
          ·
            have H36 := H4.ext xt30
            have s51 : f30 41 = .bool false := hp29 26 rfl rfl
            refine gn rfl rfl s51 rfl ?_
            exact ⟨_, rfl, Ext.refl _, rfl⟩
          refine ⟨fun _ => ⟨fun f31 w32 hf30 xt31 hp30 => ?_, fun _ _ _ _ h => h⟩, ?_⟩
          ·
            have H37 := H4.ext xt31
            have s52 : f31 41 = .bool false := hp30 26 rfl rfl
            refine gn rfl rfl s52 rfl ?_
            exact ⟨_, rfl, Ext.refl _, rfl⟩
          refine ⟨fun _ => ⟨fun f32 w33 hf31 xt32 hp31 => ?_, fun _ _ _ _ h => h⟩, ?_⟩
          ·
            have H38 := H4.ext xt32
            have s53 : f32 41 = .bool false := hp31 26 rfl rfl
            have s54 : f32 44 = undef := hp31 29 rfl rfl
            have s55 : f32 45 = undef := hp31 30 rfl rfl
            refine gn rfl rfl s53 rfl ?_
            exact ⟨_, rfl, Ext.refl _, rfl⟩
          refine ⟨fun _ => ⟨fun f33 w34 hf32 xt33 hp32 => ?_, fun _ _ _ _ h => h⟩, ?_⟩
          ·
            have H39 := H4.ext xt33
            have s56 : f33 41 = .bool false := hp32 26 rfl rfl
            have s57 : f33 46 = undef := hp32 31 rfl rfl
            refine gn rfl rfl s56 rfl ?_
            exact ⟨_, rfl, Ext.refl _, rfl⟩
          refine ⟨fun _ => ⟨fun f34 w35 hf33 xt34 hp33 => ?_, fun _ _ _ _ h => h⟩, ?_⟩
          ·
            have H40 := H4.ext xt34
            have s58 : f34 41 = .bool false := hp33 26 rfl rfl
            have s59 : f34 43 = undef := hp33 28 rfl rfl
            have s60 : f34 47 = undef := hp33 32 rfl rfl
            refine gn rfl rfl s58 rfl ?_
            exact ⟨_, rfl, Ext.refl _, rfl⟩
          refine ⟨fun _ => ⟨fun f35 w36 hf34 xt35 hp34 => ?_, fun _ _ _ _ h => h⟩, ?_⟩
          ·
            have H41 := H4.ext xt35
            have s61 : f35 41 = .bool false := hp34 26 rfl rfl
            have s62 : f35 48 = undef := hp34 33 rfl rfl
            refine gn rfl rfl s61 rfl ?_
            exact ⟨_, rfl, Ext.refl _, rfl⟩
          refine ⟨fun _ => ⟨fun f36 w37 hf35 xt36 hp35 => ?_, fun _ _ _ _ h => h⟩, ?_⟩
          ·
            have H42 := H4.ext xt36
            have s63 : f36 41 = .bool false := hp35 26 rfl rfl
            have s64 : f36 49 = undef := hp35 34 rfl rfl
            refine gn rfl rfl s63 rfl ?_
            exact ⟨_, rfl, Ext.refl _, rfl⟩
          refine ⟨fun _ => ⟨fun f37 w38 hf36 xt37 hp36 => ?_, fun _ _ _ _ h => h⟩, ?_⟩
          ·
            have H43 := H4.ext xt37
            have s65 : f37 41 = .bool false := hp36 26 rfl rfl
            refine gn rfl rfl s65 rfl ?_
            exact ⟨_, rfl, Ext.refl _, rfl⟩
          exact DSteps.rest rfl _
        · intro f38 w39 hf37 xt38 hp37
          have H44 := H4.ext xt38
          have s66 : f38 1 = .slice a_l l.length c_l := (hf37 1 rfl).trans s0
          have s67 : f38 2 = .int .i64 vr := (hf37 2 rfl).trans s1
          have s68 : f38 3 = .pointer (some ⟨bb0, 0, none⟩) := (hf37 3 rfl).trans s2
          have s69 : f38 7 = .slice a0 out.length c0 := (hf37 7 rfl).trans s3
          have s70 : f38 8 = .int .i64 (q : Int) := (hf37 8 rfl).trans s4
          have s71 : f38 41 = .bool false := hp37 26 rfl
          have s72 : f38 50 = undef := hp37 35 rfl
          have s73 : f38 51 = undef := hp37 36 rfl
          refine k (gn rfl rfl s71 rfl (k (pickF rfl rfl rfl s71 rfl rfl (z (nx (cdF rfl rfl rfl (sk (inb_normal (nx (rg (k (mv rfl s70 (k (add rfl rfl rfl rfl (by unfold I64 at *; omega) (k (asg (v := .int .i64 ((q : Int) + 1)) rfl rfl (z ?_)))))))))))))))))
          refine loopN _ ?_ ⟨(q + 1), out, a0, c0, rfl, s66, s67, s68, s69, (ieq rfl (by first | rfl | omega | (push_cast; omega))), H44, (by first | assumption | omega | simp | (simp; omega)), (by (try (have e_ := at_is hx1 hx0; subst e_)); (try (have e_ := at_is hx2 hx0; subst e_)); (try (have e_ := at_is hx3 hx0; subst e_)); (try (have e_ := at_is hx4 hx0; subst e_)); (try (have e_ := at_is hx5 hx0; subst e_)); (try (have e_ := at_is hx6 hx0; subst e_)); (try (have e_ := at_is hx7 hx0; subst e_)); (try (have e_ := at_is hx8 hx0; subst e_)); (try (have e_ := at_is hx9 hx0; subst e_)); (try (have e_ := at_is hx10 hx0; subst e_)); (try (have e_ := at_is hx11 hx0; subst e_)); (try (have e_ := at_is hx12 hx0; subst e_)); (try (have e_ := at_is hx13 hx0; subst e_)); (try (have e_ := at_is hx14 hx0; subst e_)); (try (have e_ := at_is hx15 hx0; subst e_)); (try (have e_ := at_is hx16 hx0; subst e_)); (try (have e_ := at_is hx17 hx0; subst e_)); (try (have e_ := at_is hx18 hx0; subst e_)); (try (have e_ := at_is hx19 hx0; subst e_)); (try (have e_ := at_is hx20 hx0; subst e_)); (try (have e_ := at_is hx21 hx0; subst e_)); (try (have e_ := at_is hx22 hx0; subst e_)); (try (have e_ := at_is hx23 hx0; subst e_)); (try (have e_ := at_is hx24 hx0; subst e_)); (try (have e_ := at_is hx25 hx0; subst e_)); (try (have e_ := at_is hx26 hx0; subst e_)); (try (have e_ := at_is hx27 hx0; subst e_)); (try (have e_ := at_is hx28 hx0; subst e_)); (try (have e_ := at_is hx29 hx0; subst e_)); (try (have e_ := at_is hx30 hx0; subst e_)); (try (have e_ := at_is hx31 hx0; subst e_)); (try (have e_ := at_is hx32 hx0; subst e_)); (try (have e_ := at_is hx33 hx0; subst e_)); (try (have e_ := at_is hx34 hx0; subst e_)); (try (have e_ := at_is hx35 hx0; subst e_)); (try (have e_ := at_is hx36 hx0; subst e_)); (try (have e_ := at_is hx37 hx0; subst e_)); (try (have e_ := at_is hx38 hx0; subst e_)); (try (have e_ := at_is hx39 hx0; subst e_)); rw [hs]; first | exact keep_yes hx0 (by exact wrB_yes (by omega) (by assumption) (by assumption) (by assumption)) | exact keep_no hx0 (by first | exact wrB_neg (by omega) | exact wrB_out (by omega) | exact wrB_nw (by omega) (by assumption) (by assumption) | exact wrB_nv (by omega) (by assumption) (by assumption)))⟩
          omega
    · -- decide (0 ≤ x0) is False
      have p1 := of_decide_eq_false b1
      refine dr 37 [fun (v : Value) (w' : World) => v = .slice a_l l.length c_l, fun (v : Value) (w' : World) => v = .int .i64 (q : Int), fun (v : Value) (w' : World) => ∃ (ad1 : Addr), v = .pointer (some ad1) ∧ At (MS M [own w.heap.size 3 (.slice a0 out.length c0) out, box bb0 #[.slice a_fv n_fv c_fv, .slice a_fi fi.length c_fi, .slice a_fo n_fo c_fo] 66, imm (.slice a_l l.length c_l) l, imm (.slice a_fi fi.length c_fi) fi]) w' ad1 x0, fun (v : Value) (w' : World) => v = .int .i64 x0 ∧ I64 (x0), fun (v : Value) (w' : World) => v = .bool (decide (0 ≤ x0)), fun (v : Value) (w' : World) => v = .bool (decide (0 ≤ x0)), fun (v : Value) (_ : World) => v = undef, fun (v : Value) (_ : World) => v = undef, fun (v : Value) (_ : World) => v = undef, fun (v : Value) (_ : World) => v = undef, fun (v : Value) (_ : World) => v = undef, fun (v : Value) (_ : World) => v = undef, fun (v : Value) (_ : World) => v = undef, fun (v : Value) (_ : World) => v = undef, fun (v : Value) (w' : World) => v = .bool false, fun (v : Value) (w' : World) => v = .bool false, fun (v : Value) (_ : World) => v = undef, fun (v : Value) (_ : World) => v = undef, fun (v : Value) (_ : World) => v = undef, fun (v : Value) (_ : World) => v = undef, fun (v : Value) (_ : World) => v = undef, fun (v : Value) (_ : World) => v = undef, fun (v : Value) (_ : World) => v = undef, fun (v : Value) (_ : World) => v = undef, fun (v : Value) (_ : World) => v = undef, fun (v : Value) (w' : World) => v = .bool false, fun (v : Value) (w' : World) => v = .bool false, fun (v : Value) (_ : World) => v = undef, fun (v : Value) (_ : World) => v = undef, fun (v : Value) (_ : World) => v = undef, fun (v : Value) (_ : World) => v = undef, fun (v : Value) (_ : World) => v = undef, fun (v : Value) (_ : World) => v = undef, fun (v : Value) (_ : World) => v = undef, fun (v : Value) (_ : World) => v = undef, fun (v : Value) (_ : World) => v = undef, fun (v : Value) (_ : World) => v = undef] rfl (by kernel_rfl) ?_ ?_
      ·
        refine ⟨fun _ => ⟨fun f1 w2 hf0 xt1 hp0 => ?_, fun _ _ _ _ h => h⟩, ?_⟩
        ·
          have H5 := H4.ext xt1
          refine mv rfl ((hf0 1 rfl).trans s0) ?_
          exact ⟨_, rfl, Ext.refl _, rfl⟩
        refine ⟨fun _ => ⟨fun f2 w3 hf1 xt2 hp1 => ?_, fun _ _ _ _ h => h⟩, ?_⟩
        ·
          have H6 := H4.ext xt2
          refine mv rfl ((hf1 8 rfl).trans s4) ?_
          exact ⟨_, rfl, Ext.refl _, rfl⟩
        refine ⟨fun _ => ⟨fun f3 w4 hf2 xt3 hp2 => ?_, by rintro _ _ _ x_ ⟨ad1, e_, hA1⟩; exact ⟨ad1, e_, hA1.lift (Up.ext x_)⟩⟩, ?_⟩
        ·
          have H7 := H4.ext xt3
          have s5 : f3 15 = .slice a_l l.length c_l := hp2 0 rfl rfl
          have s6 : f3 16 = .int .i64 (q : Int) := hp2 1 rfl rfl
          refine ia (H7.rv 2 rfl) rfl rfl s5 s6 (by first | omega | (simp; omega)) un42 ty3 ?_
          intro ad2 x2 hx2 hA2
          obtain rfl : x0 = x2 := Option.some.inj (hx0.symm.trans hx2)
          exact ⟨_, rfl, Ext.refl _, ⟨ad2, rfl, hA2⟩⟩
        refine ⟨fun _ => ⟨fun f4 w5 hf3 xt4 hp3 => ?_, fun _ _ _ _ h => h⟩, ?_⟩
        ·
          have H8 := H4.ext xt4
          obtain ⟨ad3, s7, hA3⟩ : ∃ (ad3 : Addr), f4 17 = .pointer (some ad3) ∧ At (MS M [own w.heap.size 3 (.slice a0 out.length c0) out, box bb0 #[.slice a_fv n_fv c_fv, .slice a_fi fi.length c_fi, .slice a_fo n_fo c_fo] 66, imm (.slice a_l l.length c_l) l, imm (.slice a_fi fi.length c_fi) fi]) w5 ad3 x0 := hp3 2 rfl rfl
          have H9 := H8.put (it := atI ad3 x0) rfl hA3
          refine ldI (H9.atv 0 rfl).w ty3 rfl s7 ?_
          intro rv2
          exact ⟨_, rfl, Ext.refl _, ⟨rfl, rv2⟩⟩
        refine ⟨fun _ => ⟨fun f5 w6 hf4 xt5 hp4 => ?_, fun _ _ _ _ h => h⟩, ?_⟩
        ·
          have H10 := H4.ext xt5
          obtain ⟨s8, rv3⟩ : f5 18 = .int .i64 x0 ∧ I64 (x0) := hp4 3 rfl rfl
          refine geq rfl rfl s8 rfl ?_
          exact ⟨_, rfl, Ext.refl _, rfl⟩
        refine ⟨fun _ => ⟨fun f6 w7 hf5 xt6 hp5 => ?_, fun _ _ _ _ h => h⟩, ?_⟩
        ·
          have H11 := H4.ext xt6
          have s9 : f6 19 = .bool (decide (0 ≤ x0)) := hp5 4 rfl rfl
          refine mv rfl s9 ?_
          exact ⟨_, rfl, Ext.refl _, rfl⟩
        refine ⟨fun _ => ⟨fun f7 w8 hf6 xt7 hp6 => ?_, fun _ _ _ _ h => h⟩, ?_⟩
        ·
          have H12 := H4.ext xt7
          have s10 : f7 20 = .bool (decide (0 ≤ x0)) := hp6 5 rfl rfl
          refine gn rfl rfl s10 b1 ?_
          exact ⟨_, rfl, Ext.refl _, rfl⟩
        refine ⟨fun _ => ⟨fun f8 w9 hf7 xt8 hp7 => ?_, fun _ _ _ _ h => h⟩, ?_⟩
        ·
          have H13 := H4.ext xt8
          have s11 : f8 20 = .bool (decide (0 ≤ x0)) := hp7 5 rfl rfl
          refine gn rfl rfl s11 b1 ?_
          exact ⟨_, rfl, Ext.refl _, rfl⟩
        refine ⟨fun _ => ⟨fun f9 w10 hf8 xt9 hp8 => ?_, fun _ _ _ _ h => h⟩, ?_⟩
        ·
          have H14 := H4.ext xt9
          have s12 : f9 20 = .bool (decide (0 ≤ x0)) := hp8 5 rfl rfl
          have s13 : f9 21 = undef := hp8 6 rfl rfl
          have s14 : f9 22 = undef := hp8 7 rfl rfl
          refine gn rfl rfl s12 b1 ?_
          exact ⟨_, rfl, Ext.refl _, rfl⟩
        refine ⟨fun _ => ⟨fun f10 w11 hf9 xt10 hp9 => ?_, fun _ _ _ _ h => h⟩, ?_⟩
        ·
          have H15 := H4.ext xt10
          have s15 : f10 20 = .bool (decide (0 ≤ x0)) := hp9 5 rfl rfl
          have s16 : f10 23 = undef := hp9 8 rfl rfl
          refine gn rfl rfl s15 b1 ?_
          exact ⟨_, rfl, Ext.refl _, rfl⟩
        refine ⟨fun _ => ⟨fun f11 w12 hf10 xt11 hp10 => ?_, fun _ _ _ _ h => h⟩, ?_⟩
        ·
          have H16 := H4.ext xt11
          have s17 : f11 20 = .bool (decide (0 ≤ x0)) := hp10 5 rfl rfl
          refine gn rfl rfl s17 b1 ?_
          exact ⟨_, rfl, Ext.refl _, rfl⟩
        refine ⟨fun _ => ⟨fun f12 w13 hf11 xt12 hp11 => ?_, fun _ _ _ _ h => h⟩, ?_⟩
        ·
          have H17 := H4.ext xt12
          have s18 : f12 20 = .bool (decide (0 ≤ x0)) := hp11 5 rfl rfl
          have s19 : f12 25 = undef := hp11 10 rfl rfl
          refine gn rfl rfl s18 b1 ?_
          exact ⟨_, rfl, Ext.refl _, rfl⟩
        refine ⟨fun _ => ⟨fun f13 w14 hf12 xt13 hp12 => ?_, fun _ _ _ _ h => h⟩, ?_⟩
        ·
          have H18 := H4.ext xt13
          have s20 : f13 20 = .bool (decide (0 ≤ x0)) := hp12 5 rfl rfl
          have s21 : f13 26 = undef := hp12 11 rfl rfl
          refine gn rfl rfl s20 b1 ?_
          exact ⟨_, rfl, Ext.refl _, rfl⟩
        refine ⟨fun _ => ⟨fun f14 w15 hf13 xt14 hp13 => ?_, fun _ _ _ _ h => h⟩, ?_⟩
        ·
          have H19 := H4.ext xt14
          have s22 : f14 20 = .bool (decide (0 ≤ x0)) := hp13 5 rfl rfl
          have s23 : f14 24 = undef := hp13 9 rfl rfl
          have s24 : f14 27 = undef := hp13 12 rfl rfl
          refine gn rfl rfl s22 b1 ?_
          exact ⟨_, rfl, Ext.refl _, rfl⟩
        refine ⟨fun _ => ⟨fun f15 w16 hf14 xt15 hp14 => ?_, fun _ _ _ _ h => h⟩, ?_⟩
        ·
          have H20 := H4.ext xt15
          have s25 : f15 20 = .bool (decide (0 ≤ x0)) := hp14 5 rfl rfl
          have s26 : f15 28 = undef := hp14 13 rfl rfl
          refine pickF rfl rfl rfl s25 b1 rfl ?_
          exact ⟨_, rfl, Ext.refl _, rfl⟩
        refine ⟨fun _ => ⟨fun f16 w17 hf15 xt16 hp15 => ?_, fun _ _ _ _ h => h⟩, ?_⟩
        ·
          have H21 := H4.ext xt16
          have s27 : f16 29 = .bool false := hp15 14 rfl rfl
          refine mv rfl s27 ?_
          exact ⟨_, rfl, Ext.refl _, rfl⟩
        refine ⟨fun _ => ⟨fun f17 w18 hf16 xt17 hp16 => ?_, fun _ _ _ _ h => h⟩, ?_⟩
        ·
          have H22 := H4.ext xt17
          have s28 : f17 30 = .bool false := hp16 15 rfl rfl
          refine gn rfl rfl s28 rfl ?_
          exact ⟨_, rfl, Ext.refl _, rfl⟩
        refine ⟨fun _ => ⟨fun f18 w19 hf17 xt18 hp17 => ?_, fun _ _ _ _ h => h⟩, ?_⟩
        ·
          have H23 := H4.ext xt18
          have s29 : f18 30 = .bool false := hp17 15 rfl rfl
          have s30 : f18 31 = undef := hp17 16 rfl rfl
          refine gn rfl rfl s29 rfl ?_
          exact ⟨_, rfl, Ext.refl _, rfl⟩
        refine ⟨fun _ => ⟨fun f19 w20 hf18 xt19 hp18 => ?_, fun _ _ _ _ h => h⟩, ?_⟩
        ·
          have H24 := H4.ext xt19
          have s31 : f19 30 = .bool false := hp18 15 rfl rfl
          refine gn rfl rfl s31 rfl ?_
          exact ⟨_, rfl, Ext.refl _, rfl⟩
        refine ⟨fun _ => ⟨fun f20 w21 hf19 xt20 hp19 => ?_, fun _ _ _ _ h => h⟩, ?_⟩
        ·
          have H25 := H4.ext xt20
          have s32 : f20 30 = .bool false := hp19 15 rfl rfl
          refine gn rfl rfl s32 rfl ?_
          exact ⟨_, rfl, Ext.refl _, rfl⟩
        refine ⟨fun _ => ⟨fun f21 w22 hf20 xt21 hp20 => ?_, fun _ _ _ _ h => h⟩, ?_⟩
        ·
          have H26 := H4.ext xt21
          have s33 : f21 30 = .bool false := hp20 15 rfl rfl
          have s34 : f21 33 = undef := hp20 18 rfl rfl
          have s35 : f21 34 = undef := hp20 19 rfl rfl
          refine gn rfl rfl s33 rfl ?_
          exact ⟨_, rfl, Ext.refl _, rfl⟩
        refine ⟨fun _ => ⟨fun f22 w23 hf21 xt22 hp21 => ?_, fun _ _ _ _ h => h⟩, ?_⟩
        ·
          have H27 := H4.ext xt22
          have s36 : f22 30 = .bool false := hp21 15 rfl rfl
          have s37 : f22 35 = undef := hp21 20 rfl rfl
          refine gn rfl rfl s36 rfl ?_
          exact ⟨_, rfl, Ext.refl _, rfl⟩
        refine ⟨fun _ => ⟨fun f23 w24 hf22 xt23 hp22 => ?_, fun _ _ _ _ h => h⟩, ?_⟩
        ·
          have H28 := H4.ext xt23
          have s38 : f23 30 = .bool false := hp22 15 rfl rfl
          have s39 : f23 32 = undef := hp22 17 rfl rfl
          have s40 : f23 36 = undef := hp22 21 rfl rfl
          refine gn rfl rfl s38 rfl ?_
          exact ⟨_, rfl, Ext.refl _, rfl⟩
        refine ⟨fun _ => ⟨fun f24 w25 hf23 xt24 hp23 => ?_, fun _ _ _ _ h => h⟩, ?_⟩
        ·
          have H29 := H4.ext xt24
          have s41 : f24 30 = .bool false := hp23 15 rfl rfl
          have s42 : f24 37 = undef := hp23 22 rfl rfl
          refine gn rfl rfl s41 rfl ?_
          exact ⟨_, rfl, Ext.refl _, rfl⟩
        refine ⟨fun _ => ⟨fun f25 w26 hf24 xt25 hp24 => ?_, fun _ _ _ _ h => h⟩, ?_⟩
        ·
          have H30 := H4.ext xt25
          have s43 : f25 30 = .bool false := hp24 15 rfl rfl
          have s44 : f25 38 = undef := hp24 23 rfl rfl
          refine gn rfl rfl s43 rfl ?_
          exact ⟨_, rfl, Ext.refl _, rfl⟩
        refine ⟨fun _ => ⟨fun f26 w27 hf25 xt26 hp25 => ?_, fun _ _ _ _ h => h⟩, ?_⟩
        ·
          have H31 := H4.ext xt26
          have s45 : f26 30 = .bool false := hp25 15 rfl rfl
          have s46 : f26 39 = undef := hp25 24 rfl rfl
          refine pickF rfl rfl rfl s45 rfl rfl ?_
          exact ⟨_, rfl, Ext.refl _, rfl⟩
        refine ⟨fun _ => ⟨fun f27 w28 hf26 xt27 hp26 => ?_, fun _ _ _ _ h => h⟩, ?_⟩
        ·
          have H32 := H4.ext xt27
          have s47 : f27 40 = .bool false := hp26 25 rfl rfl
          refine mv rfl s47 ?_
          exact ⟨_, rfl, Ext.refl _, rfl⟩
        refine ⟨fun _ => ⟨fun f28 w29 hf27 xt28 hp27 => ?_, fun _ _ _ _ h => h⟩, ?_⟩
        ·
          have H33 := H4.ext xt28
          have s48 : f28 41 = .bool false := hp27 26 rfl rfl
          refine gn rfl rfl s48 rfl ?_
          exact ⟨_, rfl, Ext.refl _, rfl⟩
        refine ⟨fun _ => ⟨fun f29 w30 hf28 xt29 hp28 => ?_, fun _ _ _ _ h => h⟩, ?_⟩
        ·
          have H34 := H4.ext xt29
          have s49 : f29 41 = .bool false := hp28 26 rfl rfl
          have s50 : f29 42 = undef := hp28 27 rfl rfl
          refine gn rfl rfl s49 rfl ?_
          exact ⟨_, rfl, Ext.refl _, rfl⟩
        refine ⟨fun _ => ⟨fun f30 w31 hf29 xt30 hp29 => ?_, fun _ _ _ _ h => h⟩, ?_⟩
        ·
          have H35 := H4.ext xt30
          have s51 : f30 41 = .bool false := hp29 26 rfl rfl
          refine gn rfl rfl s51 rfl ?_
          exact ⟨_, rfl, Ext.refl _, rfl⟩
        refine ⟨fun _ => ⟨fun f31 w32 hf30 xt31 hp30 => ?_, fun _ _ _ _ h => h⟩, ?_⟩
        ·
          have H36 := H4.ext xt31
          have s52 : f31 41 = .bool false := hp30 26 rfl rfl
          refine gn rfl rfl s52 rfl ?_
          exact ⟨_, rfl, Ext.refl _, rfl⟩
        refine ⟨fun _ => ⟨fun f32 w33 hf31 xt32 hp31 => ?_, fun _ _ _ _ h => h⟩, ?_⟩
        ·
          have H37 := H4.ext xt32
          have s53 : f32 41 = .bool false := hp31 26 rfl rfl
          have s54 : f32 44 = undef := hp31 29 rfl rfl
          have s55 : f32 45 = undef := hp31 30 rfl rfl
          refine gn rfl rfl s53 rfl ?_
          exact ⟨_, rfl, Ext.refl _, rfl⟩
        refine ⟨fun _ => ⟨fun f33 w34 hf32 xt33 hp32 => ?_, fun _ _ _ _ h => h⟩, ?_⟩
        ·
          have H38 := H4.ext xt33
          have s56 : f33 41 = .bool false := hp32 26 rfl rfl
          have s57 : f33 46 = undef := hp32 31 rfl rfl
          refine gn rfl rfl s56 rfl ?_
          exact ⟨_, rfl, Ext.refl _, rfl⟩
        refine ⟨fun _ => ⟨fun f34 w35 hf33 xt34 hp33 => ?_, fun _ _ _ _ h => h⟩, ?_⟩
        ·
          have H39 := H4.ext xt34
          have s58 : f34 41 = .bool false := hp33 26 rfl rfl
          have s59 : f34 43 = undef := hp33 28 rfl rfl
          have s60 : f34 47 = undef := hp33 32 rfl rfl
          refine gn rfl rfl s58 rfl ?_
          exact ⟨_, rfl, Ext.refl _, rfl⟩
        refine ⟨fun _ => ⟨fun f35 w36 hf34 xt35 hp34 => ?_, fun _ _ _ _ h => h⟩, ?_⟩
        ·
          have H40 := H4.ext xt35
          have s61 : f35 41 = .bool false := hp34 26 rfl rfl
          have s62 : f35 48 = undef := hp34 33 rfl rfl
          refine gn rfl rfl s61 rfl ?_
          exact ⟨_, rfl, Ext.refl _, rfl⟩
        refine ⟨fun _ => ⟨fun f36 w37 hf35 xt36 hp35 => ?_, fun _ _ _ _ h => h⟩, ?_⟩
        ·
          have H41 := H4.ext xt36
          have s63 : f36 41 = .bool false := hp35 26 rfl rfl
          have s64 : f36 49 = undef := hp35 34 rfl rfl
          refine gn rfl rfl s63 rfl ?_
          exact ⟨_, rfl, Ext.refl _, rfl⟩
        refine ⟨fun _ => ⟨fun f37 w38 hf36 xt37 hp36 => ?_, fun _ _ _ _ h => h⟩, ?_⟩
        ·
          have H42 := H4.ext xt37
          have s65 : f37 41 = .bool false := hp36 26 rfl rfl
          refine gn rfl rfl s65 rfl ?_
          exact ⟨_, rfl, Ext.refl _, rfl⟩
        exact DSteps.rest rfl _
      · intro f38 w39 hf37 xt38 hp37
        have H43 := H4.ext xt38
        have s66 : f38 1 = .slice a_l l.length c_l := (hf37 1 rfl).trans s0
        have s67 : f38 2 = .int .i64 vr := (hf37 2 rfl).trans s1
        have s68 : f38 3 = .pointer (some ⟨bb0, 0, none⟩) := (hf37 3 rfl).trans s2
        have s69 : f38 7 = .slice a0 out.length c0 := (hf37 7 rfl).trans s3
        have s70 : f38 8 = .int .i64 (q : Int) := (hf37 8 rfl).trans s4
        have s71 : f38 41 = .bool false := hp37 26 rfl
        have s72 : f38 50 = undef := hp37 35 rfl
        have s73 : f38 51 = undef := hp37 36 rfl
        refine k (gn rfl rfl s71 rfl (k (pickF rfl rfl rfl s71 rfl rfl (z (nx (cdF rfl rfl rfl (sk (inb_normal (nx (rg (k (mv rfl s70 (k (add rfl rfl rfl rfl (by unfold I64 at *; omega) (k (asg (v := .int .i64 ((q : Int) + 1)) rfl rfl (z ?_)))))))))))))))))
        refine loopN _ ?_ ⟨(q + 1), out, a0, c0, rfl, s66, s67, s68, s69, (ieq rfl (by first | rfl | omega | (push_cast; omega))), H43, (by first | assumption | omega | simp | (simp; omega)), (by (try (have e_ := at_is hx1 hx0; subst e_)); (try (have e_ := at_is hx2 hx0; subst e_)); (try (have e_ := at_is hx3 hx0; subst e_)); (try (have e_ := at_is hx4 hx0; subst e_)); (try (have e_ := at_is hx5 hx0; subst e_)); (try (have e_ := at_is hx6 hx0; subst e_)); (try (have e_ := at_is hx7 hx0; subst e_)); (try (have e_ := at_is hx8 hx0; subst e_)); (try (have e_ := at_is hx9 hx0; subst e_)); (try (have e_ := at_is hx10 hx0; subst e_)); (try (have e_ := at_is hx11 hx0; subst e_)); (try (have e_ := at_is hx12 hx0; subst e_)); (try (have e_ := at_is hx13 hx0; subst e_)); (try (have e_ := at_is hx14 hx0; subst e_)); (try (have e_ := at_is hx15 hx0; subst e_)); (try (have e_ := at_is hx16 hx0; subst e_)); (try (have e_ := at_is hx17 hx0; subst e_)); (try (have e_ := at_is hx18 hx0; subst e_)); (try (have e_ := at_is hx19 hx0; subst e_)); (try (have e_ := at_is hx20 hx0; subst e_)); (try (have e_ := at_is hx21 hx0; subst e_)); (try (have e_ := at_is hx22 hx0; subst e_)); (try (have e_ := at_is hx23 hx0; subst e_)); (try (have e_ := at_is hx24 hx0; subst e_)); (try (have e_ := at_is hx25 hx0; subst e_)); (try (have e_ := at_is hx26 hx0; subst e_)); (try (have e_ := at_is hx27 hx0; subst e_)); (try (have e_ := at_is hx28 hx0; subst e_)); (try (have e_ := at_is hx29 hx0; subst e_)); (try (have e_ := at_is hx30 hx0; subst e_)); (try (have e_ := at_is hx31 hx0; subst e_)); (try (have e_ := at_is hx32 hx0; subst e_)); (try (have e_ := at_is hx33 hx0; subst e_)); (try (have e_ := at_is hx34 hx0; subst e_)); (try (have e_ := at_is hx35 hx0; subst e_)); (try (have e_ := at_is hx36 hx0; subst e_)); (try (have e_ := at_is hx37 hx0; subst e_)); (try (have e_ := at_is hx38 hx0; subst e_)); (try (have e_ := at_is hx39 hx0; subst e_)); rw [hs]; first | exact keep_yes hx0 (by exact wrB_yes (by omega) (by assumption) (by assumption) (by assumption)) | exact keep_no hx0 (by first | exact wrB_neg (by omega) | exact wrB_out (by omega) | exact wrB_nw (by omega) (by assumption) (by assumption) | exact wrB_nv (by omega) (by assumption) (by assumption)))⟩
        omega
  ·
    have p0 := of_decide_eq_false b0
    refine ex (then_exit (loop_exit (inb_here (nx (sq (rg (k (mv rfl s3 (k (asg (v := .slice a0 out.length c0) rfl rfl (z (nx (rt (r1 rfl rfl ?_))))))))))))))
    have e0 : (out : List Int) = keepL (wrB fi vr) l := by rw [hs, take_end (by omega)]
    have ev_ := cg1 (fun (x_0 : List Int) => (.slice a0 x_0.length c0 : Value)) e0
    exact ⟨a0, c0, ev_, H4.below, (congrArg (fun (x_ : List Int) => OwnsG _ _ _ x_ (.slice a0 x_.length c0) _) e0).mp (H4.ownsG_out 0 rfl)⟩
set_option maxRecDepth 100000 in
set_option maxHeartbeats 1600000 in
theorem ref16_Kept {M : Nat → Prop} {w : World} {a_fv : Option Addr} {n_fv c_fv : Nat} {a_fi : Option Addr} {c_fi : Nat} {fi : List (Int × Int × Bool × Int × Int)} {a_fo : Option Addr} {n_fo c_fo : Nat} {o : Int} (hM : ∀ b, M b → b < w.heap.size) (h_fi : RV M w (.slice a_fi fi.length c_fi) fi) (h_o : I64 o) (hn_fi : fi.length ≤ 4096) : Calls Tryd.prog 56 #[.agg #[.slice a_fv n_fv c_fv, .slice a_fi fi.length c_fi, .slice a_fo n_fo c_fo], .int .i64 o] w (Ret fun v w' => ∃ (a0 : Option Addr) (c0 : Nat), v = .slice a0 (keepL (wrQ fi) (pastB fi o fi.length)).length c0 ∧ Ext w w' ∧ OwnsG M 3 w (keepL (wrQ fi) (pastB fi o fi.length)) (.slice a0 (keepL (wrQ fi) (pastB fi o fi.length)).length c0) w') := by
  refine enter 35 Tryd.func56 rfl rfl rfl fun f0 ha => ?_
  have H := HI.start (M0 := M) (w := w) hM
  have H0 := H.put (it := imm (.slice a_fi fi.length c_fi) fi) rfl (by rw [MS_nil]; exact h_fi)
  have ln_fi := rv_len h_fi
  have i0 : f0 0 = .agg #[.slice a_fv n_fv c_fv, .slice a_fi fi.length c_fi, .slice a_fo n_fo c_fo] := ha 0 (by simp)
  have i1 : f0 1 = .int .i64 o := ha 1 (by simp)
  refine sq (rg (k (bx H0 rfl i0 ?_)))
  intro bb0 w0 xt0 (H1 : HI M w w0 [box bb0 #[.slice a_fv n_fv c_fv, .slice a_fi fi.length c_fi, .slice a_fo n_fo c_fo] 66, imm (.slice a_fi fi.length c_fi) fi])
  refine k (asg (v := .slice none 0 0) rfl rfl (z (nx (sq (rg (k (asg (v := .slice none 0 0) rfl rfl (z (nx (sq (rg (k (ldX H1 0 rfl ty66 rfl rfl (by decide) rfl (k (mv rfl i1 (k ?_))))))))))))))))
  have cc0 := ref12_Past (fi := fi) (tt := o) (a_fv := a_fv) (n_fv := n_fv) (c_fv := c_fv) (a_fo := a_fo) (n_fo := n_fo) (c_fo := c_fo) (w := w0) H1.mb (H1.rv 1 rfl) (by have h2_ := pastB_len fi o fi.length; unfold I64 at *; omega) (by first | omega | (simp; omega))
  refine ca go93 rfl (ec rfl (ec rfl e0)) cc0 ?_
  rintro _ w1 ⟨a0, c0, rfl, xt1, rv0⟩
  have H2 := H1.ownsG rv0
  refine k (asg (v := .slice a0 (pastB fi o fi.length).length c0) rfl rfl (z (nx (sq (sq (rg (k (asg (v := .int .i64 0) rfl rfl (z (nx (bk ?_)))))))))))
  have H3 := H2.nil_ Int 3
  refine lp (fun m f w' => ∃ (q : Nat) (out : List Int) (a1 : Option Addr) (c1 : Nat), m = (pastB fi o fi.length).length - q ∧ f 2 = .pointer (some ⟨bb0, 0, none⟩) ∧ f 5 = .slice a1 out.length c1 ∧ f 6 = .slice a0 (pastB fi o fi.length).length c0 ∧ f 7 = .int .i64 (q : Int) ∧  HI M w w' [own w.heap.size 3 (.slice a1 out.length c1) out, own w.heap.size 3 (.slice a0 (pastB fi o fi.length).length c0) (pastB fi o fi.length), box bb0 #[.slice a_fv n_fv c_fv, .slice a_fi fi.length c_fi, .slice a_fo n_fo c_fo] 66, imm (.slice a_fi fi.length c_fi) fi] ∧ (q ≤ (pastB fi o fi.length).length) ∧ (out = keepL (wrQ fi) ((pastB fi o fi.length).take q))) _ ⟨0, ([] : List Int), none, 0, rfl, rfl, rfl, rfl, (ieq rfl (by first | rfl | omega | simp)), H3, (by first | assumption | omega | simp | (simp; omega)), (by rfl)⟩ ?_
  rintro _ f0 w2 ⟨q, out, a1, c1, rfl, s0, s1, s2, s3, H4, hq_, hs⟩
  refine sq (sq (rg (k (mv rfl s3 (k (mv rfl s2 (k (lnS rfl rfl un42 (k (lss rfl rfl rfl rfl (z (nx ?_))))))))))))
  refine cd (b := decide ((q : Int) < ((pastB fi o fi.length).length : Int))) rfl rfl (fun b0 => ?_) (fun b0 => ?_)
  ·
    have p0 := of_decide_eq_true b0
    refine sk (nx (sq (bk (sq ?_))))
    have hpb_ := pastB_len fi o fi.length
    obtain ⟨x0, hx0⟩ : ∃ x, (pastB fi o fi.length)[(q : Int).toNat]? = some x := ⟨_, List.getElem?_eq_getElem (by first | omega | (simp; omega))⟩
    refine dr 6 [fun (v : Value) (w' : World) => v = .pointer (some ⟨bb0, 1, none⟩), fun (v : Value) (w' : World) => v = .slice a_fi fi.length c_fi, fun (v : Value) (w' : World) => v = .slice a0 (pastB fi o fi.length).length c0, fun (v : Value) (w' : World) => v = .int .i64 (q : Int), fun (v : Value) (w' : World) => ∃ (g0 : Nat), v = .pointer (some ⟨g0, (q : Int).toNat * 1, none⟩) ∧ (.slice a0 (pastB fi o fi.length).length c0 : Value).ownBlock = some g0 ∧ AtW (MS M [own w.heap.size 3 (.slice a1 out.length c1) out, own w.heap.size 3 (.slice a0 (pastB fi o fi.length).length c0) (pastB fi o fi.length), box bb0 #[.slice a_fv n_fv c_fv, .slice a_fi fi.length c_fi, .slice a_fo n_fo c_fo] 66, imm (.slice a_fi fi.length c_fi) fi]) w' ⟨g0, (q : Int).toNat * 1, none⟩ x0, fun (v : Value) (w' : World) => v = .int .i64 x0 ∧ I64 (x0)] rfl (by kernel_rfl) ?_ ?_
    ·
      refine ⟨fun _ => ⟨fun f1 w3 hf0 xt2 hp0 => ?_, fun _ _ _ _ h => h⟩, ?_⟩
      ·
        have H5 := H4.ext xt2
        refine fa fl66_1 rfl ((hf0 2 rfl).trans s0) ?_
        exact ⟨_, rfl, Ext.refl _, rfl⟩
      refine ⟨fun _ => ⟨fun f2 w4 hf1 xt3 hp1 => ?_, fun _ _ _ _ h => h⟩, ?_⟩
      ·
        have H6 := H4.ext xt3
        have s4 : f2 17 = .pointer (some ⟨bb0, 1, none⟩) := hp1 0 rfl rfl
        refine ldX H6 2 rfl ty64 rfl s4 (by decide) rfl ?_
        exact ⟨_, rfl, Ext.refl _, rfl⟩
      refine ⟨fun _ => ⟨fun f3 w5 hf2 xt4 hp2 => ?_, fun _ _ _ _ h => h⟩, ?_⟩
      ·
        have H7 := H4.ext xt4
        refine mv rfl ((hf2 6 rfl).trans s2) ?_
        exact ⟨_, rfl, Ext.refl _, rfl⟩
      refine ⟨fun _ => ⟨fun f4 w6 hf3 xt5 hp3 => ?_, fun _ _ _ _ h => h⟩, ?_⟩
      ·
        have H8 := H4.ext xt5
        refine mv rfl ((hf3 7 rfl).trans s3) ?_
        exact ⟨_, rfl, Ext.refl _, rfl⟩
      refine ⟨fun _ => ⟨fun f5 w7 hf4 xt6 hp4 => ?_, by rintro _ _ _ x_ ⟨g0, e_, hv0, hA0⟩; exact ⟨g0, e_, hv0, hA0.ext x_⟩⟩, ?_⟩
      ·
        have H9 := H4.ext xt6
        have s5 : f5 19 = .slice a0 (pastB fi o fi.length).length c0 := hp4 2 rfl rfl
        have s6 : f5 20 = .int .i64 (q : Int) := hp4 3 rfl rfl
        refine iaO (H9.at_ 1 rfl) rfl rfl s5 s6 (by first | omega | (simp; omega)) un42 ty3 ?_
        intro g1 x1 hv1 hx1 hA1
        obtain rfl : x0 = x1 := Option.some.inj (hx0.symm.trans hx1)
        exact ⟨_, rfl, Ext.refl _, ⟨g1, rfl, hv1, hA1⟩⟩
      refine ⟨fun _ => ⟨fun f6 w8 hf5 xt7 hp5 => ?_, fun _ _ _ _ h => h⟩, ?_⟩
      ·
        have H10 := H4.ext xt7
        obtain ⟨g2, s7, hv2, hA2⟩ : ∃ (g2 : Nat), f6 21 = .pointer (some ⟨g2, (q : Int).toNat * 1, none⟩) ∧ (.slice a0 (pastB fi o fi.length).length c0 : Value).ownBlock = some g2 ∧ AtW (MS M [own w.heap.size 3 (.slice a1 out.length c1) out, own w.heap.size 3 (.slice a0 (pastB fi o fi.length).length c0) (pastB fi o fi.length), box bb0 #[.slice a_fv n_fv c_fv, .slice a_fi fi.length c_fi, .slice a_fo n_fo c_fo] 66, imm (.slice a_fi fi.length c_fi) fi]) w8 ⟨g2, (q : Int).toNat * 1, none⟩ x0 := hp5 4 rfl rfl
        refine ldI hA2 ty3 rfl s7 ?_
        intro rv2
        exact ⟨_, rfl, Ext.refl _, ⟨rfl, rv2⟩⟩
      exact DSteps.rest rfl _
    · intro f7 w9 hf6 xt8 hp6
      have H11 := H4.ext xt8
      have s8 : f7 2 = .pointer (some ⟨bb0, 0, none⟩) := (hf6 2 rfl).trans s0
      have s9 : f7 5 = .slice a1 out.length c1 := (hf6 5 rfl).trans s1
      have s10 : f7 6 = .slice a0 (pastB fi o fi.length).length c0 := (hf6 6 rfl).trans s2
      have s11 : f7 7 = .int .i64 (q : Int) := (hf6 7 rfl).trans s3
      have s12 : f7 18 = .slice a_fi fi.length c_fi := hp6 1 rfl
      obtain ⟨s13, rv3⟩ : f7 22 = .int .i64 x0 ∧ I64 (x0) := hp6 5 rfl
      refine k (ia (H11.rv 3 rfl) rfl rfl s12 s13 (by have h_ := pastB_mem hx0; omega) un64 ty102 ?_)
      intro ad0 x2 hx2 hA3
      refine k (fa fl102_2 rfl rfl (k (ldB ((hA3).s2).fst.w ty4 rfl rfl (k (not_ rfl rfl (z (nx ?_)))))))
      refine cd (b := !x2.2.2.1) rfl rfl (fun b1 => ?_) (fun b1 => ?_)
      ·
        refine rg (k (mv rfl s9 (k (mv rfl s10 (k (mv rfl s11 (k (iaO (H11.at_ 1 rfl) rfl rfl rfl rfl (by first | omega | (simp; omega)) un42 ty3 ?_))))))))
        intro g3 x3 hv3 hx3 hA4
        refine k (ldI hA4 ty3 rfl rfl ?_)
        intro rv4
        refine k (bs (xs := ([x3] : List Int)) (cells := #[.int .i64 x3]) (e := 3) H11 rfl (pbc rfl pb0) (fun _ => by kernel_rfl) ⟨[.int .i64 x3], [], rfl, ⟨rfl, (show I64 (x3) from (by have h2_ := pastB_len fi o fi.length; unfold I64 at *; omega))⟩, rfl⟩ rfl (by unfold maxLen; omega) ?_)
        intro g4 w10 xt9 (H12 : HI M w w10 [own w.heap.size 3 (.slice (some ⟨g4, 0, none⟩) 1 1) ([x3] : List Int), own w.heap.size 3 (.slice a1 out.length c1) out, own w.heap.size 3 (.slice a0 (pastB fi o fi.length).length c0) (pastB fi o fi.length), box bb0 #[.slice a_fv n_fv c_fv, .slice a_fi fi.length c_fi, .slice a_fo n_fo c_fo] 66, imm (.slice a_fi fi.length c_fi) fi])
        refine k (ap H12 1 rfl rfl rfl rfl rfl rfl (own_src (H12.at_ 0 rfl)) un42 ty3 rfl (by have h_ := keep_len (pastB fi o fi.length) q (wrQ fi); have h2_ := pastB_len fi o fi.length; rw [hs]; simp only [List.length_cons, List.length_nil]; omega) (by have h_ := keep_len (pastB fi o fi.length) q (wrQ fi); have h2_ := pastB_len fi o fi.length; rw [hs]; simp only [List.length_cons, List.length_nil]; omega) ?_)
        intro a2 c2 w11 (H13 : HI M w w11 [own w.heap.size 3 (.slice (some ⟨g4, 0, none⟩) 1 1) ([x3] : List Int), own w.heap.size 3 (.slice a2 (out ++ ([x3] : List Int)).length c2) (out ++ ([x3] : List Int)), own w.heap.size 3 (.slice a0 (pastB fi o fi.length).length c0) (pastB fi o fi.length), box bb0 #[.slice a_fv n_fv c_fv, .slice a_fi fi.length c_fi, .slice a_fo n_fo c_fo] 66, imm (.slice a_fi fi.length c_fi) fi])
        refine k (asg (v := .slice a2 (out ++ ([x3] : List Int)).length c2) rfl rfl (z (inb_normal (nx (rg (k (mv rfl s11 (k (add rfl rfl rfl rfl (by have h2_ := pastB_len fi o fi.length; unfold I64 at *; omega) (k (asg (v := .int .i64 ((q : Int) + 1)) rfl rfl (z ?_))))))))))))
        have H14 : HI M w w11 [own w.heap.size 3 (.slice a2 (out ++ ([x3] : List Int)).length c2) (out ++ ([x3] : List Int)), own w.heap.size 3 (.slice a0 (pastB fi o fi.length).length c0) (pastB fi o fi.length), box bb0 #[.slice a_fv n_fv c_fv, .slice a_fi fi.length c_fi, .slice a_fo n_fo c_fo] 66, imm (.slice a_fi fi.length c_fi) fi] := H13.pickN [1, 2, 3, 4] (by decide) rfl
        refine loopN _ ?_ ⟨(q + 1), (out ++ ([x3] : List Int)), a2, c2, rfl, s8, rfl, s10, (ieq rfl (by first | rfl | omega | (push_cast; omega))), H14, (by first | assumption | omega | simp | (simp; omega)), (by (try (have e_ := at_is hx1 hx0; subst e_)); (try (have e_ := at_is hx2 hx0; subst e_)); (try (have e_ := at_is hx3 hx0; subst e_)); (try (have e_ := at_is hx4 hx0; subst e_)); (try (have e_ := at_is hx5 hx0; subst e_)); (try (have e_ := at_is hx6 hx0; subst e_)); (try (have e_ := at_is hx7 hx0; subst e_)); (try (have e_ := at_is hx8 hx0; subst e_)); (try (have e_ := at_is hx9 hx0; subst e_)); (try (have e_ := at_is hx10 hx0; subst e_)); (try (have e_ := at_is hx11 hx0; subst e_)); (try (have e_ := at_is hx12 hx0; subst e_)); (try (have e_ := at_is hx13 hx0; subst e_)); (try (have e_ := at_is hx14 hx0; subst e_)); (try (have e_ := at_is hx15 hx0; subst e_)); (try (have e_ := at_is hx16 hx0; subst e_)); (try (have e_ := at_is hx17 hx0; subst e_)); (try (have e_ := at_is hx18 hx0; subst e_)); (try (have e_ := at_is hx19 hx0; subst e_)); (try (have e_ := at_is hx20 hx0; subst e_)); (try (have e_ := at_is hx21 hx0; subst e_)); (try (have e_ := at_is hx22 hx0; subst e_)); (try (have e_ := at_is hx23 hx0; subst e_)); (try (have e_ := at_is hx24 hx0; subst e_)); (try (have e_ := at_is hx25 hx0; subst e_)); (try (have e_ := at_is hx26 hx0; subst e_)); (try (have e_ := at_is hx27 hx0; subst e_)); (try (have e_ := at_is hx28 hx0; subst e_)); (try (have e_ := at_is hx29 hx0; subst e_)); (try (have e_ := at_is hx30 hx0; subst e_)); (try (have e_ := at_is hx31 hx0; subst e_)); (try (have e_ := at_is hx32 hx0; subst e_)); (try (have e_ := at_is hx33 hx0; subst e_)); (try (have e_ := at_is hx34 hx0; subst e_)); (try (have e_ := at_is hx35 hx0; subst e_)); (try (have e_ := at_is hx36 hx0; subst e_)); (try (have e_ := at_is hx37 hx0; subst e_)); (try (have e_ := at_is hx38 hx0; subst e_)); (try (have e_ := at_is hx39 hx0; subst e_)); rw [hs]; first | exact keep_yes hx0 (wrQ_yes (by assumption) (by assumption)) | exact keep_no hx0 (wrQ_no (by assumption) (by assumption)))⟩
        omega
      ·
        refine sk (inb_normal (nx (rg (k (mv rfl s11 (k (add rfl rfl rfl rfl (by have h2_ := pastB_len fi o fi.length; unfold I64 at *; omega) (k (asg (v := .int .i64 ((q : Int) + 1)) rfl rfl (z ?_))))))))))
        refine loopN _ ?_ ⟨(q + 1), out, a1, c1, rfl, s8, s9, s10, (ieq rfl (by first | rfl | omega | (push_cast; omega))), H11, (by first | assumption | omega | simp | (simp; omega)), (by (try (have e_ := at_is hx1 hx0; subst e_)); (try (have e_ := at_is hx2 hx0; subst e_)); (try (have e_ := at_is hx3 hx0; subst e_)); (try (have e_ := at_is hx4 hx0; subst e_)); (try (have e_ := at_is hx5 hx0; subst e_)); (try (have e_ := at_is hx6 hx0; subst e_)); (try (have e_ := at_is hx7 hx0; subst e_)); (try (have e_ := at_is hx8 hx0; subst e_)); (try (have e_ := at_is hx9 hx0; subst e_)); (try (have e_ := at_is hx10 hx0; subst e_)); (try (have e_ := at_is hx11 hx0; subst e_)); (try (have e_ := at_is hx12 hx0; subst e_)); (try (have e_ := at_is hx13 hx0; subst e_)); (try (have e_ := at_is hx14 hx0; subst e_)); (try (have e_ := at_is hx15 hx0; subst e_)); (try (have e_ := at_is hx16 hx0; subst e_)); (try (have e_ := at_is hx17 hx0; subst e_)); (try (have e_ := at_is hx18 hx0; subst e_)); (try (have e_ := at_is hx19 hx0; subst e_)); (try (have e_ := at_is hx20 hx0; subst e_)); (try (have e_ := at_is hx21 hx0; subst e_)); (try (have e_ := at_is hx22 hx0; subst e_)); (try (have e_ := at_is hx23 hx0; subst e_)); (try (have e_ := at_is hx24 hx0; subst e_)); (try (have e_ := at_is hx25 hx0; subst e_)); (try (have e_ := at_is hx26 hx0; subst e_)); (try (have e_ := at_is hx27 hx0; subst e_)); (try (have e_ := at_is hx28 hx0; subst e_)); (try (have e_ := at_is hx29 hx0; subst e_)); (try (have e_ := at_is hx30 hx0; subst e_)); (try (have e_ := at_is hx31 hx0; subst e_)); (try (have e_ := at_is hx32 hx0; subst e_)); (try (have e_ := at_is hx33 hx0; subst e_)); (try (have e_ := at_is hx34 hx0; subst e_)); (try (have e_ := at_is hx35 hx0; subst e_)); (try (have e_ := at_is hx36 hx0; subst e_)); (try (have e_ := at_is hx37 hx0; subst e_)); (try (have e_ := at_is hx38 hx0; subst e_)); (try (have e_ := at_is hx39 hx0; subst e_)); rw [hs]; first | exact keep_yes hx0 (wrQ_yes (by assumption) (by assumption)) | exact keep_no hx0 (wrQ_no (by assumption) (by assumption)))⟩
        omega
  ·
    have p0 := of_decide_eq_false b0
    refine ex (then_exit (loop_exit (inb_here (nx (sq (rg (k (mv rfl s1 (k (asg (v := .slice a1 out.length c1) rfl rfl (z (nx (rt (r1 rfl rfl ?_))))))))))))))
    have e0 : (out : List Int) = keepL (wrQ fi) (pastB fi o fi.length) := by rw [hs, take_end (by omega)]
    have ev_ := cg1 (fun (x_0 : List Int) => (.slice a1 x_0.length c1 : Value)) e0
    exact ⟨a1, c1, ev_, H4.below, (congrArg (fun (x_ : List Int) => OwnsG _ _ _ x_ (.slice a1 x_.length c1) _) e0).mp (H4.ownsG_out 0 rfl)⟩
end Go.Proofs.YtmhopljngkgidaaDoor
namespace Go.Proofs.YtmhopljngkgidaaDoor
open Go.Ew Go.RowKit
set_option linter.unusedVariables false
set_option linter.unusedSimpArgs false
attribute [local irreducible] WL WC SO Code.wp wpList retQ Ret
attribute [local irreducible] bitB hasW inR hasR setR countW countR subR words newR listR orR firstW tab8
end Go.Proofs.YtmhopljngkgidaaDoor
namespace Go.Proofs.YtmhopljngkgidaaDoor
open Go.Ew Go.RowKit
set_option linter.unusedVariables false
set_option linter.unusedSimpArgs false
attribute [local irreducible] WL WC SO Code.wp wpList retQ Ret
attribute [local irreducible] bitB hasW inR hasR setR countW countR subR words newR listR orR firstW tab8
end Go.Proofs.YtmhopljngkgidaaDoor
namespace Go.Proofs.YtmhopljngkgidaaDoor
open Go.Ew Go.RowKit
set_option linter.unusedVariables false
set_option linter.unusedSimpArgs false
attribute [local irreducible] WL WC SO Code.wp wpList retQ Ret
attribute [local irreducible] bitB hasW inR hasR setR countW countR subR words newR listR orR firstW tab8
end Go.Proofs.YtmhopljngkgidaaDoor
namespace Go.Proofs.YtmhopljngkgidaaDoor
open Go.Ew Go.RowKit
set_option linter.unusedVariables false
set_option linter.unusedSimpArgs false
attribute [local irreducible] WL WC SO Code.wp wpList retQ Ret
attribute [local irreducible] bitB hasW inR hasR setR countW countR subR words newR listR orR firstW tab8
theorem go17 : GoF Tryd.prog 17 := ⟨_, _, Tryd.func17, rfl, by kernel_rfl⟩
theorem go68 : GoF Tryd.prog 68 := ⟨_, _, Tryd.func68, rfl, by kernel_rfl⟩
theorem go49 : GoF Tryd.prog 49 := ⟨_, _, Tryd.func49, rfl, by kernel_rfl⟩
theorem go42 : GoF Tryd.prog 42 := ⟨_, _, Tryd.func42, rfl, by kernel_rfl⟩
theorem go51 : GoF Tryd.prog 51 := ⟨_, _, Tryd.func51, rfl, by kernel_rfl⟩
set_option maxRecDepth 100000 in
set_option maxHeartbeats 1600000 in
theorem past_Of {M : Nat → Prop} {w : World} {mn : Int} {a_mr : Option Addr} {c_mr : Nat} {mr : List (List (BitVec 64))} {o : Int} (hM : ∀ b, M b → b < w.heap.size) (hT : TabAt 0 w) (h_mn : I64 mn) (h_mr : RV M w (.slice a_mr mr.length c_mr) mr) (h_o : I64 o) (rt_m : rightS mn mr = true) : Calls Tryd.prog 49 #[.agg #[.int .i64 mn, .slice a_mr mr.length c_mr], .int .i64 o] w (Ret fun v w' => ∃ (a0 : Option Addr) (c0 : Nat), v = .slice a0 (pastL mn mr o).length c0 ∧ Ext w w' ∧ OwnsG M 3 w (pastL mn mr o) (.slice a0 (pastL mn mr o).length c0) w') := by
  refine enter 20 Tryd.func49 rfl rfl rfl fun f0 ha => ?_
  have H := HI.start (M0 := M) (w := w) hM
  have H0 := H.put (it := imm (.slice a_mr mr.length c_mr) mr) rfl (by rw [MS_nil]; exact h_mr)
  have ln_mr := rv_len h_mr
  have i0 : f0 0 = .agg #[.int .i64 mn, .slice a_mr mr.length c_mr] := ha 0 (by simp)
  have i1 : f0 1 = .int .i64 o := ha 1 (by simp)
  have hl_ := (right_sq rt_m).1; have h4_ := (right_sq rt_m).2.2.1; have h0_ := right_pos rt_m
  refine sq (rg (k (bx H0 rfl i0 ?_)))
  intro bb0 w0 xt0 (H1 : HI M w w0 [box bb0 #[.int .i64 mn, .slice a_mr mr.length c_mr] 24, imm (.slice a_mr mr.length c_mr) mr])
  refine k (asg (v := .slice none 0 0) rfl rfl (z (nx (sq (sq (rg (k (mv rfl i1 (k (lss rfl rfl rfl rfl (k (mv (v := .bool (decide (o < 0))) rfl rfl ?_))))))))))))
  rcases Bool.eq_false_or_eq_true (decide (o < 0)) with b0 | b0
  · -- decide (o < 0) is True
    have p0 := of_decide_eq_true b0
    refine k (gn rfl rfl rfl b0 (k (gn rfl rfl rfl b0 (k (gn rfl rfl rfl b0 (k (gn rfl rfl rfl b0 (k (pickT rfl rfl rfl rfl b0 rfl (z (nx (cdT rfl rfl rfl (sq (rg (k (asg (v := .slice none 0 0) rfl rfl (z (nx (rt (then_ret (r1 rfl rfl ?_)))))))))))))))))))))
    have e0 : ([] : List Int) = pastL mn mr o := by first | exact (pastL_no (by omega)).symm | exact pastL_yes rt_m hq hx0
    have ev_ := cg1 (fun (x_0 : List Int) => (.slice none x_0.length 0 : Value)) e0
    exact ⟨none, 0, ev_, H1.below, (congrArg (fun (x_ : List Int) => OwnsG _ _ _ x_ (.slice none x_.length 0) _) e0).mp (ownsG_nil H1.below)⟩
  · -- decide (o < 0) is False
    have p0 := of_decide_eq_false b0
    refine k (gy rfl rfl rfl b0 (mv rfl i1 (k (gy rfl rfl rfl b0 (fa fl24_0 rfl rfl (k (gy rfl rfl rfl b0 (ldX H1 0 rfl ty3 rfl rfl (by decide) rfl (k (gy rfl rfl rfl b0 (geq rfl rfl rfl rfl (k (pickF rfl rfl rfl rfl b0 rfl (z (nx ?_)))))))))))))))
    refine cd (b := decide (mn ≤ o)) rfl rfl (fun b1 => ?_) (fun b1 => ?_)
    ·
      have p1 := of_decide_eq_true b1
      refine sq (rg (k (asg (v := .slice none 0 0) rfl rfl (z (nx (rt (then_ret (r1 rfl rfl ?_))))))))
      have e0 : ([] : List Int) = pastL mn mr o := by first | exact (pastL_no (by omega)).symm | exact pastL_yes rt_m hq hx0
      have ev_ := cg1 (fun (x_0 : List Int) => (.slice none x_0.length 0 : Value)) e0
      exact ⟨none, 0, ev_, H1.below, (congrArg (fun (x_ : List Int) => OwnsG _ _ _ x_ (.slice none x_.length 0) _) e0).mp (ownsG_nil H1.below)⟩
    ·
      have p1 := of_decide_eq_false b1
      refine sk (nx (sq ?_))
      have hq : 0 ≤ o ∧ o < mn := by omega
      have tl_ := turnM_len mn mr
      refine rg (k (ldX H1 0 rfl ty24 rfl rfl (by decide) rfl (k ?_)))
      have cc0 := mat_Turn (mn := mn) (mr := mr) (w := w0) H1.mb (hT.ext H1.below) (by unfold I64 at *; omega) (H1.rv 1 rfl) (by exact rt_m)
      refine ca go17 rfl (ec rfl e0) cc0 ?_
      rintro _ w1 ⟨a0, c0, rfl, xt1, rv0⟩
      have H2 := H1.ownsG rv0
      refine k (fd (v := .slice a0 (turnM mn mr).length c0) rfl rfl (fun _ => by kernel_rfl) (k (mv rfl i1 (k (iaO (H2.at_ 0 rfl) rfl rfl rfl rfl (by omega) un22 ty73 ?_)))))
      intro g0 x0 hv0 hx0 hA0
      refine k (ldL hA0 ty73 rfl rfl ?_)
      intro a1 c1 rv1
      have ln0 := rv_len rv1
      have H3 := H2.put (it := imm (.slice a1 x0.length c1) x0) rfl rv1
      refine k ?_
      have cc1 := row_List (r := x0) (w := w1) H3.mb (hT.ext H3.below) (H3.rv 0 rfl) (by first | (have h_ := turn_row_len rt_m hx0; omega) | (rw [setR_length]; have h_ := turn_row_len rt_m hx0; omega))
      refine ca go64 rfl (ec rfl e0) cc1 ?_
      rintro _ w2 ⟨a2, c2, rfl, xt2, rv2⟩
      have H4 := H3.ownsG rv2
      refine k (asg (v := .slice a2 (listR x0).length c2) rfl rfl (z (nx (rt (r1 rfl rfl ?_)))))
      have e0 : (listR x0 : List Int) = pastL mn mr o := by first | exact (pastL_no (by omega)).symm | exact pastL_yes rt_m hq hx0
      have ev_ := cg1 (fun (x_0 : List Int) => (.slice a2 x_0.length c2 : Value)) e0
      exact ⟨a2, c2, ev_, H4.below, (congrArg (fun (x_ : List Int) => OwnsG _ _ _ x_ (.slice a2 x_.length c2) _) e0).mp (H4.ownsG_out 0 rfl)⟩
set_option maxRecDepth 100000 in
set_option maxHeartbeats 1600000 in
theorem past_With {M : Nat → Prop} {w : World} {mn : Int} {a_mr : Option Addr} {c_mr : Nat} {mr : List (List (BitVec 64))} {o : Int} (hM : ∀ b, M b → b < w.heap.size) (hT : TabAt 0 w) (h_mn : I64 mn) (h_mr : RV M w (.slice a_mr mr.length c_mr) mr) (h_o : I64 o) (rt_m : rightS mn mr = true) : Calls Tryd.prog 51 #[.agg #[.int .i64 mn, .slice a_mr mr.length c_mr], .int .i64 o] w (Ret fun v w' => ∃ (a0 : Option Addr) (c0 : Nat), v = .slice a0 (withL mn mr o).length c0 ∧ Ext w w' ∧ OwnsG M 3 w (withL mn mr o) (.slice a0 (withL mn mr o).length c0) w') := by
  refine enter 22 Tryd.func51 rfl rfl rfl fun f0 ha => ?_
  have H := HI.start (M0 := M) (w := w) hM
  have H0 := H.put (it := imm (.slice a_mr mr.length c_mr) mr) rfl (by rw [MS_nil]; exact h_mr)
  have ln_mr := rv_len h_mr
  have i0 : f0 0 = .agg #[.int .i64 mn, .slice a_mr mr.length c_mr] := ha 0 (by simp)
  have i1 : f0 1 = .int .i64 o := ha 1 (by simp)
  have hl_ := (right_sq rt_m).1; have h4_ := (right_sq rt_m).2.2.1; have h0_ := right_pos rt_m
  refine sq (rg (k (bx H0 rfl i0 ?_)))
  intro bb0 w0 xt0 (H1 : HI M w w0 [box bb0 #[.int .i64 mn, .slice a_mr mr.length c_mr] 24, imm (.slice a_mr mr.length c_mr) mr])
  refine k (asg (v := .slice none 0 0) rfl rfl (z (nx (sq (sq (rg (k (mv rfl i1 (k (lss rfl rfl rfl rfl (k (mv (v := .bool (decide (o < 0))) rfl rfl ?_))))))))))))
  rcases Bool.eq_false_or_eq_true (decide (o < 0)) with b0 | b0
  · -- decide (o < 0) is True
    have p0 := of_decide_eq_true b0
    refine k (gn rfl rfl rfl b0 (k (gn rfl rfl rfl b0 (k (gn rfl rfl rfl b0 (k (gn rfl rfl rfl b0 (k (pickT rfl rfl rfl rfl b0 rfl (z (nx (cdT rfl rfl rfl (sq (rg (k (asg (v := .slice none 0 0) rfl rfl (z (nx (rt (then_ret (r1 rfl rfl ?_)))))))))))))))))))))
    have e0 : ([] : List Int) = withL mn mr o := by first | exact (withL_no (by omega)).symm | exact withL_yes rt_m hq hx0
    have ev_ := cg1 (fun (x_0 : List Int) => (.slice none x_0.length 0 : Value)) e0
    exact ⟨none, 0, ev_, H1.below, (congrArg (fun (x_ : List Int) => OwnsG _ _ _ x_ (.slice none x_.length 0) _) e0).mp (ownsG_nil H1.below)⟩
  · -- decide (o < 0) is False
    have p0 := of_decide_eq_false b0
    refine k (gy rfl rfl rfl b0 (mv rfl i1 (k (gy rfl rfl rfl b0 (fa fl24_0 rfl rfl (k (gy rfl rfl rfl b0 (ldX H1 0 rfl ty3 rfl rfl (by decide) rfl (k (gy rfl rfl rfl b0 (geq rfl rfl rfl rfl (k (pickF rfl rfl rfl rfl b0 rfl (z (nx ?_)))))))))))))))
    refine cd (b := decide (mn ≤ o)) rfl rfl (fun b1 => ?_) (fun b1 => ?_)
    ·
      have p1 := of_decide_eq_true b1
      refine sq (rg (k (asg (v := .slice none 0 0) rfl rfl (z (nx (rt (then_ret (r1 rfl rfl ?_))))))))
      have e0 : ([] : List Int) = withL mn mr o := by first | exact (withL_no (by omega)).symm | exact withL_yes rt_m hq hx0
      have ev_ := cg1 (fun (x_0 : List Int) => (.slice none x_0.length 0 : Value)) e0
      exact ⟨none, 0, ev_, H1.below, (congrArg (fun (x_ : List Int) => OwnsG _ _ _ x_ (.slice none x_.length 0) _) e0).mp (ownsG_nil H1.below)⟩
    ·
      have p1 := of_decide_eq_false b1
      refine sk (nx (sq ?_))
      have hq : 0 ≤ o ∧ o < mn := by omega
      have tl_ := turnM_len mn mr
      refine rg (k (ldX H1 0 rfl ty24 rfl rfl (by decide) rfl (k ?_)))
      have cc0 := mat_Turn (mn := mn) (mr := mr) (w := w0) H1.mb (hT.ext H1.below) (by unfold I64 at *; omega) (H1.rv 1 rfl) (by exact rt_m)
      refine ca go17 rfl (ec rfl e0) cc0 ?_
      rintro _ w1 ⟨a0, c0, rfl, xt1, rv0⟩
      have H2 := H1.ownsG rv0
      refine k (fd (v := .slice a0 (turnM mn mr).length c0) rfl rfl (fun _ => by kernel_rfl) (k (mv rfl i1 (k (iaO (H2.at_ 0 rfl) rfl rfl rfl rfl (by omega) un22 ty73 ?_)))))
      intro g0 x0 hv0 hx0 hA0
      refine k (ldL hA0 ty73 rfl rfl ?_)
      intro a1 c1 rv1
      have ln0 := rv_len rv1
      have H3 := H2.put (it := imm (.slice a1 x0.length c1) x0) rfl rv1
      refine k (mv rfl i1 (k ?_))
      have cc1 := row_Set (r := x0) (i := o) (w := w1) H3.mb (H3.rv 0 rfl) (by unfold I64 at *; omega) (by first | (have h_ := turn_row_len rt_m hx0; omega) | (rw [setR_length]; have h_ := turn_row_len rt_m hx0; omega))
      refine ca go63 rfl (ec rfl (ec rfl e0)) cc1 ?_
      rintro _ w2 ⟨a2, c2, rfl, xt2, rv2⟩
      have H4 := H3.ownsG rv2
      refine k ?_
      have H5 := H4.freeze 0 rfl
      have cc2 := row_List (r := (setR x0 o)) (w := w2) H5.mb (hT.ext H5.below) (H5.rv 0 rfl) (by first | (have h_ := turn_row_len rt_m hx0; omega) | (rw [setR_length]; have h_ := turn_row_len rt_m hx0; omega))
      refine ca go64 rfl (ec rfl e0) cc2 ?_
      rintro _ w3 ⟨a3, c3, rfl, xt3, rv3⟩
      have H6 := H5.ownsG rv3
      refine k (asg (v := .slice a3 (listR (setR x0 o)).length c3) rfl rfl (z (nx (rt (r1 rfl rfl ?_)))))
      have e0 : (listR (setR x0 o) : List Int) = withL mn mr o := by first | exact (withL_no (by omega)).symm | exact withL_yes rt_m hq hx0
      have ev_ := cg1 (fun (x_0 : List Int) => (.slice a3 x_0.length c3 : Value)) e0
      exact ⟨a3, c3, ev_, H6.below, (congrArg (fun (x_ : List Int) => OwnsG _ _ _ x_ (.slice a3 x_.length c3) _) e0).mp (H6.ownsG_out 0 rfl)⟩
set_option maxRecDepth 100000 in
set_option maxHeartbeats 1600000 in
theorem awake16 {w : World} (hT : TabAt 0 w) : Calls Tryd.prog 47 #[] w (Ret fun v w' =>  v = .bool true ∧ Ext w w') := by
  refine enter 26 Tryd.func47 rfl rfl rfl fun f0 ha => ?_
  have H := HI.start (M0 := (fun _ => False)) (w := w) (fun _ h => h.elim)
  refine sq (rg (k (asg (v := .bool false) rfl rfl (z (nx (sq (rg (k (bd (v := .agg #[.int .i64 0, .int .i64 2]) rfl (pbc rfl (pbc rfl pb0)) (fun _ => by kernel_rfl) (k (bd (v := .agg #[.int .i64 1, .int .i64 2]) rfl (pbc rfl (pbc rfl pb0)) (fun _ => by kernel_rfl) (k (bs (xs := ([(0, 2), (1, 2)] : List (Int × Int))) (cells := #[.int .i64 0, .int .i64 2, .int .i64 1, .int .i64 2]) (e := 76) H rfl (pbc rfl (pbc rfl pb0)) (fun _ => by kernel_rfl) ⟨[.int .i64 0, .int .i64 2], [.int .i64 1, .int .i64 2], rfl, ⟨_, _, rfl, ⟨rfl, (show I64 (0) from (by first | (unfold I64; decide +kernel) | decide +kernel))⟩, ⟨rfl, (show I64 (2) from (by first | (unfold I64; decide +kernel) | decide +kernel))⟩⟩, ⟨[.int .i64 1, .int .i64 2], [], rfl, ⟨_, _, rfl, ⟨rfl, (show I64 (1) from (by first | (unfold I64; decide +kernel) | decide +kernel))⟩, ⟨rfl, (show I64 (2) from (by first | (unfold I64; decide +kernel) | decide +kernel))⟩⟩, rfl⟩⟩ rfl (by unfold maxLen; omega) ?_)))))))))))))
  intro g0 w0 xt0 (H0 : HI (fun _ => False) w w0 [own w.heap.size 76 (.slice (some ⟨g0, 0, none⟩) 2 2) ([(0, 2), (1, 2)] : List (Int × Int))])
  refine k ?_
  have H1 := H0.freeze 0 rfl
  have cc0 := ref03_Of (n := 3) (ps := ([(0, 2), (1, 2)] : List (Int × Int))) (w := w0) H1.mb (by first | (unfold I64; decide +kernel) | decide +kernel) (H1.rv 0 rfl)
  refine ca go68 rfl (ec rfl (ec rfl e0)) cc0 ?_
  rintro _ w1 ⟨a0, c0, rfl, xt1, rv0⟩
  have H2 := H1.ext xt1
  have H3 := H2.put (it := imm (.slice a0 (ofMR 3 ([(0, 2), (1, 2)] : List (Int × Int))).length c0) (ofMR 3 ([(0, 2), (1, 2)] : List (Int × Int)))) rfl rv0
  refine k (mv (v := .tuple #[.agg #[.int .i64 (ofMN 3 ([(0, 2), (1, 2)] : List (Int × Int))), .slice a0 (ofMR 3 ([(0, 2), (1, 2)] : List (Int × Int))).length c0], .int .i64 (ofME 3 ([(0, 2), (1, 2)] : List (Int × Int)))]) rfl rfl (k (xt rfl rfl rfl (k (xt rfl rfl rfl (k (al H3 ty24 ?_)))))))
  intro bb0 w2 xt2 (H4 : HI (fun _ => False) w w2 [box bb0 #[.int .i64 0, .slice none 0 0] 24, imm (.slice a0 (ofMR 3 ([(0, 2), (1, 2)] : List (Int × Int))).length c0) (ofMR 3 ([(0, 2), (1, 2)] : List (Int × Int))), imm (.slice (some ⟨g0, 0, none⟩) 2 2) ([(0, 2), (1, 2)] : List (Int × Int))])
  refine k (stX H4 0 rfl ty24 rfl rfl rfl rfl rfl rfl rfl ?_)
  intro w3 (H5 : HI (fun _ => False) w w3 [box bb0 #[.int .i64 (ofMN 3 ([(0, 2), (1, 2)] : List (Int × Int))), .slice a0 (ofMR 3 ([(0, 2), (1, 2)] : List (Int × Int))).length c0] 24, imm (.slice a0 (ofMR 3 ([(0, 2), (1, 2)] : List (Int × Int))).length c0) (ofMR 3 ([(0, 2), (1, 2)] : List (Int × Int))), imm (.slice (some ⟨g0, 0, none⟩) 2 2) ([(0, 2), (1, 2)] : List (Int × Int))])
  refine k (asg (v := .int .i64 (ofME 3 ([(0, 2), (1, 2)] : List (Int × Int)))) rfl rfl (z (nx (sq (rg (k (ldX H5 0 rfl ty24 rfl rfl (by decide) rfl (k ?_))))))))
  have cc1 := past_Of (mn := (ofMN 3 ([(0, 2), (1, 2)] : List (Int × Int)))) (mr := (ofMR 3 ([(0, 2), (1, 2)] : List (Int × Int)))) (o := 2) (w := w3) H5.mb (hT.ext H5.below) (by first | (unfold I64; decide +kernel) | decide +kernel) (H5.rv 1 rfl) (by first | (unfold I64; decide +kernel) | decide +kernel) (by decide +kernel)
  refine ca go49 rfl (ec rfl (ec rfl e0)) cc1 ?_
  rintro _ w4 ⟨a1, c1, rfl, xt3, rv1⟩
  have H6 := H5.ownsG rv1
  refine k (bs (xs := ([0, 1] : List Int)) (cells := #[.int .i64 0, .int .i64 1]) (e := 3) H6 rfl (pbc rfl (pbc rfl pb0)) (fun _ => by kernel_rfl) ⟨[.int .i64 0], [.int .i64 1], rfl, ⟨rfl, (show I64 (0) from (by first | (unfold I64; decide +kernel) | decide +kernel))⟩, ⟨[.int .i64 1], [], rfl, ⟨rfl, (show I64 (1) from (by first | (unfold I64; decide +kernel) | decide +kernel))⟩, rfl⟩⟩ rfl (by unfold maxLen; omega) ?_)
  intro g1 w5 xt4 (H7 : HI (fun _ => False) w w5 [own w.heap.size 3 (.slice (some ⟨g1, 0, none⟩) 2 2) ([0, 1] : List Int), own w.heap.size 3 (.slice a1 (pastL (ofMN 3 ([(0, 2), (1, 2)] : List (Int × Int))) (ofMR 3 ([(0, 2), (1, 2)] : List (Int × Int))) 2).length c1) (pastL (ofMN 3 ([(0, 2), (1, 2)] : List (Int × Int))) (ofMR 3 ([(0, 2), (1, 2)] : List (Int × Int))) 2), box bb0 #[.int .i64 (ofMN 3 ([(0, 2), (1, 2)] : List (Int × Int))), .slice a0 (ofMR 3 ([(0, 2), (1, 2)] : List (Int × Int))).length c0] 24, imm (.slice a0 (ofMR 3 ([(0, 2), (1, 2)] : List (Int × Int))).length c0) (ofMR 3 ([(0, 2), (1, 2)] : List (Int × Int))), imm (.slice (some ⟨g0, 0, none⟩) 2 2) ([(0, 2), (1, 2)] : List (Int × Int))])
  refine k ?_
  have H8 := H7.freeze 1 rfl
  have H9 := H8.freeze 0 rfl
  have cc2 := ref02_Ints (a := (pastL (ofMN 3 ([(0, 2), (1, 2)] : List (Int × Int))) (ofMR 3 ([(0, 2), (1, 2)] : List (Int × Int))) 2)) (b := ([0, 1] : List Int)) (w := w5) H9.mb (H9.rv 1 rfl) (H9.rv 0 rfl)
  refine ca go42 rfl (ec rfl (ec rfl e0)) cc2 ?_
  rintro _ w6 ⟨rfl, xt5⟩
  have H10 := H7.ext xt5
  refine k (mv (v := .bool (decide ((pastL (ofMN 3 ([(0, 2), (1, 2)] : List (Int × Int))) (ofMR 3 ([(0, 2), (1, 2)] : List (Int × Int))) 2) = ([0, 1] : List Int)))) rfl rfl ?_)
  have tr0 : (decide ((pastL (ofMN 3 ([(0, 2), (1, 2)] : List (Int × Int))) (ofMR 3 ([(0, 2), (1, 2)] : List (Int × Int))) 2) = ([0, 1] : List Int))) = true := (by decide +kernel)
  refine k (gy rfl rfl rfl tr0 (ldX H10 2 rfl ty24 rfl rfl (by decide) rfl (k (gy rfl rfl rfl tr0 ?_))))
  have cc3 := past_With (mn := (ofMN 3 ([(0, 2), (1, 2)] : List (Int × Int)))) (mr := (ofMR 3 ([(0, 2), (1, 2)] : List (Int × Int)))) (o := 0) (w := w6) H10.mb (hT.ext H10.below) (by first | (unfold I64; decide +kernel) | decide +kernel) (H10.rv 3 rfl) (by first | (unfold I64; decide +kernel) | decide +kernel) (by decide +kernel)
  refine ca go51 rfl (ec rfl (ec rfl e0)) cc3 ?_
  rintro _ w7 ⟨a2, c2, rfl, xt6, rv2⟩
  have H11 := H10.ownsG rv2
  refine k (gy rfl rfl rfl tr0 (bs (xs := ([0] : List Int)) (cells := #[.int .i64 0]) (e := 3) H11 rfl (pbc rfl pb0) (fun _ => by kernel_rfl) ⟨[.int .i64 0], [], rfl, ⟨rfl, (show I64 (0) from (by first | (unfold I64; decide +kernel) | decide +kernel))⟩, rfl⟩ rfl (by unfold maxLen; omega) ?_))
  intro g2 w8 xt7 (H12 : HI (fun _ => False) w w8 [own w.heap.size 3 (.slice (some ⟨g2, 0, none⟩) 1 1) ([0] : List Int), own w.heap.size 3 (.slice a2 (withL (ofMN 3 ([(0, 2), (1, 2)] : List (Int × Int))) (ofMR 3 ([(0, 2), (1, 2)] : List (Int × Int))) 0).length c2) (withL (ofMN 3 ([(0, 2), (1, 2)] : List (Int × Int))) (ofMR 3 ([(0, 2), (1, 2)] : List (Int × Int))) 0), own w.heap.size 3 (.slice (some ⟨g1, 0, none⟩) 2 2) ([0, 1] : List Int), own w.heap.size 3 (.slice a1 (pastL (ofMN 3 ([(0, 2), (1, 2)] : List (Int × Int))) (ofMR 3 ([(0, 2), (1, 2)] : List (Int × Int))) 2).length c1) (pastL (ofMN 3 ([(0, 2), (1, 2)] : List (Int × Int))) (ofMR 3 ([(0, 2), (1, 2)] : List (Int × Int))) 2), box bb0 #[.int .i64 (ofMN 3 ([(0, 2), (1, 2)] : List (Int × Int))), .slice a0 (ofMR 3 ([(0, 2), (1, 2)] : List (Int × Int))).length c0] 24, imm (.slice a0 (ofMR 3 ([(0, 2), (1, 2)] : List (Int × Int))).length c0) (ofMR 3 ([(0, 2), (1, 2)] : List (Int × Int))), imm (.slice (some ⟨g0, 0, none⟩) 2 2) ([(0, 2), (1, 2)] : List (Int × Int))])
  refine k (gy rfl rfl rfl tr0 ?_)
  have H13 := H12.freeze 1 rfl
  have H14 := H13.freeze 0 rfl
  have cc4 := ref02_Ints (a := (withL (ofMN 3 ([(0, 2), (1, 2)] : List (Int × Int))) (ofMR 3 ([(0, 2), (1, 2)] : List (Int × Int))) 0)) (b := ([0] : List Int)) (w := w8) H14.mb (H14.rv 1 rfl) (H14.rv 0 rfl)
  refine ca go42 rfl (ec rfl (ec rfl e0)) cc4 ?_
  rintro _ w9 ⟨rfl, xt8⟩
  have H15 := H12.ext xt8
  refine k (pickT rfl rfl rfl rfl tr0 rfl (k (mv (v := .bool (decide ((withL (ofMN 3 ([(0, 2), (1, 2)] : List (Int × Int))) (ofMR 3 ([(0, 2), (1, 2)] : List (Int × Int))) 0) = ([0] : List Int)))) rfl rfl ?_)))
  have tr1 : (decide ((withL (ofMN 3 ([(0, 2), (1, 2)] : List (Int × Int))) (ofMR 3 ([(0, 2), (1, 2)] : List (Int × Int))) 0) = ([0] : List Int))) = true := (by decide +kernel)
  refine k (gy rfl rfl rfl tr1 (ldX H15 4 rfl ty24 rfl rfl (by decide) rfl (k (gy rfl rfl rfl tr1 ?_))))
  have cc5 := past_Of (mn := (ofMN 3 ([(0, 2), (1, 2)] : List (Int × Int)))) (mr := (ofMR 3 ([(0, 2), (1, 2)] : List (Int × Int)))) (o := 3) (w := w9) H15.mb (hT.ext H15.below) (by first | (unfold I64; decide +kernel) | decide +kernel) (H15.rv 5 rfl) (by first | (unfold I64; decide +kernel) | decide +kernel) (by decide +kernel)
  refine ca go49 rfl (ec rfl (ec rfl e0)) cc5 ?_
  rintro _ w10 ⟨a3, c3, rfl, xt9, rv3⟩
  have H16 := H15.ownsG rv3
  refine k (gy rfl rfl rfl tr1 (lnS rfl rfl un42 (k (gy rfl rfl rfl tr1 (eql rfl rfl rfl rfl (k (pickT rfl rfl rfl rfl tr1 rfl (k (asg (v := .bool (decide (((pastL (ofMN 3 ([(0, 2), (1, 2)] : List (Int × Int))) (ofMR 3 ([(0, 2), (1, 2)] : List (Int × Int))) 3).length : Int) = 0))) rfl rfl (z (nx (rt (r1 rfl rfl ?_)))))))))))))
  have tr2 : (decide (((pastL (ofMN 3 ([(0, 2), (1, 2)] : List (Int × Int))) (ofMR 3 ([(0, 2), (1, 2)] : List (Int × Int))) 3).length : Int) = 0)) = true := (by decide +kernel)
  have e0 : (decide (((pastL (ofMN 3 ([(0, 2), (1, 2)] : List (Int × Int))) (ofMR 3 ([(0, 2), (1, 2)] : List (Int × Int))) 3).length : Int) = 0) : Bool) = true := by exact tr2
  have ev_ := cg1 (fun (x_0 : Bool) => (.bool x_0 : Value)) e0
  exact ⟨ev_, H16.below⟩
end Go.Proofs.YtmhopljngkgidaaDoor
namespace Go.Proofs.YtmhopljngkgidaaDoor
open Go.Ew Go.RowKit
set_option linter.unusedVariables false
set_option linter.unusedSimpArgs false
attribute [local irreducible] WL WC SO Code.wp wpList retQ Ret
attribute [local irreducible] bitB hasW inR hasR setR countW countR subR words newR listR orR firstW tab8
theorem go113 : GoF Tryd.prog 113 := ⟨_, _, Tryd.func113, rfl, by kernel_rfl⟩
set_option maxRecDepth 100000 in
set_option maxHeartbeats 1600000 in
theorem ref11_From {M : Nat → Prop} {w : World} {a_fv : Option Addr} {n_fv c_fv : Nat} {a_fi : Option Addr} {c_fi : Nat} {fi : List (Int × Int × Bool × Int × Int)} {a_fo : Option Addr} {n_fo c_fo : Nat} (hM : ∀ b, M b → b < w.heap.size) (h_fi : RV M w (.slice a_fi fi.length c_fi) fi) (hn_fi : fi.length ≤ 4096) : Calls Tryd.prog 113 #[.agg #[.slice a_fv n_fv c_fv, .slice a_fi fi.length c_fi, .slice a_fo n_fo c_fo]] w (Ret fun v w' => ∃ (a0 : Option Addr) (c0 : Nat), v = .slice a0 (fromR fi).length c0 ∧ Ext w w' ∧ OwnsG M 3 w (fromR fi) (.slice a0 (fromR fi).length c0) w') := by
  refine enter 42 Tryd.func113 rfl rfl rfl fun f0 ha => ?_
  have H := HI.start (M0 := M) (w := w) hM
  have H0 := H.put (it := imm (.slice a_fi fi.length c_fi) fi) rfl (by rw [MS_nil]; exact h_fi)
  have ln_fi := rv_len h_fi
  have i0 : f0 0 = .agg #[.slice a_fv n_fv c_fv, .slice a_fi fi.length c_fi, .slice a_fo n_fo c_fo] := ha 0 (by simp)
  refine sq (rg (k (bx H0 rfl i0 ?_)))
  intro bb0 w0 xt0 (H1 : HI M w w0 [box bb0 #[.slice a_fv n_fv c_fv, .slice a_fi fi.length c_fi, .slice a_fo n_fo c_fo] 66, imm (.slice a_fi fi.length c_fi) fi])
  refine k (asg (v := .slice none 0 0) rfl rfl (z (nx (sq (rg (k (asg (v := .slice none 0 0) rfl rfl (z (nx (sq (sq (rg (k (asg (v := .int .i64 0) rfl rfl (z (nx (bk ?_)))))))))))))))))
  have H2 := H1.nil_ Int 3
  refine lp (fun m f w' => ∃ (j : Nat) (xs : List Int) (a0 : Option Addr) (c0 : Nat), m = fi.length - j ∧ f 1 = .pointer (some ⟨bb0, 0, none⟩) ∧ f 3 = .slice a0 xs.length c0 ∧ f 4 = .int .i64 (j : Int) ∧  HI M w w' [own w.heap.size 3 (.slice a0 xs.length c0) xs, box bb0 #[.slice a_fv n_fv c_fv, .slice a_fi fi.length c_fi, .slice a_fo n_fo c_fo] 66, imm (.slice a_fi fi.length c_fi) fi] ∧ (j ≤ fi.length) ∧ (xs = (fi.take j).map (frI fi))) _ ⟨0, ([] : List Int), none, 0, rfl, rfl, rfl, (ieq rfl (by first | rfl | omega | simp)), H2, (by first | assumption | omega | simp | (simp; omega)), (by rfl)⟩ ?_
  rintro _ f0 w1 ⟨j, xs, a0, c0, rfl, s0, s1, s2, H3, hk, hs⟩
  refine sq (sq (rg (k (mv rfl s2 (k (fa fl66_1 rfl s0 (k (ldX H3 1 rfl ty64 rfl rfl (by decide) rfl (k (lnS rfl rfl un64 (k (lss rfl rfl rfl rfl (z (nx ?_))))))))))))))
  refine cd (b := decide ((j : Int) < (fi.length : Int))) rfl rfl (fun b0 => ?_) (fun b0 => ?_)
  ·
    have p0 := of_decide_eq_true b0
    refine sk (nx (sq (bk (sq (rg (k (fa fl66_1 rfl s0 (k (ldX H3 1 rfl ty64 rfl rfl (by decide) rfl (k (mv rfl s2 (k (ia (H3.rv 2 rfl) rfl rfl rfl rfl (by first | omega | (simp; omega)) un64 ty102 ?_)))))))))))))
    intro ad0 x0 hx0 hA0
    refine k (ldW hA0.w ty102 rfl rfl ?_)
    intro v0 rv0
    obtain ⟨_, ⟨_, _, rfl, ⟨rfl, rv1⟩, ⟨_, _, rfl, ⟨rfl, rv2⟩, ⟨_, _, rfl, rfl, ⟨_, _, rfl, ⟨rfl, rv3⟩, ⟨rfl, rv4⟩⟩⟩⟩⟩, rfl⟩ := rv0
    refine k (al H3 ty102 ?_)
    intro bb1 w2 xt1 (H4 : HI M w w2 [box bb1 #[.int .i64 0, .int .i64 0, .bool false, .int .i64 0, .int .i64 0] 102, own w.heap.size 3 (.slice a0 xs.length c0) xs, box bb0 #[.slice a_fv n_fv c_fv, .slice a_fi fi.length c_fi, .slice a_fo n_fo c_fo] 66, imm (.slice a_fi fi.length c_fi) fi])
    refine k (stX H4 0 rfl ty102 rfl rfl rfl rfl rfl rfl rfl ?_)
    intro w3 (H5 : HI M w w3 [box bb1 #[.int .i64 x0.1, .int .i64 x0.2.1, .bool x0.2.2.1, .int .i64 x0.2.2.2.1, .int .i64 x0.2.2.2.2] 102, own w.heap.size 3 (.slice a0 xs.length c0) xs, box bb0 #[.slice a_fv n_fv c_fv, .slice a_fi fi.length c_fi, .slice a_fo n_fo c_fo] 66, imm (.slice a_fi fi.length c_fi) fi])
    refine z (nx (sq (rg (k (asg (v := .int .i64 (-2)) rfl rfl (z (nx (sq (rg (k (ldX H5 2 rfl ty66 rfl s0 (by decide) rfl (k (fa fl102_3 rfl rfl (k (ldX H5 0 rfl ty3 rfl rfl (by decide) rfl (k (fa fl102_4 rfl rfl (k (ldX H5 0 rfl ty3 rfl rfl (by decide) rfl (k ?_))))))))))))))))))))
    have cc0 := ref10_Write (fi := fi) (vr := x0.2.2.2.1) (val := x0.2.2.2.2) (a_fv := a_fv) (n_fv := n_fv) (c_fv := c_fv) (a_fo := a_fo) (n_fo := n_fo) (c_fo := c_fo) (w := w3) H5.mb (H5.rv 3 rfl) (by unfold I64 at *; omega) (by unfold I64 at *; omega)
    refine ca go112 rfl (ec rfl (ec rfl (ec rfl e0))) cc0 ?_
    rintro _ w4 ⟨rfl, xt2⟩
    have H6 := H5.ext xt2
    refine k (mv (v := .tuple #[.int .i64 (max (wrI fi x0.2.2.2.1 x0.2.2.2.2) 0), .bool (decide (0 ≤ wrI fi x0.2.2.2.1 x0.2.2.2.2))]) rfl rfl (k (xt rfl rfl rfl (k (xt rfl rfl rfl (k (asg (v := .int .i64 (max (wrI fi x0.2.2.2.1 x0.2.2.2.2) 0)) rfl rfl (k (asg (v := .bool (decide (0 ≤ wrI fi x0.2.2.2.1 x0.2.2.2.2))) rfl rfl (z (nx (sq (sq (rg (k (fa fl102_2 rfl rfl (k (ldX H6 0 rfl ty4 rfl rfl (by decide) rfl (z (nx ?_))))))))))))))))))))
    refine cd (b := x0.2.2.1) rfl rfl (fun b1 => ?_) (fun b1 => ?_)
    ·
      refine rg (k (asg (v := .int .i64 (-3)) rfl rfl (z (nx (rg (k (mv rfl s1 (k (mv (v := .int .i64 (-3)) rfl rfl (k (bs (xs := ([(-3)] : List Int)) (cells := #[.int .i64 (-3)]) (e := 3) H6 rfl (pbc rfl pb0) (fun _ => by kernel_rfl) ⟨[.int .i64 (-3)], [], rfl, ⟨rfl, (show I64 ((-3)) from (by unfold I64 at *; omega))⟩, rfl⟩ rfl (by unfold maxLen; omega) ?_)))))))))))
      intro g0 w5 xt3 (H7 : HI M w w5 [own w.heap.size 3 (.slice (some ⟨g0, 0, none⟩) 1 1) ([(-3)] : List Int), box bb1 #[.int .i64 x0.1, .int .i64 x0.2.1, .bool x0.2.2.1, .int .i64 x0.2.2.2.1, .int .i64 x0.2.2.2.2] 102, own w.heap.size 3 (.slice a0 xs.length c0) xs, box bb0 #[.slice a_fv n_fv c_fv, .slice a_fi fi.length c_fi, .slice a_fo n_fo c_fo] 66, imm (.slice a_fi fi.length c_fi) fi])
      refine k (ap H7 2 rfl rfl rfl rfl rfl rfl (own_src (H7.at_ 0 rfl)) un42 ty3 rfl (by rw [hs, List.length_map, List.length_take]; simp only [List.length_cons, List.length_nil]; omega) (by rw [hs, List.length_map, List.length_take]; simp only [List.length_cons, List.length_nil]; omega) ?_)
      intro a1 c1 w6 (H8 : HI M w w6 [own w.heap.size 3 (.slice (some ⟨g0, 0, none⟩) 1 1) ([(-3)] : List Int), box bb1 #[.int .i64 x0.1, .int .i64 x0.2.1, .bool x0.2.2.1, .int .i64 x0.2.2.2.1, .int .i64 x0.2.2.2.2] 102, own w.heap.size 3 (.slice a1 (xs ++ ([(-3)] : List Int)).length c1) (xs ++ ([(-3)] : List Int)), box bb0 #[.slice a_fv n_fv c_fv, .slice a_fi fi.length c_fi, .slice a_fo n_fo c_fo] 66, imm (.slice a_fi fi.length c_fi) fi])
      refine k (asg (v := .slice a1 (xs ++ ([(-3)] : List Int)).length c1) rfl rfl (z (inb_normal (nx (rg (k (mv rfl s2 (k (add rfl rfl rfl rfl (by unfold I64 at *; omega) (k (asg (v := .int .i64 ((j : Int) + 1)) rfl rfl (z ?_))))))))))))
      have H9 : HI M w w6 [own w.heap.size 3 (.slice a1 (xs ++ ([(-3)] : List Int)).length c1) (xs ++ ([(-3)] : List Int)), box bb0 #[.slice a_fv n_fv c_fv, .slice a_fi fi.length c_fi, .slice a_fo n_fo c_fo] 66, imm (.slice a_fi fi.length c_fi) fi] := H8.pickN [2, 3, 4] (by decide) rfl
      refine loopN _ ?_ ⟨(j + 1), (xs ++ ([(-3)] : List Int)), a1, c1, rfl, s0, rfl, (ieq rfl (by first | rfl | omega | (push_cast; omega))), H9, (by first | assumption | omega | simp | (simp; omega)), (by rw [hs]; first | exact fromR_step hx0 (frI_w b1) | exact fromR_step hx0 (frI_0 b1 p2) | exact fromR_step hx0 (frI_s b1 p2 b3) | exact fromR_step hx0 (frI_n b1 p2 b3))⟩
      omega
    ·
      refine sq (rg (k (fa fl102_4 rfl rfl (k (ldX H6 0 rfl ty3 rfl rfl (by decide) rfl (k (eql rfl rfl rfl rfl (z (nx ?_)))))))))
      refine cd (b := decide (x0.2.2.2.2 = 0)) rfl rfl (fun b2 => ?_) (fun b2 => ?_)
      ·
        have p2 := of_decide_eq_true b2
        refine rg (k (asg (v := .int .i64 (-1)) rfl rfl (z (nx (rg (k (mv rfl s1 (k (mv (v := .int .i64 (-1)) rfl rfl (k (bs (xs := ([(-1)] : List Int)) (cells := #[.int .i64 (-1)]) (e := 3) H6 rfl (pbc rfl pb0) (fun _ => by kernel_rfl) ⟨[.int .i64 (-1)], [], rfl, ⟨rfl, (show I64 ((-1)) from (by unfold I64 at *; omega))⟩, rfl⟩ rfl (by unfold maxLen; omega) ?_)))))))))))
        intro g0 w5 xt3 (H7 : HI M w w5 [own w.heap.size 3 (.slice (some ⟨g0, 0, none⟩) 1 1) ([(-1)] : List Int), box bb1 #[.int .i64 x0.1, .int .i64 x0.2.1, .bool x0.2.2.1, .int .i64 x0.2.2.2.1, .int .i64 x0.2.2.2.2] 102, own w.heap.size 3 (.slice a0 xs.length c0) xs, box bb0 #[.slice a_fv n_fv c_fv, .slice a_fi fi.length c_fi, .slice a_fo n_fo c_fo] 66, imm (.slice a_fi fi.length c_fi) fi])
        refine k (ap H7 2 rfl rfl rfl rfl rfl rfl (own_src (H7.at_ 0 rfl)) un42 ty3 rfl (by rw [hs, List.length_map, List.length_take]; simp only [List.length_cons, List.length_nil]; omega) (by rw [hs, List.length_map, List.length_take]; simp only [List.length_cons, List.length_nil]; omega) ?_)
        intro a1 c1 w6 (H8 : HI M w w6 [own w.heap.size 3 (.slice (some ⟨g0, 0, none⟩) 1 1) ([(-1)] : List Int), box bb1 #[.int .i64 x0.1, .int .i64 x0.2.1, .bool x0.2.2.1, .int .i64 x0.2.2.2.1, .int .i64 x0.2.2.2.2] 102, own w.heap.size 3 (.slice a1 (xs ++ ([(-1)] : List Int)).length c1) (xs ++ ([(-1)] : List Int)), box bb0 #[.slice a_fv n_fv c_fv, .slice a_fi fi.length c_fi, .slice a_fo n_fo c_fo] 66, imm (.slice a_fi fi.length c_fi) fi])
        refine k (asg (v := .slice a1 (xs ++ ([(-1)] : List Int)).length c1) rfl rfl (z (inb_normal (nx (rg (k (mv rfl s2 (k (add rfl rfl rfl rfl (by unfold I64 at *; omega) (k (asg (v := .int .i64 ((j : Int) + 1)) rfl rfl (z ?_))))))))))))
        have H9 : HI M w w6 [own w.heap.size 3 (.slice a1 (xs ++ ([(-1)] : List Int)).length c1) (xs ++ ([(-1)] : List Int)), box bb0 #[.slice a_fv n_fv c_fv, .slice a_fi fi.length c_fi, .slice a_fo n_fo c_fo] 66, imm (.slice a_fi fi.length c_fi) fi] := H8.pickN [2, 3, 4] (by decide) rfl
        refine loopN _ ?_ ⟨(j + 1), (xs ++ ([(-1)] : List Int)), a1, c1, rfl, s0, rfl, (ieq rfl (by first | rfl | omega | (push_cast; omega))), H9, (by first | assumption | omega | simp | (simp; omega)), (by rw [hs]; first | exact fromR_step hx0 (frI_w b1) | exact fromR_step hx0 (frI_0 b1 p2) | exact fromR_step hx0 (frI_s b1 p2 b3) | exact fromR_step hx0 (frI_n b1 p2 b3))⟩
        omega
      ·
        have p2 := of_decide_eq_false b2
        refine sq (rg (k (mv (v := .bool (decide (0 ≤ wrI fi x0.2.2.2.1 x0.2.2.2.2))) rfl rfl (z (nx ?_)))))
        refine cd (b := decide (0 ≤ wrI fi x0.2.2.2.1 x0.2.2.2.2)) rfl rfl (fun b3 => ?_) (fun b3 => ?_)
        ·
          have p3 := of_decide_eq_true b3
          refine rg (k (mv (v := .int .i64 (max (wrI fi x0.2.2.2.1 x0.2.2.2.2) 0)) rfl rfl (k (asg (v := .int .i64 (max (wrI fi x0.2.2.2.1 x0.2.2.2.2) 0)) rfl rfl (z (nx (rg (k (mv rfl s1 (k (mv (v := .int .i64 (max (wrI fi x0.2.2.2.1 x0.2.2.2.2) 0)) rfl rfl (k (bs (xs := ([(max (wrI fi x0.2.2.2.1 x0.2.2.2.2) 0)] : List Int)) (cells := #[.int .i64 (max (wrI fi x0.2.2.2.1 x0.2.2.2.2) 0)]) (e := 3) H6 rfl (pbc rfl pb0) (fun _ => by kernel_rfl) ⟨[.int .i64 (max (wrI fi x0.2.2.2.1 x0.2.2.2.2) 0)], [], rfl, ⟨rfl, (show I64 ((max (wrI fi x0.2.2.2.1 x0.2.2.2.2) 0)) from (by have h_ := idxF_range (p := isW x0.2.2.2.1 x0.2.2.2.2) (r := fi); unfold wrI; unfold I64; omega))⟩, rfl⟩ rfl (by unfold maxLen; omega) ?_)))))))))))))
          intro g0 w5 xt3 (H7 : HI M w w5 [own w.heap.size 3 (.slice (some ⟨g0, 0, none⟩) 1 1) ([(max (wrI fi x0.2.2.2.1 x0.2.2.2.2) 0)] : List Int), box bb1 #[.int .i64 x0.1, .int .i64 x0.2.1, .bool x0.2.2.1, .int .i64 x0.2.2.2.1, .int .i64 x0.2.2.2.2] 102, own w.heap.size 3 (.slice a0 xs.length c0) xs, box bb0 #[.slice a_fv n_fv c_fv, .slice a_fi fi.length c_fi, .slice a_fo n_fo c_fo] 66, imm (.slice a_fi fi.length c_fi) fi])
          refine k (ap H7 2 rfl rfl rfl rfl rfl rfl (own_src (H7.at_ 0 rfl)) un42 ty3 rfl (by rw [hs, List.length_map, List.length_take]; simp only [List.length_cons, List.length_nil]; omega) (by rw [hs, List.length_map, List.length_take]; simp only [List.length_cons, List.length_nil]; omega) ?_)
          intro a1 c1 w6 (H8 : HI M w w6 [own w.heap.size 3 (.slice (some ⟨g0, 0, none⟩) 1 1) ([(max (wrI fi x0.2.2.2.1 x0.2.2.2.2) 0)] : List Int), box bb1 #[.int .i64 x0.1, .int .i64 x0.2.1, .bool x0.2.2.1, .int .i64 x0.2.2.2.1, .int .i64 x0.2.2.2.2] 102, own w.heap.size 3 (.slice a1 (xs ++ ([(max (wrI fi x0.2.2.2.1 x0.2.2.2.2) 0)] : List Int)).length c1) (xs ++ ([(max (wrI fi x0.2.2.2.1 x0.2.2.2.2) 0)] : List Int)), box bb0 #[.slice a_fv n_fv c_fv, .slice a_fi fi.length c_fi, .slice a_fo n_fo c_fo] 66, imm (.slice a_fi fi.length c_fi) fi])
          refine k (asg (v := .slice a1 (xs ++ ([(max (wrI fi x0.2.2.2.1 x0.2.2.2.2) 0)] : List Int)).length c1) rfl rfl (z (inb_normal (nx (rg (k (mv rfl s2 (k (add rfl rfl rfl rfl (by unfold I64 at *; omega) (k (asg (v := .int .i64 ((j : Int) + 1)) rfl rfl (z ?_))))))))))))
          have H9 : HI M w w6 [own w.heap.size 3 (.slice a1 (xs ++ ([(max (wrI fi x0.2.2.2.1 x0.2.2.2.2) 0)] : List Int)).length c1) (xs ++ ([(max (wrI fi x0.2.2.2.1 x0.2.2.2.2) 0)] : List Int)), box bb0 #[.slice a_fv n_fv c_fv, .slice a_fi fi.length c_fi, .slice a_fo n_fo c_fo] 66, imm (.slice a_fi fi.length c_fi) fi] := H8.pickN [2, 3, 4] (by decide) rfl
          refine loopN _ ?_ ⟨(j + 1), (xs ++ ([(max (wrI fi x0.2.2.2.1 x0.2.2.2.2) 0)] : List Int)), a1, c1, rfl, s0, rfl, (ieq rfl (by first | rfl | omega | (push_cast; omega))), H9, (by first | assumption | omega | simp | (simp; omega)), (by rw [hs]; first | exact fromR_step hx0 (frI_w b1) | exact fromR_step hx0 (frI_0 b1 p2) | exact fromR_step hx0 (frI_s b1 p2 b3) | exact fromR_step hx0 (frI_n b1 p2 b3))⟩
          omega
        ·
          have p3 := of_decide_eq_false b3
          refine sk (nx (rg (k (mv rfl s1 (k (mv (v := .int .i64 (-2)) rfl rfl (k (bs (xs := ([(-2)] : List Int)) (cells := #[.int .i64 (-2)]) (e := 3) H6 rfl (pbc rfl pb0) (fun _ => by kernel_rfl) ⟨[.int .i64 (-2)], [], rfl, ⟨rfl, (show I64 ((-2)) from (by unfold I64 at *; omega))⟩, rfl⟩ rfl (by unfold maxLen; omega) ?_))))))))
          intro g0 w5 xt3 (H7 : HI M w w5 [own w.heap.size 3 (.slice (some ⟨g0, 0, none⟩) 1 1) ([(-2)] : List Int), box bb1 #[.int .i64 x0.1, .int .i64 x0.2.1, .bool x0.2.2.1, .int .i64 x0.2.2.2.1, .int .i64 x0.2.2.2.2] 102, own w.heap.size 3 (.slice a0 xs.length c0) xs, box bb0 #[.slice a_fv n_fv c_fv, .slice a_fi fi.length c_fi, .slice a_fo n_fo c_fo] 66, imm (.slice a_fi fi.length c_fi) fi])
          refine k (ap H7 2 rfl rfl rfl rfl rfl rfl (own_src (H7.at_ 0 rfl)) un42 ty3 rfl (by rw [hs, List.length_map, List.length_take]; simp only [List.length_cons, List.length_nil]; omega) (by rw [hs, List.length_map, List.length_take]; simp only [List.length_cons, List.length_nil]; omega) ?_)
          intro a1 c1 w6 (H8 : HI M w w6 [own w.heap.size 3 (.slice (some ⟨g0, 0, none⟩) 1 1) ([(-2)] : List Int), box bb1 #[.int .i64 x0.1, .int .i64 x0.2.1, .bool x0.2.2.1, .int .i64 x0.2.2.2.1, .int .i64 x0.2.2.2.2] 102, own w.heap.size 3 (.slice a1 (xs ++ ([(-2)] : List Int)).length c1) (xs ++ ([(-2)] : List Int)), box bb0 #[.slice a_fv n_fv c_fv, .slice a_fi fi.length c_fi, .slice a_fo n_fo c_fo] 66, imm (.slice a_fi fi.length c_fi) fi])
          refine k (asg (v := .slice a1 (xs ++ ([(-2)] : List Int)).length c1) rfl rfl (z (inb_normal (nx (rg (k (mv rfl s2 (k (add rfl rfl rfl rfl (by unfold I64 at *; omega) (k (asg (v := .int .i64 ((j : Int) + 1)) rfl rfl (z ?_))))))))))))
          have H9 : HI M w w6 [own w.heap.size 3 (.slice a1 (xs ++ ([(-2)] : List Int)).length c1) (xs ++ ([(-2)] : List Int)), box bb0 #[.slice a_fv n_fv c_fv, .slice a_fi fi.length c_fi, .slice a_fo n_fo c_fo] 66, imm (.slice a_fi fi.length c_fi) fi] := H8.pickN [2, 3, 4] (by decide) rfl
          refine loopN _ ?_ ⟨(j + 1), (xs ++ ([(-2)] : List Int)), a1, c1, rfl, s0, rfl, (ieq rfl (by first | rfl | omega | (push_cast; omega))), H9, (by first | assumption | omega | simp | (simp; omega)), (by rw [hs]; first | exact fromR_step hx0 (frI_w b1) | exact fromR_step hx0 (frI_0 b1 p2) | exact fromR_step hx0 (frI_s b1 p2 b3) | exact fromR_step hx0 (frI_n b1 p2 b3))⟩
          omega
  ·
    have p0 := of_decide_eq_false b0
    refine ex (then_exit (loop_exit (inb_here (nx (sq (rg (k (mv rfl s1 (k (asg (v := .slice a0 xs.length c0) rfl rfl (z (nx (rt (r1 rfl rfl ?_))))))))))))))
    have e0 : (xs : List Int) = fromR fi := by rw [hs]; unfold fromR; rw [take_end (by omega)]
    have ev_ := cg1 (fun (x_0 : List Int) => (.slice a0 x_0.length c0 : Value)) e0
    exact ⟨a0, c0, ev_, H3.below, (congrArg (fun (x_ : List Int) => OwnsG _ _ _ x_ (.slice a0 x_.length c0) _) e0).mp (H3.ownsG_out 0 rfl)⟩
set_option maxRecDepth 100000 in
set_option maxHeartbeats 1600000 in
theorem ref11_Fill {M : Nat → Prop} {w : World} {a_fv : Option Addr} {c_fv : Nat} {fv : List ByteArray} {a_fi : Option Addr} {c_fi : Nat} {fi : List (Int × Int × Bool × Int × Int)} {a_fo : Option Addr} {c_fo : Nat} {fo : List Int} (hM : ∀ b, M b → b < w.heap.size) (h_fv : RV M w (.slice a_fv fv.length c_fv) fv) (h_fi : RV M w (.slice a_fi fi.length c_fi) fi) (h_fo : RV M w (.slice a_fo fo.length c_fo) fo) (hn_fi : fi.length ≤ 4096) : Calls Tryd.prog 87 #[.agg #[.slice a_fv fv.length c_fv, .slice a_fi fi.length c_fi, .slice a_fo fo.length c_fo]] w (Ret fun v w' => ∃ (a0 : Option Addr) (c0 : Nat) (a1 : Option Addr) (c1 : Nat) (a2 : Option Addr) (c2 : Nat), v = .agg #[.slice a0 fv.length c0, .slice a1 fi.length c1, .slice a2 (fromR fi).length c2] ∧ Ext w w' ∧ RV M w' (.slice a0 fv.length c0) fv ∧ RV M w' (.slice a1 fi.length c1) fi ∧ RV M w' (.slice a2 (fromR fi).length c2) (fromR fi)) := by
  refine enter 10 Tryd.func87 rfl rfl rfl fun f0 ha => ?_
  have H := HI.start (M0 := M) (w := w) hM
  have H0 := H.put (it := imm (.slice a_fv fv.length c_fv) fv) rfl (by rw [MS_nil]; exact h_fv)
  have H1 := H0.put (it := imm (.slice a_fi fi.length c_fi) fi) rfl (by rw [MS_cons_none rfl, MS_nil]; exact h_fi)
  have H2 := H1.put (it := imm (.slice a_fo fo.length c_fo) fo) rfl (by rw [MS_cons_none rfl, MS_cons_none rfl, MS_nil]; exact h_fo)
  have ln_fv := rv_len h_fv
  have ln_fi := rv_len h_fi
  have ln_fo := rv_len h_fo
  have i0 : f0 0 = .agg #[.slice a_fv fv.length c_fv, .slice a_fi fi.length c_fi, .slice a_fo fo.length c_fo] := ha 0 (by simp)
  refine sq (rg (k (bx H2 rfl i0 ?_)))
  intro bb0 w0 xt0 (H3 : HI M w w0 [box bb0 #[.slice a_fv fv.length c_fv, .slice a_fi fi.length c_fi, .slice a_fo fo.length c_fo] 66, imm (.slice a_fo fo.length c_fo) fo, imm (.slice a_fi fi.length c_fi) fi, imm (.slice a_fv fv.length c_fv) fv])
  refine k (al H3 ty66 ?_)
  intro bb1 w1 xt1 (H4 : HI M w w1 [box bb1 #[.slice none 0 0, .slice none 0 0, .slice none 0 0] 66, box bb0 #[.slice a_fv fv.length c_fv, .slice a_fi fi.length c_fi, .slice a_fo fo.length c_fo] 66, imm (.slice a_fo fo.length c_fo) fo, imm (.slice a_fi fi.length c_fi) fi, imm (.slice a_fv fv.length c_fv) fv])
  refine z (nx (sq ?_))
  refine dr 6 [fun (v : Value) (w' : World) => v = .pointer (some ⟨bb0, 0, none⟩), fun (v : Value) (w' : World) => v = .slice a_fv fv.length c_fv, fun (v : Value) (w' : World) => v = .pointer (some ⟨bb0, 1, none⟩), fun (v : Value) (w' : World) => v = .slice a_fi fi.length c_fi, fun (v : Value) (w' : World) => v = .agg #[.slice a_fv fv.length c_fv, .slice a_fi fi.length c_fi, .slice a_fo fo.length c_fo], fun (v : Value) (w' : World) => ∃ (a0 : Option Addr) (c0 : Nat), v = .slice a0 (fromR fi).length c0 ∧ RV (MS M [box bb1 #[.slice none 0 0, .slice none 0 0, .slice none 0 0] 66, box bb0 #[.slice a_fv fv.length c_fv, .slice a_fi fi.length c_fi, .slice a_fo fo.length c_fo] 66, imm (.slice a_fo fo.length c_fo) fo, imm (.slice a_fi fi.length c_fi) fi, imm (.slice a_fv fv.length c_fv) fv]) w' (.slice a0 (fromR fi).length c0) (fromR fi)] rfl (by kernel_rfl) ?_ ?_
  ·
    refine ⟨fun _ => ⟨fun f0 w3 hf0 xt3 hp0 => ?_, fun _ _ _ _ h => h⟩, ?_⟩
    ·
      have H7 := H4.ext xt3
      refine fa fl66_0 rfl (hf0 1 rfl) ?_
      exact ⟨_, rfl, Ext.refl _, rfl⟩
    refine ⟨fun _ => ⟨fun f1 w4 hf1 xt4 hp1 => ?_, fun _ _ _ _ h => h⟩, ?_⟩
    ·
      have H8 := H4.ext xt4
      have s0 : f1 3 = .pointer (some ⟨bb0, 0, none⟩) := hp1 0 rfl rfl
      refine ldX H8 1 rfl ty63 rfl s0 (by decide) rfl ?_
      exact ⟨_, rfl, Ext.refl _, rfl⟩
    refine ⟨fun _ => ⟨fun f2 w5 hf2 xt5 hp2 => ?_, fun _ _ _ _ h => h⟩, ?_⟩
    ·
      have H9 := H4.ext xt5
      refine fa fl66_1 rfl (hf2 1 rfl) ?_
      exact ⟨_, rfl, Ext.refl _, rfl⟩
    refine ⟨fun _ => ⟨fun f3 w6 hf3 xt6 hp3 => ?_, fun _ _ _ _ h => h⟩, ?_⟩
    ·
      have H10 := H4.ext xt6
      have s1 : f3 5 = .pointer (some ⟨bb0, 1, none⟩) := hp3 2 rfl rfl
      refine ldX H10 1 rfl ty64 rfl s1 (by decide) rfl ?_
      exact ⟨_, rfl, Ext.refl _, rfl⟩
    refine ⟨fun _ => ⟨fun f4 w7 hf4 xt7 hp4 => ?_, fun _ _ _ _ h => h⟩, ?_⟩
    ·
      have H11 := H4.ext xt7
      refine ldX H11 1 rfl ty66 rfl (hf4 1 rfl) (by decide) rfl ?_
      exact ⟨_, rfl, Ext.refl _, rfl⟩
    refine ⟨fun _ => ⟨fun f5 w8 hf5 xt8 hp5 => ?_, by rintro _ _ _ x_ ⟨a0, c0, e_, rv1⟩; exact ⟨a0, c0, e_, rv1.lift (Up.ext x_)⟩⟩, ?_⟩
    ·
      have H12 := H4.ext xt8
      have s2 : f5 7 = .agg #[.slice a_fv fv.length c_fv, .slice a_fi fi.length c_fi, .slice a_fo fo.length c_fo] := hp5 4 rfl rfl
      have cc1 := ref11_From (fi := fi) (a_fv := a_fv) (n_fv := fv.length) (c_fv := c_fv) (a_fo := a_fo) (n_fo := fo.length) (c_fo := c_fo) (w := w8) H12.mb (H12.rv 3 rfl) (by assumption)
      refine ca go113 rfl (ec s2 e0) cc1 ?_
      rintro _ w9 ⟨a1, c1, rfl, xt9, rv2⟩
      have rv3 := OwnsG.rv rv2 H12.mb
      have H13 := H12.ext xt9
      have H14 := H13.put (it := imm (.slice a1 (fromR fi).length c1) (fromR fi)) rfl rv3
      exact ⟨_, rfl, xt9, ⟨a1, c1, rfl, rv3⟩⟩
    exact DSteps.rest rfl _
  · intro f6 w10 hf6 xt10 hp6
    have H15 := H4.ext xt10
    have s3 : f6 2 = .pointer (some ⟨bb1, 0, none⟩) := hf6 2 rfl
    have s4 : f6 4 = .slice a_fv fv.length c_fv := hp6 1 rfl
    have s5 : f6 6 = .slice a_fi fi.length c_fi := hp6 3 rfl
    obtain ⟨a2, c2, s6, rv4⟩ : ∃ (a2 : Option Addr) (c2 : Nat), f6 8 = .slice a2 (fromR fi).length c2 ∧ RV (MS M [box bb1 #[.slice none 0 0, .slice none 0 0, .slice none 0 0] 66, box bb0 #[.slice a_fv fv.length c_fv, .slice a_fi fi.length c_fi, .slice a_fo fo.length c_fo] 66, imm (.slice a_fo fo.length c_fo) fo, imm (.slice a_fi fi.length c_fi) fi, imm (.slice a_fv fv.length c_fv) fv]) w10 (.slice a2 (fromR fi).length c2) (fromR fi) := hp6 5 rfl
    have H16 := H15.put (it := imm (.slice a2 (fromR fi).length c2) (fromR fi)) rfl rv4
    refine k (bd (v := .agg #[.slice a_fv fv.length c_fv, .slice a_fi fi.length c_fi, .slice a2 (fromR fi).length c2]) rfl (pbc s4 (pbc s5 (pbc s6 pb0))) (fun _ => by kernel_rfl) (k (stX H16 1 rfl ty66 rfl rfl s3 rfl rfl rfl rfl ?_)))
    intro w11 (H17 : HI M w w11 [imm (.slice a2 (fromR fi).length c2) (fromR fi), box bb1 #[.slice a_fv fv.length c_fv, .slice a_fi fi.length c_fi, .slice a2 (fromR fi).length c2] 66, box bb0 #[.slice a_fv fv.length c_fv, .slice a_fi fi.length c_fi, .slice a_fo fo.length c_fo] 66, imm (.slice a_fo fo.length c_fo) fo, imm (.slice a_fi fi.length c_fi) fi, imm (.slice a_fv fv.length c_fv) fv])
    refine z (nx (rt (rc1 H17 1 rfl ty66 rfl rfl s3 rfl (by decide) ?_)))
    exact ⟨a_fv, c_fv, a_fi, c_fi, a2, c2, rfl, H17.below, (H17.gives_out 5 rfl), (H17.gives_out 4 rfl), (H17.gives_out 0 rfl)⟩
end Go.Proofs.YtmhopljngkgidaaDoor
namespace Go.Proofs.YtmhopljngkgidaaDoor
open Go.Ew Go.RowKit
set_option linter.unusedVariables false
set_option linter.unusedSimpArgs false
attribute [local irreducible] WL WC SO Code.wp wpList retQ Ret
attribute [local irreducible] bitB hasW inR hasR setR countW countR subR words newR listR orR firstW tab8
theorem go85 : GoF Tryd.prog 85 := ⟨_, _, Tryd.func85, rfl, by kernel_rfl⟩
theorem go86 : GoF Tryd.prog 86 := ⟨_, _, Tryd.func86, rfl, by kernel_rfl⟩
theorem go87 : GoF Tryd.prog 87 := ⟨_, _, Tryd.func87, rfl, by kernel_rfl⟩
set_option maxRecDepth 100000 in
set_option maxHeartbeats 1600000 in
theorem ref11_Of {M : Nat → Prop} {w : World} {a_h : Option Addr} {c_h : Nat} {h : List (List (Bool × ByteArray × Int))} (hM : ∀ b, M b → b < w.heap.size) (h_h : RV M w (.slice a_h h.length c_h) h) (hb_h : h.flatten.length ≤ 4096) : Calls Tryd.prog 48 #[.slice a_h h.length c_h] w (Ret fun v w' => ∃ (a0 : Option Addr) (c0 : Nat) (a1 : Option Addr) (c1 : Nat) (a2 : Option Addr) (c2 : Nat), v = .tuple #[.agg #[.slice a0 (o11V h).length c0, .slice a1 (o11I h).length c1, .slice a2 (o11F h).length c2], .bool (o11 h)] ∧ Ext w w' ∧ RV M w' (.slice a0 (o11V h).length c0) (o11V h) ∧ RV M w' (.slice a1 (o11I h).length c1) (o11I h) ∧ RV M w' (.slice a2 (o11F h).length c2) (o11F h)) := by
  refine enter 25 Tryd.func48 rfl rfl rfl fun f0 ha => ?_
  have H := HI.start (M0 := M) (w := w) hM
  have H0 := H.put (it := imm (.slice a_h h.length c_h) h) rfl (by rw [MS_nil]; exact h_h)
  have ln_h := rv_len h_h
  have i0 : f0 0 = .slice a_h h.length c_h := ha 0 (by simp)
  refine sq (rg (k (al H0 ty66 ?_)))
  intro bb0 w0 xt0 (H1 : HI M w w0 [box bb0 #[.slice none 0 0, .slice none 0 0, .slice none 0 0] 66, imm (.slice a_h h.length c_h) h])
  refine k (asg (v := .bool false) rfl rfl (z (nx (sq (rg (k (mv rfl i0 (k ?_))))))))
  have cc0 := ref09_Of (h := h) (w := w0) H1.mb (H1.rv 1 rfl) (by omega)
  refine ca go85 rfl (ec rfl e0) cc0 ?_
  rintro _ w1 ⟨a0, c0, a1, c1, a2, c2, rfl, xt1, rv0, rv1, rv2⟩
  have H2 := H1.ext xt1
  have H3 := H2.put (it := imm (.slice a0 (ofV h).length c0) (ofV h)) rfl rv0
  have H4 := H3.put (it := imm (.slice a1 (ofI h).length c1) (ofI h)) rfl (by rw [MS_cons_none rfl]; exact rv1)
  have H5 := H4.put (it := imm (.slice a2 ([] : List Int).length c2) ([] : List Int)) rfl (by rw [MS_cons_none rfl, MS_cons_none rfl]; exact rv2)
  refine k (mv (v := .tuple #[.agg #[.slice a0 (ofV h).length c0, .slice a1 (ofI h).length c1, .slice a2 ([] : List Int).length c2], .int .i64 (ofE h)]) rfl rfl (k (xt rfl rfl rfl (k (xt rfl rfl rfl (k (al H5 ty66 ?_)))))))
  intro bb1 w2 xt2 (H6 : HI M w w2 [box bb1 #[.slice none 0 0, .slice none 0 0, .slice none 0 0] 66, imm (.slice a2 ([] : List Int).length c2) ([] : List Int), imm (.slice a1 (ofI h).length c1) (ofI h), imm (.slice a0 (ofV h).length c0) (ofV h), box bb0 #[.slice none 0 0, .slice none 0 0, .slice none 0 0] 66, imm (.slice a_h h.length c_h) h])
  refine k (stX H6 0 rfl ty66 rfl rfl rfl rfl rfl rfl rfl ?_)
  intro w3 (H7 : HI M w w3 [box bb1 #[.slice a0 (ofV h).length c0, .slice a1 (ofI h).length c1, .slice a2 ([] : List Int).length c2] 66, imm (.slice a2 ([] : List Int).length c2) ([] : List Int), imm (.slice a1 (ofI h).length c1) (ofI h), imm (.slice a0 (ofV h).length c0) (ofV h), box bb0 #[.slice none 0 0, .slice none 0 0, .slice none 0 0] 66, imm (.slice a_h h.length c_h) h])
  refine k (asg (v := .int .i64 (ofE h)) rfl rfl (z (nx (sq (sq (rg (k (mv (v := .int .i64 (ofE h)) rfl rfl (k (neq rfl rfl rfl rfl (z (nx ?_))))))))))))
  refine cd (b := !decide ((ofE h) = 0)) rfl rfl (fun b0 => ?_) (fun b0 => ?_)
  ·
    have p0 := of_decide_eq_false (nott b0)
    refine sq ?_
    have hq : o11 h = false := o11_no1 (by simpa using ‹(!decide (ofE h = 0)) = true›)
    refine rg (k (bd (v := .agg #[.slice none 0 0, .slice none 0 0, .slice none 0 0]) rfl pb0 (fun _ => by kernel_rfl) (k (stX H7 4 rfl ty66 rfl rfl rfl rfl rfl rfl rfl ?_))))
    intro w4 (H8 : HI M w w4 [box bb1 #[.slice a0 (ofV h).length c0, .slice a1 (ofI h).length c1, .slice a2 ([] : List Int).length c2] 66, imm (.slice a2 ([] : List Int).length c2) ([] : List Int), imm (.slice a1 (ofI h).length c1) (ofI h), imm (.slice a0 (ofV h).length c0) (ofV h), box bb0 #[.slice none 0 0, .slice none 0 0, .slice none 0 0] 66, imm (.slice a_h h.length c_h) h])
    refine k (asg (v := .bool false) rfl rfl (z (nx (rt (then_ret (rc2 H8 4 rfl ty66 rfl rfl rfl rfl rfl (by decide) ?_))))))
    have e0 : ([] : List ByteArray) = o11V h := by first | exact (o11_no hq).1.symm | exact (o11_yes hq).1.symm
    have e1 : ([] : List (Int × Int × Bool × Int × Int)) = o11I h := by first | exact (o11_no hq).2.1.symm | exact (o11_yes hq).2.1.symm
    have e2 : ([] : List Int) = o11F h := by first | exact (o11_no hq).2.2.symm | exact (o11_yes hq).2.2.symm
    have e3 : (false : Bool) = o11 h := by exact hq.symm
    have ev_ := cg4 (fun (x_0 : List ByteArray) (x_1 : List (Int × Int × Bool × Int × Int)) (x_2 : List Int) (x_3 : Bool) => (.tuple #[.agg #[.slice none x_0.length 0, .slice none x_1.length 0, .slice none x_2.length 0], .bool x_3] : Value)) e0 e1 e2 e3
    exact ⟨none, 0, none, 0, none, 0, ev_, H8.below, (congrArg (fun (x_ : List ByteArray) => RV _ _ (.slice none x_.length 0) x_) e0).mp (rv_nil _ _), (congrArg (fun (x_ : List (Int × Int × Bool × Int × Int)) => RV _ _ (.slice none x_.length 0) x_) e1).mp (rv_nil _ _), (congrArg (fun (x_ : List Int) => RV _ _ (.slice none x_.length 0) x_) e2).mp (rv_nil _ _)⟩
  ·
    have p0 := of_decide_eq_true (notf b0)
    refine sk (nx (sq ?_))
    have he_ : ofE h = 0 := by simpa using ‹(!decide (ofE h = 0)) = false›
    refine rg (k (ldX H7 0 rfl ty66 rfl rfl (by decide) rfl (k ?_)))
    have cc1 := ref10_Check (fi := (ofI h)) (a_fv := a0) (n_fv := (ofV h).length) (c_fv := c0) (a_fo := a2) (n_fo := ([] : List Int).length) (c_fo := c2) (w := w3) H7.mb (H7.rv 2 rfl)
    refine ca go86 rfl (ec rfl e0) cc1 ?_
    rintro _ w4 ⟨rfl, xt3⟩
    have H8 := H7.ext xt3
    refine k (mv (v := .tuple #[.int .i64 ((chkA (ofI h)).1), .int .i64 ((chkA (ofI h)).2.1), .int .i64 ((chkA (ofI h)).2.2)]) rfl rfl (k (xt rfl rfl rfl (k (xt rfl rfl rfl (k (xt rfl rfl rfl (k (asg (v := .int .i64 ((chkA (ofI h)).2.2)) rfl rfl (z (nx (sq (sq (rg (k (mv (v := .int .i64 ((chkA (ofI h)).2.2)) rfl rfl (k (neq rfl rfl rfl rfl (z (nx ?_))))))))))))))))))))
    refine cd (b := !decide (((chkA (ofI h)).2.2) = 0)) rfl rfl (fun b1 => ?_) (fun b1 => ?_)
    ·
      have p1 := of_decide_eq_false (nott b1)
      refine sq ?_
      have hq : o11 h = false := o11_no2 (by simpa using ‹(!decide ((chkA (ofI h)).2.2 = 0)) = true›)
      refine rg (k (bd (v := .agg #[.slice none 0 0, .slice none 0 0, .slice none 0 0]) rfl pb0 (fun _ => by kernel_rfl) (k (stX H8 4 rfl ty66 rfl rfl rfl rfl rfl rfl rfl ?_))))
      intro w5 (H9 : HI M w w5 [box bb1 #[.slice a0 (ofV h).length c0, .slice a1 (ofI h).length c1, .slice a2 ([] : List Int).length c2] 66, imm (.slice a2 ([] : List Int).length c2) ([] : List Int), imm (.slice a1 (ofI h).length c1) (ofI h), imm (.slice a0 (ofV h).length c0) (ofV h), box bb0 #[.slice none 0 0, .slice none 0 0, .slice none 0 0] 66, imm (.slice a_h h.length c_h) h])
      refine k (asg (v := .bool false) rfl rfl (z (nx (rt (then_ret (rc2 H9 4 rfl ty66 rfl rfl rfl rfl rfl (by decide) ?_))))))
      have e0 : ([] : List ByteArray) = o11V h := by first | exact (o11_no hq).1.symm | exact (o11_yes hq).1.symm
      have e1 : ([] : List (Int × Int × Bool × Int × Int)) = o11I h := by first | exact (o11_no hq).2.1.symm | exact (o11_yes hq).2.1.symm
      have e2 : ([] : List Int) = o11F h := by first | exact (o11_no hq).2.2.symm | exact (o11_yes hq).2.2.symm
      have e3 : (false : Bool) = o11 h := by exact hq.symm
      have ev_ := cg4 (fun (x_0 : List ByteArray) (x_1 : List (Int × Int × Bool × Int × Int)) (x_2 : List Int) (x_3 : Bool) => (.tuple #[.agg #[.slice none x_0.length 0, .slice none x_1.length 0, .slice none x_2.length 0], .bool x_3] : Value)) e0 e1 e2 e3
      exact ⟨none, 0, none, 0, none, 0, ev_, H9.below, (congrArg (fun (x_ : List ByteArray) => RV _ _ (.slice none x_.length 0) x_) e0).mp (rv_nil _ _), (congrArg (fun (x_ : List (Int × Int × Bool × Int × Int)) => RV _ _ (.slice none x_.length 0) x_) e1).mp (rv_nil _ _), (congrArg (fun (x_ : List Int) => RV _ _ (.slice none x_.length 0) x_) e2).mp (rv_nil _ _)⟩
    ·
      have p1 := of_decide_eq_true (notf b1)
      refine sk (nx (sq ?_))
      have hq : o11 h = true := o11_is he_ (by simpa using ‹(!decide ((chkA (ofI h)).2.2 = 0)) = false›)
      refine rg (k (ldX H8 0 rfl ty66 rfl rfl (by decide) rfl (k ?_)))
      have cc2 := ref11_Fill (fv := (ofV h)) (fi := (ofI h)) (fo := ([] : List Int)) (w := w4) H8.mb (H8.rv 3 rfl) (H8.rv 2 rfl) (H8.rv 1 rfl) (by have h_ := ofI_len h; omega)
      refine ca go87 rfl (ec rfl e0) cc2 ?_
      rintro _ w5 ⟨a3, c3, a4, c4, a5, c5, rfl, xt4, rv3, rv4, rv5⟩
      have H9 := H8.ext xt4
      have H10 := H9.put (it := imm (.slice a3 (ofV h).length c3) (ofV h)) rfl rv3
      have H11 := H10.put (it := imm (.slice a4 (ofI h).length c4) (ofI h)) rfl (by rw [MS_cons_none rfl]; exact rv4)
      have H12 := H11.put (it := imm (.slice a5 (fromR (ofI h)).length c5) (fromR (ofI h))) rfl (by rw [MS_cons_none rfl, MS_cons_none rfl]; exact rv5)
      refine k (stX H12 7 rfl ty66 rfl rfl rfl rfl rfl rfl rfl ?_)
      intro w6 (H13 : HI M w w6 [imm (.slice a5 (fromR (ofI h)).length c5) (fromR (ofI h)), imm (.slice a4 (ofI h).length c4) (ofI h), imm (.slice a3 (ofV h).length c3) (ofV h), box bb1 #[.slice a0 (ofV h).length c0, .slice a1 (ofI h).length c1, .slice a2 ([] : List Int).length c2] 66, imm (.slice a2 ([] : List Int).length c2) ([] : List Int), imm (.slice a1 (ofI h).length c1) (ofI h), imm (.slice a0 (ofV h).length c0) (ofV h), box bb0 #[.slice a3 (ofV h).length c3, .slice a4 (ofI h).length c4, .slice a5 (fromR (ofI h)).length c5] 66, imm (.slice a_h h.length c_h) h])
      refine k (asg (v := .bool true) rfl rfl (z (nx (rt (rc2 H13 7 rfl ty66 rfl rfl rfl rfl rfl (by decide) ?_)))))
      have e0 : ((ofV h) : List ByteArray) = o11V h := by first | exact (o11_no hq).1.symm | exact (o11_yes hq).1.symm
      have e1 : ((ofI h) : List (Int × Int × Bool × Int × Int)) = o11I h := by first | exact (o11_no hq).2.1.symm | exact (o11_yes hq).2.1.symm
      have e2 : (fromR (ofI h) : List Int) = o11F h := by first | exact (o11_no hq).2.2.symm | exact (o11_yes hq).2.2.symm
      have e3 : (true : Bool) = o11 h := by exact hq.symm
      have ev_ := cg4 (fun (x_0 : List ByteArray) (x_1 : List (Int × Int × Bool × Int × Int)) (x_2 : List Int) (x_3 : Bool) => (.tuple #[.agg #[.slice a3 x_0.length c3, .slice a4 x_1.length c4, .slice a5 x_2.length c5], .bool x_3] : Value)) e0 e1 e2 e3
      exact ⟨a3, c3, a4, c4, a5, c5, ev_, H13.below, (congrArg (fun (x_ : List ByteArray) => RV _ _ (.slice a3 x_.length c3) x_) e0).mp (H13.gives_out 2 rfl), (congrArg (fun (x_ : List (Int × Int × Bool × Int × Int)) => RV _ _ (.slice a4 x_.length c4) x_) e1).mp (H13.gives_out 1 rfl), (congrArg (fun (x_ : List Int) => RV _ _ (.slice a5 x_.length c5) x_) e2).mp (H13.gives_out 0 rfl)⟩
end Go.Proofs.YtmhopljngkgidaaDoor
namespace Go.Proofs.YtmhopljngkgidaaDoor
open Go.Ew Go.RowKit
set_option linter.unusedVariables false
set_option linter.unusedSimpArgs false
attribute [local irreducible] WL WC SO Code.wp wpList retQ Ret
attribute [local irreducible] bitB hasW inR hasR setR countW countR subR words newR listR orR firstW tab8
theorem fl61_0 : FldF Tryd.prog 61 0 0 := ⟨_, _, Tryd.underlying61, rfl, rfl, by kernel_rfl⟩
theorem go12 : GoF Tryd.prog 12 := ⟨_, _, Tryd.func12, rfl, by kernel_rfl⟩
theorem go47 : GoF Tryd.prog 47 := ⟨_, _, Tryd.func47, rfl, by kernel_rfl⟩
theorem go13 : GoF Tryd.prog 13 := ⟨_, _, Tryd.func13, rfl, by kernel_rfl⟩
theorem fl61_2 : FldF Tryd.prog 61 2 3 := ⟨_, _, Tryd.underlying61, rfl, rfl, by kernel_rfl⟩
theorem ty59 : TyF Tryd.prog 59 1 false 24 (.slice none 0 0) := ⟨by kernel_rfl, by kernel_rfl⟩
theorem go46 : GoF Tryd.prog 46 := ⟨_, _, Tryd.func46, rfl, by kernel_rfl⟩
theorem fl61_3 : FldF Tryd.prog 61 3 4 := ⟨_, _, Tryd.underlying61, rfl, rfl, by kernel_rfl⟩
theorem ty42 : TyF Tryd.prog 42 1 false 24 (.slice none 0 0) := ⟨by kernel_rfl, by kernel_rfl⟩
theorem go48 : GoF Tryd.prog 48 := ⟨_, _, Tryd.func48, rfl, by kernel_rfl⟩
theorem fl61_1 : FldF Tryd.prog 61 1 2 := ⟨_, _, Tryd.underlying61, rfl, rfl, by kernel_rfl⟩
theorem go50 : GoF Tryd.prog 50 := ⟨_, _, Tryd.func50, rfl, by kernel_rfl⟩
theorem go52 : GoF Tryd.prog 52 := ⟨_, _, Tryd.func52, rfl, by kernel_rfl⟩
theorem fl61_4 : FldF Tryd.prog 61 4 5 := ⟨_, _, Tryd.underlying61, rfl, rfl, by kernel_rfl⟩
theorem go53 : GoF Tryd.prog 53 := ⟨_, _, Tryd.func53, rfl, by kernel_rfl⟩
theorem go54 : GoF Tryd.prog 54 := ⟨_, _, Tryd.func54, rfl, by kernel_rfl⟩
theorem go55 : GoF Tryd.prog 55 := ⟨_, _, Tryd.func55, rfl, by kernel_rfl⟩
theorem go56 : GoF Tryd.prog 56 := ⟨_, _, Tryd.func56, rfl, by kernel_rfl⟩
set_option maxRecDepth 100000 in
set_option maxHeartbeats 1600000 in
theorem law_PastTells {M : Nat → Prop} {w : World} {mn : Int} {a_mr : Option Addr} {c_mr : Nat} {mr : List (List (BitVec 64))} {o : Int} {a_hh : Option Addr} {c_hh : Nat} {hh : List (List (Bool × ByteArray × Int))} {a_l : Option Addr} {c_l : Nat} {l : List Int} {vr : Int} (hM : ∀ b, M b → b < w.heap.size) (hT : TabAt 0 w) (h_mn : I64 mn) (h_mr : RV M w (.slice a_mr mr.length c_mr) mr) (h_o : I64 o) (h_hh : RV M w (.slice a_hh hh.length c_hh) hh) (h_l : RV M w (.slice a_l l.length c_l) l) (h_vr : I64 vr) (hb_hh : hh.flatten.length ≤ 1048576) : Calls Tryd.prog 11 #[.agg #[.int .i64 mn, .slice a_mr mr.length c_mr, .int .i64 o, .slice a_hh hh.length c_hh, .slice a_l l.length c_l, .int .i64 vr]] w (Ret fun v w' =>  v = .bool true ∧ Ext w w') := by
  refine enter 90 Tryd.func11 rfl rfl rfl fun f0 ha => ?_
  have H := HI.start (M0 := M) (w := w) hM
  have H0 := H.put (it := imm (.slice a_mr mr.length c_mr) mr) rfl (by rw [MS_nil]; exact h_mr)
  have H1 := H0.put (it := imm (.slice a_hh hh.length c_hh) hh) rfl (by rw [MS_cons_none rfl, MS_nil]; exact h_hh)
  have H2 := H1.put (it := imm (.slice a_l l.length c_l) l) rfl (by rw [MS_cons_none rfl, MS_cons_none rfl, MS_nil]; exact h_l)
  have ln_mr := rv_len h_mr
  have ln_hh := rv_len h_hh
  have ln_l := rv_len h_l
  have i0 : f0 0 = .agg #[.int .i64 mn, .slice a_mr mr.length c_mr, .int .i64 o, .slice a_hh hh.length c_hh, .slice a_l l.length c_l, .int .i64 vr] := ha 0 (by simp)
  refine sq (rg (k (bx H2 rfl i0 ?_)))
  intro bb0 w0 xt0 (H3 : HI M w w0 [box bb0 #[.int .i64 mn, .slice a_mr mr.length c_mr, .int .i64 o, .slice a_hh hh.length c_hh, .slice a_l l.length c_l, .int .i64 vr] 61, imm (.slice a_l l.length c_l) l, imm (.slice a_hh hh.length c_hh) hh, imm (.slice a_mr mr.length c_mr) mr])
  refine k (asg (v := .bool false) rfl rfl (z (nx (sq (sq (rg (k (fa fl61_0 rfl rfl (k (ldX H3 0 rfl ty24 rfl rfl (by decide) rfl (k ?_)))))))))))
  have cc0 := ref03_Small (mn := mn) (mr := mr) (mo := 16) (w := w0) H3.mb (by unfold I64 at *; omega) (H3.rv 3 rfl) (by unfold I64 at *; omega)
  refine ca go12 rfl (ec rfl (ec rfl e0)) cc0 ?_
  rintro _ w1 ⟨rfl, xt1⟩
  have H4 := H3.ext xt1
  refine k (not_ rfl rfl (k (mv (v := .bool (!(smallM mr 16))) rfl rfl ?_)))
  rcases Bool.eq_false_or_eq_true (!(smallM mr 16)) with b0 | b0
  · -- !(smallM mr 16) is True
    refine k (gn rfl rfl rfl b0 (k (gn rfl rfl rfl b0 (k (gn rfl rfl rfl b0 (k (gn rfl rfl rfl b0 (k (pickT rfl rfl rfl rfl b0 rfl (k (mv (v := .bool true) rfl rfl (k (gn rfl rfl rfl rfl (k (gn rfl rfl rfl rfl (k (gn rfl rfl rfl rfl (k (gn rfl rfl rfl rfl (k (pickT rfl rfl rfl rfl rfl rfl (k (mv (v := .bool true) rfl rfl (k (gn rfl rfl rfl rfl (k (gn rfl rfl rfl rfl (k (gn rfl rfl rfl rfl (k (gn rfl rfl rfl rfl (k (pickT rfl rfl rfl rfl rfl rfl (z (nx (cdT rfl rfl rfl (sq (rg (k ?_)))))))))))))))))))))))))))))))))))))))
    have cc1 := awake16 (w := w1) (hT.ext H4.below)
    refine ca go47 rfl e0 cc1 ?_
    rintro _ w2 ⟨rfl, xt2⟩
    have H5 := H4.ext xt2
    refine k (asg (v := .bool true) rfl rfl (z (nx (rt (then_ret (r1 rfl rfl ?_))))))
    exact ⟨rfl, H5.below⟩
  · -- !(smallM mr 16) is False
    refine k (gy rfl rfl rfl b0 (fa fl61_0 rfl rfl (k (gy rfl rfl rfl b0 (ldX H4 0 rfl ty24 rfl rfl (by decide) rfl (k (gy rfl rfl rfl b0 ?_)))))))
    have cc1 := ref03_Right (mn := mn) (mr := mr) (w := w1) H4.mb (by unfold I64 at *; omega) (H4.rv 3 rfl)
    refine ca go13 rfl (ec rfl e0) cc1 ?_
    rintro _ w2 ⟨rfl, xt2⟩
    have H5 := H4.ext xt2
    refine k (gy rfl rfl rfl b0 (not_ rfl rfl (k (pickF rfl rfl rfl rfl b0 rfl (k (mv (v := .bool (!(rightS mn mr))) rfl rfl ?_))))))
    rcases Bool.eq_false_or_eq_true (!(rightS mn mr)) with b1 | b1
    · -- !(rightS mn mr) is True
      refine k (gn rfl rfl rfl b1 (k (gn rfl rfl rfl b1 (k (gn rfl rfl rfl b1 (k (gn rfl rfl rfl b1 (k (pickT rfl rfl rfl rfl b1 rfl (k (mv (v := .bool true) rfl rfl (k (gn rfl rfl rfl rfl (k (gn rfl rfl rfl rfl (k (gn rfl rfl rfl rfl (k (gn rfl rfl rfl rfl (k (pickT rfl rfl rfl rfl rfl rfl (z (nx (cdT rfl rfl rfl (sq (rg (k ?_)))))))))))))))))))))))))))
      have cc2 := awake16 (w := w2) (hT.ext H5.below)
      refine ca go47 rfl e0 cc2 ?_
      rintro _ w3 ⟨rfl, xt3⟩
      have H6 := H5.ext xt3
      refine k (asg (v := .bool true) rfl rfl (z (nx (rt (then_ret (r1 rfl rfl ?_))))))
      exact ⟨rfl, H6.below⟩
    · -- !(rightS mn mr) is False
      refine k (gy rfl rfl rfl b1 (fa fl61_2 rfl rfl (k (gy rfl rfl rfl b1 (ldX H5 0 rfl ty59 rfl rfl (by decide) rfl (k (gy rfl rfl rfl b1 ?_)))))))
      have cc2 := ref06_Small (h := hh) (m := 30) (w := w2) H5.mb (H5.rv 2 rfl) (by unfold I64 at *; omega) (by omega)
      refine ca go46 rfl (ec rfl (ec rfl e0)) cc2 ?_
      rintro _ w3 ⟨rfl, xt3⟩
      have H6 := H5.ext xt3
      refine k (gy rfl rfl rfl b1 (not_ rfl rfl (k (pickF rfl rfl rfl rfl b1 rfl (k (mv (v := .bool (!(smallH hh 30))) rfl rfl ?_))))))
      rcases Bool.eq_false_or_eq_true (!(smallH hh 30)) with b2 | b2
      · -- !(smallH hh 30) is True
        refine k (gn rfl rfl rfl b2 (k (gn rfl rfl rfl b2 (k (gn rfl rfl rfl b2 (k (gn rfl rfl rfl b2 (k (pickT rfl rfl rfl rfl b2 rfl (z (nx (cdT rfl rfl rfl (sq (rg (k ?_)))))))))))))))
        have cc3 := awake16 (w := w3) (hT.ext H6.below)
        refine ca go47 rfl e0 cc3 ?_
        rintro _ w4 ⟨rfl, xt4⟩
        have H7 := H6.ext xt4
        refine k (asg (v := .bool true) rfl rfl (z (nx (rt (then_ret (r1 rfl rfl ?_))))))
        exact ⟨rfl, H7.below⟩
      · -- !(smallH hh 30) is False
        refine k (gy rfl rfl rfl b2 (fa fl61_3 rfl rfl (k (gy rfl rfl rfl b2 (ldX H6 0 rfl ty42 rfl rfl (by decide) rfl (k (gy rfl rfl rfl b2 (lnS rfl rfl un42 (k (gy rfl rfl rfl b2 (gtr rfl rfl rfl rfl (k (pickF rfl rfl rfl rfl b2 rfl (z (nx ?_)))))))))))))))
        refine cd (b := decide (40 < (l.length : Int))) rfl rfl (fun b3 => ?_) (fun b3 => ?_)
        ·
          have p3 := of_decide_eq_true b3
          refine sq (rg (k ?_))
          have cc3 := awake16 (w := w3) (hT.ext H6.below)
          refine ca go47 rfl e0 cc3 ?_
          rintro _ w4 ⟨rfl, xt4⟩
          have H7 := H6.ext xt4
          refine k (asg (v := .bool true) rfl rfl (z (nx (rt (then_ret (r1 rfl rfl ?_))))))
          exact ⟨rfl, H7.below⟩
        ·
          have p3 := of_decide_eq_false b3
          refine sk (nx (sq ?_))
          have sm_ : smallH hh 30 = true := by simpa using ‹(!smallH hh 30) = false›
          have fl_ := (small_iff.1 sm_).2.1
          have il_ := o11I_len hh
          have rt_m : rightS mn mr = true := by simpa using ‹(!rightS mn mr) = false›
          refine rg (k (fa fl61_2 rfl rfl (k (ldX H6 0 rfl ty59 rfl rfl (by decide) rfl (k ?_)))))
          have cc3 := ref11_Of (h := hh) (w := w3) H6.mb (H6.rv 2 rfl) (by omega)
          refine ca go48 rfl (ec rfl e0) cc3 ?_
          rintro _ w4 ⟨a0, c0, a1, c1, a2, c2, rfl, xt4, rv0, rv1, rv2⟩
          have H7 := H6.ext xt4
          have H8 := H7.put (it := imm (.slice a0 (o11V hh).length c0) (o11V hh)) rfl rv0
          have H9 := H8.put (it := imm (.slice a1 (o11I hh).length c1) (o11I hh)) rfl (by rw [MS_cons_none rfl]; exact rv1)
          have H10 := H9.put (it := imm (.slice a2 (o11F hh).length c2) (o11F hh)) rfl (by rw [MS_cons_none rfl, MS_cons_none rfl]; exact rv2)
          refine k (mv (v := .tuple #[.agg #[.slice a0 (o11V hh).length c0, .slice a1 (o11I hh).length c1, .slice a2 (o11F hh).length c2], .bool (o11 hh)]) rfl rfl (k (xt rfl rfl rfl (k (xt rfl rfl rfl (k (al H10 ty66 ?_)))))))
          intro bb1 w5 xt5 (H11 : HI M w w5 [box bb1 #[.slice none 0 0, .slice none 0 0, .slice none 0 0] 66, imm (.slice a2 (o11F hh).length c2) (o11F hh), imm (.slice a1 (o11I hh).length c1) (o11I hh), imm (.slice a0 (o11V hh).length c0) (o11V hh), box bb0 #[.int .i64 mn, .slice a_mr mr.length c_mr, .int .i64 o, .slice a_hh hh.length c_hh, .slice a_l l.length c_l, .int .i64 vr] 61, imm (.slice a_l l.length c_l) l, imm (.slice a_hh hh.length c_hh) hh, imm (.slice a_mr mr.length c_mr) mr])
          refine k (stX H11 0 rfl ty66 rfl rfl rfl rfl rfl rfl rfl ?_)
          intro w6 (H12 : HI M w w6 [box bb1 #[.slice a0 (o11V hh).length c0, .slice a1 (o11I hh).length c1, .slice a2 (o11F hh).length c2] 66, imm (.slice a2 (o11F hh).length c2) (o11F hh), imm (.slice a1 (o11I hh).length c1) (o11I hh), imm (.slice a0 (o11V hh).length c0) (o11V hh), box bb0 #[.int .i64 mn, .slice a_mr mr.length c_mr, .int .i64 o, .slice a_hh hh.length c_hh, .slice a_l l.length c_l, .int .i64 vr] 61, imm (.slice a_l l.length c_l) l, imm (.slice a_hh hh.length c_hh) hh, imm (.slice a_mr mr.length c_mr) mr])
          refine k (asg (v := .bool (o11 hh)) rfl rfl (z (nx (sq (sq (rg (k (mv (v := .bool (o11 hh)) rfl rfl (k (not_ rfl rfl (z (nx ?_))))))))))))
          refine cd (b := !(o11 hh)) rfl rfl (fun b4 => ?_) (fun b4 => ?_)
          ·
            refine sq (rg (k ?_))
            have cc4 := awake16 (w := w6) (hT.ext H12.below)
            refine ca go47 rfl e0 cc4 ?_
            rintro _ w7 ⟨rfl, xt6⟩
            have H13 := H12.ext xt6
            refine k (asg (v := .bool true) rfl rfl (z (nx (rt (then_ret (r1 rfl rfl ?_))))))
            exact ⟨rfl, H13.below⟩
          ·
            refine sk (nx (sq ?_))
            refine dr 50 [fun (v : Value) (w' : World) => v = .bool true, fun (v : Value) (w' : World) => v = .bool true, fun (v : Value) (w' : World) => v = .pointer (some ⟨bb0, 0, none⟩), fun (v : Value) (w' : World) => v = .agg #[.int .i64 mn, .slice a_mr mr.length c_mr], fun (v : Value) (w' : World) => v = .pointer (some ⟨bb0, 2, none⟩), fun (v : Value) (w' : World) => v = .int .i64 o, fun (v : Value) (w' : World) => ∃ (a3 : Option Addr) (c3 : Nat), v = .slice a3 (pastL mn mr o).length c3 ∧ RV (MS M [box bb1 #[.slice a0 (o11V hh).length c0, .slice a1 (o11I hh).length c1, .slice a2 (o11F hh).length c2] 66, imm (.slice a2 (o11F hh).length c2) (o11F hh), imm (.slice a1 (o11I hh).length c1) (o11I hh), imm (.slice a0 (o11V hh).length c0) (o11V hh), box bb0 #[.int .i64 mn, .slice a_mr mr.length c_mr, .int .i64 o, .slice a_hh hh.length c_hh, .slice a_l l.length c_l, .int .i64 vr] 61, imm (.slice a_l l.length c_l) l, imm (.slice a_hh hh.length c_hh) hh, imm (.slice a_mr mr.length c_mr) mr]) w' (.slice a3 (pastL mn mr o).length c3) (pastL mn mr o), fun (v : Value) (w' : World) => v = .pointer (some ⟨bb0, 0, none⟩), fun (v : Value) (w' : World) => v = .agg #[.int .i64 mn, .slice a_mr mr.length c_mr], fun (v : Value) (w' : World) => v = .pointer (some ⟨bb0, 2, none⟩), fun (v : Value) (w' : World) => v = .int .i64 o, fun (v : Value) (w' : World) => ∃ (a4 : Option Addr) (c4 : Nat), v = .slice a4 (pastL mn mr o).length c4 ∧ RV (MS M [box bb1 #[.slice a0 (o11V hh).length c0, .slice a1 (o11I hh).length c1, .slice a2 (o11F hh).length c2] 66, imm (.slice a2 (o11F hh).length c2) (o11F hh), imm (.slice a1 (o11I hh).length c1) (o11I hh), imm (.slice a0 (o11V hh).length c0) (o11V hh), box bb0 #[.int .i64 mn, .slice a_mr mr.length c_mr, .int .i64 o, .slice a_hh hh.length c_hh, .slice a_l l.length c_l, .int .i64 vr] 61, imm (.slice a_l l.length c_l) l, imm (.slice a_hh hh.length c_hh) hh, imm (.slice a_mr mr.length c_mr) mr]) w' (.slice a4 (pastL mn mr o).length c4) (pastL mn mr o), fun (v : Value) (w' : World) => v = .bool (decide ((pastL mn mr o) = (pastL mn mr o))), fun (v : Value) (w' : World) => v = .bool (decide ((pastL mn mr o) = (pastL mn mr o))), fun (v : Value) (w' : World) => v = .bool (decide ((pastL mn mr o) = (pastL mn mr o))), fun (v : Value) (w' : World) => v = .pointer (some ⟨bb0, 0, none⟩), fun (v : Value) (w' : World) => v = .agg #[.int .i64 mn, .slice a_mr mr.length c_mr], fun (v : Value) (w' : World) => v = .pointer (some ⟨bb0, 2, none⟩), fun (v : Value) (w' : World) => v = .int .i64 o, fun (v : Value) (w' : World) => ∃ (a5 : Option Addr) (c5 : Nat), v = .slice a5 (withL mn mr o).length c5 ∧ RV (MS M [box bb1 #[.slice a0 (o11V hh).length c0, .slice a1 (o11I hh).length c1, .slice a2 (o11F hh).length c2] 66, imm (.slice a2 (o11F hh).length c2) (o11F hh), imm (.slice a1 (o11I hh).length c1) (o11I hh), imm (.slice a0 (o11V hh).length c0) (o11V hh), box bb0 #[.int .i64 mn, .slice a_mr mr.length c_mr, .int .i64 o, .slice a_hh hh.length c_hh, .slice a_l l.length c_l, .int .i64 vr] 61, imm (.slice a_l l.length c_l) l, imm (.slice a_hh hh.length c_hh) hh, imm (.slice a_mr mr.length c_mr) mr]) w' (.slice a5 (withL mn mr o).length c5) (withL mn mr o), fun (v : Value) (w' : World) => v = .pointer (some ⟨bb0, 0, none⟩), fun (v : Value) (w' : World) => v = .agg #[.int .i64 mn, .slice a_mr mr.length c_mr], fun (v : Value) (w' : World) => v = .pointer (some ⟨bb0, 2, none⟩), fun (v : Value) (w' : World) => v = .int .i64 o, fun (v : Value) (w' : World) => ∃ (a6 : Option Addr) (c6 : Nat), v = .slice a6 (withL mn mr o).length c6 ∧ RV (MS M [box bb1 #[.slice a0 (o11V hh).length c0, .slice a1 (o11I hh).length c1, .slice a2 (o11F hh).length c2] 66, imm (.slice a2 (o11F hh).length c2) (o11F hh), imm (.slice a1 (o11I hh).length c1) (o11I hh), imm (.slice a0 (o11V hh).length c0) (o11V hh), box bb0 #[.int .i64 mn, .slice a_mr mr.length c_mr, .int .i64 o, .slice a_hh hh.length c_hh, .slice a_l l.length c_l, .int .i64 vr] 61, imm (.slice a_l l.length c_l) l, imm (.slice a_hh hh.length c_hh) hh, imm (.slice a_mr mr.length c_mr) mr]) w' (.slice a6 (withL mn mr o).length c6) (withL mn mr o), fun (v : Value) (w' : World) => v = .bool (decide ((withL mn mr o) = (withL mn mr o))), fun (v : Value) (w' : World) => v = .bool (decide ((withL mn mr o) = (withL mn mr o))), fun (v : Value) (w' : World) => v = .bool (decide ((withL mn mr o) = (withL mn mr o))), fun (v : Value) (w' : World) => v = .agg #[.slice a0 (o11V hh).length c0, .slice a1 (o11I hh).length c1, .slice a2 (o11F hh).length c2], fun (v : Value) (w' : World) => v = .pointer (some ⟨bb0, 4, none⟩), fun (v : Value) (w' : World) => v = .slice a_l l.length c_l, fun (v : Value) (w' : World) => v = .pointer (some ⟨bb0, 5, none⟩), fun (v : Value) (w' : World) => v = .int .i64 vr, fun (v : Value) (w' : World) => ∃ (a7 : Option Addr) (c7 : Nat), v = .slice a7 (keepL (wrB (o11I hh) vr) l).length c7 ∧ RV (MS M [box bb1 #[.slice a0 (o11V hh).length c0, .slice a1 (o11I hh).length c1, .slice a2 (o11F hh).length c2] 66, imm (.slice a2 (o11F hh).length c2) (o11F hh), imm (.slice a1 (o11I hh).length c1) (o11I hh), imm (.slice a0 (o11V hh).length c0) (o11V hh), box bb0 #[.int .i64 mn, .slice a_mr mr.length c_mr, .int .i64 o, .slice a_hh hh.length c_hh, .slice a_l l.length c_l, .int .i64 vr] 61, imm (.slice a_l l.length c_l) l, imm (.slice a_hh hh.length c_hh) hh, imm (.slice a_mr mr.length c_mr) mr]) w' (.slice a7 (keepL (wrB (o11I hh) vr) l).length c7) (keepL (wrB (o11I hh) vr) l), fun (v : Value) (w' : World) => v = .agg #[.slice a0 (o11V hh).length c0, .slice a1 (o11I hh).length c1, .slice a2 (o11F hh).length c2], fun (v : Value) (w' : World) => v = .pointer (some ⟨bb0, 4, none⟩), fun (v : Value) (w' : World) => v = .slice a_l l.length c_l, fun (v : Value) (w' : World) => v = .pointer (some ⟨bb0, 5, none⟩), fun (v : Value) (w' : World) => v = .int .i64 vr, fun (v : Value) (w' : World) => ∃ (a8 : Option Addr) (c8 : Nat), v = .slice a8 (keepL (wrB (o11I hh) vr) l).length c8 ∧ RV (MS M [box bb1 #[.slice a0 (o11V hh).length c0, .slice a1 (o11I hh).length c1, .slice a2 (o11F hh).length c2] 66, imm (.slice a2 (o11F hh).length c2) (o11F hh), imm (.slice a1 (o11I hh).length c1) (o11I hh), imm (.slice a0 (o11V hh).length c0) (o11V hh), box bb0 #[.int .i64 mn, .slice a_mr mr.length c_mr, .int .i64 o, .slice a_hh hh.length c_hh, .slice a_l l.length c_l, .int .i64 vr] 61, imm (.slice a_l l.length c_l) l, imm (.slice a_hh hh.length c_hh) hh, imm (.slice a_mr mr.length c_mr) mr]) w' (.slice a8 (keepL (wrB (o11I hh) vr) l).length c8) (keepL (wrB (o11I hh) vr) l), fun (v : Value) (w' : World) => v = .bool (decide ((keepL (wrB (o11I hh) vr) l) = (keepL (wrB (o11I hh) vr) l))), fun (v : Value) (w' : World) => v = .bool (decide ((keepL (wrB (o11I hh) vr) l) = (keepL (wrB (o11I hh) vr) l))), fun (v : Value) (w' : World) => v = .bool (decide ((keepL (wrB (o11I hh) vr) l) = (keepL (wrB (o11I hh) vr) l))), fun (v : Value) (w' : World) => v = .agg #[.slice a0 (o11V hh).length c0, .slice a1 (o11I hh).length c1, .slice a2 (o11F hh).length c2], fun (v : Value) (w' : World) => v = .pointer (some ⟨bb0, 2, none⟩), fun (v : Value) (w' : World) => v = .int .i64 o, fun (v : Value) (w' : World) => ∃ (a9 : Option Addr) (c9 : Nat), v = .slice a9 (keepL (wrQ (o11I hh)) (pastA (o11I hh) o)).length c9 ∧ RV (MS M [box bb1 #[.slice a0 (o11V hh).length c0, .slice a1 (o11I hh).length c1, .slice a2 (o11F hh).length c2] 66, imm (.slice a2 (o11F hh).length c2) (o11F hh), imm (.slice a1 (o11I hh).length c1) (o11I hh), imm (.slice a0 (o11V hh).length c0) (o11V hh), box bb0 #[.int .i64 mn, .slice a_mr mr.length c_mr, .int .i64 o, .slice a_hh hh.length c_hh, .slice a_l l.length c_l, .int .i64 vr] 61, imm (.slice a_l l.length c_l) l, imm (.slice a_hh hh.length c_hh) hh, imm (.slice a_mr mr.length c_mr) mr]) w' (.slice a9 (keepL (wrQ (o11I hh)) (pastA (o11I hh) o)).length c9) (keepL (wrQ (o11I hh)) (pastA (o11I hh) o)), fun (v : Value) (w' : World) => v = .agg #[.slice a0 (o11V hh).length c0, .slice a1 (o11I hh).length c1, .slice a2 (o11F hh).length c2], fun (v : Value) (w' : World) => v = .pointer (some ⟨bb0, 2, none⟩), fun (v : Value) (w' : World) => v = .int .i64 o] rfl (by kernel_rfl) ?_ ?_
            ·
              refine ⟨fun _ => ⟨fun f0 w18 hf0 xt17 hp0 => ?_, fun _ _ _ _ h => h⟩, ?_⟩
              ·
                have H31 := H12.ext xt17
                have cc15 := awake16 (w := w18) (hT.ext H31.below)
                refine ca go47 rfl e0 cc15 ?_
                rintro _ w19 ⟨rfl, xt18⟩
                have H32 := H31.ext xt18
                exact ⟨_, rfl, xt18, rfl⟩
              refine ⟨fun _ => ⟨fun f1 w20 hf1 xt19 hp1 => ?_, fun _ _ _ _ h => h⟩, ?_⟩
              ·
                have H33 := H12.ext xt19
                have s0 : f1 37 = .bool true := hp1 0 rfl rfl
                refine mv rfl s0 ?_
                exact ⟨_, rfl, Ext.refl _, rfl⟩
              refine ⟨fun _ => ⟨fun f2 w21 hf2 xt20 hp2 => ?_, fun _ _ _ _ h => h⟩, ?_⟩
              ·
                have H34 := H12.ext xt20
                have s1 : f2 38 = .bool true := hp2 1 rfl rfl
                refine gy rfl rfl s1 rfl (fa fl61_0 rfl (hf2 1 rfl) ?_)
                exact ⟨_, rfl, Ext.refl _, rfl⟩
              refine ⟨fun _ => ⟨fun f3 w22 hf3 xt21 hp3 => ?_, fun _ _ _ _ h => h⟩, ?_⟩
              ·
                have H35 := H12.ext xt21
                have s2 : f3 38 = .bool true := hp3 1 rfl rfl
                have s3 : f3 39 = .pointer (some ⟨bb0, 0, none⟩) := hp3 2 rfl rfl
                refine gy rfl rfl s2 rfl (ldX H35 4 rfl ty24 rfl s3 (by decide) rfl ?_)
                exact ⟨_, rfl, Ext.refl _, rfl⟩
              refine ⟨fun _ => ⟨fun f4 w23 hf4 xt22 hp4 => ?_, fun _ _ _ _ h => h⟩, ?_⟩
              ·
                have H36 := H12.ext xt22
                have s4 : f4 38 = .bool true := hp4 1 rfl rfl
                refine gy rfl rfl s4 rfl (fa fl61_1 rfl (hf4 1 rfl) ?_)
                exact ⟨_, rfl, Ext.refl _, rfl⟩
              refine ⟨fun _ => ⟨fun f5 w24 hf5 xt23 hp5 => ?_, fun _ _ _ _ h => h⟩, ?_⟩
              ·
                have H37 := H12.ext xt23
                have s5 : f5 38 = .bool true := hp5 1 rfl rfl
                have s6 : f5 41 = .pointer (some ⟨bb0, 2, none⟩) := hp5 4 rfl rfl
                refine gy rfl rfl s5 rfl (ldX H37 4 rfl ty3 rfl s6 (by decide) rfl ?_)
                exact ⟨_, rfl, Ext.refl _, rfl⟩
              refine ⟨fun _ => ⟨fun f6 w25 hf6 xt24 hp6 => ?_, by rintro _ _ _ x_ ⟨a3, c3, e_, rv4⟩; exact ⟨a3, c3, e_, rv4.lift (Up.ext x_)⟩⟩, ?_⟩
              ·
                have H38 := H12.ext xt24
                have s7 : f6 38 = .bool true := hp6 1 rfl rfl
                have s8 : f6 40 = .agg #[.int .i64 mn, .slice a_mr mr.length c_mr] := hp6 3 rfl rfl
                have s9 : f6 42 = .int .i64 o := hp6 5 rfl rfl
                refine gy rfl rfl s7 rfl ?_
                have cc16 := past_Of (mn := mn) (mr := mr) (o := o) (w := w25) H38.mb (hT.ext H38.below) (by unfold I64 at *; omega) (H38.rv 7 rfl) (by unfold I64 at *; omega) (by exact rt_m)
                refine ca go49 rfl (ec s8 (ec s9 e0)) cc16 ?_
                rintro _ w26 ⟨a10, c10, rfl, xt25, rv17⟩
                have rv18 := OwnsG.rv rv17 H38.mb
                have H39 := H38.ext xt25
                have H40 := H39.put (it := imm (.slice a10 (pastL mn mr o).length c10) (pastL mn mr o)) rfl rv18
                exact ⟨_, rfl, xt25, ⟨a10, c10, rfl, rv18⟩⟩
              refine ⟨fun _ => ⟨fun f7 w27 hf7 xt26 hp7 => ?_, fun _ _ _ _ h => h⟩, ?_⟩
              ·
                have H41 := H12.ext xt26
                have s10 : f7 38 = .bool true := hp7 1 rfl rfl
                refine gy rfl rfl s10 rfl (fa fl61_0 rfl (hf7 1 rfl) ?_)
                exact ⟨_, rfl, Ext.refl _, rfl⟩
              refine ⟨fun _ => ⟨fun f8 w28 hf8 xt27 hp8 => ?_, fun _ _ _ _ h => h⟩, ?_⟩
              ·
                have H42 := H12.ext xt27
                have s11 : f8 38 = .bool true := hp8 1 rfl rfl
                have s12 : f8 44 = .pointer (some ⟨bb0, 0, none⟩) := hp8 7 rfl rfl
                refine gy rfl rfl s11 rfl (ldX H42 4 rfl ty24 rfl s12 (by decide) rfl ?_)
                exact ⟨_, rfl, Ext.refl _, rfl⟩
              refine ⟨fun _ => ⟨fun f9 w29 hf9 xt28 hp9 => ?_, fun _ _ _ _ h => h⟩, ?_⟩
              ·
                have H43 := H12.ext xt28
                have s13 : f9 38 = .bool true := hp9 1 rfl rfl
                refine gy rfl rfl s13 rfl (fa fl61_1 rfl (hf9 1 rfl) ?_)
                exact ⟨_, rfl, Ext.refl _, rfl⟩
              refine ⟨fun _ => ⟨fun f10 w30 hf10 xt29 hp10 => ?_, fun _ _ _ _ h => h⟩, ?_⟩
              ·
                have H44 := H12.ext xt29
                have s14 : f10 38 = .bool true := hp10 1 rfl rfl
                have s15 : f10 46 = .pointer (some ⟨bb0, 2, none⟩) := hp10 9 rfl rfl
                refine gy rfl rfl s14 rfl (ldX H44 4 rfl ty3 rfl s15 (by decide) rfl ?_)
                exact ⟨_, rfl, Ext.refl _, rfl⟩
              refine ⟨fun _ => ⟨fun f11 w31 hf11 xt30 hp11 => ?_, by rintro _ _ _ x_ ⟨a4, c4, e_, rv6⟩; exact ⟨a4, c4, e_, rv6.lift (Up.ext x_)⟩⟩, ?_⟩
              ·
                have H45 := H12.ext xt30
                have s16 : f11 38 = .bool true := hp11 1 rfl rfl
                have s17 : f11 45 = .agg #[.int .i64 mn, .slice a_mr mr.length c_mr] := hp11 8 rfl rfl
                have s18 : f11 47 = .int .i64 o := hp11 10 rfl rfl
                refine gy rfl rfl s16 rfl ?_
                have cc17 := ref16_Of (mn := mn) (mr := mr) (o := o) (w := w31) H45.mb (by unfold I64 at *; omega) (H45.rv 7 rfl) (by unfold I64 at *; omega) (by exact rt_m)
                refine ca go50 rfl (ec s17 (ec s18 e0)) cc17 ?_
                rintro _ w32 ⟨a11, c11, rfl, xt31, rv19⟩
                have rv20 := OwnsG.rv rv19 H45.mb
                have H46 := H45.ext xt31
                have H47 := H46.put (it := imm (.slice a11 (pastL mn mr o).length c11) (pastL mn mr o)) rfl rv20
                exact ⟨_, rfl, xt31, ⟨a11, c11, rfl, rv20⟩⟩
              refine ⟨fun _ => ⟨fun f12 w33 hf12 xt32 hp12 => ?_, fun _ _ _ _ h => h⟩, ?_⟩
              ·
                have H48 := H12.ext xt32
                have s19 : f12 38 = .bool true := hp12 1 rfl rfl
                obtain ⟨a12, c12, s20, rv21⟩ : ∃ (a12 : Option Addr) (c12 : Nat), f12 43 = .slice a12 (pastL mn mr o).length c12 ∧ RV (MS M [box bb1 #[.slice a0 (o11V hh).length c0, .slice a1 (o11I hh).length c1, .slice a2 (o11F hh).length c2] 66, imm (.slice a2 (o11F hh).length c2) (o11F hh), imm (.slice a1 (o11I hh).length c1) (o11I hh), imm (.slice a0 (o11V hh).length c0) (o11V hh), box bb0 #[.int .i64 mn, .slice a_mr mr.length c_mr, .int .i64 o, .slice a_hh hh.length c_hh, .slice a_l l.length c_l, .int .i64 vr] 61, imm (.slice a_l l.length c_l) l, imm (.slice a_hh hh.length c_hh) hh, imm (.slice a_mr mr.length c_mr) mr]) w33 (.slice a12 (pastL mn mr o).length c12) (pastL mn mr o) := hp12 6 rfl rfl
                have H49 := H48.put (it := imm (.slice a12 (pastL mn mr o).length c12) (pastL mn mr o)) rfl rv21
                obtain ⟨a13, c13, s21, rv22⟩ : ∃ (a13 : Option Addr) (c13 : Nat), f12 48 = .slice a13 (pastL mn mr o).length c13 ∧ RV (MS M [box bb1 #[.slice a0 (o11V hh).length c0, .slice a1 (o11I hh).length c1, .slice a2 (o11F hh).length c2] 66, imm (.slice a2 (o11F hh).length c2) (o11F hh), imm (.slice a1 (o11I hh).length c1) (o11I hh), imm (.slice a0 (o11V hh).length c0) (o11V hh), box bb0 #[.int .i64 mn, .slice a_mr mr.length c_mr, .int .i64 o, .slice a_hh hh.length c_hh, .slice a_l l.length c_l, .int .i64 vr] 61, imm (.slice a_l l.length c_l) l, imm (.slice a_hh hh.length c_hh) hh, imm (.slice a_mr mr.length c_mr) mr]) w33 (.slice a13 (pastL mn mr o).length c13) (pastL mn mr o) := hp12 11 rfl rfl
                have H50 := H49.put (it := imm (.slice a13 (pastL mn mr o).length c13) (pastL mn mr o)) rfl (by rw [MS_cons_none rfl]; exact rv22)
                refine gy rfl rfl s19 rfl ?_
                have cc18 := ref02_Ints (a := (pastL mn mr o)) (b := (pastL mn mr o)) (w := w33) H50.mb (H50.rv 1 rfl) (H50.rv 0 rfl)
                refine ca go42 rfl (ec s20 (ec s21 e0)) cc18 ?_
                rintro _ w34 ⟨rfl, xt33⟩
                have H51 := H50.ext xt33
                exact ⟨_, rfl, xt33, rfl⟩
              refine ⟨fun _ => ⟨fun f13 w35 hf13 xt34 hp13 => ?_, fun _ _ _ _ h => h⟩, ?_⟩
              ·
                have H52 := H12.ext xt34
                have s22 : f13 38 = .bool true := hp13 1 rfl rfl
                have s23 : f13 49 = .bool (decide ((pastL mn mr o) = (pastL mn mr o))) := hp13 12 rfl rfl
                refine pickT rfl rfl rfl s22 rfl s23 ?_
                exact ⟨_, rfl, Ext.refl _, rfl⟩
              refine ⟨fun _ => ⟨fun f14 w36 hf14 xt35 hp14 => ?_, fun _ _ _ _ h => h⟩, ?_⟩
              ·
                have H53 := H12.ext xt35
                have s24 : f14 50 = .bool (decide ((pastL mn mr o) = (pastL mn mr o))) := hp14 13 rfl rfl
                refine mv rfl s24 ?_
                exact ⟨_, rfl, Ext.refl _, rfl⟩
              refine ⟨fun _ => ⟨fun f15 w37 hf15 xt36 hp15 => ?_, fun _ _ _ _ h => h⟩, ?_⟩
              ·
                have H54 := H12.ext xt36
                have s25 : f15 51 = .bool (decide ((pastL mn mr o) = (pastL mn mr o))) := hp15 14 rfl rfl
                have tr3 : (decide ((pastL mn mr o) = (pastL mn mr o))) = true := (by simp)
                refine gy rfl rfl s25 tr3 (fa fl61_0 rfl (hf15 1 rfl) ?_)
                exact ⟨_, rfl, Ext.refl _, rfl⟩
              refine ⟨fun _ => ⟨fun f16 w38 hf16 xt37 hp16 => ?_, fun _ _ _ _ h => h⟩, ?_⟩
              ·
                have H55 := H12.ext xt37
                have s26 : f16 51 = .bool (decide ((pastL mn mr o) = (pastL mn mr o))) := hp16 14 rfl rfl
                have s27 : f16 52 = .pointer (some ⟨bb0, 0, none⟩) := hp16 15 rfl rfl
                have tr4 : (decide ((pastL mn mr o) = (pastL mn mr o))) = true := (by simp)
                refine gy rfl rfl s26 tr4 (ldX H55 4 rfl ty24 rfl s27 (by decide) rfl ?_)
                exact ⟨_, rfl, Ext.refl _, rfl⟩
              refine ⟨fun _ => ⟨fun f17 w39 hf17 xt38 hp17 => ?_, fun _ _ _ _ h => h⟩, ?_⟩
              ·
                have H56 := H12.ext xt38
                have s28 : f17 51 = .bool (decide ((pastL mn mr o) = (pastL mn mr o))) := hp17 14 rfl rfl
                have tr5 : (decide ((pastL mn mr o) = (pastL mn mr o))) = true := (by simp)
                refine gy rfl rfl s28 tr5 (fa fl61_1 rfl (hf17 1 rfl) ?_)
                exact ⟨_, rfl, Ext.refl _, rfl⟩
              refine ⟨fun _ => ⟨fun f18 w40 hf18 xt39 hp18 => ?_, fun _ _ _ _ h => h⟩, ?_⟩
              ·
                have H57 := H12.ext xt39
                have s29 : f18 51 = .bool (decide ((pastL mn mr o) = (pastL mn mr o))) := hp18 14 rfl rfl
                have s30 : f18 54 = .pointer (some ⟨bb0, 2, none⟩) := hp18 17 rfl rfl
                have tr6 : (decide ((pastL mn mr o) = (pastL mn mr o))) = true := (by simp)
                refine gy rfl rfl s29 tr6 (ldX H57 4 rfl ty3 rfl s30 (by decide) rfl ?_)
                exact ⟨_, rfl, Ext.refl _, rfl⟩
              refine ⟨fun _ => ⟨fun f19 w41 hf19 xt40 hp19 => ?_, by rintro _ _ _ x_ ⟨a5, c5, e_, rv8⟩; exact ⟨a5, c5, e_, rv8.lift (Up.ext x_)⟩⟩, ?_⟩
              ·
                have H58 := H12.ext xt40
                have s31 : f19 51 = .bool (decide ((pastL mn mr o) = (pastL mn mr o))) := hp19 14 rfl rfl
                have s32 : f19 53 = .agg #[.int .i64 mn, .slice a_mr mr.length c_mr] := hp19 16 rfl rfl
                have s33 : f19 55 = .int .i64 o := hp19 18 rfl rfl
                have tr7 : (decide ((pastL mn mr o) = (pastL mn mr o))) = true := (by simp)
                refine gy rfl rfl s31 tr7 ?_
                have cc19 := past_With (mn := mn) (mr := mr) (o := o) (w := w41) H58.mb (hT.ext H58.below) (by unfold I64 at *; omega) (H58.rv 7 rfl) (by unfold I64 at *; omega) (by exact rt_m)
                refine ca go51 rfl (ec s32 (ec s33 e0)) cc19 ?_
                rintro _ w42 ⟨a14, c14, rfl, xt41, rv23⟩
                have rv24 := OwnsG.rv rv23 H58.mb
                have H59 := H58.ext xt41
                have H60 := H59.put (it := imm (.slice a14 (withL mn mr o).length c14) (withL mn mr o)) rfl rv24
                exact ⟨_, rfl, xt41, ⟨a14, c14, rfl, rv24⟩⟩
              refine ⟨fun _ => ⟨fun f20 w43 hf20 xt42 hp20 => ?_, fun _ _ _ _ h => h⟩, ?_⟩
              ·
                have H61 := H12.ext xt42
                have s34 : f20 51 = .bool (decide ((pastL mn mr o) = (pastL mn mr o))) := hp20 14 rfl rfl
                have tr8 : (decide ((pastL mn mr o) = (pastL mn mr o))) = true := (by simp)
                refine gy rfl rfl s34 tr8 (fa fl61_0 rfl (hf20 1 rfl) ?_)
                exact ⟨_, rfl, Ext.refl _, rfl⟩
              refine ⟨fun _ => ⟨fun f21 w44 hf21 xt43 hp21 => ?_, fun _ _ _ _ h => h⟩, ?_⟩
              ·
                have H62 := H12.ext xt43
                have s35 : f21 51 = .bool (decide ((pastL mn mr o) = (pastL mn mr o))) := hp21 14 rfl rfl
                have s36 : f21 57 = .pointer (some ⟨bb0, 0, none⟩) := hp21 20 rfl rfl
                have tr9 : (decide ((pastL mn mr o) = (pastL mn mr o))) = true := (by simp)
                refine gy rfl rfl s35 tr9 (ldX H62 4 rfl ty24 rfl s36 (by decide) rfl ?_)
                exact ⟨_, rfl, Ext.refl _, rfl⟩
              refine ⟨fun _ => ⟨fun f22 w45 hf22 xt44 hp22 => ?_, fun _ _ _ _ h => h⟩, ?_⟩
              ·
                have H63 := H12.ext xt44
                have s37 : f22 51 = .bool (decide ((pastL mn mr o) = (pastL mn mr o))) := hp22 14 rfl rfl
                have tr10 : (decide ((pastL mn mr o) = (pastL mn mr o))) = true := (by simp)
                refine gy rfl rfl s37 tr10 (fa fl61_1 rfl (hf22 1 rfl) ?_)
                exact ⟨_, rfl, Ext.refl _, rfl⟩
              refine ⟨fun _ => ⟨fun f23 w46 hf23 xt45 hp23 => ?_, fun _ _ _ _ h => h⟩, ?_⟩
              ·
                have H64 := H12.ext xt45
                have s38 : f23 51 = .bool (decide ((pastL mn mr o) = (pastL mn mr o))) := hp23 14 rfl rfl
                have s39 : f23 59 = .pointer (some ⟨bb0, 2, none⟩) := hp23 22 rfl rfl
                have tr11 : (decide ((pastL mn mr o) = (pastL mn mr o))) = true := (by simp)
                refine gy rfl rfl s38 tr11 (ldX H64 4 rfl ty3 rfl s39 (by decide) rfl ?_)
                exact ⟨_, rfl, Ext.refl _, rfl⟩
              refine ⟨fun _ => ⟨fun f24 w47 hf24 xt46 hp24 => ?_, by rintro _ _ _ x_ ⟨a6, c6, e_, rv10⟩; exact ⟨a6, c6, e_, rv10.lift (Up.ext x_)⟩⟩, ?_⟩
              ·
                have H65 := H12.ext xt46
                have s40 : f24 51 = .bool (decide ((pastL mn mr o) = (pastL mn mr o))) := hp24 14 rfl rfl
                have s41 : f24 58 = .agg #[.int .i64 mn, .slice a_mr mr.length c_mr] := hp24 21 rfl rfl
                have s42 : f24 60 = .int .i64 o := hp24 23 rfl rfl
                have tr12 : (decide ((pastL mn mr o) = (pastL mn mr o))) = true := (by simp)
                refine gy rfl rfl s40 tr12 ?_
                have cc20 := ref16_With (mn := mn) (mr := mr) (o := o) (w := w47) H65.mb (by unfold I64 at *; omega) (H65.rv 7 rfl) (by unfold I64 at *; omega) (by exact rt_m)
                refine ca go52 rfl (ec s41 (ec s42 e0)) cc20 ?_
                rintro _ w48 ⟨a15, c15, rfl, xt47, rv25⟩
                have rv26 := OwnsG.rv rv25 H65.mb
                have H66 := H65.ext xt47
                have H67 := H66.put (it := imm (.slice a15 (withL mn mr o).length c15) (withL mn mr o)) rfl rv26
                exact ⟨_, rfl, xt47, ⟨a15, c15, rfl, rv26⟩⟩
              refine ⟨fun _ => ⟨fun f25 w49 hf25 xt48 hp25 => ?_, fun _ _ _ _ h => h⟩, ?_⟩
              ·
                have H68 := H12.ext xt48
                have s43 : f25 51 = .bool (decide ((pastL mn mr o) = (pastL mn mr o))) := hp25 14 rfl rfl
                obtain ⟨a16, c16, s44, rv27⟩ : ∃ (a16 : Option Addr) (c16 : Nat), f25 56 = .slice a16 (withL mn mr o).length c16 ∧ RV (MS M [box bb1 #[.slice a0 (o11V hh).length c0, .slice a1 (o11I hh).length c1, .slice a2 (o11F hh).length c2] 66, imm (.slice a2 (o11F hh).length c2) (o11F hh), imm (.slice a1 (o11I hh).length c1) (o11I hh), imm (.slice a0 (o11V hh).length c0) (o11V hh), box bb0 #[.int .i64 mn, .slice a_mr mr.length c_mr, .int .i64 o, .slice a_hh hh.length c_hh, .slice a_l l.length c_l, .int .i64 vr] 61, imm (.slice a_l l.length c_l) l, imm (.slice a_hh hh.length c_hh) hh, imm (.slice a_mr mr.length c_mr) mr]) w49 (.slice a16 (withL mn mr o).length c16) (withL mn mr o) := hp25 19 rfl rfl
                have H69 := H68.put (it := imm (.slice a16 (withL mn mr o).length c16) (withL mn mr o)) rfl rv27
                obtain ⟨a17, c17, s45, rv28⟩ : ∃ (a17 : Option Addr) (c17 : Nat), f25 61 = .slice a17 (withL mn mr o).length c17 ∧ RV (MS M [box bb1 #[.slice a0 (o11V hh).length c0, .slice a1 (o11I hh).length c1, .slice a2 (o11F hh).length c2] 66, imm (.slice a2 (o11F hh).length c2) (o11F hh), imm (.slice a1 (o11I hh).length c1) (o11I hh), imm (.slice a0 (o11V hh).length c0) (o11V hh), box bb0 #[.int .i64 mn, .slice a_mr mr.length c_mr, .int .i64 o, .slice a_hh hh.length c_hh, .slice a_l l.length c_l, .int .i64 vr] 61, imm (.slice a_l l.length c_l) l, imm (.slice a_hh hh.length c_hh) hh, imm (.slice a_mr mr.length c_mr) mr]) w49 (.slice a17 (withL mn mr o).length c17) (withL mn mr o) := hp25 24 rfl rfl
                have H70 := H69.put (it := imm (.slice a17 (withL mn mr o).length c17) (withL mn mr o)) rfl (by rw [MS_cons_none rfl]; exact rv28)
                have tr13 : (decide ((pastL mn mr o) = (pastL mn mr o))) = true := (by simp)
                refine gy rfl rfl s43 tr13 ?_
                have cc21 := ref02_Ints (a := (withL mn mr o)) (b := (withL mn mr o)) (w := w49) H70.mb (H70.rv 1 rfl) (H70.rv 0 rfl)
                refine ca go42 rfl (ec s44 (ec s45 e0)) cc21 ?_
                rintro _ w50 ⟨rfl, xt49⟩
                have H71 := H70.ext xt49
                exact ⟨_, rfl, xt49, rfl⟩
              refine ⟨fun _ => ⟨fun f26 w51 hf26 xt50 hp26 => ?_, fun _ _ _ _ h => h⟩, ?_⟩
              ·
                have H72 := H12.ext xt50
                have s46 : f26 51 = .bool (decide ((pastL mn mr o) = (pastL mn mr o))) := hp26 14 rfl rfl
                have s47 : f26 62 = .bool (decide ((withL mn mr o) = (withL mn mr o))) := hp26 25 rfl rfl
                have tr14 : (decide ((pastL mn mr o) = (pastL mn mr o))) = true := (by simp)
                refine pickT rfl rfl rfl s46 tr14 s47 ?_
                exact ⟨_, rfl, Ext.refl _, rfl⟩
              refine ⟨fun _ => ⟨fun f27 w52 hf27 xt51 hp27 => ?_, fun _ _ _ _ h => h⟩, ?_⟩
              ·
                have H73 := H12.ext xt51
                have s48 : f27 63 = .bool (decide ((withL mn mr o) = (withL mn mr o))) := hp27 26 rfl rfl
                refine mv rfl s48 ?_
                exact ⟨_, rfl, Ext.refl _, rfl⟩
              refine ⟨fun _ => ⟨fun f28 w53 hf28 xt52 hp28 => ?_, fun _ _ _ _ h => h⟩, ?_⟩
              ·
                have H74 := H12.ext xt52
                have s49 : f28 64 = .bool (decide ((withL mn mr o) = (withL mn mr o))) := hp28 27 rfl rfl
                have tr15 : (decide ((withL mn mr o) = (withL mn mr o))) = true := (by simp)
                refine gy rfl rfl s49 tr15 (ldX H74 0 rfl ty66 rfl (hf28 3 rfl) (by decide) rfl ?_)
                exact ⟨_, rfl, Ext.refl _, rfl⟩
              refine ⟨fun _ => ⟨fun f29 w54 hf29 xt53 hp29 => ?_, fun _ _ _ _ h => h⟩, ?_⟩
              ·
                have H75 := H12.ext xt53
                have s50 : f29 64 = .bool (decide ((withL mn mr o) = (withL mn mr o))) := hp29 27 rfl rfl
                have tr16 : (decide ((withL mn mr o) = (withL mn mr o))) = true := (by simp)
                refine gy rfl rfl s50 tr16 (fa fl61_3 rfl (hf29 1 rfl) ?_)
                exact ⟨_, rfl, Ext.refl _, rfl⟩
              refine ⟨fun _ => ⟨fun f30 w55 hf30 xt54 hp30 => ?_, fun _ _ _ _ h => h⟩, ?_⟩
              ·
                have H76 := H12.ext xt54
                have s51 : f30 64 = .bool (decide ((withL mn mr o) = (withL mn mr o))) := hp30 27 rfl rfl
                have s52 : f30 66 = .pointer (some ⟨bb0, 4, none⟩) := hp30 29 rfl rfl
                have tr17 : (decide ((withL mn mr o) = (withL mn mr o))) = true := (by simp)
                refine gy rfl rfl s51 tr17 (ldX H76 4 rfl ty42 rfl s52 (by decide) rfl ?_)
                exact ⟨_, rfl, Ext.refl _, rfl⟩
              refine ⟨fun _ => ⟨fun f31 w56 hf31 xt55 hp31 => ?_, fun _ _ _ _ h => h⟩, ?_⟩
              ·
                have H77 := H12.ext xt55
                have s53 : f31 64 = .bool (decide ((withL mn mr o) = (withL mn mr o))) := hp31 27 rfl rfl
                have tr18 : (decide ((withL mn mr o) = (withL mn mr o))) = true := (by simp)
                refine gy rfl rfl s53 tr18 (fa fl61_4 rfl (hf31 1 rfl) ?_)
                exact ⟨_, rfl, Ext.refl _, rfl⟩
              refine ⟨fun _ => ⟨fun f32 w57 hf32 xt56 hp32 => ?_, fun _ _ _ _ h => h⟩, ?_⟩
              ·
                have H78 := H12.ext xt56
                have s54 : f32 64 = .bool (decide ((withL mn mr o) = (withL mn mr o))) := hp32 27 rfl rfl
                have s55 : f32 68 = .pointer (some ⟨bb0, 5, none⟩) := hp32 31 rfl rfl
                have tr19 : (decide ((withL mn mr o) = (withL mn mr o))) = true := (by simp)
                refine gy rfl rfl s54 tr19 (ldX H78 4 rfl ty3 rfl s55 (by decide) rfl ?_)
                exact ⟨_, rfl, Ext.refl _, rfl⟩
              refine ⟨fun _ => ⟨fun f33 w58 hf33 xt57 hp33 => ?_, by rintro _ _ _ x_ ⟨a7, c7, e_, rv12⟩; exact ⟨a7, c7, e_, rv12.lift (Up.ext x_)⟩⟩, ?_⟩
              ·
                have H79 := H12.ext xt57
                have s56 : f33 64 = .bool (decide ((withL mn mr o) = (withL mn mr o))) := hp33 27 rfl rfl
                have s57 : f33 65 = .agg #[.slice a0 (o11V hh).length c0, .slice a1 (o11I hh).length c1, .slice a2 (o11F hh).length c2] := hp33 28 rfl rfl
                have s58 : f33 67 = .slice a_l l.length c_l := hp33 30 rfl rfl
                have s59 : f33 69 = .int .i64 vr := hp33 32 rfl rfl
                have tr20 : (decide ((withL mn mr o) = (withL mn mr o))) = true := (by simp)
                refine gy rfl rfl s56 tr20 ?_
                have cc22 := past_Writes (fi := (o11I hh)) (l := l) (vr := vr) (a_fv := a0) (n_fv := (o11V hh).length) (c_fv := c0) (a_fo := a2) (n_fo := (o11F hh).length) (c_fo := c2) (w := w58) H79.mb (H79.rv 2 rfl) (H79.rv 5 rfl) (by unfold I64 at *; omega) (by omega)
                refine ca go53 rfl (ec s57 (ec s58 (ec s59 e0))) cc22 ?_
                rintro _ w59 ⟨a18, c18, rfl, xt58, rv29⟩
                have rv30 := OwnsG.rv rv29 H79.mb
                have H80 := H79.ext xt58
                have H81 := H80.put (it := imm (.slice a18 (keepL (wrB (o11I hh) vr) l).length c18) (keepL (wrB (o11I hh) vr) l)) rfl rv30
                exact ⟨_, rfl, xt58, ⟨a18, c18, rfl, rv30⟩⟩
              refine ⟨fun _ => ⟨fun f34 w60 hf34 xt59 hp34 => ?_, fun _ _ _ _ h => h⟩, ?_⟩
              ·
                have H82 := H12.ext xt59
                have s60 : f34 64 = .bool (decide ((withL mn mr o) = (withL mn mr o))) := hp34 27 rfl rfl
                have tr21 : (decide ((withL mn mr o) = (withL mn mr o))) = true := (by simp)
                refine gy rfl rfl s60 tr21 (ldX H82 0 rfl ty66 rfl (hf34 3 rfl) (by decide) rfl ?_)
                exact ⟨_, rfl, Ext.refl _, rfl⟩
              refine ⟨fun _ => ⟨fun f35 w61 hf35 xt60 hp35 => ?_, fun _ _ _ _ h => h⟩, ?_⟩
              ·
                have H83 := H12.ext xt60
                have s61 : f35 64 = .bool (decide ((withL mn mr o) = (withL mn mr o))) := hp35 27 rfl rfl
                have tr22 : (decide ((withL mn mr o) = (withL mn mr o))) = true := (by simp)
                refine gy rfl rfl s61 tr22 (fa fl61_3 rfl (hf35 1 rfl) ?_)
                exact ⟨_, rfl, Ext.refl _, rfl⟩
              refine ⟨fun _ => ⟨fun f36 w62 hf36 xt61 hp36 => ?_, fun _ _ _ _ h => h⟩, ?_⟩
              ·
                have H84 := H12.ext xt61
                have s62 : f36 64 = .bool (decide ((withL mn mr o) = (withL mn mr o))) := hp36 27 rfl rfl
                have s63 : f36 72 = .pointer (some ⟨bb0, 4, none⟩) := hp36 35 rfl rfl
                have tr23 : (decide ((withL mn mr o) = (withL mn mr o))) = true := (by simp)
                refine gy rfl rfl s62 tr23 (ldX H84 4 rfl ty42 rfl s63 (by decide) rfl ?_)
                exact ⟨_, rfl, Ext.refl _, rfl⟩
              refine ⟨fun _ => ⟨fun f37 w63 hf37 xt62 hp37 => ?_, fun _ _ _ _ h => h⟩, ?_⟩
              ·
                have H85 := H12.ext xt62
                have s64 : f37 64 = .bool (decide ((withL mn mr o) = (withL mn mr o))) := hp37 27 rfl rfl
                have tr24 : (decide ((withL mn mr o) = (withL mn mr o))) = true := (by simp)
                refine gy rfl rfl s64 tr24 (fa fl61_4 rfl (hf37 1 rfl) ?_)
                exact ⟨_, rfl, Ext.refl _, rfl⟩
              refine ⟨fun _ => ⟨fun f38 w64 hf38 xt63 hp38 => ?_, fun _ _ _ _ h => h⟩, ?_⟩
              ·
                have H86 := H12.ext xt63
                have s65 : f38 64 = .bool (decide ((withL mn mr o) = (withL mn mr o))) := hp38 27 rfl rfl
                have s66 : f38 74 = .pointer (some ⟨bb0, 5, none⟩) := hp38 37 rfl rfl
                have tr25 : (decide ((withL mn mr o) = (withL mn mr o))) = true := (by simp)
                refine gy rfl rfl s65 tr25 (ldX H86 4 rfl ty3 rfl s66 (by decide) rfl ?_)
                exact ⟨_, rfl, Ext.refl _, rfl⟩
              refine ⟨fun _ => ⟨fun f39 w65 hf39 xt64 hp39 => ?_, by rintro _ _ _ x_ ⟨a8, c8, e_, rv14⟩; exact ⟨a8, c8, e_, rv14.lift (Up.ext x_)⟩⟩, ?_⟩
              ·
                have H87 := H12.ext xt64
                have s67 : f39 64 = .bool (decide ((withL mn mr o) = (withL mn mr o))) := hp39 27 rfl rfl
                have s68 : f39 71 = .agg #[.slice a0 (o11V hh).length c0, .slice a1 (o11I hh).length c1, .slice a2 (o11F hh).length c2] := hp39 34 rfl rfl
                have s69 : f39 73 = .slice a_l l.length c_l := hp39 36 rfl rfl
                have s70 : f39 75 = .int .i64 vr := hp39 38 rfl rfl
                have tr26 : (decide ((withL mn mr o) = (withL mn mr o))) = true := (by simp)
                refine gy rfl rfl s67 tr26 ?_
                have cc23 := ref16_Writes (fi := (o11I hh)) (l := l) (vr := vr) (a_fv := a0) (n_fv := (o11V hh).length) (c_fv := c0) (a_fo := a2) (n_fo := (o11F hh).length) (c_fo := c2) (w := w65) H87.mb (H87.rv 2 rfl) (H87.rv 5 rfl) (by unfold I64 at *; omega) (by omega)
                refine ca go54 rfl (ec s68 (ec s69 (ec s70 e0))) cc23 ?_
                rintro _ w66 ⟨a19, c19, rfl, xt65, rv31⟩
                have rv32 := OwnsG.rv rv31 H87.mb
                have H88 := H87.ext xt65
                have H89 := H88.put (it := imm (.slice a19 (keepL (wrB (o11I hh) vr) l).length c19) (keepL (wrB (o11I hh) vr) l)) rfl rv32
                exact ⟨_, rfl, xt65, ⟨a19, c19, rfl, rv32⟩⟩
              refine ⟨fun _ => ⟨fun f40 w67 hf40 xt66 hp40 => ?_, fun _ _ _ _ h => h⟩, ?_⟩
              ·
                have H90 := H12.ext xt66
                have s71 : f40 64 = .bool (decide ((withL mn mr o) = (withL mn mr o))) := hp40 27 rfl rfl
                obtain ⟨a20, c20, s72, rv33⟩ : ∃ (a20 : Option Addr) (c20 : Nat), f40 70 = .slice a20 (keepL (wrB (o11I hh) vr) l).length c20 ∧ RV (MS M [box bb1 #[.slice a0 (o11V hh).length c0, .slice a1 (o11I hh).length c1, .slice a2 (o11F hh).length c2] 66, imm (.slice a2 (o11F hh).length c2) (o11F hh), imm (.slice a1 (o11I hh).length c1) (o11I hh), imm (.slice a0 (o11V hh).length c0) (o11V hh), box bb0 #[.int .i64 mn, .slice a_mr mr.length c_mr, .int .i64 o, .slice a_hh hh.length c_hh, .slice a_l l.length c_l, .int .i64 vr] 61, imm (.slice a_l l.length c_l) l, imm (.slice a_hh hh.length c_hh) hh, imm (.slice a_mr mr.length c_mr) mr]) w67 (.slice a20 (keepL (wrB (o11I hh) vr) l).length c20) (keepL (wrB (o11I hh) vr) l) := hp40 33 rfl rfl
                have H91 := H90.put (it := imm (.slice a20 (keepL (wrB (o11I hh) vr) l).length c20) (keepL (wrB (o11I hh) vr) l)) rfl rv33
                obtain ⟨a21, c21, s73, rv34⟩ : ∃ (a21 : Option Addr) (c21 : Nat), f40 76 = .slice a21 (keepL (wrB (o11I hh) vr) l).length c21 ∧ RV (MS M [box bb1 #[.slice a0 (o11V hh).length c0, .slice a1 (o11I hh).length c1, .slice a2 (o11F hh).length c2] 66, imm (.slice a2 (o11F hh).length c2) (o11F hh), imm (.slice a1 (o11I hh).length c1) (o11I hh), imm (.slice a0 (o11V hh).length c0) (o11V hh), box bb0 #[.int .i64 mn, .slice a_mr mr.length c_mr, .int .i64 o, .slice a_hh hh.length c_hh, .slice a_l l.length c_l, .int .i64 vr] 61, imm (.slice a_l l.length c_l) l, imm (.slice a_hh hh.length c_hh) hh, imm (.slice a_mr mr.length c_mr) mr]) w67 (.slice a21 (keepL (wrB (o11I hh) vr) l).length c21) (keepL (wrB (o11I hh) vr) l) := hp40 39 rfl rfl
                have H92 := H91.put (it := imm (.slice a21 (keepL (wrB (o11I hh) vr) l).length c21) (keepL (wrB (o11I hh) vr) l)) rfl (by rw [MS_cons_none rfl]; exact rv34)
                have tr27 : (decide ((withL mn mr o) = (withL mn mr o))) = true := (by simp)
                refine gy rfl rfl s71 tr27 ?_
                have cc24 := ref02_Ints (a := (keepL (wrB (o11I hh) vr) l)) (b := (keepL (wrB (o11I hh) vr) l)) (w := w67) H92.mb (H92.rv 1 rfl) (H92.rv 0 rfl)
                refine ca go42 rfl (ec s72 (ec s73 e0)) cc24 ?_
                rintro _ w68 ⟨rfl, xt67⟩
                have H93 := H92.ext xt67
                exact ⟨_, rfl, xt67, rfl⟩
              refine ⟨fun _ => ⟨fun f41 w69 hf41 xt68 hp41 => ?_, fun _ _ _ _ h => h⟩, ?_⟩
              ·
                have H94 := H12.ext xt68
                have s74 : f41 64 = .bool (decide ((withL mn mr o) = (withL mn mr o))) := hp41 27 rfl rfl
                have s75 : f41 77 = .bool (decide ((keepL (wrB (o11I hh) vr) l) = (keepL (wrB (o11I hh) vr) l))) := hp41 40 rfl rfl
                have tr28 : (decide ((withL mn mr o) = (withL mn mr o))) = true := (by simp)
                refine pickT rfl rfl rfl s74 tr28 s75 ?_
                exact ⟨_, rfl, Ext.refl _, rfl⟩
              refine ⟨fun _ => ⟨fun f42 w70 hf42 xt69 hp42 => ?_, fun _ _ _ _ h => h⟩, ?_⟩
              ·
                have H95 := H12.ext xt69
                have s76 : f42 78 = .bool (decide ((keepL (wrB (o11I hh) vr) l) = (keepL (wrB (o11I hh) vr) l))) := hp42 41 rfl rfl
                refine mv rfl s76 ?_
                exact ⟨_, rfl, Ext.refl _, rfl⟩
              refine ⟨fun _ => ⟨fun f43 w71 hf43 xt70 hp43 => ?_, fun _ _ _ _ h => h⟩, ?_⟩
              ·
                have H96 := H12.ext xt70
                have s77 : f43 79 = .bool (decide ((keepL (wrB (o11I hh) vr) l) = (keepL (wrB (o11I hh) vr) l))) := hp43 42 rfl rfl
                have tr29 : (decide ((keepL (wrB (o11I hh) vr) l) = (keepL (wrB (o11I hh) vr) l))) = true := (by simp)
                refine gy rfl rfl s77 tr29 (ldX H96 0 rfl ty66 rfl (hf43 3 rfl) (by decide) rfl ?_)
                exact ⟨_, rfl, Ext.refl _, rfl⟩
              refine ⟨fun _ => ⟨fun f44 w72 hf44 xt71 hp44 => ?_, fun _ _ _ _ h => h⟩, ?_⟩
              ·
                have H97 := H12.ext xt71
                have s78 : f44 79 = .bool (decide ((keepL (wrB (o11I hh) vr) l) = (keepL (wrB (o11I hh) vr) l))) := hp44 42 rfl rfl
                have tr30 : (decide ((keepL (wrB (o11I hh) vr) l) = (keepL (wrB (o11I hh) vr) l))) = true := (by simp)
                refine gy rfl rfl s78 tr30 (fa fl61_1 rfl (hf44 1 rfl) ?_)
                exact ⟨_, rfl, Ext.refl _, rfl⟩
              refine ⟨fun _ => ⟨fun f45 w73 hf45 xt72 hp45 => ?_, fun _ _ _ _ h => h⟩, ?_⟩
              ·
                have H98 := H12.ext xt72
                have s79 : f45 79 = .bool (decide ((keepL (wrB (o11I hh) vr) l) = (keepL (wrB (o11I hh) vr) l))) := hp45 42 rfl rfl
                have s80 : f45 81 = .pointer (some ⟨bb0, 2, none⟩) := hp45 44 rfl rfl
                have tr31 : (decide ((keepL (wrB (o11I hh) vr) l) = (keepL (wrB (o11I hh) vr) l))) = true := (by simp)
                refine gy rfl rfl s79 tr31 (ldX H98 4 rfl ty3 rfl s80 (by decide) rfl ?_)
                exact ⟨_, rfl, Ext.refl _, rfl⟩
              refine ⟨fun _ => ⟨fun f46 w74 hf46 xt73 hp46 => ?_, by rintro _ _ _ x_ ⟨a9, c9, e_, rv16⟩; exact ⟨a9, c9, e_, rv16.lift (Up.ext x_)⟩⟩, ?_⟩
              ·
                have H99 := H12.ext xt73
                have s81 : f46 79 = .bool (decide ((keepL (wrB (o11I hh) vr) l) = (keepL (wrB (o11I hh) vr) l))) := hp46 42 rfl rfl
                have s82 : f46 80 = .agg #[.slice a0 (o11V hh).length c0, .slice a1 (o11I hh).length c1, .slice a2 (o11F hh).length c2] := hp46 43 rfl rfl
                have s83 : f46 82 = .int .i64 o := hp46 45 rfl rfl
                have tr32 : (decide ((keepL (wrB (o11I hh) vr) l) = (keepL (wrB (o11I hh) vr) l))) = true := (by simp)
                refine gy rfl rfl s81 tr32 ?_
                have cc25 := past_Kept (fi := (o11I hh)) (o := o) (a_fv := a0) (n_fv := (o11V hh).length) (c_fv := c0) (a_fo := a2) (n_fo := (o11F hh).length) (c_fo := c2) (w := w74) H99.mb (H99.rv 2 rfl) (by unfold I64 at *; omega) (by exact o11_ord hh) (by first | exact (right_sq rt_m).2.2.1 | omega)
                refine ca go55 rfl (ec s82 (ec s83 e0)) cc25 ?_
                rintro _ w75 ⟨a22, c22, rfl, xt74, rv35⟩
                have rv36 := OwnsG.rv rv35 H99.mb
                have H100 := H99.ext xt74
                have H101 := H100.put (it := imm (.slice a22 (keepL (wrQ (o11I hh)) (pastA (o11I hh) o)).length c22) (keepL (wrQ (o11I hh)) (pastA (o11I hh) o))) rfl rv36
                exact ⟨_, rfl, xt74, ⟨a22, c22, rfl, rv36⟩⟩
              refine ⟨fun _ => ⟨fun f47 w76 hf47 xt75 hp47 => ?_, fun _ _ _ _ h => h⟩, ?_⟩
              ·
                have H102 := H12.ext xt75
                have s84 : f47 79 = .bool (decide ((keepL (wrB (o11I hh) vr) l) = (keepL (wrB (o11I hh) vr) l))) := hp47 42 rfl rfl
                have tr33 : (decide ((keepL (wrB (o11I hh) vr) l) = (keepL (wrB (o11I hh) vr) l))) = true := (by simp)
                refine gy rfl rfl s84 tr33 (ldX H102 0 rfl ty66 rfl (hf47 3 rfl) (by decide) rfl ?_)
                exact ⟨_, rfl, Ext.refl _, rfl⟩
              refine ⟨fun _ => ⟨fun f48 w77 hf48 xt76 hp48 => ?_, fun _ _ _ _ h => h⟩, ?_⟩
              ·
                have H103 := H12.ext xt76
                have s85 : f48 79 = .bool (decide ((keepL (wrB (o11I hh) vr) l) = (keepL (wrB (o11I hh) vr) l))) := hp48 42 rfl rfl
                have tr34 : (decide ((keepL (wrB (o11I hh) vr) l) = (keepL (wrB (o11I hh) vr) l))) = true := (by simp)
                refine gy rfl rfl s85 tr34 (fa fl61_1 rfl (hf48 1 rfl) ?_)
                exact ⟨_, rfl, Ext.refl _, rfl⟩
              refine ⟨fun _ => ⟨fun f49 w78 hf49 xt77 hp49 => ?_, fun _ _ _ _ h => h⟩, ?_⟩
              ·
                have H104 := H12.ext xt77
                have s86 : f49 79 = .bool (decide ((keepL (wrB (o11I hh) vr) l) = (keepL (wrB (o11I hh) vr) l))) := hp49 42 rfl rfl
                have s87 : f49 85 = .pointer (some ⟨bb0, 2, none⟩) := hp49 48 rfl rfl
                have tr35 : (decide ((keepL (wrB (o11I hh) vr) l) = (keepL (wrB (o11I hh) vr) l))) = true := (by simp)
                refine gy rfl rfl s86 tr35 (ldX H104 4 rfl ty3 rfl s87 (by decide) rfl ?_)
                exact ⟨_, rfl, Ext.refl _, rfl⟩
              exact DSteps.rest rfl _
            · intro f50 w79 hf50 xt78 hp50
              have H105 := H12.ext xt78
              have s88 : f50 79 = .bool (decide ((keepL (wrB (o11I hh) vr) l) = (keepL (wrB (o11I hh) vr) l))) := hp50 42 rfl
              obtain ⟨a23, c23, s89, rv37⟩ : ∃ (a23 : Option Addr) (c23 : Nat), f50 83 = .slice a23 (keepL (wrQ (o11I hh)) (pastA (o11I hh) o)).length c23 ∧ RV (MS M [box bb1 #[.slice a0 (o11V hh).length c0, .slice a1 (o11I hh).length c1, .slice a2 (o11F hh).length c2] 66, imm (.slice a2 (o11F hh).length c2) (o11F hh), imm (.slice a1 (o11I hh).length c1) (o11I hh), imm (.slice a0 (o11V hh).length c0) (o11V hh), box bb0 #[.int .i64 mn, .slice a_mr mr.length c_mr, .int .i64 o, .slice a_hh hh.length c_hh, .slice a_l l.length c_l, .int .i64 vr] 61, imm (.slice a_l l.length c_l) l, imm (.slice a_hh hh.length c_hh) hh, imm (.slice a_mr mr.length c_mr) mr]) w79 (.slice a23 (keepL (wrQ (o11I hh)) (pastA (o11I hh) o)).length c23) (keepL (wrQ (o11I hh)) (pastA (o11I hh) o)) := hp50 46 rfl
              have H106 := H105.put (it := imm (.slice a23 (keepL (wrQ (o11I hh)) (pastA (o11I hh) o)).length c23) (keepL (wrQ (o11I hh)) (pastA (o11I hh) o))) rfl rv37
              have s90 : f50 84 = .agg #[.slice a0 (o11V hh).length c0, .slice a1 (o11I hh).length c1, .slice a2 (o11F hh).length c2] := hp50 47 rfl
              have s91 : f50 86 = .int .i64 o := hp50 49 rfl
              have tr36 : (decide ((keepL (wrB (o11I hh) vr) l) = (keepL (wrB (o11I hh) vr) l))) = true := (by simp)
              refine k (gy rfl rfl s88 tr36 ?_)
              have cc26 := ref16_Kept (fi := (o11I hh)) (o := o) (a_fv := a0) (n_fv := (o11V hh).length) (c_fv := c0) (a_fo := a2) (n_fo := (o11F hh).length) (c_fo := c2) (w := w79) H106.mb (H106.rv 3 rfl) (by unfold I64 at *; omega) (by first | exact (right_sq rt_m).2.2.1 | omega)
              refine ca go56 rfl (ec s90 (ec s91 e0)) cc26 ?_
              rintro _ w80 ⟨a24, c24, rfl, xt79, rv38⟩
              have H107 := H106.ownsG rv38
              refine k (gy rfl rfl s88 tr36 ?_)
              have H108 := H107.freeze 0 rfl
              have cc27 := ref02_Ints (a := (keepL (wrQ (o11I hh)) (pastA (o11I hh) o))) (b := (keepL (wrQ (o11I hh)) (pastB (o11I hh) o (o11I hh).length))) (w := w80) H108.mb (H108.rv 1 rfl) (H108.rv 0 rfl)
              refine ca go42 rfl (ec s89 (ec rfl e0)) cc27 ?_
              rintro _ w81 ⟨rfl, xt80⟩
              have H109 := H107.ext xt80
              refine k (pickT rfl rfl rfl s88 tr36 rfl (k (asg (v := .bool (decide ((keepL (wrQ (o11I hh)) (pastA (o11I hh) o)) = (keepL (wrQ (o11I hh)) (pastB (o11I hh) o (o11I hh).length))))) rfl rfl (z (nx (rt (r1 rfl rfl ?_)))))))
              have tr37 : (decide ((keepL (wrQ (o11I hh)) (pastA (o11I hh) o)) = (keepL (wrQ (o11I hh)) (pastB (o11I hh) o (o11I hh).length)))) = true := (by rw [past_eq (o11_ord hh)]; simp)
              have e0 : (decide ((keepL (wrQ (o11I hh)) (pastA (o11I hh) o)) = (keepL (wrQ (o11I hh)) (pastB (o11I hh) o (o11I hh).length))) : Bool) = true := by exact tr37
              have ev_ := cg1 (fun (x_0 : Bool) => (.bool x_0 : Value)) e0
              exact ⟨ev_, H109.below⟩
end Go.Proofs.YtmhopljngkgidaaDoor
