/- PRINTED by my own tool (wip/tool/gen.py): contracts of Go functions of this seat, each with its proof. -/
import Derived.Test.YtmhopljngkgidaaOwnA
import Derived.Test.YtmhopljngkgidaaOwnC
import Derived.Test.YtmhopljngkgidaaGenB
import Derived.Test.YtmhopljngkgidaaGenA
import Derived.Test.YtmhopljngkgidaaOwnB
namespace Go.Proofs.Ytmhopljngkgidaa
open Go.Ew Go.RowKit
set_option linter.unusedVariables false
set_option linter.unusedSimpArgs false
attribute [local irreducible] WL WC SO Code.wp wpList retQ Ret
attribute [local irreducible] bitB hasW inR hasR setR countW countR subR words newR listR orR firstW tab8
theorem go25 : GoF Try.prog 25 := ⟨_, _, Try.func25, rfl, by kernel_rfl⟩
theorem go26 : GoF Try.prog 26 := ⟨_, _, Try.func26, rfl, by kernel_rfl⟩
theorem go27 : GoF Try.prog 27 := ⟨_, _, Try.func27, rfl, by kernel_rfl⟩
/- eyewitness/eyewitnessref11.Of -/
set_option maxRecDepth 100000 in
set_option maxHeartbeats 1600000 in
theorem ref11_Of {M : Nat → Prop} {w : World} {a_h : Option Addr} {c_h : Nat} {h : List (List (Bool × ByteArray × Int))} (hM : ∀ b, M b → b < w.heap.size) (h_h : RV M w (.slice a_h h.length c_h) h) (hb_h : h.flatten.length ≤ 4096) : Calls Try.prog 8 #[.slice a_h h.length c_h] w (Ret fun v w' => ∃ (a0 : Option Addr) (c0 : Nat) (a1 : Option Addr) (c1 : Nat) (a2 : Option Addr) (c2 : Nat), v = .tuple #[.agg #[.slice a0 (o11V h).length c0, .slice a1 (o11I h).length c1, .slice a2 (o11F h).length c2], .bool (o11 h)] ∧ Ext w w' ∧ RV M w' (.slice a0 (o11V h).length c0) (o11V h) ∧ RV M w' (.slice a1 (o11I h).length c1) (o11I h) ∧ RV M w' (.slice a2 (o11F h).length c2) (o11F h)) := by
  refine enter 25 Try.func8 rfl rfl rfl fun f0 ha => ?_
  have H := HI.start (M0 := M) (w := w) hM
  have H0 := H.put (it := imm (.slice a_h h.length c_h) h) rfl (by rw [MS_nil]; exact h_h)
  have ln_h := rv_len h_h
  have i0 : f0 0 = .slice a_h h.length c_h := ha 0 (by simp)
  refine sq (rg (k (al H0 ty29 ?_)))
  intro bb0 w0 xt0 (H1 : HI M w w0 [box bb0 #[.slice none 0 0, .slice none 0 0, .slice none 0 0] 29, imm (.slice a_h h.length c_h) h])
  refine k (asg (v := .bool false) rfl rfl (z (nx (sq (rg (k (mv rfl i0 (k ?_))))))))
  have cc0 := ref09_Of (h := h) (w := w0) H1.mb (H1.rv 1 rfl) (by omega)
  refine ca go25 rfl (ec rfl e0) cc0 ?_
  rintro _ w1 ⟨a0, c0, a1, c1, a2, c2, rfl, xt1, rv0, rv1, rv2⟩
  have H2 := H1.ext xt1
  have H3 := H2.put (it := imm (.slice a0 (ofV h).length c0) (ofV h)) rfl rv0
  have H4 := H3.put (it := imm (.slice a1 (ofI h).length c1) (ofI h)) rfl (by rw [MS_cons_none rfl]; exact rv1)
  have H5 := H4.put (it := imm (.slice a2 ([] : List Int).length c2) ([] : List Int)) rfl (by rw [MS_cons_none rfl, MS_cons_none rfl]; exact rv2)
  refine k (mv (v := .tuple #[.agg #[.slice a0 (ofV h).length c0, .slice a1 (ofI h).length c1, .slice a2 ([] : List Int).length c2], .int .i64 (ofE h)]) rfl rfl (k (xt rfl rfl rfl (k (xt rfl rfl rfl (k (al H5 ty29 ?_)))))))
  intro bb1 w2 xt2 (H6 : HI M w w2 [box bb1 #[.slice none 0 0, .slice none 0 0, .slice none 0 0] 29, imm (.slice a2 ([] : List Int).length c2) ([] : List Int), imm (.slice a1 (ofI h).length c1) (ofI h), imm (.slice a0 (ofV h).length c0) (ofV h), box bb0 #[.slice none 0 0, .slice none 0 0, .slice none 0 0] 29, imm (.slice a_h h.length c_h) h])
  refine k (stX H6 0 rfl ty29 rfl rfl rfl rfl rfl rfl rfl ?_)
  intro w3 (H7 : HI M w w3 [box bb1 #[.slice a0 (ofV h).length c0, .slice a1 (ofI h).length c1, .slice a2 ([] : List Int).length c2] 29, imm (.slice a2 ([] : List Int).length c2) ([] : List Int), imm (.slice a1 (ofI h).length c1) (ofI h), imm (.slice a0 (ofV h).length c0) (ofV h), box bb0 #[.slice none 0 0, .slice none 0 0, .slice none 0 0] 29, imm (.slice a_h h.length c_h) h])
  refine k (asg (v := .int .i64 (ofE h)) rfl rfl (z (nx (sq (sq (rg (k (mv (v := .int .i64 (ofE h)) rfl rfl (k (neq rfl rfl rfl rfl (z (nx ?_))))))))))))
  refine cd (b := !decide ((ofE h) = 0)) rfl rfl (fun b0 => ?_) (fun b0 => ?_)
  ·
    have p0 := of_decide_eq_false (nott b0)
    refine sq ?_
    have hq : o11 h = false := o11_no1 (by simpa using ‹(!decide (ofE h = 0)) = true›)
    refine rg (k (bd (v := .agg #[.slice none 0 0, .slice none 0 0, .slice none 0 0]) rfl pb0 (fun _ => by kernel_rfl) (k (stX H7 4 rfl ty29 rfl rfl rfl rfl rfl rfl rfl ?_))))
    intro w4 (H8 : HI M w w4 [box bb1 #[.slice a0 (ofV h).length c0, .slice a1 (ofI h).length c1, .slice a2 ([] : List Int).length c2] 29, imm (.slice a2 ([] : List Int).length c2) ([] : List Int), imm (.slice a1 (ofI h).length c1) (ofI h), imm (.slice a0 (ofV h).length c0) (ofV h), box bb0 #[.slice none 0 0, .slice none 0 0, .slice none 0 0] 29, imm (.slice a_h h.length c_h) h])
    refine k (asg (v := .bool false) rfl rfl (z (nx (rt (then_ret (rc2 H8 4 rfl ty29 rfl rfl rfl rfl rfl (by decide) ?_))))))
    have e0 : ([] : List ByteArray) = o11V h := by first | exact (o11_no hq).1.symm | exact (o11_yes hq).1.symm
    have e1 : ([] : List (Int × Int × Bool × Int × Int)) = o11I h := by first | exact (o11_no hq).2.1.symm | exact (o11_yes hq).2.1.symm
    have e2 : ([] : List Int) = o11F h := by first | exact (o11_no hq).2.2.symm | exact (o11_yes hq).2.2.symm
    have e3 : (false : Bool) = o11 h := by exact hq.symm
    have ev_ := cg4 (fun (x_0 : List ByteArray) (x_1 : List (Int × Int × Bool × Int × Int)) (x_2 : List Int) (x_3 : Bool) => (.tuple #[.agg #[.slice none x_0.length 0, .slice none x_1.length 0, .slice none x_2.length 0], .bool x_3] : Value)) e0 e1 e2 e3
    exact ⟨none, 0, none, 0, none, 0, ev_, H8.below, (congrArg (fun (x_ : List ByteArray) => RV _ _ (.slice none x_.length 0) x_) e0).mp (rv_nil _ _), (congrArg (fun (x_ : List (Int × Int × Bool × Int × Int)) => RV _ _ (.slice none x_.length 0) x_) e1).mp (rv_nil _ _), (congrArg (fun (x_ : List Int) => RV _ _ (.slice none x_.length 0) x_) e2).mp (rv_nil _ _)⟩
  ·
    have p0 := of_decide_eq_true (notf b0)
    refine sk (nx (sq ?_))
    have he_ : ofE h = 0 := by simpa using ‹(!decide (ofE h = 0)) = false›
    refine rg (k (ldX H7 0 rfl ty29 rfl rfl (by decide) rfl (k ?_)))
    have cc1 := ref10_Check (fi := (ofI h)) (a_fv := a0) (n_fv := (ofV h).length) (c_fv := c0) (a_fo := a2) (n_fo := ([] : List Int).length) (c_fo := c2) (w := w3) H7.mb (H7.rv 2 rfl)
    refine ca go26 rfl (ec rfl e0) cc1 ?_
    rintro _ w4 ⟨rfl, xt3⟩
    have H8 := H7.ext xt3
    refine k (mv (v := .tuple #[.int .i64 ((chkA (ofI h)).1), .int .i64 ((chkA (ofI h)).2.1), .int .i64 ((chkA (ofI h)).2.2)]) rfl rfl (k (xt rfl rfl rfl (k (xt rfl rfl rfl (k (xt rfl rfl rfl (k (asg (v := .int .i64 ((chkA (ofI h)).2.2)) rfl rfl (z (nx (sq (sq (rg (k (mv (v := .int .i64 ((chkA (ofI h)).2.2)) rfl rfl (k (neq rfl rfl rfl rfl (z (nx ?_))))))))))))))))))))
    refine cd (b := !decide (((chkA (ofI h)).2.2) = 0)) rfl rfl (fun b1 => ?_) (fun b1 => ?_)
    ·
      have p1 := of_decide_eq_false (nott b1)
      refine sq ?_
      have hq : o11 h = false := o11_no2 (by simpa using ‹(!decide ((chkA (ofI h)).2.2 = 0)) = true›)
      refine rg (k (bd (v := .agg #[.slice none 0 0, .slice none 0 0, .slice none 0 0]) rfl pb0 (fun _ => by kernel_rfl) (k (stX H8 4 rfl ty29 rfl rfl rfl rfl rfl rfl rfl ?_))))
      intro w5 (H9 : HI M w w5 [box bb1 #[.slice a0 (ofV h).length c0, .slice a1 (ofI h).length c1, .slice a2 ([] : List Int).length c2] 29, imm (.slice a2 ([] : List Int).length c2) ([] : List Int), imm (.slice a1 (ofI h).length c1) (ofI h), imm (.slice a0 (ofV h).length c0) (ofV h), box bb0 #[.slice none 0 0, .slice none 0 0, .slice none 0 0] 29, imm (.slice a_h h.length c_h) h])
      refine k (asg (v := .bool false) rfl rfl (z (nx (rt (then_ret (rc2 H9 4 rfl ty29 rfl rfl rfl rfl rfl (by decide) ?_))))))
      have e0 : ([] : List ByteArray) = o11V h := by first | exact (o11_no hq).1.symm | exact (o11_yes hq).1.symm
      have e1 : ([] : List (Int × Int × Bool × Int × Int)) = o11I h := by first | exact (o11_no hq).2.1.symm | exact (o11_yes hq).2.1.symm
      have e2 : ([] : List Int) = o11F h := by first | exact (o11_no hq).2.2.symm | exact (o11_yes hq).2.2.symm
      have e3 : (false : Bool) = o11 h := by exact hq.symm
      have ev_ := cg4 (fun (x_0 : List ByteArray) (x_1 : List (Int × Int × Bool × Int × Int)) (x_2 : List Int) (x_3 : Bool) => (.tuple #[.agg #[.slice none x_0.length 0, .slice none x_1.length 0, .slice none x_2.length 0], .bool x_3] : Value)) e0 e1 e2 e3
      exact ⟨none, 0, none, 0, none, 0, ev_, H9.below, (congrArg (fun (x_ : List ByteArray) => RV _ _ (.slice none x_.length 0) x_) e0).mp (rv_nil _ _), (congrArg (fun (x_ : List (Int × Int × Bool × Int × Int)) => RV _ _ (.slice none x_.length 0) x_) e1).mp (rv_nil _ _), (congrArg (fun (x_ : List Int) => RV _ _ (.slice none x_.length 0) x_) e2).mp (rv_nil _ _)⟩
    ·
      have p1 := of_decide_eq_true (notf b1)
      refine sk (nx (sq ?_))
      have hq : o11 h = true := o11_is he_ (by simpa using ‹(!decide ((chkA (ofI h)).2.2 = 0)) = false›)
      refine rg (k (ldX H8 0 rfl ty29 rfl rfl (by decide) rfl (k ?_)))
      have cc2 := ref11_Fill (fv := (ofV h)) (fi := (ofI h)) (fo := ([] : List Int)) (w := w4) H8.mb (H8.rv 3 rfl) (H8.rv 2 rfl) (H8.rv 1 rfl) (by have h_ := ofI_len h; omega)
      refine ca go27 rfl (ec rfl e0) cc2 ?_
      rintro _ w5 ⟨a3, c3, a4, c4, a5, c5, rfl, xt4, rv3, rv4, rv5⟩
      have H9 := H8.ext xt4
      have H10 := H9.put (it := imm (.slice a3 (ofV h).length c3) (ofV h)) rfl rv3
      have H11 := H10.put (it := imm (.slice a4 (ofI h).length c4) (ofI h)) rfl (by rw [MS_cons_none rfl]; exact rv4)
      have H12 := H11.put (it := imm (.slice a5 (fromR (ofI h)).length c5) (fromR (ofI h))) rfl (by rw [MS_cons_none rfl, MS_cons_none rfl]; exact rv5)
      refine k (stX H12 7 rfl ty29 rfl rfl rfl rfl rfl rfl rfl ?_)
      intro w6 (H13 : HI M w w6 [imm (.slice a5 (fromR (ofI h)).length c5) (fromR (ofI h)), imm (.slice a4 (ofI h).length c4) (ofI h), imm (.slice a3 (ofV h).length c3) (ofV h), box bb1 #[.slice a0 (ofV h).length c0, .slice a1 (ofI h).length c1, .slice a2 ([] : List Int).length c2] 29, imm (.slice a2 ([] : List Int).length c2) ([] : List Int), imm (.slice a1 (ofI h).length c1) (ofI h), imm (.slice a0 (ofV h).length c0) (ofV h), box bb0 #[.slice a3 (ofV h).length c3, .slice a4 (ofI h).length c4, .slice a5 (fromR (ofI h)).length c5] 29, imm (.slice a_h h.length c_h) h])
      refine k (asg (v := .bool true) rfl rfl (z (nx (rt (rc2 H13 7 rfl ty29 rfl rfl rfl rfl rfl (by decide) ?_)))))
      have e0 : ((ofV h) : List ByteArray) = o11V h := by first | exact (o11_no hq).1.symm | exact (o11_yes hq).1.symm
      have e1 : ((ofI h) : List (Int × Int × Bool × Int × Int)) = o11I h := by first | exact (o11_no hq).2.1.symm | exact (o11_yes hq).2.1.symm
      have e2 : (fromR (ofI h) : List Int) = o11F h := by first | exact (o11_no hq).2.2.symm | exact (o11_yes hq).2.2.symm
      have e3 : (true : Bool) = o11 h := by exact hq.symm
      have ev_ := cg4 (fun (x_0 : List ByteArray) (x_1 : List (Int × Int × Bool × Int × Int)) (x_2 : List Int) (x_3 : Bool) => (.tuple #[.agg #[.slice a3 x_0.length c3, .slice a4 x_1.length c4, .slice a5 x_2.length c5], .bool x_3] : Value)) e0 e1 e2 e3
      exact ⟨a3, c3, a4, c4, a5, c5, ev_, H13.below, (congrArg (fun (x_ : List ByteArray) => RV _ _ (.slice a3 x_.length c3) x_) e0).mp (H13.gives_out 2 rfl), (congrArg (fun (x_ : List (Int × Int × Bool × Int × Int)) => RV _ _ (.slice a4 x_.length c4) x_) e1).mp (H13.gives_out 1 rfl), (congrArg (fun (x_ : List Int) => RV _ _ (.slice a5 x_.length c5) x_) e2).mp (H13.gives_out 0 rfl)⟩
end Go.Proofs.Ytmhopljngkgidaa
namespace Go.Proofs.Ytmhopljngkgidaa
open Go.Ew Go.RowKit
set_option linter.unusedVariables false
set_option linter.unusedSimpArgs false
attribute [local irreducible] WL WC SO Code.wp wpList retQ Ret
attribute [local irreducible] bitB hasW inR hasR setR countW countR subR words newR listR orR firstW tab8

/- eyewitness/hull.join -/
set_option maxRecDepth 100000 in
set_option maxHeartbeats 1600000 in
theorem hull_join {M0 : Nat → Prop} {w0 w : World} {l : List Go.Ew.Item} {i j : Nat} {a_i a_f : Option Addr} {c_i c_f : Nat} {a b : List (BitVec 64)} (H : HI M0 w0 w l) (hi : l[i]? = some (own w0.heap.size 74 (.slice a_i a.length c_i) a)) (hj : l[j]? = some (own w0.heap.size 74 (.slice a_f b.length c_f) b)) (hlen : b.length ≤ a.length) (hlb : b.length ≤ 1000000000) (hne : i ≠ j ∨ ((.slice a_i a.length c_i : Value) = .slice a_f b.length c_f ∧ b = a)) : Calls Try.prog 56 #[.slice a_i a.length c_i, .slice a_f b.length c_f] w (Ret fun v w' => v = .tuple #[] ∧ HI M0 w0 w' (l.set i (own w0.heap.size 74 (.slice a_i a.length c_i) (orR a b)))) := by
  have hil : i < l.length := (List.getElem?_eq_some_iff.1 hi).1
  refine enter 21 Try.func56 rfl rfl rfl fun f0 ha => ?_
  have i0 : f0 0 = .slice a_i a.length c_i := ha 0 (by simp)
  have i1 : f0 1 = .slice a_f b.length c_f := ha 1 (by simp)
  refine sq (rg (k (mv (v := .slice a_f b.length c_f) rfl i1 (k (lnS rfl rfl un60 (k (mv (v := .int .i64 0) rfl rfl (z (nx (bk ?_))))))))))
  refine lp (fun m f w' => ∃ (q : Nat) (xs : List (BitVec 64)), m = b.length - q ∧ f 0 = .slice a_i a.length c_i ∧ f 6 = .slice a_f b.length c_f ∧ f 7 = .int .i64 (b.length : Int) ∧ f 8 = .int .i64 (q : Int) ∧ HI M0 w0 w' (l.set i (own w0.heap.size 74 (.slice a_i a.length c_i) xs)) ∧ q ≤ b.length ∧ xs.length = a.length ∧ xs = orTo a.length a b a q) _ ⟨0, a, rfl, i0, rfl, rfl, rfl, (by rw [set_own hi]; exact H), Nat.zero_le _, rfl, orTo_zero _ _ _⟩ ?_
  rintro _ f1 w1 ⟨q, xs, rfl, s0, s1, s2, s3, H1, hk, hl, hs⟩
  refine sq (rg (k (lss rfl rfl s3 s2 (z (nx (sq ?_))))))
  refine cd (b := decide ((q : Int) < (b.length : Int))) rfl rfl (fun b1 => ?_) (fun b1 => ?_)
  ·
    have p1 := of_decide_eq_true b1
    obtain ⟨ys, hj1, hyl, hyq⟩ := join_from hj hil hne hl hs hk hlen
    refine sk (nx (sq (bk (sq (rg (k (mv rfl s3 (k (iaO (H1.at_ j hj1) rfl rfl s1 s3 (by omega) un60 ty74 ?_)))))))))
    intro g0 x0 hv0 hx0 hA0
    have hxq := hyq x0 hx0
    refine k (ldU hA0 ty74 rfl rfl (k (asg (v := .int .i64 (q : Int)) rfl rfl (k (asg (v := U x0) rfl rfl (z (nx (rg (k (mv rfl s0 (k (mv (v := .int .i64 (q : Int)) rfl rfl (k (iaO (H1.at_ i (set_at hil)) rfl rfl rfl rfl (by omega) un60 ty74 ?_))))))))))))))
    intro g1 x1 hv1 hx1 hA1
    refine k (ldU hA1 ty74 rfl rfl (k (mv (v := U x0) rfl rfl (k (orU x1 x0 rfl rfl rfl rfl (k (iaO (H1.at_ i (set_at hil)) rfl rfl rfl rfl (by omega) un60 ty74 ?_)))))))
    intro g2 x2 hv2 hx2 hA2
    refine k (stO H1 i (set_at hil) hv2 rfl (by omega) ty74 rfl rfl rfl rfl (RV.bv.2 rfl) ?_)
    intro w2 H2
    rw [set_set] at H2
    refine z (inb_normal (nx (rg (k (add rfl rfl s3 rfl (by unfold I64 at *; omega) (k (mv (v := .int .i64 ((q : Int) + 1)) rfl rfl (z ?_))))))))
    refine loopN _ ?_ ⟨(q + 1), (xs.set ((q : Int).toNat) (x1 ||| x0)), rfl, s0, s1, s2, (ieq rfl (by first | rfl | omega | (push_cast; omega))), H2, (by omega), (by simpa using hl), join_step hs hxq hx1⟩
    omega
  ·
    have p1 := of_decide_eq_false b1
    refine ex (then_exit (loop_exit (inb_here (r0n rfl ?_))))
    exact ⟨rfl, by rw [← join_end hs hlen (by omega)]; exact H1⟩
/- eyewitness/mat.New#R -/
set_option maxRecDepth 100000 in
set_option maxHeartbeats 1600000 in
theorem mat_NewR {M : Nat → Prop} {w : World} {n : Int} (hM : ∀ b, M b → b < w.heap.size) (h_n : I64 n) (h0 : 0 ≤ n) (h4 : n ≤ 4096) : Calls Try.prog 29 #[.int .i64 n] w (Ret fun v w' => ∃ (a0 : Option Addr) (c0 : Nat) (ss : List SV), v = .tuple #[.agg #[.int .i64 n, .slice a0 n.toNat c0], .int .i64 0] ∧ Ext w w' ∧ OwnsR M 60 74 w ss (List.replicate n.toNat (newR n)) (.slice a0 n.toNat c0) w') := by
  refine enter 29 Try.func29 rfl rfl rfl fun f0 ha => ?_
  have H := HI.start (M0 := M) (w := w) hM
  have i0 : f0 0 = .int .i64 n := ha 0 (by simp)
  refine sq (rg (k (al H ty35 ?_)))
  intro bb0 w0 xt0 (H0 : HI M w w0 [box bb0 #[.int .i64 0, .slice none 0 0] 35])
  refine k (asg (v := .int .i64 0) rfl rfl (z (nx (sq (sq (rg (k (mv rfl i0 (k (lss rfl rfl rfl rfl (k (mv (v := .bool (decide (n < 0))) rfl rfl ?_))))))))))))
  have b0 : decide (n < 0) = false := decide_eq_false (by omega)
  refine k (gy rfl rfl rfl b0 (mv rfl i0 (k (gy rfl rfl rfl b0 (gtr rfl rfl rfl rfl (k (pickF rfl rfl rfl rfl b0 rfl (z (nx ?_)))))))))
  refine cd (b := decide (4096 < n)) rfl rfl (fun b1 => ?_) (fun b1 => ?_)
  · exact absurd (of_decide_eq_true b1) (by omega)
  refine sk (nx (sq (rg (k (mv rfl i0 (k ?_))))))
  have n0 : ((n.toNat : Nat) : Int) = n := Int.toNat_of_nonneg (by omega)
  refine mk (m := n.toNat) (zx := (⟨none, 0, 0⟩ : SV)) H0 rfl rfl (by rw [n0]; exact rfl) (by rw [n0]; exact rfl) un33 ty60 (fun _ _ => rfl) (by first | omega | (simp; omega)) (by first | omega | (simp; omega)) ?_
  intro g0 w1 xt1 (H1 : HI M w w1 [own w.heap.size 60 (.slice (some ⟨g0, 0, none⟩) n.toNat n.toNat) (List.replicate n.toNat (⟨none, 0, 0⟩ : SV)), box bb0 #[.int .i64 0, .slice none 0 0] 35])
  refine k (asg (v := .slice (some ⟨g0, 0, none⟩) n.toNat n.toNat) rfl rfl (z (nx (sq (sq (rg (k (mv (v := .slice (some ⟨g0, 0, none⟩) n.toNat n.toNat) rfl rfl (k (lnS rfl rfl un33 (k (mv (v := .int .i64 0) rfl rfl (z (nx (bk ?_)))))))))))))))
  refine lp (fun m f w' => ∃ (j : Nat) (ss : List SV), m = n.toNat - j ∧ f 0 = .int .i64 n ∧ f 2 = .pointer (some ⟨bb0, 0, none⟩) ∧ f 4 = .slice (some ⟨g0, 0, none⟩) n.toNat n.toNat ∧ f 16 = .int .i64 (n.toNat : Int) ∧ f 17 = .int .i64 (j : Int) ∧ HI M w w' ([own w.heap.size 60 (.slice (some ⟨g0, 0, none⟩) n.toNat n.toNat) (ss ++ List.replicate (n.toNat - j) (⟨none, 0, 0⟩ : SV)), box bb0 #[.int .i64 0, .slice none 0 0] 35] ++ rowItems w.heap.size 74 ss (List.replicate j (newR n))) ∧ j ≤ n.toNat ∧ ss.length = j) _ ⟨0, [], rfl, i0, rfl, rfl, rfl, rfl, H1, Nat.zero_le _, rfl⟩ ?_
  rintro _ f0 w2 ⟨j, ss, rfl, s0, s1, s2, s3, s4, H2, hk, hl⟩
  refine sq (rg (k (lss rfl rfl s4 s3 (z (nx (sq ?_))))))
  refine cd (b := decide ((j : Int) < (n.toNat : Int))) rfl rfl (fun b2 => ?_) (fun b2 => ?_)
  ·
    have p2 := of_decide_eq_true b2
    refine sk (nx (sq (bk (sq (rg (k (mv rfl s4 (k (asg (v := .int .i64 (j : Int)) rfl rfl (z (nx (rg (k (mv rfl s2 (k (mv (v := .int .i64 (j : Int)) rfl rfl (k (mv rfl s0 (k ?_)))))))))))))))))))
    have cc0 := row_New (n := n) (w := w2) H2.mb (by unfold I64 at *; omega) (by first | omega | (simp; omega))
    refine ca go47 rfl (ec rfl e0) cc0 ?_
    rintro _ w3 ⟨a0, c0, rfl, xt2, rv0⟩
    have H3 := H2.ownsG rv0
    have hjl : j < (ss ++ List.replicate (n.toNat - j) (⟨none, 0, 0⟩ : SV)).length := by rw [List.length_append, List.length_replicate]; omega
    refine k (iaO (H3.at_ 1 rfl) rfl rfl rfl rfl (by omega) un33 ty60 ?_)
    intro g1 x0 hv0 hx0 hA0
    refine k (stO (yv := (⟨a0, (newR n).length, c0⟩ : SV)) H3 1 rfl hv0 rfl (by omega) ty60 rfl rfl rfl rfl (RV.sv.2 rfl) ?_)
    intro w4 H4
    have H5 : HI M w w4 (own w.heap.size 74 (⟨a0, (newR n).length, c0⟩ : SV).v (newR n) :: ([own w.heap.size 60 (.slice (some ⟨g0, 0, none⟩) n.toNat n.toNat) ((ss ++ List.replicate (n.toNat - j) (⟨none, 0, 0⟩ : SV)).set ((j : Int).toNat) ⟨a0, (newR n).length, c0⟩), box bb0 #[.int .i64 0, .slice none 0 0] 35] ++ rowItems w.heap.size 74 ss (List.replicate j (newR n)))) := H4
    have H6 := H5.rowEnd (by rw [List.length_replicate]; exact hl)
    have es : (ss ++ List.replicate (n.toNat - j) (⟨none, 0, 0⟩ : SV)).set ((j : Int).toNat) ⟨a0, (newR n).length, c0⟩ = (ss ++ [⟨a0, (newR n).length, c0⟩]) ++ List.replicate (n.toNat - (j + 1)) (⟨none, 0, 0⟩ : SV) := by
      rw [Int.toNat_natCast, List.set_append_right _ _ (by omega), hl, Nat.sub_self, show n.toNat - j = n.toNat - (j + 1) + 1 from by omega, List.replicate_succ, List.set_cons_zero]; simp
    rw [es, ← List.replicate_succ'] at H6
    refine z (inb_normal (nx (rg (k (add rfl rfl s4 rfl (by unfold I64 at *; omega) (k (mv (v := .int .i64 ((j : Int) + 1)) rfl rfl (z ?_))))))))
    refine loopN _ ?_ ⟨(j + 1), (ss ++ [⟨a0, (newR n).length, c0⟩]), rfl, s0, s1, s2, s3, (ieq rfl (by first | rfl | omega | (push_cast; omega))), H6, (by omega), (by rw [List.length_append, hl]; rfl)⟩
    omega
  ·
    have p2 := of_decide_eq_false b2
    obtain rfl : j = n.toNat := by omega
    rw [Nat.sub_self, List.replicate_zero, List.append_nil] at H2
    refine ex (then_exit (loop_exit (inb_here (nx (sq (rg (k (mv rfl s0 (k (mv rfl s2 (k (bd (v := .agg #[.int .i64 n, .slice (some ⟨g0, 0, none⟩) n.toNat n.toNat]) rfl (pbc rfl (pbc rfl pb0)) (fun _ => by kernel_rfl) (k (stX H2 1 rfl ty35 rfl rfl s1 rfl rfl rfl rfl ?_))))))))))))))
    intro w3 H3
    have H4 : HI M w w3 ([own w.heap.size 60 (.slice (some ⟨g0, 0, none⟩) n.toNat n.toNat) ss, box bb0 #[.int .i64 n, .slice (some ⟨g0, 0, none⟩) n.toNat n.toNat] 35] ++ rowItems w.heap.size 74 ss (List.replicate n.toNat (newR n))) := H3
    refine k (asg (v := .int .i64 0) rfl rfl (z (nx (rt (rc2 H4 1 rfl ty35 rfl rfl rfl s1 rfl (by decide) ?_)))))
    exact ⟨(some ⟨g0, 0, none⟩), n.toNat, ss, rfl, H4.below, by rw [List.length_replicate]; exact hl, H4.pickT (l' := [own w.heap.size 60 (.slice (some ⟨g0, 0, none⟩) n.toNat n.toNat) ss]) [0] (by decide) rfl rfl⟩
end Go.Proofs.Ytmhopljngkgidaa
namespace Go.Proofs.Ytmhopljngkgidaa
open Go.Ew Go.RowKit
set_option linter.unusedVariables false
set_option linter.unusedSimpArgs false
attribute [local irreducible] WL WC SO Code.wp wpList retQ Ret
attribute [local irreducible] bitB hasW inR hasR setR countW countR subR words newR listR orR firstW tab8


end Go.Proofs.Ytmhopljngkgidaa
namespace Go.Proofs.Ytmhopljngkgidaa
open Go.Ew Go.RowKit
set_option linter.unusedVariables false
set_option linter.unusedSimpArgs false
attribute [local irreducible] WL WC SO Code.wp wpList retQ Ret
attribute [local irreducible] bitB hasW inR hasR setR countW countR subR words newR listR orR firstW tab8
/- eyewitness/hull.own -/
set_option maxRecDepth 100000 in
set_option maxHeartbeats 1600000 in
theorem hull_own {M : Nat → Prop} {w : World} {mn : Int} {a_mr : Option Addr} {c_mr : Nat} {mr : List (List (BitVec 64))} (hM : ∀ b, M b → b < w.heap.size) (h_mn : I64 mn) (h_mr : RV M w (.slice a_mr mr.length c_mr) mr) (rt_m : rightS mn mr = true) : Calls Try.prog 54 #[.agg #[.int .i64 mn, .slice a_mr mr.length c_mr]] w (Ret fun v w' => ∃ (a0 : Option Addr) (c0 : Nat) (ss0 : List SV), v = .agg #[.int .i64 mn, .slice a0 mn.toNat c0] ∧ Ext w w' ∧ OwnsR M 60 74 w ss0 mr (.slice a0 mn.toNat c0) w') := by
  refine enter 30 Try.func54 rfl rfl rfl fun f0 ha => ?_
  have H := HI.start (M0 := M) (w := w) hM
  have H0 := H.put (it := imm (.slice a_mr mr.length c_mr) mr) rfl (by rw [MS_nil]; exact h_mr)
  have ln_mr := rv_len h_mr
  have i0 : f0 0 = .agg #[.int .i64 mn, .slice a_mr mr.length c_mr] := ha 0 (by simp)
  refine sq (rg (k (bx H0 rfl i0 ?_)))
  intro bb0 w0 xt0 (H1 : HI M w w0 [box bb0 #[.int .i64 mn, .slice a_mr mr.length c_mr] 35, imm (.slice a_mr mr.length c_mr) mr])
  refine k (al H1 ty35 ?_)
  intro bb1 w1 xt1 (H2 : HI M w w1 [box bb1 #[.int .i64 0, .slice none 0 0] 35, box bb0 #[.int .i64 mn, .slice a_mr mr.length c_mr] 35, imm (.slice a_mr mr.length c_mr) mr])
  refine z (nx (sq (rg (k (fa fl35_0 rfl rfl (k (ldX H2 1 rfl ty3 rfl rfl (by decide) rfl (k ?_))))))))
  have cc0 := mat_NewR (n := mn) (w := w1) H2.mb (by unfold I64 at *; omega) (by exact right_pos rt_m) (by exact (right_sq rt_m).2.2.1)
  refine ca go29 rfl (ec rfl e0) cc0 ?_
  rintro _ w2 ⟨a0, c0, ss0, rfl, xt2, rv0⟩
  have H3 := H2.ownsR rv0
  have H4 : HI M w w2 ([own w.heap.size 60 (.slice a0 mn.toNat c0) ss0, box bb1 #[.int .i64 0, .slice none 0 0] 35, box bb0 #[.int .i64 mn, .slice a_mr mr.length c_mr] 35, imm (.slice a_mr mr.length c_mr) mr] ++ rowItems w.heap.size 74 ss0 (List.replicate mn.toNat (newR mn))) := H3
  have ssl0 := rv0.1
  refine k (mv (v := .tuple #[.agg #[.int .i64 mn, .slice a0 mn.toNat c0], .int .i64 0]) rfl rfl (k (xt rfl rfl rfl (k (xt rfl rfl rfl (k (al H4 ty35 ?_)))))))
  intro bb2 w3 xt3 (H5 : HI M w w3 ([box bb2 #[.int .i64 0, .slice none 0 0] 35, own w.heap.size 60 (.slice a0 mn.toNat c0) ss0, box bb1 #[.int .i64 0, .slice none 0 0] 35, box bb0 #[.int .i64 mn, .slice a_mr mr.length c_mr] 35, imm (.slice a_mr mr.length c_mr) mr] ++ rowItems w.heap.size 74 ss0 (List.replicate mn.toNat (newR mn))))
  refine k (stX H5 0 rfl ty35 rfl rfl rfl rfl rfl rfl rfl ?_)
  intro w4 (H6 : HI M w w4 ([box bb2 #[.int .i64 mn, .slice a0 mn.toNat c0] 35, own w.heap.size 60 (.slice a0 mn.toNat c0) ss0, box bb1 #[.int .i64 0, .slice none 0 0] 35, box bb0 #[.int .i64 mn, .slice a_mr mr.length c_mr] 35, imm (.slice a_mr mr.length c_mr) mr] ++ rowItems w.heap.size 74 ss0 (List.replicate mn.toNat (newR mn))))
  refine k (asg (v := .int .i64 0) rfl rfl (z (nx (sq (sq (rg (k (fa fl35_1 rfl rfl (k (ldX H6 3 rfl ty33 rfl rfl (by decide) rfl (k (lnS rfl rfl un33 (k (mv (v := .int .i64 0) rfl rfl (z (nx (bk ?_)))))))))))))))))
  refine lp (fun m f w' => ∃ (j : Nat) (xs : List (List (BitVec 64))), m = mr.length - j ∧ f 2 = .pointer (some ⟨bb1, 0, none⟩) ∧ f 3 = .pointer (some ⟨bb2, 0, none⟩) ∧ f 14 = .slice a_mr mr.length c_mr ∧ f 15 = .int .i64 (mr.length : Int) ∧ f 16 = .int .i64 (j : Int) ∧  HI M w w' ([box bb2 #[.int .i64 mn, .slice a0 mn.toNat c0] 35, own w.heap.size 60 (.slice a0 mn.toNat c0) ss0, box bb1 #[.int .i64 0, .slice none 0 0] 35, box bb0 #[.int .i64 mn, .slice a_mr mr.length c_mr] 35, imm (.slice a_mr mr.length c_mr) mr] ++ rowItems w.heap.size 74 ss0 xs) ∧ (j ≤ mr.length) ∧ (ss0.length = xs.length) ∧ (xs = mr.take j ++ List.replicate (mn.toNat - j) (newR mn))) _ ⟨0, (List.replicate mn.toNat (newR mn)), rfl, rfl, rfl, rfl, rfl, (ieq rfl (by first | rfl | omega | simp)), H6, (by first | assumption | omega | simp | (simp; omega)), (by exact rv0.1), (by simp)⟩ ?_
  rintro _ f0 w5 ⟨j, xs, rfl, s0, s1, s2, s3, s4, H7, hk, hl, hs⟩
  refine sq (rg (k (lss rfl rfl s4 s3 (z (nx (sq ?_))))))
  refine cd (b := decide ((j : Int) < (mr.length : Int))) rfl rfl (fun b0 => ?_) (fun b0 => ?_)
  ·
    have p0 := of_decide_eq_true b0
    refine sk (nx (sq (bk (sq (rg (k (mv rfl s4 (k (ia (H7.rv 4 rfl) rfl rfl s2 s4 (by first | omega | (simp; omega)) un33 ty60 ?_)))))))))
    intro ad0 x0 hx0 hA0
    refine k (ldL hA0.w ty60 rfl rfl ?_)
    intro a1 c1 rv1
    have ln0 := rv_len rv1
    have H8 := H7.put (it := imm (.slice a1 x0.length c1) x0) rfl rv1
    have H9 : HI M w w5 ([imm (.slice a1 x0.length c1) x0, box bb2 #[.int .i64 mn, .slice a0 mn.toNat c0] 35, own w.heap.size 60 (.slice a0 mn.toNat c0) ss0, box bb1 #[.int .i64 0, .slice none 0 0] 35, box bb0 #[.int .i64 mn, .slice a_mr mr.length c_mr] 35, imm (.slice a_mr mr.length c_mr) mr] ++ rowItems w.heap.size 74 ss0 xs) := H8
    refine k (asg (v := .int .i64 (j : Int)) rfl rfl (k (asg (v := .slice a1 x0.length c1) rfl rfl (z (nx ?_)))))
    have xl_ : xs.length = mr.length := by have h_ := (right_sq rt_m).1; rw [hs, List.length_append, List.length_take, List.length_replicate]; omega
    refine rg (k (fa fl35_1 rfl s1 (k (ldX H9 1 rfl ty33 rfl rfl (by decide) rfl (k (mv (v := .int .i64 (j : Int)) rfl rfl (k ?_)))))))
    obtain ⟨a2, x1, c2, hs0, hr0⟩ := row_get (i := (j : Int).toNat) H9 (by first | assumption | (simp only [List.length_set]; assumption) | (simp only [List.length_set, List.length_replicate] at *; omega)) (by omega)
    refine iaO (H9.at_ 2 rfl) rfl rfl rfl rfl (by first | omega | (simp; omega)) un33 ty60 ?_
    intro g0 x2 hv0 hx1 hA1
    obtain rfl : (⟨a2, x1.length, c2⟩ : SV) = x2 := Option.some.inj (hs0.symm.trans hx1)
    refine k (ldV hA1 ty60 rfl rfl (k (mv (v := .slice a1 x0.length c1) rfl rfl (k (cpO H9 _ (row_at hs0 hr0) rfl rfl rfl rfl rfl (H9.rv 0 rfl).src un60 ty74 (by exact own_len rt_m hs hx0 hr0) (by exact own_pos rt_m hs hx0 hr0) ?_)))))
    intro w6 H11
    have H10 := HI.rowPut (M := fun _ => False) (it := imm (.int .i64 0) (0 : Int)) H11 hs0
    have H12 : HI M w w6 ([imm (.slice a1 x0.length c1) x0, box bb2 #[.int .i64 mn, .slice a0 mn.toNat c0] 35, own w.heap.size 60 (.slice a0 mn.toNat c0) ss0, box bb1 #[.int .i64 0, .slice none 0 0] 35, box bb0 #[.int .i64 mn, .slice a_mr mr.length c_mr] 35, imm (.slice a_mr mr.length c_mr) mr] ++ rowItems w.heap.size 74 ss0 (xs.set ((j : Int).toNat) x0)) := H10
    refine z (inb_normal (nx (rg (k (add rfl rfl s4 rfl (by unfold I64 at *; omega) (k (mv (v := .int .i64 ((j : Int) + 1)) rfl rfl (z ?_))))))))
    have H13 : HI M w w6 ([box bb2 #[.int .i64 mn, .slice a0 mn.toNat c0] 35, own w.heap.size 60 (.slice a0 mn.toNat c0) ss0, box bb1 #[.int .i64 0, .slice none 0 0] 35, box bb0 #[.int .i64 mn, .slice a_mr mr.length c_mr] 35, imm (.slice a_mr mr.length c_mr) mr] ++ rowItems w.heap.size 74 ss0 (xs.set ((j : Int).toNat) x0)) := HI.pickT (l := [imm (.slice a1 x0.length c1) x0, box bb2 #[.int .i64 mn, .slice a0 mn.toNat c0] 35, own w.heap.size 60 (.slice a0 mn.toNat c0) ss0, box bb1 #[.int .i64 0, .slice none 0 0] 35, box bb0 #[.int .i64 mn, .slice a_mr mr.length c_mr] 35, imm (.slice a_mr mr.length c_mr) mr]) (l' := [box bb2 #[.int .i64 mn, .slice a0 mn.toNat c0] 35, own w.heap.size 60 (.slice a0 mn.toNat c0) ss0, box bb1 #[.int .i64 0, .slice none 0 0] 35, box bb0 #[.int .i64 mn, .slice a_mr mr.length c_mr] 35, imm (.slice a_mr mr.length c_mr) mr]) (t := rowItems w.heap.size 74 ss0 (xs.set ((j : Int).toNat) x0)) H12 [1, 2, 3, 4, 5] (by decide) rfl rfl
    refine loopN _ ?_ ⟨(j + 1), (xs.set ((j : Int).toNat) x0), rfl, s0, s1, s2, s3, (ieq rfl (by first | rfl | omega | (push_cast; omega))), H13, (by first | assumption | omega | simp | (simp; omega)), (by simp only [List.length_set]; exact hl), (by exact own_step rt_m hs hx0)⟩
    omega
  ·
    have p0 := of_decide_eq_false b0
    refine ex (then_exit (loop_exit (inb_here (nx (sq (rg (k (ldX H7 0 rfl ty35 rfl s1 (by decide) rfl (k (stX H7 2 rfl ty35 rfl rfl s0 rfl rfl rfl rfl ?_))))))))))
    intro w6 (H8 : HI M w w6 ([box bb2 #[.int .i64 mn, .slice a0 mn.toNat c0] 35, own w.heap.size 60 (.slice a0 mn.toNat c0) ss0, box bb1 #[.int .i64 mn, .slice a0 mn.toNat c0] 35, box bb0 #[.int .i64 mn, .slice a_mr mr.length c_mr] 35, imm (.slice a_mr mr.length c_mr) mr] ++ rowItems w.heap.size 74 ss0 xs))
    refine z (nx (rt (rc1 H8 2 rfl ty35 rfl rfl s0 rfl (by decide) ?_)))
    have e1 : (xs : List (List (BitVec 64))) = mr := by exact own_end rt_m hs (by omega)
    have w1 : ss0.length = (xs).length := by first | assumption | (simp only [List.length_set]; assumption) | (simp only [List.length_set, List.length_replicate] at *; omega)
    exact ⟨a0, c0, ss0, rfl, H8.below, (congrArg (fun (x_ : List (List (BitVec 64))) => OwnsR _ 60 74 _ ss0 x_ (.slice a0 mn.toNat c0) _) e1).mp ⟨w1, HI.pickT (l := [box bb2 #[.int .i64 mn, .slice a0 mn.toNat c0] 35, own w.heap.size 60 (.slice a0 mn.toNat c0) ss0, box bb1 #[.int .i64 mn, .slice a0 mn.toNat c0] 35, box bb0 #[.int .i64 mn, .slice a_mr mr.length c_mr] 35, imm (.slice a_mr mr.length c_mr) mr]) (l' := [own w.heap.size 60 (.slice a0 mn.toNat c0) ss0]) (t := rowItems w.heap.size 74 ss0 xs) H8 [1] (by decide) rfl rfl⟩⟩
end Go.Proofs.Ytmhopljngkgidaa
namespace Go.Proofs.Ytmhopljngkgidaa
open Go.Ew Go.RowKit
set_option linter.unusedVariables false
set_option linter.unusedSimpArgs false
attribute [local irreducible] WL WC SO Code.wp wpList retQ Ret
attribute [local irreducible] bitB hasW inR hasR setR countW countR subR words newR listR orR firstW tab8
theorem go54 : GoF Try.prog 54 := ⟨_, _, Try.func54, rfl, by kernel_rfl⟩
theorem go55 : GoF Try.prog 55 := ⟨_, _, Try.func55, rfl, by kernel_rfl⟩
theorem go56 : GoF Try.prog 56 := ⟨_, _, Try.func56, rfl, by kernel_rfl⟩
/- eyewitness/hull.Close -/
set_option maxRecDepth 100000 in
set_option maxHeartbeats 1600000 in
theorem hull_Close {M : Nat → Prop} {w : World} {mn : Int} {a_mr : Option Addr} {c_mr : Nat} {mr : List (List (BitVec 64))} (hM : ∀ b, M b → b < w.heap.size) (h_mn : I64 mn) (h_mr : RV M w (.slice a_mr mr.length c_mr) mr) (rt_m : rightS mn mr = true) : Calls Try.prog 35 #[.agg #[.int .i64 mn, .slice a_mr mr.length c_mr]] w (Ret fun v w' => ∃ (a0 : Option Addr) (c0 : Nat), v = .agg #[.int .i64 mn, .slice a0 (closeM mn mr).length c0] ∧ Ext w w' ∧ OwnsG M 60 w (closeM mn mr) (.slice a0 (closeM mn mr).length c0) w') := by
  refine enter 41 Try.func35 rfl rfl rfl fun f0 ha => ?_
  have H := HI.start (M0 := M) (w := w) hM
  have H0 := H.put (it := imm (.slice a_mr mr.length c_mr) mr) rfl (by rw [MS_nil]; exact h_mr)
  have ln_mr := rv_len h_mr
  have i0 : f0 0 = .agg #[.int .i64 mn, .slice a_mr mr.length c_mr] := ha 0 (by simp)
  have hl_ := (right_sq rt_m).1; have h4_ := (right_sq rt_m).2.2.1; have h0_ := right_pos rt_m
  refine sq (rg (k (bx H0 rfl i0 ?_)))
  intro bb0 w0 xt0 (H1 : HI M w w0 [box bb0 #[.int .i64 mn, .slice a_mr mr.length c_mr] 35, imm (.slice a_mr mr.length c_mr) mr])
  refine k (al H1 ty35 ?_)
  intro bb1 w1 xt1 (H2 : HI M w w1 [box bb1 #[.int .i64 0, .slice none 0 0] 35, box bb0 #[.int .i64 mn, .slice a_mr mr.length c_mr] 35, imm (.slice a_mr mr.length c_mr) mr])
  refine z (nx (sq (rg (k (ldX H2 1 rfl ty35 rfl rfl (by decide) rfl (k ?_))))))
  have cc0 := hull_own (mn := mn) (mr := mr) (w := w1) H2.mb (by unfold I64 at *; omega) (H2.rv 2 rfl) (by exact rt_m)
  refine ca go54 rfl (ec rfl e0) cc0 ?_
  rintro _ w2 ⟨a0, c0, ss0, rfl, xt2, rv0⟩
  have H3 := H2.ownsR rv0
  have H4 : HI M w w2 ([own w.heap.size 60 (.slice a0 mn.toNat c0) ss0, box bb1 #[.int .i64 0, .slice none 0 0] 35, box bb0 #[.int .i64 mn, .slice a_mr mr.length c_mr] 35, imm (.slice a_mr mr.length c_mr) mr] ++ rowItems w.heap.size 74 ss0 mr) := H3
  have ssl0 := rv0.1
  refine k (al H4 ty35 ?_)
  intro bb2 w3 xt3 (H5 : HI M w w3 ([box bb2 #[.int .i64 0, .slice none 0 0] 35, own w.heap.size 60 (.slice a0 mn.toNat c0) ss0, box bb1 #[.int .i64 0, .slice none 0 0] 35, box bb0 #[.int .i64 mn, .slice a_mr mr.length c_mr] 35, imm (.slice a_mr mr.length c_mr) mr] ++ rowItems w.heap.size 74 ss0 mr))
  refine k (stX H5 0 rfl ty35 rfl rfl rfl rfl rfl rfl rfl ?_)
  intro w4 (H6 : HI M w w4 ([box bb2 #[.int .i64 mn, .slice a0 mn.toNat c0] 35, own w.heap.size 60 (.slice a0 mn.toNat c0) ss0, box bb1 #[.int .i64 0, .slice none 0 0] 35, box bb0 #[.int .i64 mn, .slice a_mr mr.length c_mr] 35, imm (.slice a_mr mr.length c_mr) mr] ++ rowItems w.heap.size 74 ss0 mr))
  refine z (nx (sq (sq (rg (k (fa fl35_1 rfl rfl (k (ldX H6 0 rfl ty33 rfl rfl (by decide) rfl (k (lnS rfl rfl un33 (k (mv (v := .int .i64 0) rfl rfl (z (nx (bk ?_)))))))))))))))
  refine lp (fun m f w' => ∃ (q : Nat) (xs : List (List (BitVec 64))), m = mn.toNat - q ∧ f 2 = .pointer (some ⟨bb1, 0, none⟩) ∧ f 3 = .pointer (some ⟨bb2, 0, none⟩) ∧ f 10 = .int .i64 (mn.toNat : Int) ∧ f 11 = .int .i64 (q : Int) ∧  HI M w w' ([box bb2 #[.int .i64 mn, .slice a0 mn.toNat c0] 35, own w.heap.size 60 (.slice a0 mn.toNat c0) ss0, box bb1 #[.int .i64 0, .slice none 0 0] 35, box bb0 #[.int .i64 mn, .slice a_mr mr.length c_mr] 35, imm (.slice a_mr mr.length c_mr) mr] ++ rowItems w.heap.size 74 ss0 xs) ∧ (q ≤ mn.toNat) ∧ (ss0.length = xs.length) ∧ (xs = matP mn.toNat (wM (relM mr) q)) ∧ (xs.length = mn.toNat)) _ ⟨0, mr, rfl, rfl, rfl, rfl, (ieq rfl (by first | rfl | omega | simp)), H6, (by first | assumption | omega | simp | (simp; omega)), (by exact ssl0), (by exact close_start rt_m), (by omega)⟩ ?_
  rintro _ f0 w5 ⟨q, xs, rfl, s0, s1, s2, s3, H7, hk, hl, hs, hxl⟩
  refine sq (rg (k (lss rfl rfl s3 s2 (z (nx (sq ?_))))))
  refine cd (b := decide ((q : Int) < (mn.toNat : Int))) rfl rfl (fun b0 => ?_) (fun b0 => ?_)
  ·
    have p0 := of_decide_eq_true b0
    refine sk (nx (sq (bk (sq (rg (k (mv rfl s3 (k (asg (v := .int .i64 (q : Int)) rfl rfl (z (nx (sq (rg (k (fa fl35_1 rfl s1 (k (ldX H7 0 rfl ty33 rfl rfl (by decide) rfl (k (lnS rfl rfl un33 (k (mv (v := .int .i64 0) rfl rfl (z (nx (bk ?_))))))))))))))))))))))))
    refine lp (fun m f w' => ∃ (i : Nat) (ys : List (List (BitVec 64))), m = mn.toNat - i ∧ f 2 = .pointer (some ⟨bb1, 0, none⟩) ∧ f 3 = .pointer (some ⟨bb2, 0, none⟩) ∧ f 4 = .int .i64 (q : Int) ∧ f 10 = .int .i64 (mn.toNat : Int) ∧ f 11 = .int .i64 (q : Int) ∧ f 16 = .int .i64 (mn.toNat : Int) ∧ f 17 = .int .i64 (i : Int) ∧  HI M w w' ([box bb2 #[.int .i64 mn, .slice a0 mn.toNat c0] 35, own w.heap.size 60 (.slice a0 mn.toNat c0) ss0, box bb1 #[.int .i64 0, .slice none 0 0] 35, box bb0 #[.int .i64 mn, .slice a_mr mr.length c_mr] 35, imm (.slice a_mr mr.length c_mr) mr] ++ rowItems w.heap.size 74 ss0 ys) ∧ (i ≤ mn.toNat) ∧ (ss0.length = ys.length) ∧ (ys = matP mn.toNat (wR (relM mr) q i)) ∧ (ys.length = mn.toNat)) _ ⟨0, xs, rfl, s0, s1, rfl, s2, s3, rfl, (ieq rfl (by first | rfl | omega | simp)), H7, (by first | assumption | omega | simp | (simp; omega)), (by exact hl), (by rw [hs]; exact wR_zero _ _ _), (by exact hxl)⟩ ?_
    rintro _ f1 w6 ⟨i, ys, rfl, s4, s5, s6, s7, s8, s9, s10, H8, hi_, hl2, hs2, hyl⟩
    refine sq (rg (k (lss rfl rfl s10 s9 (z (nx (sq ?_))))))
    refine cd (b := decide ((i : Int) < (mn.toNat : Int))) rfl rfl (fun b1 => ?_) (fun b1 => ?_)
    ·
      have p1 := of_decide_eq_true b1
      refine sk (nx (sq (bk (sq (rg (k (mv rfl s10 (k (asg (v := .int .i64 (i : Int)) rfl rfl (z (nx (sq (rg (k (fa fl35_1 rfl s5 (k (ldX H8 0 rfl ty33 rfl rfl (by decide) rfl (k (mv (v := .int .i64 (i : Int)) rfl rfl (k ?_))))))))))))))))))))
      obtain ⟨a1, x0, c1, hs0, hr0⟩ := row_get (i := (i : Int).toNat) H8 (by first | assumption | (simp only [List.length_set]; assumption) | (simp only [List.length_set, List.length_replicate] at *; omega)) (by omega)
      refine iaO (H8.at_ 1 rfl) rfl rfl rfl rfl (by first | omega | (simp; omega)) un33 ty60 ?_
      intro g0 x1 hv0 hx0 hA0
      obtain rfl : (⟨a1, x0.length, c1⟩ : SV) = x1 := Option.some.inj (hs0.symm.trans hx0)
      refine k (ldV hA0 ty60 rfl rfl (k (mv rfl s6 (k ?_))))
      have cc1 := row_Has (r := x0) (i := (q : Int)) (w := w6) (M := fun _ => False) (fun _ h_ => h_.elim) (row_rv H8 hs0 hr0) (by unfold I64 at *; omega)
      refine ca go55 rfl (ec rfl (ec rfl e0)) cc1 ?_
      rintro _ w7 ⟨rfl, xt4⟩
      have H9 := H8.ext xt4
      refine z (nx ?_)
      refine cd (b := hasR x0 (q : Int)) rfl rfl (fun b2 => ?_) (fun b2 => ?_)
      ·
        obtain ⟨a2, x3, c2, hs1, hr1⟩ := row_get (i := (q : Int).toNat) H9 (by first | assumption | (simp only [List.length_set]; assumption) | (simp only [List.length_set, List.length_replicate] at *; omega)) (by omega)
        refine dr 10 [fun (v : Value) (w' : World) => v = .pointer (some ⟨bb2, 1, none⟩), fun (v : Value) (w' : World) => v = .slice a0 mn.toNat c0, fun (v : Value) (w' : World) => v = .int .i64 (i : Int), fun (v : Value) (w' : World) => ∃ (g1 : Nat), v = .pointer (some ⟨g1, (i : Int).toNat * 1, none⟩) ∧ (.slice a0 mn.toNat c0 : Value).ownBlock = some g1 ∧ AtW (MS M ([box bb2 #[.int .i64 mn, .slice a0 mn.toNat c0] 35, own w.heap.size 60 (.slice a0 mn.toNat c0) ss0, box bb1 #[.int .i64 0, .slice none 0 0] 35, box bb0 #[.int .i64 mn, .slice a_mr mr.length c_mr] 35, imm (.slice a_mr mr.length c_mr) mr] ++ rowItems w.heap.size 74 ss0 ys)) w' ⟨g1, (i : Int).toNat * 1, none⟩ (⟨a1, x0.length, c1⟩ : SV), fun (v : Value) (w' : World) => v = .slice a1 x0.length c1, fun (v : Value) (w' : World) => v = .pointer (some ⟨bb2, 1, none⟩), fun (v : Value) (w' : World) => v = .slice a0 mn.toNat c0, fun (v : Value) (w' : World) => v = .int .i64 (q : Int), fun (v : Value) (w' : World) => ∃ (g2 : Nat), v = .pointer (some ⟨g2, (q : Int).toNat * 1, none⟩) ∧ (.slice a0 mn.toNat c0 : Value).ownBlock = some g2 ∧ AtW (MS M ([box bb2 #[.int .i64 mn, .slice a0 mn.toNat c0] 35, own w.heap.size 60 (.slice a0 mn.toNat c0) ss0, box bb1 #[.int .i64 0, .slice none 0 0] 35, box bb0 #[.int .i64 mn, .slice a_mr mr.length c_mr] 35, imm (.slice a_mr mr.length c_mr) mr] ++ rowItems w.heap.size 74 ss0 ys)) w' ⟨g2, (q : Int).toNat * 1, none⟩ (⟨a2, x3.length, c2⟩ : SV), fun (v : Value) (w' : World) => v = .slice a2 x3.length c2] rfl (by kernel_rfl) ?_ ?_
        ·
          refine ⟨fun _ => ⟨fun f2 w8 hf0 xt5 hp0 => ?_, fun _ _ _ _ h => h⟩, ?_⟩
          ·
            have H10 := H9.ext xt5
            refine fa fl35_1 rfl ((hf0 3 rfl).trans s5) ?_
            exact ⟨_, rfl, Ext.refl _, rfl⟩
          refine ⟨fun _ => ⟨fun f3 w9 hf1 xt6 hp1 => ?_, fun _ _ _ _ h => h⟩, ?_⟩
          ·
            have H11 := H9.ext xt6
            have s11 : f3 27 = .pointer (some ⟨bb2, 1, none⟩) := hp1 0 rfl rfl
            refine ldX H11 0 rfl ty33 rfl s11 (by decide) rfl ?_
            exact ⟨_, rfl, Ext.refl _, rfl⟩
          refine ⟨fun _ => ⟨fun f4 w10 hf2 xt7 hp2 => ?_, fun _ _ _ _ h => h⟩, ?_⟩
          ·
            have H12 := H9.ext xt7
            refine mv rfl (hf2 5 rfl) ?_
            exact ⟨_, rfl, Ext.refl _, rfl⟩
          refine ⟨fun _ => ⟨fun f5 w11 hf3 xt8 hp3 => ?_, by rintro _ _ _ x_ ⟨g1, e_, hv1, hA1⟩; exact ⟨g1, e_, hv1, hA1.ext x_⟩⟩, ?_⟩
          ·
            have H13 := H9.ext xt8
            have s12 : f5 28 = .slice a0 mn.toNat c0 := hp3 1 rfl rfl
            have s13 : f5 29 = .int .i64 (i : Int) := hp3 2 rfl rfl
            refine iaO (H13.at_ 1 rfl) rfl rfl s12 s13 (by first | omega | (simp; omega)) un33 ty60 ?_
            intro g3 x5 hv3 hx3 hA3
            obtain rfl : (⟨a1, x0.length, c1⟩ : SV) = x5 := Option.some.inj (hs0.symm.trans hx3)
            exact ⟨_, rfl, Ext.refl _, ⟨g3, rfl, hv3, hA3⟩⟩
          refine ⟨fun _ => ⟨fun f6 w12 hf4 xt9 hp4 => ?_, fun _ _ _ _ h => h⟩, ?_⟩
          ·
            have H14 := H9.ext xt9
            obtain ⟨g4, s14, hv4, hA4⟩ : ∃ (g4 : Nat), f6 30 = .pointer (some ⟨g4, (i : Int).toNat * 1, none⟩) ∧ (.slice a0 mn.toNat c0 : Value).ownBlock = some g4 ∧ AtW (MS M ([box bb2 #[.int .i64 mn, .slice a0 mn.toNat c0] 35, own w.heap.size 60 (.slice a0 mn.toNat c0) ss0, box bb1 #[.int .i64 0, .slice none 0 0] 35, box bb0 #[.int .i64 mn, .slice a_mr mr.length c_mr] 35, imm (.slice a_mr mr.length c_mr) mr] ++ rowItems w.heap.size 74 ss0 ys)) w12 ⟨g4, (i : Int).toNat * 1, none⟩ (⟨a1, x0.length, c1⟩ : SV) := hp4 3 rfl rfl
            refine ldV hA4 ty60 rfl s14 ?_
            exact ⟨_, rfl, Ext.refl _, rfl⟩
          refine ⟨fun _ => ⟨fun f7 w13 hf5 xt10 hp5 => ?_, fun _ _ _ _ h => h⟩, ?_⟩
          ·
            have H15 := H9.ext xt10
            refine fa fl35_1 rfl ((hf5 3 rfl).trans s5) ?_
            exact ⟨_, rfl, Ext.refl _, rfl⟩
          refine ⟨fun _ => ⟨fun f8 w14 hf6 xt11 hp6 => ?_, fun _ _ _ _ h => h⟩, ?_⟩
          ·
            have H16 := H9.ext xt11
            have s15 : f8 32 = .pointer (some ⟨bb2, 1, none⟩) := hp6 5 rfl rfl
            refine ldX H16 0 rfl ty33 rfl s15 (by decide) rfl ?_
            exact ⟨_, rfl, Ext.refl _, rfl⟩
          refine ⟨fun _ => ⟨fun f9 w15 hf7 xt12 hp7 => ?_, fun _ _ _ _ h => h⟩, ?_⟩
          ·
            have H17 := H9.ext xt12
            refine mv rfl ((hf7 4 rfl).trans s6) ?_
            exact ⟨_, rfl, Ext.refl _, rfl⟩
          refine ⟨fun _ => ⟨fun f10 w16 hf8 xt13 hp8 => ?_, by rintro _ _ _ x_ ⟨g2, e_, hv2, hA2⟩; exact ⟨g2, e_, hv2, hA2.ext x_⟩⟩, ?_⟩
          ·
            have H18 := H9.ext xt13
            have s16 : f10 33 = .slice a0 mn.toNat c0 := hp8 6 rfl rfl
            have s17 : f10 34 = .int .i64 (q : Int) := hp8 7 rfl rfl
            refine iaO (H18.at_ 1 rfl) rfl rfl s16 s17 (by first | omega | (simp; omega)) un33 ty60 ?_
            intro g5 x6 hv5 hx4 hA5
            obtain rfl : (⟨a2, x3.length, c2⟩ : SV) = x6 := Option.some.inj (hs1.symm.trans hx4)
            exact ⟨_, rfl, Ext.refl _, ⟨g5, rfl, hv5, hA5⟩⟩
          refine ⟨fun _ => ⟨fun f11 w17 hf9 xt14 hp9 => ?_, fun _ _ _ _ h => h⟩, ?_⟩
          ·
            have H19 := H9.ext xt14
            obtain ⟨g6, s18, hv6, hA6⟩ : ∃ (g6 : Nat), f11 35 = .pointer (some ⟨g6, (q : Int).toNat * 1, none⟩) ∧ (.slice a0 mn.toNat c0 : Value).ownBlock = some g6 ∧ AtW (MS M ([box bb2 #[.int .i64 mn, .slice a0 mn.toNat c0] 35, own w.heap.size 60 (.slice a0 mn.toNat c0) ss0, box bb1 #[.int .i64 0, .slice none 0 0] 35, box bb0 #[.int .i64 mn, .slice a_mr mr.length c_mr] 35, imm (.slice a_mr mr.length c_mr) mr] ++ rowItems w.heap.size 74 ss0 ys)) w17 ⟨g6, (q : Int).toNat * 1, none⟩ (⟨a2, x3.length, c2⟩ : SV) := hp9 8 rfl rfl
            refine ldV hA6 ty60 rfl s18 ?_
            exact ⟨_, rfl, Ext.refl _, rfl⟩
          exact DSteps.rest rfl _
        · intro f12 w18 hf10 xt15 hp10
          have H20 := H9.ext xt15
          have s19 : f12 2 = .pointer (some ⟨bb1, 0, none⟩) := (hf10 2 rfl).trans s4
          have s20 : f12 3 = .pointer (some ⟨bb2, 0, none⟩) := (hf10 3 rfl).trans s5
          have s21 : f12 4 = .int .i64 (q : Int) := (hf10 4 rfl).trans s6
          have s22 : f12 10 = .int .i64 (mn.toNat : Int) := (hf10 10 rfl).trans s7
          have s23 : f12 11 = .int .i64 (q : Int) := (hf10 11 rfl).trans s8
          have s24 : f12 16 = .int .i64 (mn.toNat : Int) := (hf10 16 rfl).trans s9
          have s25 : f12 17 = .int .i64 (i : Int) := (hf10 17 rfl).trans s10
          have s26 : f12 31 = .slice a1 x0.length c1 := hp10 4 rfl
          have s27 : f12 36 = .slice a2 x3.length c2 := hp10 9 rfl
          refine k ?_
          have cc2 := hull_join H20 (row_at (l := [box bb2 #[.int .i64 mn, .slice a0 mn.toNat c0] 35, own w.heap.size 60 (.slice a0 mn.toNat c0) ss0, box bb1 #[.int .i64 0, .slice none 0 0] 35, box bb0 #[.int .i64 mn, .slice a_mr mr.length c_mr] 35, imm (.slice a_mr mr.length c_mr) mr]) hs0 hr0) (row_at (l := [box bb2 #[.int .i64 mn, .slice a0 mn.toNat c0] 35, own w.heap.size 60 (.slice a0 mn.toNat c0) ss0, box bb1 #[.int .i64 0, .slice none 0 0] 35, box bb0 #[.int .i64 mn, .slice a_mr mr.length c_mr] 35, imm (.slice a_mr mr.length c_mr) mr]) hs1 hr1) (by have e1_ := hr0; rw [hs2] at e1_; have e2_ := hr1; rw [hs2] at e2_; rw [wR_len e1_, wR_len e2_]; exact Nat.le_refl _) (by have e2_ := hr1; rw [hs2] at e2_; rw [wR_len e2_]; have h_ := words_le (n := ((mn.toNat : Nat) : Int)) (by omega); omega) (join_ne hs0 hs1 hr0 hr1)
          refine ca go56 rfl (ec s26 (ec s27 e0)) cc2 ?_
          rintro _ w19 ⟨rfl, H22⟩
          have H21 := HI.rowPut (M := fun _ => False) (it := imm (.int .i64 0) (0 : Int)) H22 hs0
          have H23 : HI M w w19 ([box bb2 #[.int .i64 mn, .slice a0 mn.toNat c0] 35, own w.heap.size 60 (.slice a0 mn.toNat c0) ss0, box bb1 #[.int .i64 0, .slice none 0 0] 35, box bb0 #[.int .i64 mn, .slice a_mr mr.length c_mr] 35, imm (.slice a_mr mr.length c_mr) mr] ++ rowItems w.heap.size 74 ss0 (ys.set ((i : Int).toNat) (orR x0 x3))) := H21
          refine z (inb_normal (nx (rg (k (add rfl rfl s25 rfl (by unfold I64 at *; omega) (k (mv (v := .int .i64 ((i : Int) + 1)) rfl rfl (z ?_))))))))
          refine loopN _ ?_ ⟨(i + 1), (ys.set ((i : Int).toNat) (orR x0 x3)), rfl, s19, s20, s21, s22, s23, s24, (ieq rfl (by first | rfl | omega | (push_cast; omega))), H23, (by first | assumption | omega | simp | (simp; omega)), (by first | exact hl2 | (rw [List.length_set]; exact hl2)), (by first | exact wR_yes hs2 hr0 hr1 (by omega) b2 | exact wR_no hs2 hr0 (by omega) b2), (by first | exact hyl | (rw [List.length_set]; exact hyl))⟩
          omega
      ·
        refine sk (inb_normal (nx (rg (k (add rfl rfl s10 rfl (by unfold I64 at *; omega) (k (mv (v := .int .i64 ((i : Int) + 1)) rfl rfl (z ?_))))))))
        refine loopN _ ?_ ⟨(i + 1), ys, rfl, s4, s5, s6, s7, s8, s9, (ieq rfl (by first | rfl | omega | (push_cast; omega))), H9, (by first | assumption | omega | simp | (simp; omega)), (by first | exact hl2 | (rw [List.length_set]; exact hl2)), (by first | exact wR_yes hs2 hr0 hr1 (by omega) b2 | exact wR_no hs2 hr0 (by omega) b2), (by first | exact hyl | (rw [List.length_set]; exact hyl))⟩
        omega
    ·
      have p1 := of_decide_eq_false b1
      refine ex (then_exit (loop_exit (inb_here (inb_normal (nx (rg (k (add rfl rfl s8 rfl (by unfold I64 at *; omega) (k (mv (v := .int .i64 ((q : Int) + 1)) rfl rfl (z ?_)))))))))))
      refine loopN _ ?_ ⟨(q + 1), ys, rfl, s4, s5, s7, (ieq rfl (by first | rfl | omega | (push_cast; omega))), H8, (by first | assumption | omega | simp | (simp; omega)), (by exact hl2), (by rw [hs2]; exact wR_end _ (by omega)), (by exact hyl)⟩
      omega
  ·
    have p0 := of_decide_eq_false b0
    refine ex (then_exit (loop_exit (inb_here (nx (sq ?_)))))
    have H8 : HI M w w5 [own w.heap.size 60 (.slice a0 mn.toNat c0) xs, box bb2 #[.int .i64 mn, .slice a0 mn.toNat c0] 35, box bb1 #[.int .i64 0, .slice none 0 0] 35, box bb0 #[.int .i64 mn, .slice a_mr mr.length c_mr] 35, imm (.slice a_mr mr.length c_mr) mr] := HI.deep (l := [box bb2 #[.int .i64 mn, .slice a0 mn.toNat c0] 35, box bb1 #[.int .i64 0, .slice none 0 0] 35, box bb0 #[.int .i64 mn, .slice a_mr mr.length c_mr] 35, imm (.slice a_mr mr.length c_mr) mr]) (HI.pickT (l := [box bb2 #[.int .i64 mn, .slice a0 mn.toNat c0] 35, own w.heap.size 60 (.slice a0 mn.toNat c0) ss0, box bb1 #[.int .i64 0, .slice none 0 0] 35, box bb0 #[.int .i64 mn, .slice a_mr mr.length c_mr] 35, imm (.slice a_mr mr.length c_mr) mr]) (l' := [own w.heap.size 60 (.slice a0 mn.toNat c0) ss0, box bb2 #[.int .i64 mn, .slice a0 mn.toNat c0] 35, box bb1 #[.int .i64 0, .slice none 0 0] 35, box bb0 #[.int .i64 mn, .slice a_mr mr.length c_mr] 35, imm (.slice a_mr mr.length c_mr) mr]) (t := rowItems w.heap.size 74 ss0 xs) H7 [1, 0, 2, 3, 4] (by decide) rfl rfl) (by first | assumption | (simp only [List.length_set]; assumption) | (simp only [List.length_set, List.length_replicate] at *; omega))
    refine rg (k (ldX H8 1 rfl ty35 rfl s1 (by decide) rfl (k (stX H8 2 rfl ty35 rfl rfl s0 rfl rfl rfl rfl ?_))))
    intro w6 (H9 : HI M w w6 [own w.heap.size 60 (.slice a0 mn.toNat c0) xs, box bb2 #[.int .i64 mn, .slice a0 mn.toNat c0] 35, box bb1 #[.int .i64 mn, .slice a0 mn.toNat c0] 35, box bb0 #[.int .i64 mn, .slice a_mr mr.length c_mr] 35, imm (.slice a_mr mr.length c_mr) mr])
    refine z (nx (rt (rc1 H9 2 rfl ty35 rfl rfl s0 rfl (by decide) ?_)))
    have e1 : (xs : List (List (BitVec 64))) = closeM mn mr := by exact close_end hs (by omega) (by omega)
    have l1 : mn.toNat = (closeM mn mr).length := by first | (rw [← e1]; omega) | (rw [closeM_len])
    have ev_ := cg1 (fun (n_1 : Nat) => (.agg #[.int .i64 mn, .slice a0 n_1 c0] : Value)) l1
    exact ⟨a0, c0, ev_, H9.below, (congrArg (fun (n_ : Nat) => OwnsG _ _ _ (closeM mn mr) (.slice a0 n_ c0) _) l1).mp ((congrArg (fun (x_ : List (List (BitVec 64))) => OwnsG _ _ _ x_ (.slice a0 mn.toNat c0) _) e1).mp (H9.ownsG_out 0 rfl))⟩
end Go.Proofs.Ytmhopljngkgidaa
namespace Go.Proofs.Ytmhopljngkgidaa
open Go.Ew Go.RowKit
set_option linter.unusedVariables false
set_option linter.unusedSimpArgs false
attribute [local irreducible] WL WC SO Code.wp wpList retQ Ret
attribute [local irreducible] bitB hasW inR hasR setR countW countR subR words newR listR orR firstW tab8
theorem un83 : Try.prog.underlying 83 = some (.slice 4) := by kernel_rfl
theorem go42 : GoF Try.prog 42 := ⟨_, _, Try.func42, rfl, by kernel_rfl⟩
/- eyewitness/eyewitnessref04.Reach -/
set_option maxRecDepth 100000 in
set_option maxHeartbeats 1600000 in
theorem ref04_Reach {M : Nat → Prop} {w : World} {mn : Int} {a_mr : Option Addr} {c_mr : Nat} {mr : List (List (BitVec 64))} {i : Int} (hM : ∀ b, M b → b < w.heap.size) (h_mn : I64 mn) (h_mr : RV M w (.slice a_mr mr.length c_mr) mr) (h_i : I64 i) (rt_m : rightS mn mr = true) (hi0 : 0 ≤ i) (hi1 : i < mn) : Calls Try.prog 42 #[.agg #[.int .i64 mn, .slice a_mr mr.length c_mr], .int .i64 i] w (Ret fun v w' => ∃ (a0 : Option Addr) (c0 : Nat), v = .slice a0 (lst mn.toNat (cl mn.toNat (relM mr) i.toNat)).length c0 ∧ Ext w w' ∧ OwnsG M 3 w (lst mn.toNat (cl mn.toNat (relM mr) i.toNat)) (.slice a0 (lst mn.toNat (cl mn.toNat (relM mr) i.toNat)).length c0) w') := by
  refine enter 63 Try.func42 rfl rfl rfl fun f0 ha => ?_
  have H := HI.start (M0 := M) (w := w) hM
  have H0 := H.put (it := imm (.slice a_mr mr.length c_mr) mr) rfl (by rw [MS_nil]; exact h_mr)
  have ln_mr := rv_len h_mr
  have i0 : f0 0 = .agg #[.int .i64 mn, .slice a_mr mr.length c_mr] := ha 0 (by simp)
  have i1 : f0 1 = .int .i64 i := ha 1 (by simp)
  have hl_ := (right_sq rt_m).1; have h4_ := (right_sq rt_m).2.2.1; have h0_ := right_pos rt_m
  refine sq (rg (k (bx H0 rfl i0 ?_)))
  intro bb0 w0 xt0 (H1 : HI M w w0 [box bb0 #[.int .i64 mn, .slice a_mr mr.length c_mr] 35, imm (.slice a_mr mr.length c_mr) mr])
  refine k (asg (v := .slice none 0 0) rfl rfl (z (nx (sq (rg (k (asg (v := .slice none 0 0) rfl rfl (z (nx (sq (rg (k (fa fl35_0 rfl rfl (k (ldX H1 0 rfl ty3 rfl rfl (by decide) rfl (k ?_))))))))))))))))
  have n0 : ((mn.toNat : Nat) : Int) = mn := Int.toNat_of_nonneg (by omega)
  refine mk (m := mn.toNat) (zx := (false : Bool)) H1 rfl rfl (by rw [n0]; exact rfl) (by rw [n0]; exact rfl) un83 ty4 (fun _ _ => rfl) (by omega) (by omega) ?_
  intro g0 w1 xt1 (H2 : HI M w w1 [own w.heap.size 4 (.slice (some ⟨g0, 0, none⟩) mn.toNat mn.toNat) (List.replicate mn.toNat (false : Bool)), box bb0 #[.int .i64 mn, .slice a_mr mr.length c_mr] 35, imm (.slice a_mr mr.length c_mr) mr])
  refine k (asg (v := .slice (some ⟨g0, 0, none⟩) mn.toNat mn.toNat) rfl rfl (z (nx (sq (rg (k (mv rfl i1 (k (bs (xs := ([i] : List Int)) (cells := #[.int .i64 i]) (e := 3) H2 rfl (pbc rfl pb0) (fun _ => by kernel_rfl) ⟨[.int .i64 i], [], rfl, ⟨rfl, (show I64 (i) from (by unfold I64 at *; omega))⟩, rfl⟩ rfl (by unfold maxLen; omega) ?_)))))))))
  intro g1 w2 xt2 (H3 : HI M w w2 [own w.heap.size 3 (.slice (some ⟨g1, 0, none⟩) 1 1) ([i] : List Int), own w.heap.size 4 (.slice (some ⟨g0, 0, none⟩) mn.toNat mn.toNat) (List.replicate mn.toNat (false : Bool)), box bb0 #[.int .i64 mn, .slice a_mr mr.length c_mr] 35, imm (.slice a_mr mr.length c_mr) mr])
  refine k (asg (v := .slice (some ⟨g1, 0, none⟩) 1 1) rfl rfl (z (nx (sq (bk ?_)))))
  have H4 : HI M w w2 [ownQ w.heap.size 3 (.slice (some ⟨g1, 0, none⟩) 1 1) ([i] : List Int), own w.heap.size 4 (.slice (some ⟨g0, 0, none⟩) mn.toNat mn.toNat) (List.replicate mn.toNat (false : Bool)), box bb0 #[.int .i64 mn, .slice a_mr mr.length c_mr] 35, imm (.slice a_mr mr.length c_mr) mr] := H3.toQ 0 rfl
  refine lp (fun m f w' => ∃ (sn : List Bool) (td : List Int) (a0 : Option Addr) (c0 : Nat), m = 2 * sn.count false + td.length ∧ f 2 = .pointer (some ⟨bb0, 0, none⟩) ∧ f 5 = .slice none 0 0 ∧ f 6 = .slice (some ⟨g0, 0, none⟩) mn.toNat mn.toNat ∧ f 7 = .slice a0 td.length c0 ∧  HI M w w' [ownQ w.heap.size 3 (.slice a0 td.length c0) td, own w.heap.size 4 (.slice (some ⟨g0, 0, none⟩) mn.toNat mn.toNat) sn, box bb0 #[.int .i64 mn, .slice a_mr mr.length c_mr] 35, imm (.slice a_mr mr.length c_mr) mr] ∧ (Rch mn.toNat (relM mr) i.toNat sn td (-1) 0) ∧ (2 * sn.count false + td.length ≤ 2 * mn.toNat + 1)) _ ⟨(List.replicate mn.toNat (false : Bool)), [i], (some ⟨g1, 0, none⟩), 1, rfl, rfl, rfl, rfl, rfl, H4, (by have h_ := rch_start (n := mn.toNat) (p := relM mr) (i := i.toNat) (by omega); rwa [Int.toNat_of_nonneg hi0] at h_), (by simp)⟩ ?_
  rintro _ f0 w3 ⟨sn, td, a0, c0, rfl, s0, s1, s2, s3, H5, hs, hz_⟩
  refine sq (sq (rg (k (mv rfl s3 (k (lnS rfl rfl un27 (k (gtr rfl rfl rfl rfl (z (nx ?_))))))))))
  refine cd (b := decide (0 < (td.length : Int))) rfl rfl (fun b0 => ?_) (fun b0 => ?_)
  ·
    have p0 := of_decide_eq_true b0
    refine sk (nx (bk (sq ?_)))
    have hn_ : ((mn.toNat : Nat) : Int) = mn := Int.toNat_of_nonneg h0_
    refine rg (k (mv rfl s3 (k (iaQ (H5.at_ 0 rfl) rfl rfl rfl rfl (by first | omega | (simp; omega)) un27 ty3 ?_))))
    intro ad0 x0 hx0 hA0
    refine k (ldI hA0 ty3 rfl rfl ?_)
    intro rv0
    refine k (asg (v := .int .i64 x0) rfl rfl (z (nx (sq ?_))))
    obtain ⟨at_, hat_, ha1_, ha2_⟩ := rch_at hs hx0
    refine rg (k (mv rfl s3 (k (slQ H5 0 rfl rfl rfl rfl rfl (by first | omega | (simp; omega)) un27 ty3 ?_))))
    intro a1 c1 (H6 : HI M w w3 [ownQ w.heap.size 3 (.slice a1 (td.drop 1).length c1) (td.drop 1), own w.heap.size 4 (.slice (some ⟨g0, 0, none⟩) mn.toNat mn.toNat) sn, box bb0 #[.int .i64 mn, .slice a_mr mr.length c_mr] 35, imm (.slice a_mr mr.length c_mr) mr])
    refine k (asg (v := .slice a1 (td.drop 1).length c1) rfl rfl (z (nx (sq (rg (k (asg (v := .int .i64 0) rfl rfl (z (nx (bk ?_))))))))))
    refine lp (fun m f w' => ∃ (j : Nat) (sn2 : List Bool) (td2 : List Int) (a2 : Option Addr) (c2 : Nat), m = mn.toNat - j ∧ f 2 = .pointer (some ⟨bb0, 0, none⟩) ∧ f 5 = .slice none 0 0 ∧ f 6 = .slice (some ⟨g0, 0, none⟩) mn.toNat mn.toNat ∧ f 7 = .slice a2 td2.length c2 ∧ f 8 = .int .i64 x0 ∧ f 9 = .int .i64 (j : Int) ∧  HI M w w' [ownQ w.heap.size 3 (.slice a2 td2.length c2) td2, own w.heap.size 4 (.slice (some ⟨g0, 0, none⟩) mn.toNat mn.toNat) sn2, box bb0 #[.int .i64 mn, .slice a_mr mr.length c_mr] 35, imm (.slice a_mr mr.length c_mr) mr] ∧ (j ≤ mn.toNat) ∧ (Rch mn.toNat (relM mr) i.toNat sn2 td2 x0 j) ∧ (2 * sn2.count false + td2.length ≤ 2 * sn.count false + (td.drop 1).length)) _ ⟨0, sn, (td.drop 1), a1, c1, rfl, s0, s1, s2, rfl, rfl, (ieq rfl (by first | rfl | omega | simp)), H6, (by first | assumption | omega | simp | (simp; omega)), (by exact rch_pop hs hx0), (by first | assumption | omega | simp | (simp; omega))⟩ ?_
    rintro _ f1 w4 ⟨j, sn2, td2, a2, c2, rfl, s4, s5, s6, s7, s8, s9, H7, hj_, hs2, hz2_⟩
    refine sq (sq (rg (k (mv rfl s9 (k (fa fl35_0 rfl s4 (k (ldX H7 2 rfl ty3 rfl rfl (by decide) rfl (k (lss rfl rfl rfl rfl (z (nx ?_))))))))))))
    refine cd (b := decide ((j : Int) < mn)) rfl rfl (fun b1 => ?_) (fun b1 => ?_)
    ·
      have p1 := of_decide_eq_true b1
      refine sk (nx (sq (bk (sq (rg (k (ldX H7 2 rfl ty35 rfl s4 (by decide) rfl (k (mv rfl s8 (k (mv rfl s9 (k ?_))))))))))))
      have cc0 := ref03_Has (mn := mn) (mr := mr) (i := x0) (j := (j : Int)) (w := w4) H7.mb (by unfold I64 at *; omega) (H7.rv 3 rfl) (by unfold I64 at *; omega) (by unfold I64 at *; omega) (by exact (right_sq rt_m).1) (by exact (right_sq rt_m).2.1) (by exact (right_sq rt_m).2.2.1)
      refine ca go20 rfl (ec rfl (ec rfl (ec rfl e0))) cc0 ?_
      rintro _ w5 ⟨rfl, xt3⟩
      have H8 := H7.ext xt3
      refine k (mv (v := .bool (hasM mn mr x0 (j : Int))) rfl rfl ?_)
      rcases Bool.eq_false_or_eq_true (hasM mn mr x0 (j : Int)) with b2 | b2
      · -- hasM mn mr x0 (j : Int) is True
        refine k (gy rfl rfl rfl b2 (mv rfl s6 (k (gy rfl rfl rfl b2 (mv rfl s9 (k (gy rfl rfl rfl b2 (iaO (H8.at_ 1 rfl) rfl rfl rfl rfl (by first | (have h_ := hs2.len; omega) | (have h_ := hs.len; omega)) un83 ty4 ?_))))))))
        intro g2 x1 hv0 hx1 hA1
        refine k (gy rfl rfl rfl b2 (ldB hA1 ty4 rfl rfl (k (gy rfl rfl rfl b2 (not_ rfl rfl (k (pickT rfl rfl rfl rfl b2 rfl (z (nx ?_)))))))))
        refine cd (b := !x1) rfl rfl (fun b3 => ?_) (fun b3 => ?_)
        ·
          refine sq (rg (k (mv rfl s6 (k (mv rfl s9 (k (iaO (H8.at_ 1 rfl) rfl rfl rfl rfl (by first | (have h_ := hs2.len; omega) | (have h_ := hs.len; omega)) un83 ty4 ?_)))))))
          intro g3 x2 hv1 hx2 hA2
          refine k (stO H8 1 rfl hv1 rfl (by first | (have h_ := hs2.len; omega) | (have h_ := hs.len; omega)) ty4 rfl rfl rfl rfl (RV.bool.2 rfl) ?_)
          intro w6 (H9 : HI M w w6 [ownQ w.heap.size 3 (.slice a2 td2.length c2) td2, own w.heap.size 4 (.slice (some ⟨g0, 0, none⟩) mn.toNat mn.toNat) (sn2.set ((j : Int).toNat) true), box bb0 #[.int .i64 mn, .slice a_mr mr.length c_mr] 35, imm (.slice a_mr mr.length c_mr) mr])
          refine z (nx (rg (k (mv rfl s7 (k (mv rfl s9 (k (bs (xs := ([(j : Int)] : List Int)) (cells := #[.int .i64 (j : Int)]) (e := 3) H9 rfl (pbc rfl pb0) (fun _ => by kernel_rfl) ⟨[.int .i64 (j : Int)], [], rfl, ⟨rfl, (show I64 ((j : Int)) from (by unfold I64 at *; omega))⟩, rfl⟩ rfl (by unfold maxLen; omega) ?_))))))))
          intro g4 w7 xt4 (H10 : HI M w w7 [own w.heap.size 3 (.slice (some ⟨g4, 0, none⟩) 1 1) ([(j : Int)] : List Int), ownQ w.heap.size 3 (.slice a2 td2.length c2) td2, own w.heap.size 4 (.slice (some ⟨g0, 0, none⟩) mn.toNat mn.toNat) (sn2.set ((j : Int).toNat) true), box bb0 #[.int .i64 mn, .slice a_mr mr.length c_mr] 35, imm (.slice a_mr mr.length c_mr) mr])
          refine k (apQ H10 1 rfl rfl rfl rfl rfl rfl (own_src (H10.at_ 0 rfl)) (by simp) un27 ty3 rfl (by first | (simp only [List.length_cons, List.length_nil]; have h_ := lst_len j3 (fun k => sn.getD k false); rw [hs4]; omega) | (simp only [List.length_cons, List.length_nil]; have h_ := List.length_drop (l := td) (i := 1); omega)) (by first | (simp only [List.length_cons, List.length_nil]; have h_ := lst_len j3 (fun k => sn.getD k false); rw [hs4]; omega) | (simp only [List.length_cons, List.length_nil]; have h_ := List.length_drop (l := td) (i := 1); omega)) ?_)
          intro a3 c3 w8 (H11 : HI M w w8 [own w.heap.size 3 (.slice (some ⟨g4, 0, none⟩) 1 1) ([(j : Int)] : List Int), ownQ w.heap.size 3 (.slice a3 (td2 ++ ([(j : Int)] : List Int)).length c3) (td2 ++ ([(j : Int)] : List Int)), own w.heap.size 4 (.slice (some ⟨g0, 0, none⟩) mn.toNat mn.toNat) (sn2.set ((j : Int).toNat) true), box bb0 #[.int .i64 mn, .slice a_mr mr.length c_mr] 35, imm (.slice a_mr mr.length c_mr) mr])
          refine k (asg (v := .slice a3 (td2 ++ ([(j : Int)] : List Int)).length c3) rfl rfl (z (inb_normal (nx (rg (k (mv rfl s9 (k (add rfl rfl rfl rfl (by unfold I64 at *; omega) (k (asg (v := .int .i64 ((j : Int) + 1)) rfl rfl (z ?_))))))))))))
          have H12 : HI M w w8 [ownQ w.heap.size 3 (.slice a3 (td2 ++ ([(j : Int)] : List Int)).length c3) (td2 ++ ([(j : Int)] : List Int)), own w.heap.size 4 (.slice (some ⟨g0, 0, none⟩) mn.toNat mn.toNat) (sn2.set ((j : Int).toNat) true), box bb0 #[.int .i64 mn, .slice a_mr mr.length c_mr] 35, imm (.slice a_mr mr.length c_mr) mr] := H11.pickN [1, 2, 3, 4] (by decide) rfl
          refine loopN _ ?_ ⟨(j + 1), (sn2.set ((j : Int).toNat) true), (td2 ++ ([(j : Int)] : List Int)), a3, c3, rfl, s4, s5, s6, rfl, s8, (ieq rfl (by first | rfl | omega | (push_cast; omega))), H12, (by first | assumption | omega | simp | (simp; omega)), (by first | exact rchI_yes rt_m hat_ hs2 ha1_ (by omega) ha2_ (by assumption) | exact rchI_no rt_m hat_ hs2 ha1_ (by omega) (by assumption) | exact rchI_had rt_m hat_ hs2 ha1_ (by omega) hx1 (by simpa using b3)), (by first | exact hz2_ | exact count_setI hx1 (by simpa using b3) hz2_)⟩
          omega
        ·
          refine sk (inb_normal (nx (rg (k (mv rfl s9 (k (add rfl rfl rfl rfl (by unfold I64 at *; omega) (k (asg (v := .int .i64 ((j : Int) + 1)) rfl rfl (z ?_))))))))))
          refine loopN _ ?_ ⟨(j + 1), sn2, td2, a2, c2, rfl, s4, s5, s6, s7, s8, (ieq rfl (by first | rfl | omega | (push_cast; omega))), H8, (by first | assumption | omega | simp | (simp; omega)), (by first | exact rchI_yes rt_m hat_ hs2 ha1_ (by omega) ha2_ (by assumption) | exact rchI_no rt_m hat_ hs2 ha1_ (by omega) (by assumption) | exact rchI_had rt_m hat_ hs2 ha1_ (by omega) hx1 (by simpa using b3)), (by first | exact hz2_ | exact count_setI hx1 (by simpa using b3) hz2_)⟩
          omega
      · -- hasM mn mr x0 (j : Int) is False
        refine k (gn rfl rfl rfl b2 (k (gn rfl rfl rfl b2 (k (gn rfl rfl rfl b2 (k (gn rfl rfl rfl b2 (k (gn rfl rfl rfl b2 (k (pickF rfl rfl rfl rfl b2 rfl (z (nx (cdF rfl rfl rfl (sk (inb_normal (nx (rg (k (mv rfl s9 (k (add rfl rfl rfl rfl (by unfold I64 at *; omega) (k (asg (v := .int .i64 ((j : Int) + 1)) rfl rfl (z ?_)))))))))))))))))))))))))
        refine loopN _ ?_ ⟨(j + 1), sn2, td2, a2, c2, rfl, s4, s5, s6, s7, s8, (ieq rfl (by first | rfl | omega | (push_cast; omega))), H8, (by first | assumption | omega | simp | (simp; omega)), (by first | exact rchI_yes rt_m hat_ hs2 ha1_ (by omega) ha2_ (by assumption) | exact rchI_no rt_m hat_ hs2 ha1_ (by omega) (by assumption) | exact rchI_had rt_m hat_ hs2 ha1_ (by omega) hx1 (by simpa using b3)), (by first | exact hz2_ | exact count_setI hx1 (by simpa using b3) hz2_)⟩
        omega
    ·
      have p1 := of_decide_eq_false b1
      refine ex (then_exit (loop_exit (inb_here (inb_normal ?_))))
      refine loopN _ ?_ ⟨sn2, td2, a2, c2, rfl, s4, s5, s6, s7, H7, (by exact rch_next hs2 (by omega)), (by have h_ := List.length_drop (l := td) (i := 1); omega)⟩
      have h_ := List.length_drop (l := td) (i := 1); omega
  ·
    have p0 := of_decide_eq_false b0
    refine ex (then_exit (loop_exit (inb_here (nx (sq (sq (rg (k (asg (v := .int .i64 0) rfl rfl (z (nx (bk ?_))))))))))))
    have H6 := H5.nil_ Int 3
    refine lp (fun m f w' => ∃ (j3 : Nat) (out : List Int) (a1 : Option Addr) (c1 : Nat), m = mn.toNat - j3 ∧ f 2 = .pointer (some ⟨bb0, 0, none⟩) ∧ f 5 = .slice a1 out.length c1 ∧ f 6 = .slice (some ⟨g0, 0, none⟩) mn.toNat mn.toNat ∧ f 10 = .int .i64 (j3 : Int) ∧  HI M w w' [own w.heap.size 3 (.slice a1 out.length c1) out, ownQ w.heap.size 3 (.slice a0 td.length c0) td, own w.heap.size 4 (.slice (some ⟨g0, 0, none⟩) mn.toNat mn.toNat) sn, box bb0 #[.int .i64 mn, .slice a_mr mr.length c_mr] 35, imm (.slice a_mr mr.length c_mr) mr] ∧ (j3 ≤ mn.toNat) ∧ (out = lst j3 (fun k => sn.getD k false))) _ ⟨0, ([] : List Int), none, 0, rfl, s0, s1, s2, (ieq rfl (by first | rfl | omega | simp)), H6, (by first | assumption | omega | simp | (simp; omega)), (by rfl)⟩ ?_
    rintro _ f1 w4 ⟨j3, out, a1, c1, rfl, s4, s5, s6, s7, H7, hj3_, hs4⟩
    refine sq (sq (rg (k (mv rfl s7 (k (fa fl35_0 rfl s4 (k (ldX H7 3 rfl ty3 rfl rfl (by decide) rfl (k (lss rfl rfl rfl rfl (z (nx ?_))))))))))))
    refine cd (b := decide ((j3 : Int) < mn)) rfl rfl (fun b1 => ?_) (fun b1 => ?_)
    ·
      have p1 := of_decide_eq_true b1
      refine sk (nx (sq (bk (sq (rg (k (mv rfl s6 (k (mv rfl s7 (k (iaO (H7.at_ 2 rfl) rfl rfl rfl rfl (by first | (have h_ := hs2.len; omega) | (have h_ := hs.len; omega)) un83 ty4 ?_)))))))))))
      intro g2 x0 hv0 hx0 hA0
      refine k (ldB hA0 ty4 rfl rfl (z (nx ?_)))
      refine cd (b := x0) rfl rfl (fun b2 => ?_) (fun b2 => ?_)
      ·
        refine rg (k (mv rfl s5 (k (mv rfl s7 (k (bs (xs := ([(j3 : Int)] : List Int)) (cells := #[.int .i64 (j3 : Int)]) (e := 3) H7 rfl (pbc rfl pb0) (fun _ => by kernel_rfl) ⟨[.int .i64 (j3 : Int)], [], rfl, ⟨rfl, (show I64 ((j3 : Int)) from (by unfold I64 at *; omega))⟩, rfl⟩ rfl (by unfold maxLen; omega) ?_))))))
        intro g3 w5 xt3 (H8 : HI M w w5 [own w.heap.size 3 (.slice (some ⟨g3, 0, none⟩) 1 1) ([(j3 : Int)] : List Int), own w.heap.size 3 (.slice a1 out.length c1) out, ownQ w.heap.size 3 (.slice a0 td.length c0) td, own w.heap.size 4 (.slice (some ⟨g0, 0, none⟩) mn.toNat mn.toNat) sn, box bb0 #[.int .i64 mn, .slice a_mr mr.length c_mr] 35, imm (.slice a_mr mr.length c_mr) mr])
        refine k (ap H8 1 rfl rfl rfl rfl rfl rfl (own_src (H8.at_ 0 rfl)) un27 ty3 rfl (by first | (simp only [List.length_cons, List.length_nil]; have h_ := lst_len j3 (fun k => sn.getD k false); rw [hs4]; omega) | (simp only [List.length_cons, List.length_nil]; have h_ := List.length_drop (l := td) (i := 1); omega)) (by first | (simp only [List.length_cons, List.length_nil]; have h_ := lst_len j3 (fun k => sn.getD k false); rw [hs4]; omega) | (simp only [List.length_cons, List.length_nil]; have h_ := List.length_drop (l := td) (i := 1); omega)) ?_)
        intro a2 c2 w6 (H9 : HI M w w6 [own w.heap.size 3 (.slice (some ⟨g3, 0, none⟩) 1 1) ([(j3 : Int)] : List Int), own w.heap.size 3 (.slice a2 (out ++ ([(j3 : Int)] : List Int)).length c2) (out ++ ([(j3 : Int)] : List Int)), ownQ w.heap.size 3 (.slice a0 td.length c0) td, own w.heap.size 4 (.slice (some ⟨g0, 0, none⟩) mn.toNat mn.toNat) sn, box bb0 #[.int .i64 mn, .slice a_mr mr.length c_mr] 35, imm (.slice a_mr mr.length c_mr) mr])
        refine k (asg (v := .slice a2 (out ++ ([(j3 : Int)] : List Int)).length c2) rfl rfl (z (inb_normal (nx (rg (k (mv rfl s7 (k (add rfl rfl rfl rfl (by unfold I64 at *; omega) (k (asg (v := .int .i64 ((j3 : Int) + 1)) rfl rfl (z ?_))))))))))))
        have H10 : HI M w w6 [own w.heap.size 3 (.slice a2 (out ++ ([(j3 : Int)] : List Int)).length c2) (out ++ ([(j3 : Int)] : List Int)), ownQ w.heap.size 3 (.slice a0 td.length c0) td, own w.heap.size 4 (.slice (some ⟨g0, 0, none⟩) mn.toNat mn.toNat) sn, box bb0 #[.int .i64 mn, .slice a_mr mr.length c_mr] 35, imm (.slice a_mr mr.length c_mr) mr] := H9.pickN [1, 2, 3, 4, 5] (by decide) rfl
        refine loopN _ ?_ ⟨(j3 + 1), (out ++ ([(j3 : Int)] : List Int)), a2, c2, rfl, s4, rfl, s6, (ieq rfl (by first | rfl | omega | (push_cast; omega))), H10, (by first | assumption | omega | simp | (simp; omega)), (by rw [hs4, lst_succ]; first | rw [if_pos (by rw [getD_of' hx0]; assumption)] | rw [if_neg (by rw [getD_of' hx0]; first | simpa using b2 | simpa using b3), List.append_nil])⟩
        omega
      ·
        refine sk (inb_normal (nx (rg (k (mv rfl s7 (k (add rfl rfl rfl rfl (by unfold I64 at *; omega) (k (asg (v := .int .i64 ((j3 : Int) + 1)) rfl rfl (z ?_))))))))))
        refine loopN _ ?_ ⟨(j3 + 1), out, a1, c1, rfl, s4, s5, s6, (ieq rfl (by first | rfl | omega | (push_cast; omega))), H7, (by first | assumption | omega | simp | (simp; omega)), (by rw [hs4, lst_succ]; first | rw [if_pos (by rw [getD_of' hx0]; assumption)] | rw [if_neg (by rw [getD_of' hx0]; first | simpa using b2 | simpa using b3), List.append_nil])⟩
        omega
    ·
      have p1 := of_decide_eq_false b1
      refine ex (then_exit (loop_exit (inb_here (nx (sq (rg (k (mv rfl s5 (k (asg (v := .slice a1 out.length c1) rfl rfl (z (nx (rt (r1 rfl rfl ?_))))))))))))))
      have e0 : (out : List Int) = lst mn.toNat (cl mn.toNat (relM mr) i.toNat) := by rw [hs4, show j3 = mn.toNat from by omega]; exact lst_congr fun k_ hk_ => by have h_ := rch_end (td_none p0 ▸ hs) (by omega) hk_; exact h_
      have ev_ := cg1 (fun (x_0 : List Int) => (.slice a1 x_0.length c1 : Value)) e0
      exact ⟨a1, c1, ev_, H7.below, (congrArg (fun (x_ : List Int) => OwnsG _ _ _ x_ (.slice a1 x_.length c1) _) e0).mp (H7.ownsG_out 0 rfl)⟩
/- eyewitness/eyewitnessref04.Close -/
set_option maxRecDepth 100000 in
set_option maxHeartbeats 1600000 in
theorem ref04_Close {M : Nat → Prop} {w : World} {mn : Int} {a_mr : Option Addr} {c_mr : Nat} {mr : List (List (BitVec 64))} (hM : ∀ b, M b → b < w.heap.size) (h_mn : I64 mn) (h_mr : RV M w (.slice a_mr mr.length c_mr) mr) (rt_m : rightS mn mr = true) : Calls Try.prog 22 #[.agg #[.int .i64 mn, .slice a_mr mr.length c_mr]] w (Ret fun v w' => ∃ (a0 : Option Addr) (c0 : Nat), v = .agg #[.int .i64 mn, .slice a0 (closeM mn mr).length c0] ∧ Ext w w' ∧ RV M w' (.slice a0 (closeM mn mr).length c0) (closeM mn mr)) := by
  refine enter 40 Try.func22 rfl rfl rfl fun f0 ha => ?_
  have H := HI.start (M0 := M) (w := w) hM
  have H0 := H.put (it := imm (.slice a_mr mr.length c_mr) mr) rfl (by rw [MS_nil]; exact h_mr)
  have ln_mr := rv_len h_mr
  have i0 : f0 0 = .agg #[.int .i64 mn, .slice a_mr mr.length c_mr] := ha 0 (by simp)
  have hl_ := (right_sq rt_m).1; have h4_ := (right_sq rt_m).2.2.1; have h0_ := right_pos rt_m
  refine sq (rg (k (bx H0 rfl i0 ?_)))
  intro bb0 w0 xt0 (H1 : HI M w w0 [box bb0 #[.int .i64 mn, .slice a_mr mr.length c_mr] 35, imm (.slice a_mr mr.length c_mr) mr])
  refine k (al H1 ty35 ?_)
  intro bb1 w1 xt1 (H2 : HI M w w1 [box bb1 #[.int .i64 0, .slice none 0 0] 35, box bb0 #[.int .i64 mn, .slice a_mr mr.length c_mr] 35, imm (.slice a_mr mr.length c_mr) mr])
  refine z (nx (sq (rg (k (fa fl35_0 rfl rfl (k (ldX H2 1 rfl ty3 rfl rfl (by decide) rfl (k ?_))))))))
  have cc0 := ref03_New (n := mn) (w := w1) H2.mb (by unfold I64 at *; omega)
  refine ca go31 rfl (ec rfl e0) cc0 ?_
  rintro _ w2 ⟨a0, c0, rfl, xt2, rv0⟩
  have H3 := H2.ownsG rv0
  refine k (mv (v := .tuple #[.agg #[.int .i64 (newMN mn), .slice a0 (newMR mn).length c0], .int .i64 (newME mn)]) rfl rfl (k (xt rfl rfl rfl (k (xt rfl rfl rfl (k (al H3 ty35 ?_)))))))
  intro bb2 w3 xt3 (H4 : HI M w w3 [box bb2 #[.int .i64 0, .slice none 0 0] 35, own w.heap.size 60 (.slice a0 (newMR mn).length c0) (newMR mn), box bb1 #[.int .i64 0, .slice none 0 0] 35, box bb0 #[.int .i64 mn, .slice a_mr mr.length c_mr] 35, imm (.slice a_mr mr.length c_mr) mr])
  refine k (stX H4 0 rfl ty35 rfl rfl rfl rfl rfl rfl rfl ?_)
  intro w4 (H5 : HI M w w4 [box bb2 #[.int .i64 (newMN mn), .slice a0 (newMR mn).length c0] 35, own w.heap.size 60 (.slice a0 (newMR mn).length c0) (newMR mn), box bb1 #[.int .i64 0, .slice none 0 0] 35, box bb0 #[.int .i64 mn, .slice a_mr mr.length c_mr] 35, imm (.slice a_mr mr.length c_mr) mr])
  refine k (asg (v := .int .i64 (newME mn)) rfl rfl (z (nx (sq (sq (rg (k (asg (v := .int .i64 0) rfl rfl (z (nx (bk ?_)))))))))))
  have H6 := H5.freeze 1 rfl
  have H7 := H6.put (it := imm (.slice a0 (newMR mn).length c0) (newMR mn)) rfl (H6.rv 1 rfl)
  refine lp (fun m f w' => ∃ (i : Nat) (n_ : Int) (rs : List (List (BitVec 64))) (a1 : Option Addr) (c1 : Nat), m = mn.toNat - i ∧ f 1 = .pointer (some ⟨bb0, 0, none⟩) ∧ f 2 = .pointer (some ⟨bb1, 0, none⟩) ∧ f 3 = .pointer (some ⟨bb2, 0, none⟩) ∧ f 5 = .int .i64 (i : Int) ∧  HI M w w' [imm (.slice a1 rs.length c1) rs, box bb2 #[.int .i64 n_, .slice a1 rs.length c1] 35, imm (.slice a0 (newMR mn).length c0) (newMR mn), box bb1 #[.int .i64 0, .slice none 0 0] 35, box bb0 #[.int .i64 mn, .slice a_mr mr.length c_mr] 35, imm (.slice a_mr mr.length c_mr) mr] ∧ (i ≤ mn.toNat) ∧ (n_ = mn) ∧ (rs = matP mn.toNat (rcP mn.toNat (cl mn.toNat (relM mr)) i 0))) _ ⟨0, (newMN mn), (newMR mn), a0, c0, rfl, rfl, rfl, rfl, (ieq rfl (by first | rfl | omega | simp)), H7, (by first | assumption | omega | simp | (simp; omega)), (by exact (newM_yes (right_ok rt_m)).1), (by exact rc_start rt_m _)⟩ ?_
  rintro _ f0 w5 ⟨i, n_, rs, a1, c1, rfl, s0, s1, s2, s3, H8, hi_, h1, h2⟩
  refine sq (sq (rg (k (mv rfl s3 (k (fa fl35_0 rfl s0 (k (ldX H8 4 rfl ty3 rfl rfl (by decide) rfl (k (lss rfl rfl rfl rfl (z (nx ?_))))))))))))
  refine cd (b := decide ((i : Int) < mn)) rfl rfl (fun b0 => ?_) (fun b0 => ?_)
  ·
    have p0 := of_decide_eq_true b0
    refine sk (nx (sq (bk (sq (rg (k (ldX H8 4 rfl ty35 rfl s0 (by decide) rfl (k (mv rfl s3 (k ?_))))))))))
    have cc1 := ref04_Reach (mn := mn) (mr := mr) (i := (i : Int)) (w := w5) H8.mb (by unfold I64 at *; omega) (H8.rv 5 rfl) (by unfold I64 at *; omega) (by exact rt_m) (by first | omega | (simp; omega)) (by first | omega | (simp; omega))
    refine ca go42 rfl (ec rfl (ec rfl e0)) cc1 ?_
    rintro _ w6 ⟨a2, c2, rfl, xt4, rv1⟩
    have H9 := H8.ownsG rv1
    refine k (asg (v := .slice a2 (lst mn.toNat (cl mn.toNat (relM mr) (i : Int).toNat)).length c2) rfl rfl (z (nx (sq (rg (k (asg (v := .int .i64 0) rfl rfl (z (nx (bk ?_))))))))))
    have H10 := H9.put (it := imm (.slice a1 rs.length c1) rs) rfl (H9.rv 1 rfl)
    refine lp (fun m f w' => ∃ (q : Nat) (n2_ : Int) (rs2 : List (List (BitVec 64))) (a3 : Option Addr) (c3 : Nat), m = (lst mn.toNat (cl mn.toNat (relM mr) (i : Int).toNat)).length - q ∧ f 1 = .pointer (some ⟨bb0, 0, none⟩) ∧ f 2 = .pointer (some ⟨bb1, 0, none⟩) ∧ f 3 = .pointer (some ⟨bb2, 0, none⟩) ∧ f 5 = .int .i64 (i : Int) ∧ f 6 = .slice a2 (lst mn.toNat (cl mn.toNat (relM mr) (i : Int).toNat)).length c2 ∧ f 7 = .int .i64 (q : Int) ∧  HI M w w' [imm (.slice a3 rs2.length c3) rs2, own w.heap.size 3 (.slice a2 (lst mn.toNat (cl mn.toNat (relM mr) (i : Int).toNat)).length c2) (lst mn.toNat (cl mn.toNat (relM mr) (i : Int).toNat)), imm (.slice a1 rs.length c1) rs, box bb2 #[.int .i64 n2_, .slice a3 rs2.length c3] 35, imm (.slice a0 (newMR mn).length c0) (newMR mn), box bb1 #[.int .i64 0, .slice none 0 0] 35, box bb0 #[.int .i64 mn, .slice a_mr mr.length c_mr] 35, imm (.slice a_mr mr.length c_mr) mr] ∧ (q ≤ (lst mn.toNat (cl mn.toNat (relM mr) (i : Int).toNat)).length) ∧ (n2_ = mn) ∧ (rs2 = matP mn.toNat (rcP mn.toNat (cl mn.toNat (relM mr)) i q))) _ ⟨0, n_, rs, a1, c1, rfl, s0, s1, s2, s3, rfl, (ieq rfl (by first | rfl | omega | simp)), H10, (by first | assumption | omega | simp | (simp; omega)), (by exact h1), (by exact h2)⟩ ?_
    rintro _ f1 w7 ⟨q, n2_, rs2, a3, c3, rfl, s4, s5, s6, s7, s8, s9, H11, hq_, g1, g2⟩
    refine sq (sq (rg (k (mv rfl s9 (k (mv rfl s8 (k (lnS rfl rfl un27 (k (lss rfl rfl rfl rfl (z (nx ?_))))))))))))
    refine cd (b := decide ((q : Int) < ((lst mn.toNat (cl mn.toNat (relM mr) (i : Int).toNat)).length : Int))) rfl rfl (fun b1 => ?_) (fun b1 => ?_)
    ·
      have p1 := of_decide_eq_true b1
      refine sk (nx (sq (bk ?_)))
      obtain ⟨x0, hx0⟩ : ∃ x, (lst mn.toNat (cl mn.toNat (relM mr) (i : Int).toNat))[(q : Int).toNat]? = some x := ⟨_, List.getElem?_eq_getElem (by first | omega | (simp; omega))⟩
      refine dr3 8 [fun (v : Value) (w' : World) => v = .agg #[.int .i64 n2_, .slice a3 rs2.length c3], fun (v : Value) (w' : World) => v = .int .i64 (i : Int), fun (v : Value) (w' : World) => v = .slice a2 (lst mn.toNat (cl mn.toNat (relM mr) (i : Int).toNat)).length c2, fun (v : Value) (w' : World) => v = .int .i64 (q : Int), fun (v : Value) (w' : World) => ∃ (g0 : Nat), v = .pointer (some ⟨g0, (q : Int).toNat * 1, none⟩) ∧ (.slice a2 (lst mn.toNat (cl mn.toNat (relM mr) (i : Int).toNat)).length c2 : Value).ownBlock = some g0 ∧ AtW (MS M [imm (.slice a3 rs2.length c3) rs2, own w.heap.size 3 (.slice a2 (lst mn.toNat (cl mn.toNat (relM mr) (i : Int).toNat)).length c2) (lst mn.toNat (cl mn.toNat (relM mr) (i : Int).toNat)), imm (.slice a1 rs.length c1) rs, box bb2 #[.int .i64 n2_, .slice a3 rs2.length c3] 35, imm (.slice a0 (newMR mn).length c0) (newMR mn), box bb1 #[.int .i64 0, .slice none 0 0] 35, box bb0 #[.int .i64 mn, .slice a_mr mr.length c_mr] 35, imm (.slice a_mr mr.length c_mr) mr]) w' ⟨g0, (q : Int).toNat * 1, none⟩ x0, fun (v : Value) (w' : World) => v = .int .i64 x0 ∧ I64 (x0), fun (v : Value) (w' : World) => ∃ (a4 : Option Addr) (c4 : Nat), v = .tuple #[.agg #[.int .i64 (setMN n2_ (i : Int) x0), .slice a4 (setMR n2_ rs2 (i : Int) x0).length c4], .int .i64 (setME n2_ (i : Int) x0)] ∧ RV (MS M [imm (.slice a3 rs2.length c3) rs2, own w.heap.size 3 (.slice a2 (lst mn.toNat (cl mn.toNat (relM mr) (i : Int).toNat)).length c2) (lst mn.toNat (cl mn.toNat (relM mr) (i : Int).toNat)), imm (.slice a1 rs.length c1) rs, box bb2 #[.int .i64 n2_, .slice a3 rs2.length c3] 35, imm (.slice a0 (newMR mn).length c0) (newMR mn), box bb1 #[.int .i64 0, .slice none 0 0] 35, box bb0 #[.int .i64 mn, .slice a_mr mr.length c_mr] 35, imm (.slice a_mr mr.length c_mr) mr]) w' (.slice a4 (setMR n2_ rs2 (i : Int) x0).length c4) (setMR n2_ rs2 (i : Int) x0), fun (v : Value) (w' : World) => ∃ (a4 : Option Addr) (c4 : Nat), v = .tuple #[.agg #[.int .i64 (setMN n2_ (i : Int) x0), .slice a4 (setMR n2_ rs2 (i : Int) x0).length c4], .int .i64 (setME n2_ (i : Int) x0)] ∧ RV (MS M [imm (.slice a3 rs2.length c3) rs2, own w.heap.size 3 (.slice a2 (lst mn.toNat (cl mn.toNat (relM mr) (i : Int).toNat)).length c2) (lst mn.toNat (cl mn.toNat (relM mr) (i : Int).toNat)), imm (.slice a1 rs.length c1) rs, box bb2 #[.int .i64 n2_, .slice a3 rs2.length c3] 35, imm (.slice a0 (newMR mn).length c0) (newMR mn), box bb1 #[.int .i64 0, .slice none 0 0] 35, box bb0 #[.int .i64 mn, .slice a_mr mr.length c_mr] 35, imm (.slice a_mr mr.length c_mr) mr]) w' (.slice a4 (setMR n2_ rs2 (i : Int) x0).length c4) (setMR n2_ rs2 (i : Int) x0)] rfl (by kernel_rfl) ?_ ?_
      ·
        refine ⟨fun _ => ⟨fun f2 w9 hf0 xt6 hp0 => ?_, fun _ _ _ _ h => h⟩, ?_⟩
        ·
          have H14 := H11.ext xt6
          refine ldX H14 3 rfl ty35 rfl ((hf0 3 rfl).trans s6) (by decide) rfl ?_
          exact ⟨_, rfl, Ext.refl _, rfl⟩
        refine ⟨fun _ => ⟨fun f3 w10 hf1 xt7 hp1 => ?_, fun _ _ _ _ h => h⟩, ?_⟩
        ·
          have H15 := H11.ext xt7
          refine mv rfl ((hf1 5 rfl).trans s7) ?_
          exact ⟨_, rfl, Ext.refl _, rfl⟩
        refine ⟨fun _ => ⟨fun f4 w11 hf2 xt8 hp2 => ?_, fun _ _ _ _ h => h⟩, ?_⟩
        ·
          have H16 := H11.ext xt8
          refine mv rfl ((hf2 6 rfl).trans s8) ?_
          exact ⟨_, rfl, Ext.refl _, rfl⟩
        refine ⟨fun _ => ⟨fun f5 w12 hf3 xt9 hp3 => ?_, fun _ _ _ _ h => h⟩, ?_⟩
        ·
          have H17 := H11.ext xt9
          refine mv rfl ((hf3 7 rfl).trans s9) ?_
          exact ⟨_, rfl, Ext.refl _, rfl⟩
        refine ⟨fun _ => ⟨fun f6 w13 hf4 xt10 hp4 => ?_, by rintro _ _ _ x_ ⟨g0, e_, hv0, hA0⟩; exact ⟨g0, e_, hv0, hA0.ext x_⟩⟩, ?_⟩
        ·
          have H18 := H11.ext xt10
          have s10 : f6 32 = .slice a2 (lst mn.toNat (cl mn.toNat (relM mr) (i : Int).toNat)).length c2 := hp4 2 rfl rfl
          have s11 : f6 33 = .int .i64 (q : Int) := hp4 3 rfl rfl
          refine iaO (H18.at_ 1 rfl) rfl rfl s10 s11 (by first | omega | (simp; omega)) un27 ty3 ?_
          intro g1 x1 hv1 hx1 hA1
          obtain rfl : x0 = x1 := Option.some.inj (hx0.symm.trans hx1)
          exact ⟨_, rfl, Ext.refl _, ⟨g1, rfl, hv1, hA1⟩⟩
        refine ⟨fun _ => ⟨fun f7 w14 hf5 xt11 hp5 => ?_, fun _ _ _ _ h => h⟩, ?_⟩
        ·
          have H19 := H11.ext xt11
          obtain ⟨g2, s12, hv2, hA2⟩ : ∃ (g2 : Nat), f7 34 = .pointer (some ⟨g2, (q : Int).toNat * 1, none⟩) ∧ (.slice a2 (lst mn.toNat (cl mn.toNat (relM mr) (i : Int).toNat)).length c2 : Value).ownBlock = some g2 ∧ AtW (MS M [imm (.slice a3 rs2.length c3) rs2, own w.heap.size 3 (.slice a2 (lst mn.toNat (cl mn.toNat (relM mr) (i : Int).toNat)).length c2) (lst mn.toNat (cl mn.toNat (relM mr) (i : Int).toNat)), imm (.slice a1 rs.length c1) rs, box bb2 #[.int .i64 n2_, .slice a3 rs2.length c3] 35, imm (.slice a0 (newMR mn).length c0) (newMR mn), box bb1 #[.int .i64 0, .slice none 0 0] 35, box bb0 #[.int .i64 mn, .slice a_mr mr.length c_mr] 35, imm (.slice a_mr mr.length c_mr) mr]) w14 ⟨g2, (q : Int).toNat * 1, none⟩ x0 := hp5 4 rfl rfl
          refine ldI hA2 ty3 rfl s12 ?_
          intro rv5
          exact ⟨_, rfl, Ext.refl _, ⟨rfl, rv5⟩⟩
        refine ⟨fun _ => ⟨fun f8 w15 hf6 xt12 hp6 => ?_, by rintro _ _ _ x_ ⟨a4, c4, e_, rv4⟩; exact ⟨a4, c4, e_, rv4.lift (Up.ext x_)⟩⟩, ?_⟩
        ·
          have H20 := H11.ext xt12
          have s13 : f8 30 = .agg #[.int .i64 n2_, .slice a3 rs2.length c3] := hp6 0 rfl rfl
          have s14 : f8 31 = .int .i64 (i : Int) := hp6 1 rfl rfl
          obtain ⟨s15, rv6⟩ : f8 35 = .int .i64 x0 ∧ I64 (x0) := hp6 5 rfl rfl
          have cc3 := ref03_Set (mn := n2_) (mr := rs2) (i := (i : Int)) (j := x0) (w := w15) H20.mb (by first | (rw [g1]; exact h_mn) | (rw [h1]; exact h_mn)) (H20.rv 0 rfl) (by unfold I64 at *; omega) (by unfold I64 at *; omega) (by rw [g1, g2]; exact (rc_sq rt_m _).1) (by rw [g2]; exact (rc_sq rt_m _).2.1) (by rw [g1]; exact h4_)
          refine ca go21 rfl (ec s13 (ec s14 (ec s15 e0))) cc3 ?_
          rintro _ w16 ⟨a5, c5, rfl, xt13, rv7⟩
          have rv8 := OwnsG.rv rv7 H20.mb
          have H21 := H20.ext xt13
          have H22 := H21.put (it := imm (.slice a5 (setMR n2_ rs2 (i : Int) x0).length c5) (setMR n2_ rs2 (i : Int) x0)) rfl rv8
          exact ⟨_, rfl, xt13, ⟨a5, c5, rfl, rv8⟩⟩
        refine ⟨fun _ => ⟨fun f9 w17 hf7 xt14 hp7 => ?_, by rintro _ _ _ x_ ⟨a4, c4, e_, rv4⟩; exact ⟨a4, c4, e_, rv4.lift (Up.ext x_)⟩⟩, ?_⟩
        ·
          have H23 := H11.ext xt14
          obtain ⟨a6, c6, s16, rv9⟩ : ∃ (a6 : Option Addr) (c6 : Nat), f9 36 = .tuple #[.agg #[.int .i64 (setMN n2_ (i : Int) x0), .slice a6 (setMR n2_ rs2 (i : Int) x0).length c6], .int .i64 (setME n2_ (i : Int) x0)] ∧ RV (MS M [imm (.slice a3 rs2.length c3) rs2, own w.heap.size 3 (.slice a2 (lst mn.toNat (cl mn.toNat (relM mr) (i : Int).toNat)).length c2) (lst mn.toNat (cl mn.toNat (relM mr) (i : Int).toNat)), imm (.slice a1 rs.length c1) rs, box bb2 #[.int .i64 n2_, .slice a3 rs2.length c3] 35, imm (.slice a0 (newMR mn).length c0) (newMR mn), box bb1 #[.int .i64 0, .slice none 0 0] 35, box bb0 #[.int .i64 mn, .slice a_mr mr.length c_mr] 35, imm (.slice a_mr mr.length c_mr) mr]) w17 (.slice a6 (setMR n2_ rs2 (i : Int) x0).length c6) (setMR n2_ rs2 (i : Int) x0) := hp7 6 rfl rfl
          have H24 := H23.put (it := imm (.slice a6 (setMR n2_ rs2 (i : Int) x0).length c6) (setMR n2_ rs2 (i : Int) x0)) rfl rv9
          refine mv rfl s16 ?_
          exact ⟨_, rfl, Ext.refl _, ⟨a6, c6, rfl, rv9⟩⟩
        exact DSteps.rest rfl _
      · intro f10 w18 hf8 xt15 hp8
        have H25 := H11.ext xt15
        have s17 : f10 1 = .pointer (some ⟨bb0, 0, none⟩) := (hf8 1 rfl).trans s4
        have s18 : f10 2 = .pointer (some ⟨bb1, 0, none⟩) := (hf8 2 rfl).trans s5
        have s19 : f10 3 = .pointer (some ⟨bb2, 0, none⟩) := (hf8 3 rfl).trans s6
        have s20 : f10 5 = .int .i64 (i : Int) := (hf8 5 rfl).trans s7
        have s21 : f10 6 = .slice a2 (lst mn.toNat (cl mn.toNat (relM mr) (i : Int).toNat)).length c2 := (hf8 6 rfl).trans s8
        have s22 : f10 7 = .int .i64 (q : Int) := (hf8 7 rfl).trans s9
        obtain ⟨a7, c7, s23, rv10⟩ : ∃ (a7 : Option Addr) (c7 : Nat), f10 29 = .tuple #[.agg #[.int .i64 (setMN n2_ (i : Int) x0), .slice a7 (setMR n2_ rs2 (i : Int) x0).length c7], .int .i64 (setME n2_ (i : Int) x0)] ∧ RV (MS M [imm (.slice a3 rs2.length c3) rs2, own w.heap.size 3 (.slice a2 (lst mn.toNat (cl mn.toNat (relM mr) (i : Int).toNat)).length c2) (lst mn.toNat (cl mn.toNat (relM mr) (i : Int).toNat)), imm (.slice a1 rs.length c1) rs, box bb2 #[.int .i64 n2_, .slice a3 rs2.length c3] 35, imm (.slice a0 (newMR mn).length c0) (newMR mn), box bb1 #[.int .i64 0, .slice none 0 0] 35, box bb0 #[.int .i64 mn, .slice a_mr mr.length c_mr] 35, imm (.slice a_mr mr.length c_mr) mr]) w18 (.slice a7 (setMR n2_ rs2 (i : Int) x0).length c7) (setMR n2_ rs2 (i : Int) x0) := hp8 7 rfl
        have H26 := H25.put (it := imm (.slice a7 (setMR n2_ rs2 (i : Int) x0).length c7) (setMR n2_ rs2 (i : Int) x0)) rfl rv10
        show TA _ _ _ _ 3 [true, true, true, true, true, true, true, true, false, false, false] _ _
        refine ta [8, 9] (by kernel_rfl) rfl ⟨⟨_, rfl, ?_⟩, ⟨_, rfl, ?_⟩, trivial⟩
        ·
          refine xt rfl s23 rfl ?_
          refine ta [9, 10] (by kernel_rfl) rfl ⟨⟨_, rfl, ?_⟩, ⟨_, rfl, ?_⟩, trivial⟩
          ·
            refine xt rfl s23 rfl ?_
            refine ta [10] (by kernel_rfl) rfl ⟨⟨_, rfl, ?_⟩, trivial⟩
            ·
              refine stX H26 4 rfl ty35 rfl rfl s19 rfl rfl rfl rfl ?_
              intro w19 (H27 : HI M w w19 [imm (.slice a7 (setMR n2_ rs2 (i : Int) x0).length c7) (setMR n2_ rs2 (i : Int) x0), imm (.slice a3 rs2.length c3) rs2, own w.heap.size 3 (.slice a2 (lst mn.toNat (cl mn.toNat (relM mr) (i : Int).toNat)).length c2) (lst mn.toNat (cl mn.toNat (relM mr) (i : Int).toNat)), imm (.slice a1 rs.length c1) rs, box bb2 #[.int .i64 (setMN n2_ (i : Int) x0), .slice a7 (setMR n2_ rs2 (i : Int) x0).length c7] 35, imm (.slice a0 (newMR mn).length c0) (newMR mn), box bb1 #[.int .i64 0, .slice none 0 0] 35, box bb0 #[.int .i64 mn, .slice a_mr mr.length c_mr] 35, imm (.slice a_mr mr.length c_mr) mr])
              refine ta0 (by kernel_rfl) (inb_normal (nx (rg (k (mv rfl s22 (k (add rfl rfl rfl rfl (by have h_ := lst_len mn.toNat (cl mn.toNat (relM mr) (i : Int).toNat); unfold I64; omega) (k (asg (v := .int .i64 ((q : Int) + 1)) rfl rfl (z ?_))))))))))
              have H28 := H27.put (it := imm (.slice a7 (setMR n2_ rs2 (i : Int) x0).length c7) (setMR n2_ rs2 (i : Int) x0)) rfl (H27.rv 0 rfl)
              have H29 : HI M w w19 [imm (.slice a7 (setMR n2_ rs2 (i : Int) x0).length c7) (setMR n2_ rs2 (i : Int) x0), own w.heap.size 3 (.slice a2 (lst mn.toNat (cl mn.toNat (relM mr) (i : Int).toNat)).length c2) (lst mn.toNat (cl mn.toNat (relM mr) (i : Int).toNat)), imm (.slice a1 rs.length c1) rs, box bb2 #[.int .i64 (setMN n2_ (i : Int) x0), .slice a7 (setMR n2_ rs2 (i : Int) x0).length c7] 35, imm (.slice a0 (newMR mn).length c0) (newMR mn), box bb1 #[.int .i64 0, .slice none 0 0] 35, box bb0 #[.int .i64 mn, .slice a_mr mr.length c_mr] 35, imm (.slice a_mr mr.length c_mr) mr] := H28.pickN [0, 3, 4, 5, 6, 7, 8, 9] (by decide) rfl
              refine loopN _ ?_ ⟨(q + 1), (setMN n2_ (i : Int) x0), (setMR n2_ rs2 (i : Int) x0), a7, c7, rfl, s17, s18, s19, s20, s21, (ieq rfl (by first | rfl | omega | (push_cast; omega))), H29, (by first | assumption | omega | simp | (simp; omega)), (by rw [g1]; exact (rc_set rt_m g2 hx0 (by omega)).1), (by rw [g1]; exact (rc_set rt_m g2 hx0 (by omega)).2.1)⟩
              omega
          ·
            refine stX H26 4 rfl ty35 rfl rfl s19 rfl rfl rfl rfl ?_
            intro w19 (H27 : HI M w w19 [imm (.slice a7 (setMR n2_ rs2 (i : Int) x0).length c7) (setMR n2_ rs2 (i : Int) x0), imm (.slice a3 rs2.length c3) rs2, own w.heap.size 3 (.slice a2 (lst mn.toNat (cl mn.toNat (relM mr) (i : Int).toNat)).length c2) (lst mn.toNat (cl mn.toNat (relM mr) (i : Int).toNat)), imm (.slice a1 rs.length c1) rs, box bb2 #[.int .i64 (setMN n2_ (i : Int) x0), .slice a7 (setMR n2_ rs2 (i : Int) x0).length c7] 35, imm (.slice a0 (newMR mn).length c0) (newMR mn), box bb1 #[.int .i64 0, .slice none 0 0] 35, box bb0 #[.int .i64 mn, .slice a_mr mr.length c_mr] 35, imm (.slice a_mr mr.length c_mr) mr])
            refine ta [9] (by kernel_rfl) rfl ⟨⟨_, rfl, ?_⟩, trivial⟩
            ·
              refine xt rfl s23 rfl (ta0 (by kernel_rfl) (inb_normal (nx (rg (k (mv rfl s22 (k (add rfl rfl rfl rfl (by have h_ := lst_len mn.toNat (cl mn.toNat (relM mr) (i : Int).toNat); unfold I64; omega) (k (asg (v := .int .i64 ((q : Int) + 1)) rfl rfl (z ?_)))))))))))
              have H28 := H27.put (it := imm (.slice a7 (setMR n2_ rs2 (i : Int) x0).length c7) (setMR n2_ rs2 (i : Int) x0)) rfl (H27.rv 0 rfl)
              have H29 : HI M w w19 [imm (.slice a7 (setMR n2_ rs2 (i : Int) x0).length c7) (setMR n2_ rs2 (i : Int) x0), own w.heap.size 3 (.slice a2 (lst mn.toNat (cl mn.toNat (relM mr) (i : Int).toNat)).length c2) (lst mn.toNat (cl mn.toNat (relM mr) (i : Int).toNat)), imm (.slice a1 rs.length c1) rs, box bb2 #[.int .i64 (setMN n2_ (i : Int) x0), .slice a7 (setMR n2_ rs2 (i : Int) x0).length c7] 35, imm (.slice a0 (newMR mn).length c0) (newMR mn), box bb1 #[.int .i64 0, .slice none 0 0] 35, box bb0 #[.int .i64 mn, .slice a_mr mr.length c_mr] 35, imm (.slice a_mr mr.length c_mr) mr] := H28.pickN [0, 3, 4, 5, 6, 7, 8, 9] (by decide) rfl
              refine loopN _ ?_ ⟨(q + 1), (setMN n2_ (i : Int) x0), (setMR n2_ rs2 (i : Int) x0), a7, c7, rfl, s17, s18, s19, s20, s21, (ieq rfl (by first | rfl | omega | (push_cast; omega))), H29, (by first | assumption | omega | simp | (simp; omega)), (by rw [g1]; exact (rc_set rt_m g2 hx0 (by omega)).1), (by rw [g1]; exact (rc_set rt_m g2 hx0 (by omega)).2.1)⟩
              omega
        ·
          refine xt rfl s23 rfl ?_
          refine ta [8] (by kernel_rfl) rfl ⟨⟨_, rfl, ?_⟩, trivial⟩
          ·
            refine xt rfl s23 rfl ?_
            refine ta [10] (by kernel_rfl) rfl ⟨⟨_, rfl, ?_⟩, trivial⟩
            ·
              refine stX H26 4 rfl ty35 rfl rfl s19 rfl rfl rfl rfl ?_
              intro w19 (H27 : HI M w w19 [imm (.slice a7 (setMR n2_ rs2 (i : Int) x0).length c7) (setMR n2_ rs2 (i : Int) x0), imm (.slice a3 rs2.length c3) rs2, own w.heap.size 3 (.slice a2 (lst mn.toNat (cl mn.toNat (relM mr) (i : Int).toNat)).length c2) (lst mn.toNat (cl mn.toNat (relM mr) (i : Int).toNat)), imm (.slice a1 rs.length c1) rs, box bb2 #[.int .i64 (setMN n2_ (i : Int) x0), .slice a7 (setMR n2_ rs2 (i : Int) x0).length c7] 35, imm (.slice a0 (newMR mn).length c0) (newMR mn), box bb1 #[.int .i64 0, .slice none 0 0] 35, box bb0 #[.int .i64 mn, .slice a_mr mr.length c_mr] 35, imm (.slice a_mr mr.length c_mr) mr])
              refine ta0 (by kernel_rfl) (inb_normal (nx (rg (k (mv rfl s22 (k (add rfl rfl rfl rfl (by have h_ := lst_len mn.toNat (cl mn.toNat (relM mr) (i : Int).toNat); unfold I64; omega) (k (asg (v := .int .i64 ((q : Int) + 1)) rfl rfl (z ?_))))))))))
              have H28 := H27.put (it := imm (.slice a7 (setMR n2_ rs2 (i : Int) x0).length c7) (setMR n2_ rs2 (i : Int) x0)) rfl (H27.rv 0 rfl)
              have H29 : HI M w w19 [imm (.slice a7 (setMR n2_ rs2 (i : Int) x0).length c7) (setMR n2_ rs2 (i : Int) x0), own w.heap.size 3 (.slice a2 (lst mn.toNat (cl mn.toNat (relM mr) (i : Int).toNat)).length c2) (lst mn.toNat (cl mn.toNat (relM mr) (i : Int).toNat)), imm (.slice a1 rs.length c1) rs, box bb2 #[.int .i64 (setMN n2_ (i : Int) x0), .slice a7 (setMR n2_ rs2 (i : Int) x0).length c7] 35, imm (.slice a0 (newMR mn).length c0) (newMR mn), box bb1 #[.int .i64 0, .slice none 0 0] 35, box bb0 #[.int .i64 mn, .slice a_mr mr.length c_mr] 35, imm (.slice a_mr mr.length c_mr) mr] := H28.pickN [0, 3, 4, 5, 6, 7, 8, 9] (by decide) rfl
              refine loopN _ ?_ ⟨(q + 1), (setMN n2_ (i : Int) x0), (setMR n2_ rs2 (i : Int) x0), a7, c7, rfl, s17, s18, s19, s20, s21, (ieq rfl (by first | rfl | omega | (push_cast; omega))), H29, (by first | assumption | omega | simp | (simp; omega)), (by rw [g1]; exact (rc_set rt_m g2 hx0 (by omega)).1), (by rw [g1]; exact (rc_set rt_m g2 hx0 (by omega)).2.1)⟩
              omega
    ·
      have p1 := of_decide_eq_false b1
      refine ex (then_exit (loop_exit (inb_here (inb_normal (nx (rg (k (mv rfl s7 (k (add rfl rfl rfl rfl (by unfold I64 at *; omega) (k (asg (v := .int .i64 ((i : Int) + 1)) rfl rfl (z ?_)))))))))))))
      have H12 := H11.put (it := imm (.slice a3 rs2.length c3) rs2) rfl (H11.rv 0 rfl)
      have H13 : HI M w w7 [imm (.slice a3 rs2.length c3) rs2, box bb2 #[.int .i64 n2_, .slice a3 rs2.length c3] 35, imm (.slice a0 (newMR mn).length c0) (newMR mn), box bb1 #[.int .i64 0, .slice none 0 0] 35, box bb0 #[.int .i64 mn, .slice a_mr mr.length c_mr] 35, imm (.slice a_mr mr.length c_mr) mr] := H12.pickN [0, 4, 5, 6, 7, 8] (by decide) rfl
      refine loopN _ ?_ ⟨(i + 1), n2_, rs2, a3, c3, rfl, s4, s5, s6, (ieq rfl (by first | rfl | omega | (push_cast; omega))), H13, (by first | assumption | omega | simp | (simp; omega)), (by exact g1), (by rw [g2]; exact rc_row (show (lst mn.toNat (cl mn.toNat (relM mr) (i : Int).toNat)).length ≤ q from by omega))⟩
      omega
  ·
    have p0 := of_decide_eq_false b0
    refine ex (then_exit (loop_exit (inb_here (nx (sq (rg (k (ldX H8 1 rfl ty35 rfl s2 (by decide) rfl (k (stX H8 3 rfl ty35 rfl rfl s1 rfl rfl rfl rfl ?_))))))))))
    intro w6 (H9 : HI M w w6 [imm (.slice a1 rs.length c1) rs, box bb2 #[.int .i64 n_, .slice a1 rs.length c1] 35, imm (.slice a0 (newMR mn).length c0) (newMR mn), box bb1 #[.int .i64 n_, .slice a1 rs.length c1] 35, box bb0 #[.int .i64 mn, .slice a_mr mr.length c_mr] 35, imm (.slice a_mr mr.length c_mr) mr])
    refine z (nx (rt (rc1 H9 3 rfl ty35 rfl rfl s1 rfl (by decide) ?_)))
    have e0 : (n_ : Int) = mn := by exact h1
    have e1 : (rs : List (List (BitVec 64))) = closeM mn mr := by rw [h2]; exact rc_fin rfl (by omega)
    have ev_ := cg2 (fun (x_0 : Int) (x_1 : List (List (BitVec 64))) => (.agg #[.int .i64 x_0, .slice a1 x_1.length c1] : Value)) e0 e1
    exact ⟨a1, c1, ev_, H9.below, (congrArg (fun (x_ : List (List (BitVec 64))) => RV _ _ (.slice a1 x_.length c1) x_) e1).mp (H9.gives_out 0 rfl)⟩
end Go.Proofs.Ytmhopljngkgidaa
namespace Go.Proofs.Ytmhopljngkgidaa
open Go.Ew Go.RowKit
set_option linter.unusedVariables false
set_option linter.unusedSimpArgs false
attribute [local irreducible] WL WC SO Code.wp wpList retQ Ret
attribute [local irreducible] bitB hasW inR hasR setR countW countR subR words newR listR orR firstW tab8
theorem fl29_2 : FldF Try.prog 29 2 2 := ⟨_, _, Try.underlying29, rfl, rfl, by kernel_rfl⟩
theorem ty27 : TyF Try.prog 27 1 false 24 (.slice none 0 0) := ⟨by kernel_rfl, by kernel_rfl⟩
theorem go33 : GoF Try.prog 33 := ⟨_, _, Try.func33, rfl, by kernel_rfl⟩
theorem go10 : GoF Try.prog 10 := ⟨_, _, Try.func10, rfl, by kernel_rfl⟩
theorem go32 : GoF Try.prog 32 := ⟨_, _, Try.func32, rfl, by kernel_rfl⟩
theorem go19 : GoF Try.prog 19 := ⟨_, _, Try.func19, rfl, by kernel_rfl⟩
theorem go11 : GoF Try.prog 11 := ⟨_, _, Try.func11, rfl, by kernel_rfl⟩
theorem go34 : GoF Try.prog 34 := ⟨_, _, Try.func34, rfl, by kernel_rfl⟩
theorem go12 : GoF Try.prog 12 := ⟨_, _, Try.func12, rfl, by kernel_rfl⟩
theorem go35 : GoF Try.prog 35 := ⟨_, _, Try.func35, rfl, by kernel_rfl⟩
theorem go13 : GoF Try.prog 13 := ⟨_, _, Try.func13, rfl, by kernel_rfl⟩
theorem go22 : GoF Try.prog 22 := ⟨_, _, Try.func22, rfl, by kernel_rfl⟩
/- eyewitness/cause.Rf -/
set_option maxRecDepth 100000 in
set_option maxHeartbeats 1600000 in
theorem cause_Rf {M : Nat → Prop} {w : World} {a_fv : Option Addr} {n_fv c_fv : Nat} {a_fi : Option Addr} {c_fi : Nat} {fi : List (Int × Int × Bool × Int × Int)} {a_fo : Option Addr} {c_fo : Nat} {fo : List Int} (hM : ∀ b, M b → b < w.heap.size) (h_fi : RV M w (.slice a_fi fi.length c_fi) fi) (h_fo : RV M w (.slice a_fo fo.length c_fo) fo) (hn_fi : fi.length ≤ 4096) (hfo : fo.length = fi.length) (hfr : ∀ x ∈ fo, x < ((fi.length : Nat) : Int)) : Calls Try.prog 10 #[.agg #[.slice a_fv n_fv c_fv, .slice a_fi fi.length c_fi, .slice a_fo fo.length c_fo]] w (Ret fun v w' => ∃ (a0 : Option Addr) (c0 : Nat), v = .agg #[.int .i64 (fi.length : Int), .slice a0 (rfR fi fo).length c0] ∧ Ext w w' ∧ OwnsG M 60 w (rfR fi fo) (.slice a0 (rfR fi fo).length c0) w') := by
  refine enter 37 Try.func10 rfl rfl rfl fun f0 ha => ?_
  have H := HI.start (M0 := M) (w := w) hM
  have H0 := H.put (it := imm (.slice a_fi fi.length c_fi) fi) rfl (by rw [MS_nil]; exact h_fi)
  have H1 := H0.put (it := imm (.slice a_fo fo.length c_fo) fo) rfl (by rw [MS_cons_none rfl, MS_nil]; exact h_fo)
  have ln_fi := rv_len h_fi
  have ln_fo := rv_len h_fo
  have i0 : f0 0 = .agg #[.slice a_fv n_fv c_fv, .slice a_fi fi.length c_fi, .slice a_fo fo.length c_fo] := ha 0 (by simp)
  refine sq (rg (k (bx H1 rfl i0 ?_)))
  intro bb0 w0 xt0 (H2 : HI M w w0 [box bb0 #[.slice a_fv n_fv c_fv, .slice a_fi fi.length c_fi, .slice a_fo fo.length c_fo] 29, imm (.slice a_fo fo.length c_fo) fo, imm (.slice a_fi fi.length c_fi) fi])
  refine k (al H2 ty35 ?_)
  intro bb1 w1 xt1 (H3 : HI M w w1 [box bb1 #[.int .i64 0, .slice none 0 0] 35, box bb0 #[.slice a_fv n_fv c_fv, .slice a_fi fi.length c_fi, .slice a_fo fo.length c_fo] 29, imm (.slice a_fo fo.length c_fo) fo, imm (.slice a_fi fi.length c_fi) fi])
  refine z (nx (sq (rg (k (fa fl29_1 rfl rfl (k (ldX H3 1 rfl ty26 rfl rfl (by decide) rfl (k (lnS rfl rfl un26 (k ?_))))))))))
  have cc0 := mat_New (n := (fi.length : Int)) (w := w1) H3.mb (by unfold I64 at *; omega)
  refine ca go29 rfl (ec rfl e0) cc0 ?_
  rintro _ w2 ⟨a0, c0, rfl, xt2, rv0⟩
  have H4 := H3.ownsG rv0
  refine k (mv (v := .tuple #[.agg #[.int .i64 (newMN (fi.length : Int)), .slice a0 (newMR (fi.length : Int)).length c0], .int .i64 (newME (fi.length : Int))]) rfl rfl (k (xt rfl rfl rfl (k (xt rfl rfl rfl (k (al H4 ty35 ?_)))))))
  intro bb2 w3 xt3 (H5 : HI M w w3 [box bb2 #[.int .i64 0, .slice none 0 0] 35, own w.heap.size 60 (.slice a0 (newMR (fi.length : Int)).length c0) (newMR (fi.length : Int)), box bb1 #[.int .i64 0, .slice none 0 0] 35, box bb0 #[.slice a_fv n_fv c_fv, .slice a_fi fi.length c_fi, .slice a_fo fo.length c_fo] 29, imm (.slice a_fo fo.length c_fo) fo, imm (.slice a_fi fi.length c_fi) fi])
  refine k (stX H5 0 rfl ty35 rfl rfl rfl rfl rfl rfl rfl ?_)
  intro w4 (H6 : HI M w w4 [box bb2 #[.int .i64 (newMN (fi.length : Int)), .slice a0 (newMR (fi.length : Int)).length c0] 35, own w.heap.size 60 (.slice a0 (newMR (fi.length : Int)).length c0) (newMR (fi.length : Int)), box bb1 #[.int .i64 0, .slice none 0 0] 35, box bb0 #[.slice a_fv n_fv c_fv, .slice a_fi fi.length c_fi, .slice a_fo fo.length c_fo] 29, imm (.slice a_fo fo.length c_fo) fo, imm (.slice a_fi fi.length c_fi) fi])
  refine k (asg (v := .int .i64 (newME (fi.length : Int))) rfl rfl (z (nx (sq (sq ?_)))))
  have hok_ : okN (fi.length : Int) = true := okN_iff.2 (by omega)
  obtain ⟨en, er, -⟩ := newM_yes hok_
  refine rg (k (fa fl29_2 rfl rfl (k (ldX H6 3 rfl ty27 rfl rfl (by decide) rfl (k (lnS rfl rfl un27 (k (mv (v := .int .i64 0) rfl rfl (z (nx (bk ?_)))))))))))
  refine lp (fun m f w' => ∃ (j : Nat) (xs : List (List (BitVec 64))), m = fo.length - j ∧ f 2 = .pointer (some ⟨bb1, 0, none⟩) ∧ f 3 = .pointer (some ⟨bb2, 0, none⟩) ∧ f 15 = .slice a_fo fo.length c_fo ∧ f 16 = .int .i64 (fo.length : Int) ∧ f 17 = .int .i64 (j : Int) ∧  HI M w w' [box bb2 #[.int .i64 (newMN (fi.length : Int)), .slice a0 (newMR (fi.length : Int)).length c0] 35, own w.heap.size 60 (.slice a0 (newMR (fi.length : Int)).length c0) xs, box bb1 #[.int .i64 0, .slice none 0 0] 35, box bb0 #[.slice a_fv n_fv c_fv, .slice a_fi fi.length c_fi, .slice a_fo fo.length c_fo] 29, imm (.slice a_fo fo.length c_fo) fo, imm (.slice a_fi fi.length c_fi) fi] ∧ (j ≤ fo.length) ∧ (xs.length = fi.length) ∧ (xs = rfTo fi.length fo j)) _ ⟨0, (newMR (fi.length : Int)), rfl, rfl, rfl, rfl, rfl, (ieq rfl (by first | rfl | omega | simp)), H6, (by first | assumption | omega | simp | (simp; omega)), (by rw [er, newM_length]; simp), (by rw [er]; exact rf_zero _ _)⟩ ?_
  rintro _ f0 w5 ⟨j, xs, rfl, s0, s1, s2, s3, s4, H7, hk, hl, hs⟩
  refine sq (rg (k (lss rfl rfl s4 s3 (z (nx (sq ?_))))))
  refine cd (b := decide ((j : Int) < (fo.length : Int))) rfl rfl (fun b0 => ?_) (fun b0 => ?_)
  ·
    have p0 := of_decide_eq_true b0
    refine sk (nx (sq (bk (sq (rg (k (mv rfl s4 (k (ia (H7.rv 4 rfl) rfl rfl s2 s4 (by first | omega | (simp; omega)) un27 ty3 ?_)))))))))
    intro ad0 x0 hx0 hA0
    refine k (ldI hA0.w ty3 rfl rfl ?_)
    intro rv1
    refine k (asg (v := .int .i64 (j : Int)) rfl rfl (k (asg (v := .int .i64 x0) rfl rfl (z (nx (sq ?_))))))
    have hw_ := hfr _ (List.mem_of_getElem? hx0)
    refine rg (k (mv (v := .int .i64 x0) rfl rfl (k (geq rfl rfl rfl rfl (z (nx ?_))))))
    refine cd (b := decide (0 ≤ x0)) rfl rfl (fun b1 => ?_) (fun b1 => ?_)
    ·
      have p1 := of_decide_eq_true b1
      obtain ⟨x1, hx1⟩ : ∃ x, xs[x0.toNat]? = some x := ⟨_, List.getElem?_eq_getElem (by first | omega | (simp; omega))⟩
      refine dr 10 [fun (v : Value) (w' : World) => v = .pointer (some ⟨bb2, 1, none⟩), fun (v : Value) (w' : World) => v = .slice a0 (newMR (fi.length : Int)).length c0, fun (v : Value) (w' : World) => v = .int .i64 x0 ∧ I64 (x0), fun (v : Value) (w' : World) => v = .pointer (some ⟨bb2, 1, none⟩), fun (v : Value) (w' : World) => v = .slice a0 (newMR (fi.length : Int)).length c0, fun (v : Value) (w' : World) => v = .int .i64 x0 ∧ I64 (x0), fun (v : Value) (w' : World) => ∃ (g0 : Nat), v = .pointer (some ⟨g0, x0.toNat * 1, none⟩) ∧ (.slice a0 (newMR (fi.length : Int)).length c0 : Value).ownBlock = some g0 ∧ AtW (MS M [box bb2 #[.int .i64 (newMN (fi.length : Int)), .slice a0 (newMR (fi.length : Int)).length c0] 35, own w.heap.size 60 (.slice a0 (newMR (fi.length : Int)).length c0) xs, box bb1 #[.int .i64 0, .slice none 0 0] 35, box bb0 #[.slice a_fv n_fv c_fv, .slice a_fi fi.length c_fi, .slice a_fo fo.length c_fo] 29, imm (.slice a_fo fo.length c_fo) fo, imm (.slice a_fi fi.length c_fi) fi]) w' ⟨g0, x0.toNat * 1, none⟩ x1, fun (v : Value) (w' : World) => ∃ (a1 : Option Addr) (c1 : Nat), v = .slice a1 x1.length c1 ∧ RV (MS M [box bb2 #[.int .i64 (newMN (fi.length : Int)), .slice a0 (newMR (fi.length : Int)).length c0] 35, own w.heap.size 60 (.slice a0 (newMR (fi.length : Int)).length c0) xs, box bb1 #[.int .i64 0, .slice none 0 0] 35, box bb0 #[.slice a_fv n_fv c_fv, .slice a_fi fi.length c_fi, .slice a_fo fo.length c_fo] 29, imm (.slice a_fo fo.length c_fo) fo, imm (.slice a_fi fi.length c_fi) fi]) w' (.slice a1 x1.length c1) x1, fun (v : Value) (w' : World) => v = .int .i64 (j : Int), fun (v : Value) (w' : World) => ∃ (a2 : Option Addr) (c2 : Nat), v = .slice a2 (setR x1 (j : Int)).length c2 ∧ RV (MS M [box bb2 #[.int .i64 (newMN (fi.length : Int)), .slice a0 (newMR (fi.length : Int)).length c0] 35, own w.heap.size 60 (.slice a0 (newMR (fi.length : Int)).length c0) xs, box bb1 #[.int .i64 0, .slice none 0 0] 35, box bb0 #[.slice a_fv n_fv c_fv, .slice a_fi fi.length c_fi, .slice a_fo fo.length c_fo] 29, imm (.slice a_fo fo.length c_fo) fo, imm (.slice a_fi fi.length c_fi) fi]) w' (.slice a2 (setR x1 (j : Int)).length c2) (setR x1 (j : Int))] rfl (by kernel_rfl) ?_ ?_
      ·
        refine ⟨fun _ => ⟨fun f1 w7 hf0 xt5 hp0 => ?_, fun _ _ _ _ h => h⟩, ?_⟩
        ·
          have H11 := H7.ext xt5
          refine fa fl35_1 rfl ((hf0 3 rfl).trans s1) ?_
          exact ⟨_, rfl, Ext.refl _, rfl⟩
        refine ⟨fun _ => ⟨fun f2 w8 hf1 xt6 hp1 => ?_, fun _ _ _ _ h => h⟩, ?_⟩
        ·
          have H12 := H7.ext xt6
          have s5 : f2 24 = .pointer (some ⟨bb2, 1, none⟩) := hp1 0 rfl rfl
          refine ldX H12 0 rfl ty33 rfl s5 (by decide) rfl ?_
          exact ⟨_, rfl, Ext.refl _, rfl⟩
        refine ⟨fun _ => ⟨fun f3 w9 hf2 xt7 hp2 => ?_, fun _ _ _ _ h => h⟩, ?_⟩
        ·
          have H13 := H7.ext xt7
          refine mv rfl (hf2 6 rfl) ?_
          exact ⟨_, rfl, Ext.refl _, ⟨rfl, rv1⟩⟩
        refine ⟨fun _ => ⟨fun f4 w10 hf3 xt8 hp3 => ?_, fun _ _ _ _ h => h⟩, ?_⟩
        ·
          have H14 := H7.ext xt8
          refine fa fl35_1 rfl ((hf3 3 rfl).trans s1) ?_
          exact ⟨_, rfl, Ext.refl _, rfl⟩
        refine ⟨fun _ => ⟨fun f5 w11 hf4 xt9 hp4 => ?_, fun _ _ _ _ h => h⟩, ?_⟩
        ·
          have H15 := H7.ext xt9
          have s6 : f5 27 = .pointer (some ⟨bb2, 1, none⟩) := hp4 3 rfl rfl
          refine ldX H15 0 rfl ty33 rfl s6 (by decide) rfl ?_
          exact ⟨_, rfl, Ext.refl _, rfl⟩
        refine ⟨fun _ => ⟨fun f6 w12 hf5 xt10 hp5 => ?_, fun _ _ _ _ h => h⟩, ?_⟩
        ·
          have H16 := H7.ext xt10
          refine mv rfl (hf5 6 rfl) ?_
          exact ⟨_, rfl, Ext.refl _, ⟨rfl, rv1⟩⟩
        refine ⟨fun _ => ⟨fun f7 w13 hf6 xt11 hp6 => ?_, by rintro _ _ _ x_ ⟨g0, e_, hv0, hA1⟩; exact ⟨g0, e_, hv0, hA1.ext x_⟩⟩, ?_⟩
        ·
          have H17 := H7.ext xt11
          have s7 : f7 28 = .slice a0 (newMR (fi.length : Int)).length c0 := hp6 4 rfl rfl
          obtain ⟨s8, rv5⟩ : f7 29 = .int .i64 x0 ∧ I64 (x0) := hp6 5 rfl rfl
          refine iaO (H17.at_ 1 rfl) rfl rfl s7 s8 (by first | omega | (simp; omega)) un33 ty60 ?_
          intro g1 x2 hv1 hx2 hA2
          obtain rfl : x1 = x2 := Option.some.inj (hx1.symm.trans hx2)
          exact ⟨_, rfl, Ext.refl _, ⟨g1, rfl, hv1, hA2⟩⟩
        refine ⟨fun _ => ⟨fun f8 w14 hf7 xt12 hp7 => ?_, by rintro _ _ _ x_ ⟨a1, c1, e_, rv2⟩; exact ⟨a1, c1, e_, rv2.lift (Up.ext x_)⟩⟩, ?_⟩
        ·
          have H18 := H7.ext xt12
          obtain ⟨g2, s9, hv2, hA3⟩ : ∃ (g2 : Nat), f8 30 = .pointer (some ⟨g2, x0.toNat * 1, none⟩) ∧ (.slice a0 (newMR (fi.length : Int)).length c0 : Value).ownBlock = some g2 ∧ AtW (MS M [box bb2 #[.int .i64 (newMN (fi.length : Int)), .slice a0 (newMR (fi.length : Int)).length c0] 35, own w.heap.size 60 (.slice a0 (newMR (fi.length : Int)).length c0) xs, box bb1 #[.int .i64 0, .slice none 0 0] 35, box bb0 #[.slice a_fv n_fv c_fv, .slice a_fi fi.length c_fi, .slice a_fo fo.length c_fo] 29, imm (.slice a_fo fo.length c_fo) fo, imm (.slice a_fi fi.length c_fi) fi]) w14 ⟨g2, x0.toNat * 1, none⟩ x1 := hp7 6 rfl rfl
          refine ldL hA3 ty60 rfl s9 ?_
          intro a3 c3 rv6
          have ln1 := rv_len rv6
          have H19 := H18.put (it := imm (.slice a3 x1.length c3) x1) rfl rv6
          exact ⟨_, rfl, Ext.refl _, ⟨a3, c3, rfl, rv6⟩⟩
        refine ⟨fun _ => ⟨fun f9 w15 hf8 xt13 hp8 => ?_, fun _ _ _ _ h => h⟩, ?_⟩
        ·
          have H20 := H7.ext xt13
          refine mv rfl (hf8 5 rfl) ?_
          exact ⟨_, rfl, Ext.refl _, rfl⟩
        refine ⟨fun _ => ⟨fun f10 w16 hf9 xt14 hp9 => ?_, by rintro _ _ _ x_ ⟨a2, c2, e_, rv4⟩; exact ⟨a2, c2, e_, rv4.lift (Up.ext x_)⟩⟩, ?_⟩
        ·
          have H21 := H7.ext xt14
          obtain ⟨a4, c4, s10, rv7⟩ : ∃ (a4 : Option Addr) (c4 : Nat), f10 31 = .slice a4 x1.length c4 ∧ RV (MS M [box bb2 #[.int .i64 (newMN (fi.length : Int)), .slice a0 (newMR (fi.length : Int)).length c0] 35, own w.heap.size 60 (.slice a0 (newMR (fi.length : Int)).length c0) xs, box bb1 #[.int .i64 0, .slice none 0 0] 35, box bb0 #[.slice a_fv n_fv c_fv, .slice a_fi fi.length c_fi, .slice a_fo fo.length c_fo] 29, imm (.slice a_fo fo.length c_fo) fo, imm (.slice a_fi fi.length c_fi) fi]) w16 (.slice a4 x1.length c4) x1 := hp9 7 rfl rfl
          have H22 := H21.put (it := imm (.slice a4 x1.length c4) x1) rfl rv7
          have s11 : f10 32 = .int .i64 (j : Int) := hp9 8 rfl rfl
          have cc2 := row_Set (r := x1) (i := (j : Int)) (w := w16) H22.mb (H22.rv 0 rfl) (by unfold I64 at *; omega) (by first | (have e1_ := hx1; rw [hs] at e1_; exact (rfTo_sq (n := fi.length) (by omega) fo j).2 _ (List.mem_of_getElem? e1_)) | (have e1_ := hx2; rw [hs] at e1_; exact (rfTo_sq (n := fi.length) (by omega) fo j).2 _ (List.mem_of_getElem? e1_)) | (have e1_ := hx3; rw [hs] at e1_; exact (rfTo_sq (n := fi.length) (by omega) fo j).2 _ (List.mem_of_getElem? e1_)) | (have e1_ := hx4; rw [hs] at e1_; exact (rfTo_sq (n := fi.length) (by omega) fo j).2 _ (List.mem_of_getElem? e1_)) | (have e1_ := hx5; rw [hs] at e1_; exact (rfTo_sq (n := fi.length) (by omega) fo j).2 _ (List.mem_of_getElem? e1_)))
          refine ca go30 rfl (ec s10 (ec s11 e0)) cc2 ?_
          rintro _ w17 ⟨a5, c5, rfl, xt15, rv8⟩
          have rv9 := OwnsG.rv rv8 H22.mb
          have H23 := H22.ext xt15
          have H24 := H23.put (it := imm (.slice a5 (setR x1 (j : Int)).length c5) (setR x1 (j : Int))) rfl rv9
          exact ⟨_, rfl, xt15, ⟨a5, c5, rfl, (rv_drop rfl rv9)⟩⟩
        exact DSteps.rest rfl _
      · intro f11 w18 hf10 xt16 hp10
        have H25 := H7.ext xt16
        have s12 : f11 2 = .pointer (some ⟨bb1, 0, none⟩) := (hf10 2 rfl).trans s0
        have s13 : f11 3 = .pointer (some ⟨bb2, 0, none⟩) := (hf10 3 rfl).trans s1
        have s14 : f11 15 = .slice a_fo fo.length c_fo := (hf10 15 rfl).trans s2
        have s15 : f11 16 = .int .i64 (fo.length : Int) := (hf10 16 rfl).trans s3
        have s16 : f11 17 = .int .i64 (j : Int) := (hf10 17 rfl).trans s4
        have s17 : f11 25 = .slice a0 (newMR (fi.length : Int)).length c0 := hp10 1 rfl
        obtain ⟨s18, rv10⟩ : f11 26 = .int .i64 x0 ∧ I64 (x0) := hp10 2 rfl
        obtain ⟨a6, c6, s19, rv11⟩ : ∃ (a6 : Option Addr) (c6 : Nat), f11 33 = .slice a6 (setR x1 (j : Int)).length c6 ∧ RV (MS M [box bb2 #[.int .i64 (newMN (fi.length : Int)), .slice a0 (newMR (fi.length : Int)).length c0] 35, own w.heap.size 60 (.slice a0 (newMR (fi.length : Int)).length c0) xs, box bb1 #[.int .i64 0, .slice none 0 0] 35, box bb0 #[.slice a_fv n_fv c_fv, .slice a_fi fi.length c_fi, .slice a_fo fo.length c_fo] 29, imm (.slice a_fo fo.length c_fo) fo, imm (.slice a_fi fi.length c_fi) fi]) w18 (.slice a6 (setR x1 (j : Int)).length c6) (setR x1 (j : Int)) := hp10 9 rfl
        have H26 := H25.put (it := imm (.slice a6 (setR x1 (j : Int)).length c6) (setR x1 (j : Int))) rfl rv11
        refine k (iaO (H26.at_ 2 rfl) rfl rfl s17 s18 (by first | omega | (simp; omega)) un33 ty60 ?_)
        intro g3 x3 hv3 hx3 hA4
        refine k (stO H26 2 rfl hv3 rfl (by first | omega | (simp; omega)) ty60 rfl rfl rfl s19 (H26.rv 0 rfl) ?_)
        intro w19 (H27 : HI M w w19 [imm (.slice a6 (setR x1 (j : Int)).length c6) (setR x1 (j : Int)), box bb2 #[.int .i64 (newMN (fi.length : Int)), .slice a0 (newMR (fi.length : Int)).length c0] 35, own w.heap.size 60 (.slice a0 (newMR (fi.length : Int)).length c0) (xs.set x0.toNat (setR x1 (j : Int))), box bb1 #[.int .i64 0, .slice none 0 0] 35, box bb0 #[.slice a_fv n_fv c_fv, .slice a_fi fi.length c_fi, .slice a_fo fo.length c_fo] 29, imm (.slice a_fo fo.length c_fo) fo, imm (.slice a_fi fi.length c_fi) fi])
        refine z (inb_normal (nx (rg (k (add rfl rfl s16 rfl (by unfold I64 at *; omega) (k (mv (v := .int .i64 ((j : Int) + 1)) rfl rfl (z ?_))))))))
        have H28 : HI M w w19 [box bb2 #[.int .i64 (newMN (fi.length : Int)), .slice a0 (newMR (fi.length : Int)).length c0] 35, own w.heap.size 60 (.slice a0 (newMR (fi.length : Int)).length c0) (xs.set x0.toNat (setR x1 (j : Int))), box bb1 #[.int .i64 0, .slice none 0 0] 35, box bb0 #[.slice a_fv n_fv c_fv, .slice a_fi fi.length c_fi, .slice a_fo fo.length c_fo] 29, imm (.slice a_fo fo.length c_fo) fo, imm (.slice a_fi fi.length c_fi) fi] := H27.pickN [1, 2, 3, 4, 5, 6] (by decide) rfl
        refine loopN _ ?_ ⟨(j + 1), (xs.set x0.toNat (setR x1 (j : Int))), rfl, s12, s13, s14, s15, (ieq rfl (by first | rfl | omega | (push_cast; omega))), H28, (by first | assumption | omega | simp | (simp; omega)), (by first | assumption | simpa using hl), (by first | exact rf_put hs hx0 (by omega) (by omega) (by omega) hx1 | exact rf_put hs hx0 (by omega) (by omega) (by omega) hx2 | exact rf_put hs hx0 (by omega) (by omega) (by omega) hx3 | exact rf_put hs hx0 (by omega) (by omega) (by omega) hx4 | exact rf_put hs hx0 (by omega) (by omega) (by omega) hx5 | (rw [hs]; exact rf_no hx0 (by omega)))⟩
        omega
    ·
      have p1 := of_decide_eq_false b1
      refine sk (inb_normal (nx (rg (k (add rfl rfl s4 rfl (by unfold I64 at *; omega) (k (mv (v := .int .i64 ((j : Int) + 1)) rfl rfl (z ?_))))))))
      refine loopN _ ?_ ⟨(j + 1), xs, rfl, s0, s1, s2, s3, (ieq rfl (by first | rfl | omega | (push_cast; omega))), H7, (by first | assumption | omega | simp | (simp; omega)), (by first | assumption | simpa using hl), (by first | exact rf_put hs hx0 (by omega) (by omega) (by omega) hx1 | exact rf_put hs hx0 (by omega) (by omega) (by omega) hx2 | exact rf_put hs hx0 (by omega) (by omega) (by omega) hx3 | exact rf_put hs hx0 (by omega) (by omega) (by omega) hx4 | exact rf_put hs hx0 (by omega) (by omega) (by omega) hx5 | (rw [hs]; exact rf_no hx0 (by omega)))⟩
      omega
  ·
    have p0 := of_decide_eq_false b0
    refine ex (then_exit (loop_exit (inb_here (nx (sq (rg (k (ldX H7 0 rfl ty35 rfl s1 (by decide) rfl (k (stX H7 2 rfl ty35 rfl rfl s0 rfl rfl rfl rfl ?_))))))))))
    intro w6 (H8 : HI M w w6 [box bb2 #[.int .i64 (newMN (fi.length : Int)), .slice a0 (newMR (fi.length : Int)).length c0] 35, own w.heap.size 60 (.slice a0 (newMR (fi.length : Int)).length c0) xs, box bb1 #[.int .i64 (newMN (fi.length : Int)), .slice a0 (newMR (fi.length : Int)).length c0] 35, box bb0 #[.slice a_fv n_fv c_fv, .slice a_fi fi.length c_fi, .slice a_fo fo.length c_fo] 29, imm (.slice a_fo fo.length c_fo) fo, imm (.slice a_fi fi.length c_fi) fi])
    refine z (nx (rt (rc1 H8 2 rfl ty35 rfl rfl s0 rfl (by decide) ?_)))
    have e0 : (newMN (fi.length : Int) : Int) = (fi.length : Int) := by rw [en]
    have e1 : (xs : List (List (BitVec 64))) = rfR fi fo := by rw [hs]; exact rf_end hfo (by omega)
    have l1 : (newMR (fi.length : Int)).length = (rfR fi fo).length := by first | (rw [← e1]; omega) | (rw [er, newM_length, rfR_len]; simp)
    have ev_ := cg2 (fun (x_0 : Int) (n_1 : Nat) => (.agg #[.int .i64 x_0, .slice a0 n_1 c0] : Value)) e0 l1
    exact ⟨a0, c0, ev_, H8.below, (congrArg (fun (n_ : Nat) => OwnsG _ _ _ (rfR fi fo) (.slice a0 n_ c0) _) l1).mp ((congrArg (fun (x_ : List (List (BitVec 64))) => OwnsG _ _ _ x_ (.slice a0 (newMR (fi.length : Int)).length c0) _) e1).mp (H8.ownsG_out 1 rfl))⟩
/- eyewitness/eyewitnessref13.Rf -/
set_option maxRecDepth 100000 in
set_option maxHeartbeats 1600000 in
theorem ref13_Rf {M : Nat → Prop} {w : World} {a_fv : Option Addr} {n_fv c_fv : Nat} {a_fi : Option Addr} {c_fi : Nat} {fi : List (Int × Int × Bool × Int × Int)} {a_fo : Option Addr} {c_fo : Nat} {fo : List Int} (hM : ∀ b, M b → b < w.heap.size) (h_fi : RV M w (.slice a_fi fi.length c_fi) fi) (h_fo : RV M w (.slice a_fo fo.length c_fo) fo) (hn_fi : fi.length ≤ 4096) (hfo : fo.length = fi.length) (hfr : ∀ x ∈ fo, x < ((fi.length : Nat) : Int)) : Calls Try.prog 11 #[.agg #[.slice a_fv n_fv c_fv, .slice a_fi fi.length c_fi, .slice a_fo fo.length c_fo]] w (Ret fun v w' => ∃ (a0 : Option Addr) (c0 : Nat), v = .agg #[.int .i64 (fi.length : Int), .slice a0 (rfR fi fo).length c0] ∧ Ext w w' ∧ RV M w' (.slice a0 (rfR fi fo).length c0) (rfR fi fo)) := by
  refine enter 38 Try.func11 rfl rfl rfl fun f0 ha => ?_
  have H := HI.start (M0 := M) (w := w) hM
  have H0 := H.put (it := imm (.slice a_fi fi.length c_fi) fi) rfl (by rw [MS_nil]; exact h_fi)
  have H1 := H0.put (it := imm (.slice a_fo fo.length c_fo) fo) rfl (by rw [MS_cons_none rfl, MS_nil]; exact h_fo)
  have ln_fi := rv_len h_fi
  have ln_fo := rv_len h_fo
  have i0 : f0 0 = .agg #[.slice a_fv n_fv c_fv, .slice a_fi fi.length c_fi, .slice a_fo fo.length c_fo] := ha 0 (by simp)
  refine sq (rg (k (bx H1 rfl i0 ?_)))
  intro bb0 w0 xt0 (H2 : HI M w w0 [box bb0 #[.slice a_fv n_fv c_fv, .slice a_fi fi.length c_fi, .slice a_fo fo.length c_fo] 29, imm (.slice a_fo fo.length c_fo) fo, imm (.slice a_fi fi.length c_fi) fi])
  refine k (al H2 ty35 ?_)
  intro bb1 w1 xt1 (H3 : HI M w w1 [box bb1 #[.int .i64 0, .slice none 0 0] 35, box bb0 #[.slice a_fv n_fv c_fv, .slice a_fi fi.length c_fi, .slice a_fo fo.length c_fo] 29, imm (.slice a_fo fo.length c_fo) fo, imm (.slice a_fi fi.length c_fi) fi])
  refine z (nx (sq (rg (k (fa fl29_1 rfl rfl (k (ldX H3 1 rfl ty26 rfl rfl (by decide) rfl (k (lnS rfl rfl un26 (k ?_))))))))))
  have cc0 := ref03_New (n := (fi.length : Int)) (w := w1) H3.mb (by unfold I64 at *; omega)
  refine ca go31 rfl (ec rfl e0) cc0 ?_
  rintro _ w2 ⟨a0, c0, rfl, xt2, rv0⟩
  have H4 := H3.ownsG rv0
  refine k (mv (v := .tuple #[.agg #[.int .i64 (newMN (fi.length : Int)), .slice a0 (newMR (fi.length : Int)).length c0], .int .i64 (newME (fi.length : Int))]) rfl rfl (k (xt rfl rfl rfl (k (xt rfl rfl rfl (k (al H4 ty35 ?_)))))))
  intro bb2 w3 xt3 (H5 : HI M w w3 [box bb2 #[.int .i64 0, .slice none 0 0] 35, own w.heap.size 60 (.slice a0 (newMR (fi.length : Int)).length c0) (newMR (fi.length : Int)), box bb1 #[.int .i64 0, .slice none 0 0] 35, box bb0 #[.slice a_fv n_fv c_fv, .slice a_fi fi.length c_fi, .slice a_fo fo.length c_fo] 29, imm (.slice a_fo fo.length c_fo) fo, imm (.slice a_fi fi.length c_fi) fi])
  refine k (stX H5 0 rfl ty35 rfl rfl rfl rfl rfl rfl rfl ?_)
  intro w4 (H6 : HI M w w4 [box bb2 #[.int .i64 (newMN (fi.length : Int)), .slice a0 (newMR (fi.length : Int)).length c0] 35, own w.heap.size 60 (.slice a0 (newMR (fi.length : Int)).length c0) (newMR (fi.length : Int)), box bb1 #[.int .i64 0, .slice none 0 0] 35, box bb0 #[.slice a_fv n_fv c_fv, .slice a_fi fi.length c_fi, .slice a_fo fo.length c_fo] 29, imm (.slice a_fo fo.length c_fo) fo, imm (.slice a_fi fi.length c_fi) fi])
  refine k (asg (v := .int .i64 (newME (fi.length : Int))) rfl rfl (z (nx (sq (sq ?_)))))
  have hok_ : okN (fi.length : Int) = true := okN_iff.2 (by omega)
  obtain ⟨en, er, -⟩ := newM_yes hok_
  refine rg (k (asg (v := .int .i64 0) rfl rfl (z (nx (bk ?_)))))
  have H7 := H6.freeze 1 rfl
  have H8 := H7.put (it := imm (.slice a0 (newMR (fi.length : Int)).length c0) (newMR (fi.length : Int))) rfl (H7.rv 1 rfl)
  refine lp (fun m f w' => ∃ (j : Nat) (n_ : Int) (rs : List (List (BitVec 64))) (a1 : Option Addr) (c1 : Nat), m = fo.length - j ∧ f 1 = .pointer (some ⟨bb0, 0, none⟩) ∧ f 2 = .pointer (some ⟨bb1, 0, none⟩) ∧ f 3 = .pointer (some ⟨bb2, 0, none⟩) ∧ f 5 = .int .i64 (j : Int) ∧  HI M w w' [imm (.slice a1 rs.length c1) rs, box bb2 #[.int .i64 n_, .slice a1 rs.length c1] 35, imm (.slice a0 (newMR (fi.length : Int)).length c0) (newMR (fi.length : Int)), box bb1 #[.int .i64 0, .slice none 0 0] 35, box bb0 #[.slice a_fv n_fv c_fv, .slice a_fi fi.length c_fi, .slice a_fo fo.length c_fo] 29, imm (.slice a_fo fo.length c_fo) fo, imm (.slice a_fi fi.length c_fi) fi] ∧ (j ≤ fo.length) ∧ (n_ = (fi.length : Int)) ∧ (rs = rfTo fi.length fo j)) _ ⟨0, (newMN (fi.length : Int)), (newMR (fi.length : Int)), a0, c0, rfl, rfl, rfl, rfl, (ieq rfl (by first | rfl | omega | simp)), H8, (by first | assumption | omega | simp | (simp; omega)), (by exact en), (by rw [er]; exact rf_zero _ _)⟩ ?_
  rintro _ f0 w5 ⟨j, n_, rs, a1, c1, rfl, s0, s1, s2, s3, H9, hk, h1, h2⟩
  refine sq (sq (rg (k (mv rfl s3 (k (fa fl29_2 rfl s0 (k (ldX H9 4 rfl ty27 rfl rfl (by decide) rfl (k (lnS rfl rfl un27 (k (lss rfl rfl rfl rfl (z (nx ?_))))))))))))))
  refine cd (b := decide ((j : Int) < (fo.length : Int))) rfl rfl (fun b0 => ?_) (fun b0 => ?_)
  ·
    have p0 := of_decide_eq_true b0
    refine sk (nx (sq (bk (sq (rg (k (fa fl29_2 rfl s0 (k (ldX H9 4 rfl ty27 rfl rfl (by decide) rfl (k (mv rfl s3 (k (ia (H9.rv 5 rfl) rfl rfl rfl rfl (by first | omega | (simp; omega)) un27 ty3 ?_)))))))))))))
    intro ad0 x0 hx0 hA0
    refine k (ldI hA0.w ty3 rfl rfl ?_)
    intro rv1
    refine k (geq rfl rfl rfl rfl (z (nx ?_)))
    refine cd (b := decide (0 ≤ x0)) rfl rfl (fun b1 => ?_) (fun b1 => ?_)
    ·
      have p1 := of_decide_eq_true b1
      have hw_ := hfr _ (List.mem_of_getElem? hx0)
      obtain ⟨x1, hx1⟩ : ∃ x, fo[(j : Int).toNat]? = some x := ⟨_, List.getElem?_eq_getElem (by first | omega | (simp; omega))⟩
      refine dr3 9 [fun (v : Value) (w' : World) => v = .agg #[.int .i64 n_, .slice a1 rs.length c1], fun (v : Value) (w' : World) => v = .pointer (some ⟨bb0, 2, none⟩), fun (v : Value) (w' : World) => v = .slice a_fo fo.length c_fo, fun (v : Value) (w' : World) => v = .int .i64 (j : Int), fun (v : Value) (w' : World) => ∃ (ad1 : Addr), v = .pointer (some ad1) ∧ At (MS M [imm (.slice a1 rs.length c1) rs, box bb2 #[.int .i64 n_, .slice a1 rs.length c1] 35, imm (.slice a0 (newMR (fi.length : Int)).length c0) (newMR (fi.length : Int)), box bb1 #[.int .i64 0, .slice none 0 0] 35, box bb0 #[.slice a_fv n_fv c_fv, .slice a_fi fi.length c_fi, .slice a_fo fo.length c_fo] 29, imm (.slice a_fo fo.length c_fo) fo, imm (.slice a_fi fi.length c_fi) fi]) w' ad1 x1, fun (v : Value) (w' : World) => v = .int .i64 x1 ∧ I64 (x1), fun (v : Value) (w' : World) => v = .int .i64 (j : Int), fun (v : Value) (w' : World) => ∃ (a2 : Option Addr) (c2 : Nat), v = .tuple #[.agg #[.int .i64 (setMN n_ x1 (j : Int)), .slice a2 (setMR n_ rs x1 (j : Int)).length c2], .int .i64 (setME n_ x1 (j : Int))] ∧ RV (MS M [imm (.slice a1 rs.length c1) rs, box bb2 #[.int .i64 n_, .slice a1 rs.length c1] 35, imm (.slice a0 (newMR (fi.length : Int)).length c0) (newMR (fi.length : Int)), box bb1 #[.int .i64 0, .slice none 0 0] 35, box bb0 #[.slice a_fv n_fv c_fv, .slice a_fi fi.length c_fi, .slice a_fo fo.length c_fo] 29, imm (.slice a_fo fo.length c_fo) fo, imm (.slice a_fi fi.length c_fi) fi]) w' (.slice a2 (setMR n_ rs x1 (j : Int)).length c2) (setMR n_ rs x1 (j : Int)), fun (v : Value) (w' : World) => ∃ (a2 : Option Addr) (c2 : Nat), v = .tuple #[.agg #[.int .i64 (setMN n_ x1 (j : Int)), .slice a2 (setMR n_ rs x1 (j : Int)).length c2], .int .i64 (setME n_ x1 (j : Int))] ∧ RV (MS M [imm (.slice a1 rs.length c1) rs, box bb2 #[.int .i64 n_, .slice a1 rs.length c1] 35, imm (.slice a0 (newMR (fi.length : Int)).length c0) (newMR (fi.length : Int)), box bb1 #[.int .i64 0, .slice none 0 0] 35, box bb0 #[.slice a_fv n_fv c_fv, .slice a_fi fi.length c_fi, .slice a_fo fo.length c_fo] 29, imm (.slice a_fo fo.length c_fo) fo, imm (.slice a_fi fi.length c_fi) fi]) w' (.slice a2 (setMR n_ rs x1 (j : Int)).length c2) (setMR n_ rs x1 (j : Int))] rfl (by kernel_rfl) ?_ ?_
      ·
        refine ⟨fun _ => ⟨fun f1 w7 hf0 xt5 hp0 => ?_, fun _ _ _ _ h => h⟩, ?_⟩
        ·
          have H12 := H9.ext xt5
          refine ldX H12 1 rfl ty35 rfl ((hf0 3 rfl).trans s2) (by decide) rfl ?_
          exact ⟨_, rfl, Ext.refl _, rfl⟩
        refine ⟨fun _ => ⟨fun f2 w8 hf1 xt6 hp1 => ?_, fun _ _ _ _ h => h⟩, ?_⟩
        ·
          have H13 := H9.ext xt6
          refine fa fl29_2 rfl ((hf1 1 rfl).trans s0) ?_
          exact ⟨_, rfl, Ext.refl _, rfl⟩
        refine ⟨fun _ => ⟨fun f3 w9 hf2 xt7 hp2 => ?_, fun _ _ _ _ h => h⟩, ?_⟩
        ·
          have H14 := H9.ext xt7
          have s4 : f3 28 = .pointer (some ⟨bb0, 2, none⟩) := hp2 1 rfl rfl
          refine ldX H14 4 rfl ty27 rfl s4 (by decide) rfl ?_
          exact ⟨_, rfl, Ext.refl _, rfl⟩
        refine ⟨fun _ => ⟨fun f4 w10 hf3 xt8 hp3 => ?_, fun _ _ _ _ h => h⟩, ?_⟩
        ·
          have H15 := H9.ext xt8
          refine mv rfl ((hf3 5 rfl).trans s3) ?_
          exact ⟨_, rfl, Ext.refl _, rfl⟩
        refine ⟨fun _ => ⟨fun f5 w11 hf4 xt9 hp4 => ?_, by rintro _ _ _ x_ ⟨ad1, e_, hA1⟩; exact ⟨ad1, e_, hA1.lift (Up.ext x_)⟩⟩, ?_⟩
        ·
          have H16 := H9.ext xt9
          have s5 : f5 29 = .slice a_fo fo.length c_fo := hp4 2 rfl rfl
          have s6 : f5 30 = .int .i64 (j : Int) := hp4 3 rfl rfl
          refine ia (H16.rv 5 rfl) rfl rfl s5 s6 (by first | omega | (simp; omega)) un27 ty3 ?_
          intro ad2 x2 hx2 hA2
          obtain rfl : x1 = x2 := Option.some.inj (hx1.symm.trans hx2)
          exact ⟨_, rfl, Ext.refl _, ⟨ad2, rfl, hA2⟩⟩
        refine ⟨fun _ => ⟨fun f6 w12 hf5 xt10 hp5 => ?_, fun _ _ _ _ h => h⟩, ?_⟩
        ·
          have H17 := H9.ext xt10
          obtain ⟨ad3, s7, hA3⟩ : ∃ (ad3 : Addr), f6 31 = .pointer (some ad3) ∧ At (MS M [imm (.slice a1 rs.length c1) rs, box bb2 #[.int .i64 n_, .slice a1 rs.length c1] 35, imm (.slice a0 (newMR (fi.length : Int)).length c0) (newMR (fi.length : Int)), box bb1 #[.int .i64 0, .slice none 0 0] 35, box bb0 #[.slice a_fv n_fv c_fv, .slice a_fi fi.length c_fi, .slice a_fo fo.length c_fo] 29, imm (.slice a_fo fo.length c_fo) fo, imm (.slice a_fi fi.length c_fi) fi]) w12 ad3 x1 := hp5 4 rfl rfl
          have H18 := H17.put (it := atI ad3 x1) rfl hA3
          refine ldI (H18.atv 0 rfl).w ty3 rfl s7 ?_
          intro rv5
          exact ⟨_, rfl, Ext.refl _, ⟨rfl, rv5⟩⟩
        refine ⟨fun _ => ⟨fun f7 w13 hf6 xt11 hp6 => ?_, fun _ _ _ _ h => h⟩, ?_⟩
        ·
          have H19 := H9.ext xt11
          refine mv rfl ((hf6 5 rfl).trans s3) ?_
          exact ⟨_, rfl, Ext.refl _, rfl⟩
        refine ⟨fun _ => ⟨fun f8 w14 hf7 xt12 hp7 => ?_, by rintro _ _ _ x_ ⟨a2, c2, e_, rv4⟩; exact ⟨a2, c2, e_, rv4.lift (Up.ext x_)⟩⟩, ?_⟩
        ·
          have H20 := H9.ext xt12
          have s8 : f8 27 = .agg #[.int .i64 n_, .slice a1 rs.length c1] := hp7 0 rfl rfl
          obtain ⟨s9, rv6⟩ : f8 32 = .int .i64 x1 ∧ I64 (x1) := hp7 5 rfl rfl
          have s10 : f8 33 = .int .i64 (j : Int) := hp7 6 rfl rfl
          have cc2 := ref03_Set (mn := n_) (mr := rs) (i := x1) (j := (j : Int)) (w := w14) H20.mb (by rw [h1]; unfold I64; omega) (H20.rv 0 rfl) (by unfold I64 at *; omega) (by unfold I64 at *; omega) (by rw [h1, h2]; exact (rfTo_sq (by omega) _ _).1) (by rw [h2]; exact (rfTo_sq (by omega) _ _).2) (by omega)
          refine ca go21 rfl (ec s8 (ec s9 (ec s10 e0))) cc2 ?_
          rintro _ w15 ⟨a3, c3, rfl, xt13, rv7⟩
          have rv8 := OwnsG.rv rv7 H20.mb
          have H21 := H20.ext xt13
          have H22 := H21.put (it := imm (.slice a3 (setMR n_ rs x1 (j : Int)).length c3) (setMR n_ rs x1 (j : Int))) rfl rv8
          exact ⟨_, rfl, xt13, ⟨a3, c3, rfl, rv8⟩⟩
        refine ⟨fun _ => ⟨fun f9 w16 hf8 xt14 hp8 => ?_, by rintro _ _ _ x_ ⟨a2, c2, e_, rv4⟩; exact ⟨a2, c2, e_, rv4.lift (Up.ext x_)⟩⟩, ?_⟩
        ·
          have H23 := H9.ext xt14
          obtain ⟨a4, c4, s11, rv9⟩ : ∃ (a4 : Option Addr) (c4 : Nat), f9 34 = .tuple #[.agg #[.int .i64 (setMN n_ x1 (j : Int)), .slice a4 (setMR n_ rs x1 (j : Int)).length c4], .int .i64 (setME n_ x1 (j : Int))] ∧ RV (MS M [imm (.slice a1 rs.length c1) rs, box bb2 #[.int .i64 n_, .slice a1 rs.length c1] 35, imm (.slice a0 (newMR (fi.length : Int)).length c0) (newMR (fi.length : Int)), box bb1 #[.int .i64 0, .slice none 0 0] 35, box bb0 #[.slice a_fv n_fv c_fv, .slice a_fi fi.length c_fi, .slice a_fo fo.length c_fo] 29, imm (.slice a_fo fo.length c_fo) fo, imm (.slice a_fi fi.length c_fi) fi]) w16 (.slice a4 (setMR n_ rs x1 (j : Int)).length c4) (setMR n_ rs x1 (j : Int)) := hp8 7 rfl rfl
          have H24 := H23.put (it := imm (.slice a4 (setMR n_ rs x1 (j : Int)).length c4) (setMR n_ rs x1 (j : Int))) rfl rv9
          refine mv rfl s11 ?_
          exact ⟨_, rfl, Ext.refl _, ⟨a4, c4, rfl, rv9⟩⟩
        exact DSteps.rest rfl _
      · intro f10 w17 hf9 xt15 hp9
        have H25 := H9.ext xt15
        have s12 : f10 1 = .pointer (some ⟨bb0, 0, none⟩) := (hf9 1 rfl).trans s0
        have s13 : f10 2 = .pointer (some ⟨bb1, 0, none⟩) := (hf9 2 rfl).trans s1
        have s14 : f10 3 = .pointer (some ⟨bb2, 0, none⟩) := (hf9 3 rfl).trans s2
        have s15 : f10 5 = .int .i64 (j : Int) := (hf9 5 rfl).trans s3
        obtain ⟨a5, c5, s16, rv10⟩ : ∃ (a5 : Option Addr) (c5 : Nat), f10 26 = .tuple #[.agg #[.int .i64 (setMN n_ x1 (j : Int)), .slice a5 (setMR n_ rs x1 (j : Int)).length c5], .int .i64 (setME n_ x1 (j : Int))] ∧ RV (MS M [imm (.slice a1 rs.length c1) rs, box bb2 #[.int .i64 n_, .slice a1 rs.length c1] 35, imm (.slice a0 (newMR (fi.length : Int)).length c0) (newMR (fi.length : Int)), box bb1 #[.int .i64 0, .slice none 0 0] 35, box bb0 #[.slice a_fv n_fv c_fv, .slice a_fi fi.length c_fi, .slice a_fo fo.length c_fo] 29, imm (.slice a_fo fo.length c_fo) fo, imm (.slice a_fi fi.length c_fi) fi]) w17 (.slice a5 (setMR n_ rs x1 (j : Int)).length c5) (setMR n_ rs x1 (j : Int)) := hp9 8 rfl
        have H26 := H25.put (it := imm (.slice a5 (setMR n_ rs x1 (j : Int)).length c5) (setMR n_ rs x1 (j : Int))) rfl rv10
        show TA _ _ _ _ 3 [true, true, true, true, true, true, true, true, true, false, false, false] _ _
        refine ta [9, 10] (by kernel_rfl) rfl ⟨⟨_, rfl, ?_⟩, ⟨_, rfl, ?_⟩, trivial⟩
        ·
          refine xt rfl s16 rfl ?_
          refine ta [10, 11] (by kernel_rfl) rfl ⟨⟨_, rfl, ?_⟩, ⟨_, rfl, ?_⟩, trivial⟩
          ·
            refine xt rfl s16 rfl ?_
            refine ta [11] (by kernel_rfl) rfl ⟨⟨_, rfl, ?_⟩, trivial⟩
            ·
              refine stX H26 2 rfl ty35 rfl rfl s14 rfl rfl rfl rfl ?_
              intro w18 (H27 : HI M w w18 [imm (.slice a5 (setMR n_ rs x1 (j : Int)).length c5) (setMR n_ rs x1 (j : Int)), imm (.slice a1 rs.length c1) rs, box bb2 #[.int .i64 (setMN n_ x1 (j : Int)), .slice a5 (setMR n_ rs x1 (j : Int)).length c5] 35, imm (.slice a0 (newMR (fi.length : Int)).length c0) (newMR (fi.length : Int)), box bb1 #[.int .i64 0, .slice none 0 0] 35, box bb0 #[.slice a_fv n_fv c_fv, .slice a_fi fi.length c_fi, .slice a_fo fo.length c_fo] 29, imm (.slice a_fo fo.length c_fo) fo, imm (.slice a_fi fi.length c_fi) fi])
              refine ta0 (by kernel_rfl) (inb_normal (nx (rg (k (mv rfl s15 (k (add rfl rfl rfl rfl (by unfold I64 at *; omega) (k (asg (v := .int .i64 ((j : Int) + 1)) rfl rfl (z ?_))))))))))
              have H28 := H27.put (it := imm (.slice a5 (setMR n_ rs x1 (j : Int)).length c5) (setMR n_ rs x1 (j : Int))) rfl (H27.rv 0 rfl)
              have H29 : HI M w w18 [imm (.slice a5 (setMR n_ rs x1 (j : Int)).length c5) (setMR n_ rs x1 (j : Int)), box bb2 #[.int .i64 (setMN n_ x1 (j : Int)), .slice a5 (setMR n_ rs x1 (j : Int)).length c5] 35, imm (.slice a0 (newMR (fi.length : Int)).length c0) (newMR (fi.length : Int)), box bb1 #[.int .i64 0, .slice none 0 0] 35, box bb0 #[.slice a_fv n_fv c_fv, .slice a_fi fi.length c_fi, .slice a_fo fo.length c_fo] 29, imm (.slice a_fo fo.length c_fo) fo, imm (.slice a_fi fi.length c_fi) fi] := H28.pickN [0, 3, 4, 5, 6, 7, 8] (by decide) rfl
              refine loopN _ ?_ ⟨(j + 1), (setMN n_ x1 (j : Int)), (setMR n_ rs x1 (j : Int)), a5, c5, rfl, s12, s13, s14, (ieq rfl (by first | rfl | omega | (push_cast; omega))), H29, (by first | assumption | omega | simp | (simp; omega)), (by (try (have e_ := at_is hx1 hx0; subst e_)); (try (have e_ := at_is hx2 hx0; subst e_)); (try (have e_ := at_is hx3 hx0; subst e_)); (try (have e_ := at_is hx4 hx0; subst e_)); (try (have e_ := at_is hx5 hx0; subst e_)); (try (have e_ := at_is hx6 hx0; subst e_)); first | exact h1 | (rw [h1]; exact (rf_setMR (xs := rs) h2 hx0 (by omega) (by omega) (by omega)).1)), (by (try (have e_ := at_is hx1 hx0; subst e_)); (try (have e_ := at_is hx2 hx0; subst e_)); (try (have e_ := at_is hx3 hx0; subst e_)); (try (have e_ := at_is hx4 hx0; subst e_)); (try (have e_ := at_is hx5 hx0; subst e_)); (try (have e_ := at_is hx6 hx0; subst e_)); first | (rw [h1]; exact (rf_setMR h2 hx0 (by omega) (by omega) (by omega)).2) | (rw [h2]; exact rf_no hx0 (by omega)))⟩
              omega
          ·
            refine stX H26 2 rfl ty35 rfl rfl s14 rfl rfl rfl rfl ?_
            intro w18 (H27 : HI M w w18 [imm (.slice a5 (setMR n_ rs x1 (j : Int)).length c5) (setMR n_ rs x1 (j : Int)), imm (.slice a1 rs.length c1) rs, box bb2 #[.int .i64 (setMN n_ x1 (j : Int)), .slice a5 (setMR n_ rs x1 (j : Int)).length c5] 35, imm (.slice a0 (newMR (fi.length : Int)).length c0) (newMR (fi.length : Int)), box bb1 #[.int .i64 0, .slice none 0 0] 35, box bb0 #[.slice a_fv n_fv c_fv, .slice a_fi fi.length c_fi, .slice a_fo fo.length c_fo] 29, imm (.slice a_fo fo.length c_fo) fo, imm (.slice a_fi fi.length c_fi) fi])
            refine ta [10] (by kernel_rfl) rfl ⟨⟨_, rfl, ?_⟩, trivial⟩
            ·
              refine xt rfl s16 rfl (ta0 (by kernel_rfl) (inb_normal (nx (rg (k (mv rfl s15 (k (add rfl rfl rfl rfl (by unfold I64 at *; omega) (k (asg (v := .int .i64 ((j : Int) + 1)) rfl rfl (z ?_)))))))))))
              have H28 := H27.put (it := imm (.slice a5 (setMR n_ rs x1 (j : Int)).length c5) (setMR n_ rs x1 (j : Int))) rfl (H27.rv 0 rfl)
              have H29 : HI M w w18 [imm (.slice a5 (setMR n_ rs x1 (j : Int)).length c5) (setMR n_ rs x1 (j : Int)), box bb2 #[.int .i64 (setMN n_ x1 (j : Int)), .slice a5 (setMR n_ rs x1 (j : Int)).length c5] 35, imm (.slice a0 (newMR (fi.length : Int)).length c0) (newMR (fi.length : Int)), box bb1 #[.int .i64 0, .slice none 0 0] 35, box bb0 #[.slice a_fv n_fv c_fv, .slice a_fi fi.length c_fi, .slice a_fo fo.length c_fo] 29, imm (.slice a_fo fo.length c_fo) fo, imm (.slice a_fi fi.length c_fi) fi] := H28.pickN [0, 3, 4, 5, 6, 7, 8] (by decide) rfl
              refine loopN _ ?_ ⟨(j + 1), (setMN n_ x1 (j : Int)), (setMR n_ rs x1 (j : Int)), a5, c5, rfl, s12, s13, s14, (ieq rfl (by first | rfl | omega | (push_cast; omega))), H29, (by first | assumption | omega | simp | (simp; omega)), (by (try (have e_ := at_is hx1 hx0; subst e_)); (try (have e_ := at_is hx2 hx0; subst e_)); (try (have e_ := at_is hx3 hx0; subst e_)); (try (have e_ := at_is hx4 hx0; subst e_)); (try (have e_ := at_is hx5 hx0; subst e_)); (try (have e_ := at_is hx6 hx0; subst e_)); first | exact h1 | (rw [h1]; exact (rf_setMR (xs := rs) h2 hx0 (by omega) (by omega) (by omega)).1)), (by (try (have e_ := at_is hx1 hx0; subst e_)); (try (have e_ := at_is hx2 hx0; subst e_)); (try (have e_ := at_is hx3 hx0; subst e_)); (try (have e_ := at_is hx4 hx0; subst e_)); (try (have e_ := at_is hx5 hx0; subst e_)); (try (have e_ := at_is hx6 hx0; subst e_)); first | (rw [h1]; exact (rf_setMR h2 hx0 (by omega) (by omega) (by omega)).2) | (rw [h2]; exact rf_no hx0 (by omega)))⟩
              omega
        ·
          refine xt rfl s16 rfl ?_
          refine ta [9] (by kernel_rfl) rfl ⟨⟨_, rfl, ?_⟩, trivial⟩
          ·
            refine xt rfl s16 rfl ?_
            refine ta [11] (by kernel_rfl) rfl ⟨⟨_, rfl, ?_⟩, trivial⟩
            ·
              refine stX H26 2 rfl ty35 rfl rfl s14 rfl rfl rfl rfl ?_
              intro w18 (H27 : HI M w w18 [imm (.slice a5 (setMR n_ rs x1 (j : Int)).length c5) (setMR n_ rs x1 (j : Int)), imm (.slice a1 rs.length c1) rs, box bb2 #[.int .i64 (setMN n_ x1 (j : Int)), .slice a5 (setMR n_ rs x1 (j : Int)).length c5] 35, imm (.slice a0 (newMR (fi.length : Int)).length c0) (newMR (fi.length : Int)), box bb1 #[.int .i64 0, .slice none 0 0] 35, box bb0 #[.slice a_fv n_fv c_fv, .slice a_fi fi.length c_fi, .slice a_fo fo.length c_fo] 29, imm (.slice a_fo fo.length c_fo) fo, imm (.slice a_fi fi.length c_fi) fi])
              refine ta0 (by kernel_rfl) (inb_normal (nx (rg (k (mv rfl s15 (k (add rfl rfl rfl rfl (by unfold I64 at *; omega) (k (asg (v := .int .i64 ((j : Int) + 1)) rfl rfl (z ?_))))))))))
              have H28 := H27.put (it := imm (.slice a5 (setMR n_ rs x1 (j : Int)).length c5) (setMR n_ rs x1 (j : Int))) rfl (H27.rv 0 rfl)
              have H29 : HI M w w18 [imm (.slice a5 (setMR n_ rs x1 (j : Int)).length c5) (setMR n_ rs x1 (j : Int)), box bb2 #[.int .i64 (setMN n_ x1 (j : Int)), .slice a5 (setMR n_ rs x1 (j : Int)).length c5] 35, imm (.slice a0 (newMR (fi.length : Int)).length c0) (newMR (fi.length : Int)), box bb1 #[.int .i64 0, .slice none 0 0] 35, box bb0 #[.slice a_fv n_fv c_fv, .slice a_fi fi.length c_fi, .slice a_fo fo.length c_fo] 29, imm (.slice a_fo fo.length c_fo) fo, imm (.slice a_fi fi.length c_fi) fi] := H28.pickN [0, 3, 4, 5, 6, 7, 8] (by decide) rfl
              refine loopN _ ?_ ⟨(j + 1), (setMN n_ x1 (j : Int)), (setMR n_ rs x1 (j : Int)), a5, c5, rfl, s12, s13, s14, (ieq rfl (by first | rfl | omega | (push_cast; omega))), H29, (by first | assumption | omega | simp | (simp; omega)), (by (try (have e_ := at_is hx1 hx0; subst e_)); (try (have e_ := at_is hx2 hx0; subst e_)); (try (have e_ := at_is hx3 hx0; subst e_)); (try (have e_ := at_is hx4 hx0; subst e_)); (try (have e_ := at_is hx5 hx0; subst e_)); (try (have e_ := at_is hx6 hx0; subst e_)); first | exact h1 | (rw [h1]; exact (rf_setMR (xs := rs) h2 hx0 (by omega) (by omega) (by omega)).1)), (by (try (have e_ := at_is hx1 hx0; subst e_)); (try (have e_ := at_is hx2 hx0; subst e_)); (try (have e_ := at_is hx3 hx0; subst e_)); (try (have e_ := at_is hx4 hx0; subst e_)); (try (have e_ := at_is hx5 hx0; subst e_)); (try (have e_ := at_is hx6 hx0; subst e_)); first | (rw [h1]; exact (rf_setMR h2 hx0 (by omega) (by omega) (by omega)).2) | (rw [h2]; exact rf_no hx0 (by omega)))⟩
              omega
    ·
      have p1 := of_decide_eq_false b1
      refine sk (inb_normal (nx (rg (k (mv rfl s3 (k (add rfl rfl rfl rfl (by unfold I64 at *; omega) (k (asg (v := .int .i64 ((j : Int) + 1)) rfl rfl (z ?_))))))))))
      have H10 := H9.put (it := imm (.slice a1 rs.length c1) rs) rfl (H9.rv 0 rfl)
      have H11 : HI M w w5 [imm (.slice a1 rs.length c1) rs, box bb2 #[.int .i64 n_, .slice a1 rs.length c1] 35, imm (.slice a0 (newMR (fi.length : Int)).length c0) (newMR (fi.length : Int)), box bb1 #[.int .i64 0, .slice none 0 0] 35, box bb0 #[.slice a_fv n_fv c_fv, .slice a_fi fi.length c_fi, .slice a_fo fo.length c_fo] 29, imm (.slice a_fo fo.length c_fo) fo, imm (.slice a_fi fi.length c_fi) fi] := H10.pickN [0, 2, 3, 4, 5, 6, 7] (by decide) rfl
      refine loopN _ ?_ ⟨(j + 1), n_, rs, a1, c1, rfl, s0, s1, s2, (ieq rfl (by first | rfl | omega | (push_cast; omega))), H11, (by first | assumption | omega | simp | (simp; omega)), (by (try (have e_ := at_is hx1 hx0; subst e_)); (try (have e_ := at_is hx2 hx0; subst e_)); (try (have e_ := at_is hx3 hx0; subst e_)); (try (have e_ := at_is hx4 hx0; subst e_)); (try (have e_ := at_is hx5 hx0; subst e_)); (try (have e_ := at_is hx6 hx0; subst e_)); first | exact h1 | (rw [h1]; exact (rf_setMR (xs := rs) h2 hx0 (by omega) (by omega) (by omega)).1)), (by (try (have e_ := at_is hx1 hx0; subst e_)); (try (have e_ := at_is hx2 hx0; subst e_)); (try (have e_ := at_is hx3 hx0; subst e_)); (try (have e_ := at_is hx4 hx0; subst e_)); (try (have e_ := at_is hx5 hx0; subst e_)); (try (have e_ := at_is hx6 hx0; subst e_)); first | (rw [h1]; exact (rf_setMR h2 hx0 (by omega) (by omega) (by omega)).2) | (rw [h2]; exact rf_no hx0 (by omega)))⟩
      omega
  ·
    have p0 := of_decide_eq_false b0
    refine ex (then_exit (loop_exit (inb_here (nx (sq (rg (k (ldX H9 1 rfl ty35 rfl s2 (by decide) rfl (k (stX H9 3 rfl ty35 rfl rfl s1 rfl rfl rfl rfl ?_))))))))))
    intro w6 (H10 : HI M w w6 [imm (.slice a1 rs.length c1) rs, box bb2 #[.int .i64 n_, .slice a1 rs.length c1] 35, imm (.slice a0 (newMR (fi.length : Int)).length c0) (newMR (fi.length : Int)), box bb1 #[.int .i64 n_, .slice a1 rs.length c1] 35, box bb0 #[.slice a_fv n_fv c_fv, .slice a_fi fi.length c_fi, .slice a_fo fo.length c_fo] 29, imm (.slice a_fo fo.length c_fo) fo, imm (.slice a_fi fi.length c_fi) fi])
    refine z (nx (rt (rc1 H10 3 rfl ty35 rfl rfl s1 rfl (by decide) ?_)))
    have e0 : (n_ : Int) = (fi.length : Int) := by exact h1
    have e1 : (rs : List (List (BitVec 64))) = rfR fi fo := by rw [h2]; exact rf_end hfo (by omega)
    have ev_ := cg2 (fun (x_0 : Int) (x_1 : List (List (BitVec 64))) => (.agg #[.int .i64 x_0, .slice a1 x_1.length c1] : Value)) e0 e1
    exact ⟨a1, c1, ev_, H10.below, (congrArg (fun (x_ : List (List (BitVec 64))) => RV _ _ (.slice a1 x_.length c1) x_) e1).mp (H10.gives_out 0 rfl)⟩
/- eyewitness/cause.Edges -/
set_option maxRecDepth 100000 in
set_option maxHeartbeats 1600000 in
theorem cause_Edges {M : Nat → Prop} {w : World} {a_fv : Option Addr} {n_fv c_fv : Nat} {a_fi : Option Addr} {c_fi : Nat} {fi : List (Int × Int × Bool × Int × Int)} {a_fo : Option Addr} {c_fo : Nat} {fo : List Int} (hM : ∀ b, M b → b < w.heap.size) (h_fi : RV M w (.slice a_fi fi.length c_fi) fi) (h_fo : RV M w (.slice a_fo fo.length c_fo) fo) (ho : OrdI fi) (hn_fi : fi.length ≤ 4096) (hfo : fo.length = fi.length) (hfr : ∀ x ∈ fo, x < ((fi.length : Nat) : Int)) : Calls Try.prog 12 #[.agg #[.slice a_fv n_fv c_fv, .slice a_fi fi.length c_fi, .slice a_fo fo.length c_fo]] w (Ret fun v w' => ∃ (a0 : Option Addr) (c0 : Nat), v = .agg #[.int .i64 (fi.length : Int), .slice a0 (edR fi fo).length c0] ∧ Ext w w' ∧ RV M w' (.slice a0 (edR fi fo).length c0) (edR fi fo)) := by
  refine enter 14 Try.func12 rfl rfl rfl fun f0 ha => ?_
  have H := HI.start (M0 := M) (w := w) hM
  have H0 := H.put (it := imm (.slice a_fi fi.length c_fi) fi) rfl (by rw [MS_nil]; exact h_fi)
  have H1 := H0.put (it := imm (.slice a_fo fo.length c_fo) fo) rfl (by rw [MS_cons_none rfl, MS_nil]; exact h_fo)
  have ln_fi := rv_len h_fi
  have ln_fo := rv_len h_fo
  have i0 : f0 0 = .agg #[.slice a_fv n_fv c_fv, .slice a_fi fi.length c_fi, .slice a_fo fo.length c_fo] := ha 0 (by simp)
  refine sq (rg (k (bx H1 rfl i0 ?_)))
  intro bb0 w0 xt0 (H2 : HI M w w0 [box bb0 #[.slice a_fv n_fv c_fv, .slice a_fi fi.length c_fi, .slice a_fo fo.length c_fo] 29, imm (.slice a_fo fo.length c_fo) fo, imm (.slice a_fi fi.length c_fi) fi])
  refine k (al H2 ty35 ?_)
  intro bb1 w1 xt1 (H3 : HI M w w1 [box bb1 #[.int .i64 0, .slice none 0 0] 35, box bb0 #[.slice a_fv n_fv c_fv, .slice a_fi fi.length c_fi, .slice a_fo fo.length c_fo] 29, imm (.slice a_fo fo.length c_fo) fo, imm (.slice a_fi fi.length c_fi) fi])
  refine z (nx (sq ?_))
  refine drn [.v, .v, .v, .v, .v, .v, .v, .v, .n, .s 8 6, .v] [fun (N : Nat → Prop) (v : Value) (w' : World) => v = .agg #[.slice a_fv n_fv c_fv, .slice a_fi fi.length c_fi, .slice a_fo fo.length c_fo], fun (N : Nat → Prop) (v : Value) (w' : World) => ∃ (a0 : Option Addr) (c0 : Nat), v = .agg #[.int .i64 (fi.length : Int), .slice a0 (poR fi).length c0] ∧ RV (MN (MS M [box bb1 #[.int .i64 0, .slice none 0 0] 35, box bb0 #[.slice a_fv n_fv c_fv, .slice a_fi fi.length c_fi, .slice a_fo fo.length c_fo] 29, imm (.slice a_fo fo.length c_fo) fo, imm (.slice a_fi fi.length c_fi) fi]) N) w' (.slice a0 (poR fi).length c0) (poR fi), fun (N : Nat → Prop) (v : Value) (w' : World) => v = .agg #[.slice a_fv n_fv c_fv, .slice a_fi fi.length c_fi, .slice a_fo fo.length c_fo], fun (N : Nat → Prop) (v : Value) (w' : World) => ∃ (a1 : Option Addr) (c1 : Nat), v = .agg #[.int .i64 (fi.length : Int), .slice a1 (rfR fi fo).length c1] ∧ RV (MN (MS M [box bb1 #[.int .i64 0, .slice none 0 0] 35, box bb0 #[.slice a_fv n_fv c_fv, .slice a_fi fi.length c_fi, .slice a_fo fo.length c_fo] 29, imm (.slice a_fo fo.length c_fo) fo, imm (.slice a_fi fi.length c_fi) fi]) N) w' (.slice a1 (rfR fi fo).length c1) (rfR fi fo), fun (N : Nat → Prop) (v : Value) (w' : World) => ∃ (a2 : Option Addr) (c2 : Nat), v = .tuple #[.agg #[.int .i64 (orMN (fi.length : Int) (fi.length : Int)), .slice a2 (orMR (fi.length : Int) (poR fi) (fi.length : Int) (rfR fi fo)).length c2], .int .i64 (orME (fi.length : Int) (fi.length : Int))] ∧ RV (MN (MS M [box bb1 #[.int .i64 0, .slice none 0 0] 35, box bb0 #[.slice a_fv n_fv c_fv, .slice a_fi fi.length c_fi, .slice a_fo fo.length c_fo] 29, imm (.slice a_fo fo.length c_fo) fo, imm (.slice a_fi fi.length c_fi) fi]) N) w' (.slice a2 (orMR (fi.length : Int) (poR fi) (fi.length : Int) (rfR fi fo)).length c2) (orMR (fi.length : Int) (poR fi) (fi.length : Int) (rfR fi fo)), fun (N : Nat → Prop) (v : Value) (w' : World) => ∃ (a2 : Option Addr) (c2 : Nat), v = .tuple #[.agg #[.int .i64 (orMN (fi.length : Int) (fi.length : Int)), .slice a2 (orMR (fi.length : Int) (poR fi) (fi.length : Int) (rfR fi fo)).length c2], .int .i64 (orME (fi.length : Int) (fi.length : Int))] ∧ RV (MN (MS M [box bb1 #[.int .i64 0, .slice none 0 0] 35, box bb0 #[.slice a_fv n_fv c_fv, .slice a_fi fi.length c_fi, .slice a_fo fo.length c_fo] 29, imm (.slice a_fo fo.length c_fo) fo, imm (.slice a_fi fi.length c_fi) fi]) N) w' (.slice a2 (orMR (fi.length : Int) (poR fi) (fi.length : Int) (rfR fi fo)).length c2) (orMR (fi.length : Int) (poR fi) (fi.length : Int) (rfR fi fo)), fun (N : Nat → Prop) (v : Value) (w' : World) => ∃ (a2 : Option Addr) (c2 : Nat), v = .agg #[.int .i64 (orMN (fi.length : Int) (fi.length : Int)), .slice a2 (orMR (fi.length : Int) (poR fi) (fi.length : Int) (rfR fi fo)).length c2] ∧ RV (MN (MS M [box bb1 #[.int .i64 0, .slice none 0 0] 35, box bb0 #[.slice a_fv n_fv c_fv, .slice a_fi fi.length c_fi, .slice a_fo fo.length c_fo] 29, imm (.slice a_fo fo.length c_fo) fo, imm (.slice a_fi fi.length c_fi) fi]) N) w' (.slice a2 (orMR (fi.length : Int) (poR fi) (fi.length : Int) (rfR fi fo)).length c2) (orMR (fi.length : Int) (poR fi) (fi.length : Int) (rfR fi fo)), fun (N : Nat → Prop) (v : Value) (w' : World) => v = .int .i64 (orME (fi.length : Int) (fi.length : Int)), fun _ _ _ => True, fun _ _ _ => True, fun (N : Nat → Prop) (v : Value) (w' : World) => v = .int .i64 (orME (fi.length : Int) (fi.length : Int))] [(#[], 0), (#[], 0), (#[], 0), (#[], 0), (#[], 0), (#[], 0), (#[], 0), (#[], 0), (#[.int .i64 0, .slice none 0 0], 35), (#[], 0), (#[], 0)] rfl (by kernel_rfl) ?_ ?_
  ·
    refine ⟨⟨fun _ _ _ _ _ _ h => h, rfl, fun f0 w6 N0 hf0 xt6 hN0 hp0 => ?_⟩, ?_⟩
    ·
      refine ldX (H3.ext xt6) 1 rfl ty29 rfl (hf0 1 rfl) (by decide) rfl ?_
      exact ⟨_, rfl, Ext.refl _, rfl⟩
    refine ⟨⟨by rintro _ _ _ _ _ k_ ⟨a0, c0, e_, rv3⟩; exact ⟨a0, c0, e_, rvn_keep rv3 k_⟩, rfl, fun f1 w7 N1 hf1 xt7 hN1 hp1 => ?_⟩, ?_⟩
    ·
      have hq0 := hp1 0 rfl ⟨_, rfl, rfl⟩
      have s0 : f1 6 = .agg #[.slice a_fv n_fv c_fv, .slice a_fi fi.length c_fi, .slice a_fo fo.length c_fo] := hq0
      have cc3 := session_Po (fi := fi) (a_fv := a_fv) (n_fv := n_fv) (c_fv := c_fv) (a_fo := a_fo) (n_fo := fo.length) (c_fo := c_fo) (w := w7) (mn_below H3.mb xt7 hN1) (rvn_old (H3.rv 3 rfl) xt7 hN1) (by exact ho) (by first | exact hn_fi | omega)
      refine ca go33 rfl (ec s0 e0) cc3 ?_
      rintro _ w8 ⟨a3, c3, rfl, xt8, rv6⟩
      exact ⟨_, rfl, xt8, ⟨a3, c3, rfl, (OwnsG.rv rv6 (mn_below H3.mb xt7 hN1))⟩⟩
    refine ⟨⟨fun _ _ _ _ _ _ h => h, rfl, fun f2 w9 N2 hf2 xt9 hN2 hp2 => ?_⟩, ?_⟩
    ·
      refine ldX (H3.ext xt9) 1 rfl ty29 rfl (hf2 1 rfl) (by decide) rfl ?_
      exact ⟨_, rfl, Ext.refl _, rfl⟩
    refine ⟨⟨by rintro _ _ _ _ _ k_ ⟨a1, c1, e_, rv4⟩; exact ⟨a1, c1, e_, rvn_keep rv4 k_⟩, rfl, fun f3 w10 N3 hf3 xt10 hN3 hp3 => ?_⟩, ?_⟩
    ·
      have hq1 := hp3 2 rfl ⟨_, rfl, rfl⟩
      have s1 : f3 8 = .agg #[.slice a_fv n_fv c_fv, .slice a_fi fi.length c_fi, .slice a_fo fo.length c_fo] := hq1
      have cc4 := cause_Rf (fi := fi) (fo := fo) (a_fv := a_fv) (n_fv := n_fv) (c_fv := c_fv) (w := w10) (mn_below H3.mb xt10 hN3) (rvn_old (H3.rv 3 rfl) xt10 hN3) (rvn_old (H3.rv 2 rfl) xt10 hN3) (by first | exact hn_fi | omega) (by exact hfo) (by exact hfr)
      refine ca go10 rfl (ec s1 e0) cc4 ?_
      rintro _ w11 ⟨a4, c4, rfl, xt11, rv7⟩
      exact ⟨_, rfl, xt11, ⟨a4, c4, rfl, (OwnsG.rv rv7 (mn_below H3.mb xt10 hN3))⟩⟩
    refine ⟨⟨by rintro _ _ _ _ _ k_ ⟨a2, c2, e_, rv5⟩; exact ⟨a2, c2, e_, rvn_keep rv5 k_⟩, rfl, fun f4 w12 N4 hf4 xt12 hN4 hp4 => ?_⟩, ?_⟩
    ·
      have hq2 := hp4 1 rfl ⟨_, rfl, rfl⟩
      obtain ⟨a0, c0, s2, rv3⟩ := hq2
      have hq3 := hp4 3 rfl ⟨_, rfl, rfl⟩
      obtain ⟨a1, c1, s3, rv4⟩ := hq3
      have cc5 := mat_Or (an := (fi.length : Int)) (ar := (poR fi)) (bn := (fi.length : Int)) (br := (rfR fi fo)) (w := w12) (mn_below H3.mb xt12 hN4) (by unfold I64 at *; omega) rv3 (by unfold I64 at *; omega) rv4 (by exact (mat_sq (by omega) _).1) (by exact (mat_sq (by omega) _).2) (by omega) (by exact (mat_sq (by omega) _).1) (by exact (mat_sq (by omega) _).2) (by omega)
      refine ca go32 rfl (ec s2 (ec s3 e0)) cc5 ?_
      rintro _ w13 ⟨a5, c5, rfl, xt13, rv8⟩
      exact ⟨_, rfl, xt13, ⟨a5, c5, rfl, (OwnsG.rv rv8 (mn_below H3.mb xt12 hN4))⟩⟩
    refine ⟨⟨by rintro _ _ _ _ _ k_ ⟨a2, c2, e_, rv5⟩; exact ⟨a2, c2, e_, rvn_keep rv5 k_⟩, rfl, fun f5 w14 N5 hf5 xt14 hN5 hp5 => ?_⟩, ?_⟩
    ·
      have hq4 := hp5 4 rfl ⟨_, rfl, rfl⟩
      obtain ⟨a2, c2, s4, rv5⟩ := hq4
      refine mv rfl s4 ?_
      exact ⟨_, rfl, Ext.refl _, ⟨a2, c2, rfl, rv5⟩⟩
    refine ⟨⟨by rintro _ _ _ _ _ k_ ⟨a2, c2, e_, rv5⟩; exact ⟨a2, c2, e_, rvn_keep rv5 k_⟩, rfl, fun f6 w15 N6 hf6 xt15 hN6 hp6 => ?_⟩, ?_⟩
    ·
      have hq5 := hp6 5 rfl ⟨_, rfl, rfl⟩
      obtain ⟨a2, c2, s5, rv5⟩ := hq5
      refine xt rfl s5 rfl ?_
      exact ⟨_, rfl, Ext.refl _, ⟨a2, c2, rfl, rv5⟩⟩
    refine ⟨⟨fun _ _ _ _ _ _ h => h, rfl, fun f7 w16 N7 hf7 xt16 hN7 hp7 => ?_⟩, ?_⟩
    ·
      have hq6 := hp7 5 rfl ⟨_, rfl, rfl⟩
      obtain ⟨a2, c2, s6, rv5⟩ := hq6
      refine xt rfl s6 rfl ?_
      exact ⟨_, rfl, Ext.refl _, rfl⟩
    refine ⟨⟨fun _ _ _ _ _ _ h => h, rfl, fun _ _ _ => trivial, fun f8 w17 N8 hf8 xt17 hN8 hp8 => ?_⟩, ?_⟩
    ·
      refine alS ty35 ?_
      exact ⟨rfl, rfl⟩
    refine ⟨⟨fun _ _ _ _ _ _ h => h, rfl, rfl, rfl, ⟨_, rfl, rfl⟩, ⟨_, rfl, rfl⟩, by decide, trivial, by rintro _ _ _ ⟨a2, c2, e_, rv5⟩; subst e_; rfl, fun f9 w18 N_ bb3 cur0 xt18 s7 hb0 hc0 hv0 => ?_⟩, ?_⟩
    ·
      obtain ⟨a2, c2, e_, rv5⟩ := hv0
      exact stS ty35 rfl rfl s7 rfl hb0 ((congrArg (fun v => v.cells.size) e_).trans rfl) hc0 ((congrArg (fun v => v.cells.toList.all Value.oneCell') e_).trans rfl)
    refine ⟨⟨fun _ _ _ _ _ _ h => h, rfl, fun f10 w19 N9 hf9 xt19 hN9 hp9 => ?_⟩, ?_⟩
    ·
      have hq7 := hp9 7 rfl ⟨_, rfl, rfl⟩
      have s8 : f10 12 = .int .i64 (orME (fi.length : Int) (fi.length : Int)) := hq7
      refine asg rfl s8 ?_
      exact ⟨_, rfl, Ext.refl _, rfl⟩
    exact trivial
  · intro f11 w20 I0 hf10 xt20 hp10 hN10 hd0
    have s9 : f11 2 = .pointer (some ⟨bb1, 0, none⟩) := hf10 2 rfl
    obtain ⟨a6, c6, s10, rv9⟩ := (hp10 6 _ rfl rfl)
    obtain ⟨s11, hg0, -, cur1, hc1, hk0⟩ := hN10 8 (by decide) trivial
    have hq8 : cur1 = #[.int .i64 (orMN (fi.length : Int) (fi.length : Int)), .slice a6 (orMR (fi.length : Int) (poR fi) (fi.length : Int) (rfR fi fo)).length c6] := (hk0.2.1 9 6 rfl rfl).trans (congrArg Value.cells s10)
    rw [hq8] at hc1
    have hz8_ := hg0
    have H5 : HI M w w20 [box (I0 8) #[.int .i64 (orMN (fi.length : Int) (fi.length : Int)), .slice a6 (orMR (fi.length : Int) (poR fi) (fi.length : Int) (rfR fi fo)).length c6] 35, box bb1 #[.int .i64 0, .slice none 0 0] 35, box bb0 #[.slice a_fv n_fv c_fv, .slice a_fi fi.length c_fi, .slice a_fo fo.length c_fo] 29, imm (.slice a_fo fo.length c_fo) fo, imm (.slice a_fi fi.length c_fi) fi] := H3.lays xt20 [((I0 8), #[.int .i64 (orMN (fi.length : Int) (fi.length : Int)), .slice a6 (orMR (fi.length : Int) (poR fi) (fi.length : Int) (rfR fi fo)).length c6], 35)] (by intro q_ hq_; simp only [List.mem_cons, List.not_mem_nil, or_false] at hq_; rcases hq_ with rfl <;> first | exact ⟨hz8_, hc1⟩) (by simp only [List.map_cons, List.map_nil, List.nodup_cons, List.mem_cons, List.not_mem_nil, or_false, List.nodup_nil, and_true, not_or, not_false_eq_true, true_and] <;> omega)
    have H6 := H5.put (it := imm (.slice a6 (orMR (fi.length : Int) (poR fi) (fi.length : Int) (rfR fi fo)).length c6) (orMR (fi.length : Int) (poR fi) (fi.length : Int) (rfR fi fo))) rfl (rvn_out [((I0 8), #[.int .i64 (orMN (fi.length : Int) (fi.length : Int)), .slice a6 (orMR (fi.length : Int) (poR fi) (fi.length : Int) (rfR fi fo)).length c6], 35)] rv9 (by intro q_ hq_; simp only [List.mem_cons, List.not_mem_nil, or_false] at hq_; rcases hq_ with rfl <;> first | exact ⟨8, by decide, rfl, trivial, rfl⟩))
    refine nx (sq (rg (k (ldX H6 1 rfl ty35 rfl s11 (by decide) rfl (k (stX H6 2 rfl ty35 rfl rfl s9 rfl rfl rfl rfl ?_))))))
    intro w21 (H7 : HI M w w21 [imm (.slice a6 (orMR (fi.length : Int) (poR fi) (fi.length : Int) (rfR fi fo)).length c6) (orMR (fi.length : Int) (poR fi) (fi.length : Int) (rfR fi fo)), box (I0 8) #[.int .i64 (orMN (fi.length : Int) (fi.length : Int)), .slice a6 (orMR (fi.length : Int) (poR fi) (fi.length : Int) (rfR fi fo)).length c6] 35, box bb1 #[.int .i64 (orMN (fi.length : Int) (fi.length : Int)), .slice a6 (orMR (fi.length : Int) (poR fi) (fi.length : Int) (rfR fi fo)).length c6] 35, box bb0 #[.slice a_fv n_fv c_fv, .slice a_fi fi.length c_fi, .slice a_fo fo.length c_fo] 29, imm (.slice a_fo fo.length c_fo) fo, imm (.slice a_fi fi.length c_fi) fi])
    refine z (nx (rt (rc1 H7 2 rfl ty35 rfl rfl s9 rfl (by decide) ?_)))
    have e0 : (orMN (fi.length : Int) (fi.length : Int) : Int) = (fi.length : Int) := by exact (ed_or fi fo).1
    have e1 : (orMR (fi.length : Int) (poR fi) (fi.length : Int) (rfR fi fo) : List (List (BitVec 64))) = edR fi fo := by exact (ed_or fi fo).2
    have ev_ := cg2 (fun (x_0 : Int) (x_1 : List (List (BitVec 64))) => (.agg #[.int .i64 x_0, .slice a6 x_1.length c6] : Value)) e0 e1
    exact ⟨a6, c6, ev_, H7.below, (congrArg (fun (x_ : List (List (BitVec 64))) => RV _ _ (.slice a6 x_.length c6) x_) e1).mp (H7.gives_out 0 rfl)⟩
/- eyewitness/eyewitnessref13.Edges -/
set_option maxRecDepth 100000 in
set_option maxHeartbeats 1600000 in
theorem ref13_Edges {M : Nat → Prop} {w : World} {a_fv : Option Addr} {n_fv c_fv : Nat} {a_fi : Option Addr} {c_fi : Nat} {fi : List (Int × Int × Bool × Int × Int)} {a_fo : Option Addr} {c_fo : Nat} {fo : List Int} (hM : ∀ b, M b → b < w.heap.size) (h_fi : RV M w (.slice a_fi fi.length c_fi) fi) (h_fo : RV M w (.slice a_fo fo.length c_fo) fo) (ho : OrdI fi) (hn_fi : fi.length ≤ 4096) (hfo : fo.length = fi.length) (hfr : ∀ x ∈ fo, x < ((fi.length : Nat) : Int)) : Calls Try.prog 13 #[.agg #[.slice a_fv n_fv c_fv, .slice a_fi fi.length c_fi, .slice a_fo fo.length c_fo]] w (Ret fun v w' => ∃ (a0 : Option Addr) (c0 : Nat), v = .agg #[.int .i64 (fi.length : Int), .slice a0 (edR fi fo).length c0] ∧ Ext w w' ∧ RV M w' (.slice a0 (edR fi fo).length c0) (edR fi fo)) := by
  refine enter 14 Try.func13 rfl rfl rfl fun f0 ha => ?_
  have H := HI.start (M0 := M) (w := w) hM
  have H0 := H.put (it := imm (.slice a_fi fi.length c_fi) fi) rfl (by rw [MS_nil]; exact h_fi)
  have H1 := H0.put (it := imm (.slice a_fo fo.length c_fo) fo) rfl (by rw [MS_cons_none rfl, MS_nil]; exact h_fo)
  have ln_fi := rv_len h_fi
  have ln_fo := rv_len h_fo
  have i0 : f0 0 = .agg #[.slice a_fv n_fv c_fv, .slice a_fi fi.length c_fi, .slice a_fo fo.length c_fo] := ha 0 (by simp)
  refine sq (rg (k (bx H1 rfl i0 ?_)))
  intro bb0 w0 xt0 (H2 : HI M w w0 [box bb0 #[.slice a_fv n_fv c_fv, .slice a_fi fi.length c_fi, .slice a_fo fo.length c_fo] 29, imm (.slice a_fo fo.length c_fo) fo, imm (.slice a_fi fi.length c_fi) fi])
  refine k (al H2 ty35 ?_)
  intro bb1 w1 xt1 (H3 : HI M w w1 [box bb1 #[.int .i64 0, .slice none 0 0] 35, box bb0 #[.slice a_fv n_fv c_fv, .slice a_fi fi.length c_fi, .slice a_fo fo.length c_fo] 29, imm (.slice a_fo fo.length c_fo) fo, imm (.slice a_fi fi.length c_fi) fi])
  refine z (nx (sq ?_))
  refine drn [.v, .v, .v, .v, .v, .v, .v, .v, .n, .s 8 6, .v] [fun (N : Nat → Prop) (v : Value) (w' : World) => v = .agg #[.slice a_fv n_fv c_fv, .slice a_fi fi.length c_fi, .slice a_fo fo.length c_fo], fun (N : Nat → Prop) (v : Value) (w' : World) => ∃ (a0 : Option Addr) (c0 : Nat), v = .agg #[.int .i64 (fi.length : Int), .slice a0 (poR fi).length c0] ∧ RV (MN (MS M [box bb1 #[.int .i64 0, .slice none 0 0] 35, box bb0 #[.slice a_fv n_fv c_fv, .slice a_fi fi.length c_fi, .slice a_fo fo.length c_fo] 29, imm (.slice a_fo fo.length c_fo) fo, imm (.slice a_fi fi.length c_fi) fi]) N) w' (.slice a0 (poR fi).length c0) (poR fi), fun (N : Nat → Prop) (v : Value) (w' : World) => v = .agg #[.slice a_fv n_fv c_fv, .slice a_fi fi.length c_fi, .slice a_fo fo.length c_fo], fun (N : Nat → Prop) (v : Value) (w' : World) => ∃ (a1 : Option Addr) (c1 : Nat), v = .agg #[.int .i64 (fi.length : Int), .slice a1 (rfR fi fo).length c1] ∧ RV (MN (MS M [box bb1 #[.int .i64 0, .slice none 0 0] 35, box bb0 #[.slice a_fv n_fv c_fv, .slice a_fi fi.length c_fi, .slice a_fo fo.length c_fo] 29, imm (.slice a_fo fo.length c_fo) fo, imm (.slice a_fi fi.length c_fi) fi]) N) w' (.slice a1 (rfR fi fo).length c1) (rfR fi fo), fun (N : Nat → Prop) (v : Value) (w' : World) => ∃ (a2 : Option Addr) (c2 : Nat), v = .tuple #[.agg #[.int .i64 (orMN (fi.length : Int) (fi.length : Int)), .slice a2 (orMR (fi.length : Int) (poR fi) (fi.length : Int) (rfR fi fo)).length c2], .int .i64 (orME (fi.length : Int) (fi.length : Int))] ∧ RV (MN (MS M [box bb1 #[.int .i64 0, .slice none 0 0] 35, box bb0 #[.slice a_fv n_fv c_fv, .slice a_fi fi.length c_fi, .slice a_fo fo.length c_fo] 29, imm (.slice a_fo fo.length c_fo) fo, imm (.slice a_fi fi.length c_fi) fi]) N) w' (.slice a2 (orMR (fi.length : Int) (poR fi) (fi.length : Int) (rfR fi fo)).length c2) (orMR (fi.length : Int) (poR fi) (fi.length : Int) (rfR fi fo)), fun (N : Nat → Prop) (v : Value) (w' : World) => ∃ (a2 : Option Addr) (c2 : Nat), v = .tuple #[.agg #[.int .i64 (orMN (fi.length : Int) (fi.length : Int)), .slice a2 (orMR (fi.length : Int) (poR fi) (fi.length : Int) (rfR fi fo)).length c2], .int .i64 (orME (fi.length : Int) (fi.length : Int))] ∧ RV (MN (MS M [box bb1 #[.int .i64 0, .slice none 0 0] 35, box bb0 #[.slice a_fv n_fv c_fv, .slice a_fi fi.length c_fi, .slice a_fo fo.length c_fo] 29, imm (.slice a_fo fo.length c_fo) fo, imm (.slice a_fi fi.length c_fi) fi]) N) w' (.slice a2 (orMR (fi.length : Int) (poR fi) (fi.length : Int) (rfR fi fo)).length c2) (orMR (fi.length : Int) (poR fi) (fi.length : Int) (rfR fi fo)), fun (N : Nat → Prop) (v : Value) (w' : World) => ∃ (a2 : Option Addr) (c2 : Nat), v = .agg #[.int .i64 (orMN (fi.length : Int) (fi.length : Int)), .slice a2 (orMR (fi.length : Int) (poR fi) (fi.length : Int) (rfR fi fo)).length c2] ∧ RV (MN (MS M [box bb1 #[.int .i64 0, .slice none 0 0] 35, box bb0 #[.slice a_fv n_fv c_fv, .slice a_fi fi.length c_fi, .slice a_fo fo.length c_fo] 29, imm (.slice a_fo fo.length c_fo) fo, imm (.slice a_fi fi.length c_fi) fi]) N) w' (.slice a2 (orMR (fi.length : Int) (poR fi) (fi.length : Int) (rfR fi fo)).length c2) (orMR (fi.length : Int) (poR fi) (fi.length : Int) (rfR fi fo)), fun (N : Nat → Prop) (v : Value) (w' : World) => v = .int .i64 (orME (fi.length : Int) (fi.length : Int)), fun _ _ _ => True, fun _ _ _ => True, fun (N : Nat → Prop) (v : Value) (w' : World) => v = .int .i64 (orME (fi.length : Int) (fi.length : Int))] [(#[], 0), (#[], 0), (#[], 0), (#[], 0), (#[], 0), (#[], 0), (#[], 0), (#[], 0), (#[.int .i64 0, .slice none 0 0], 35), (#[], 0), (#[], 0)] rfl (by kernel_rfl) ?_ ?_
  ·
    refine ⟨⟨fun _ _ _ _ _ _ h => h, rfl, fun f0 w6 N0 hf0 xt6 hN0 hp0 => ?_⟩, ?_⟩
    ·
      refine ldX (H3.ext xt6) 1 rfl ty29 rfl (hf0 1 rfl) (by decide) rfl ?_
      exact ⟨_, rfl, Ext.refl _, rfl⟩
    refine ⟨⟨by rintro _ _ _ _ _ k_ ⟨a0, c0, e_, rv3⟩; exact ⟨a0, c0, e_, rvn_keep rv3 k_⟩, rfl, fun f1 w7 N1 hf1 xt7 hN1 hp1 => ?_⟩, ?_⟩
    ·
      have hq0 := hp1 0 rfl ⟨_, rfl, rfl⟩
      have s0 : f1 6 = .agg #[.slice a_fv n_fv c_fv, .slice a_fi fi.length c_fi, .slice a_fo fo.length c_fo] := hq0
      have cc3 := ref12_Po (fi := fi) (a_fv := a_fv) (n_fv := n_fv) (c_fv := c_fv) (a_fo := a_fo) (n_fo := fo.length) (c_fo := c_fo) (w := w7) (mn_below H3.mb xt7 hN1) (rvn_old (H3.rv 3 rfl) xt7 hN1) (by exact ho) (by first | exact hn_fi | omega)
      refine ca go19 rfl (ec s0 e0) cc3 ?_
      rintro _ w8 ⟨a3, c3, rfl, xt8, rv6⟩
      exact ⟨_, rfl, xt8, ⟨a3, c3, rfl, rv6⟩⟩
    refine ⟨⟨fun _ _ _ _ _ _ h => h, rfl, fun f2 w9 N2 hf2 xt9 hN2 hp2 => ?_⟩, ?_⟩
    ·
      refine ldX (H3.ext xt9) 1 rfl ty29 rfl (hf2 1 rfl) (by decide) rfl ?_
      exact ⟨_, rfl, Ext.refl _, rfl⟩
    refine ⟨⟨by rintro _ _ _ _ _ k_ ⟨a1, c1, e_, rv4⟩; exact ⟨a1, c1, e_, rvn_keep rv4 k_⟩, rfl, fun f3 w10 N3 hf3 xt10 hN3 hp3 => ?_⟩, ?_⟩
    ·
      have hq1 := hp3 2 rfl ⟨_, rfl, rfl⟩
      have s1 : f3 8 = .agg #[.slice a_fv n_fv c_fv, .slice a_fi fi.length c_fi, .slice a_fo fo.length c_fo] := hq1
      have cc4 := ref13_Rf (fi := fi) (fo := fo) (a_fv := a_fv) (n_fv := n_fv) (c_fv := c_fv) (w := w10) (mn_below H3.mb xt10 hN3) (rvn_old (H3.rv 3 rfl) xt10 hN3) (rvn_old (H3.rv 2 rfl) xt10 hN3) (by first | exact hn_fi | omega) (by exact hfo) (by exact hfr)
      refine ca go11 rfl (ec s1 e0) cc4 ?_
      rintro _ w11 ⟨a4, c4, rfl, xt11, rv7⟩
      exact ⟨_, rfl, xt11, ⟨a4, c4, rfl, rv7⟩⟩
    refine ⟨⟨by rintro _ _ _ _ _ k_ ⟨a2, c2, e_, rv5⟩; exact ⟨a2, c2, e_, rvn_keep rv5 k_⟩, rfl, fun f4 w12 N4 hf4 xt12 hN4 hp4 => ?_⟩, ?_⟩
    ·
      have hq2 := hp4 1 rfl ⟨_, rfl, rfl⟩
      obtain ⟨a0, c0, s2, rv3⟩ := hq2
      have hq3 := hp4 3 rfl ⟨_, rfl, rfl⟩
      obtain ⟨a1, c1, s3, rv4⟩ := hq3
      have cc5 := ref03_Or (an := (fi.length : Int)) (ar := (poR fi)) (bn := (fi.length : Int)) (br := (rfR fi fo)) (w := w12) (mn_below H3.mb xt12 hN4) (by unfold I64 at *; omega) rv3 (by unfold I64 at *; omega) rv4 (by exact (mat_sq (by omega) _).1) (by exact (mat_sq (by omega) _).2) (by omega) (by exact (mat_sq (by omega) _).1) (by exact (mat_sq (by omega) _).2) (by omega)
      refine ca go34 rfl (ec s2 (ec s3 e0)) cc5 ?_
      rintro _ w13 ⟨a5, c5, rfl, xt13, rv8⟩
      exact ⟨_, rfl, xt13, ⟨a5, c5, rfl, (OwnsG.rv rv8 (mn_below H3.mb xt12 hN4))⟩⟩
    refine ⟨⟨by rintro _ _ _ _ _ k_ ⟨a2, c2, e_, rv5⟩; exact ⟨a2, c2, e_, rvn_keep rv5 k_⟩, rfl, fun f5 w14 N5 hf5 xt14 hN5 hp5 => ?_⟩, ?_⟩
    ·
      have hq4 := hp5 4 rfl ⟨_, rfl, rfl⟩
      obtain ⟨a2, c2, s4, rv5⟩ := hq4
      refine mv rfl s4 ?_
      exact ⟨_, rfl, Ext.refl _, ⟨a2, c2, rfl, rv5⟩⟩
    refine ⟨⟨by rintro _ _ _ _ _ k_ ⟨a2, c2, e_, rv5⟩; exact ⟨a2, c2, e_, rvn_keep rv5 k_⟩, rfl, fun f6 w15 N6 hf6 xt15 hN6 hp6 => ?_⟩, ?_⟩
    ·
      have hq5 := hp6 5 rfl ⟨_, rfl, rfl⟩
      obtain ⟨a2, c2, s5, rv5⟩ := hq5
      refine xt rfl s5 rfl ?_
      exact ⟨_, rfl, Ext.refl _, ⟨a2, c2, rfl, rv5⟩⟩
    refine ⟨⟨fun _ _ _ _ _ _ h => h, rfl, fun f7 w16 N7 hf7 xt16 hN7 hp7 => ?_⟩, ?_⟩
    ·
      have hq6 := hp7 5 rfl ⟨_, rfl, rfl⟩
      obtain ⟨a2, c2, s6, rv5⟩ := hq6
      refine xt rfl s6 rfl ?_
      exact ⟨_, rfl, Ext.refl _, rfl⟩
    refine ⟨⟨fun _ _ _ _ _ _ h => h, rfl, fun _ _ _ => trivial, fun f8 w17 N8 hf8 xt17 hN8 hp8 => ?_⟩, ?_⟩
    ·
      refine alS ty35 ?_
      exact ⟨rfl, rfl⟩
    refine ⟨⟨fun _ _ _ _ _ _ h => h, rfl, rfl, rfl, ⟨_, rfl, rfl⟩, ⟨_, rfl, rfl⟩, by decide, trivial, by rintro _ _ _ ⟨a2, c2, e_, rv5⟩; subst e_; rfl, fun f9 w18 N_ bb3 cur0 xt18 s7 hb0 hc0 hv0 => ?_⟩, ?_⟩
    ·
      obtain ⟨a2, c2, e_, rv5⟩ := hv0
      exact stS ty35 rfl rfl s7 rfl hb0 ((congrArg (fun v => v.cells.size) e_).trans rfl) hc0 ((congrArg (fun v => v.cells.toList.all Value.oneCell') e_).trans rfl)
    refine ⟨⟨fun _ _ _ _ _ _ h => h, rfl, fun f10 w19 N9 hf9 xt19 hN9 hp9 => ?_⟩, ?_⟩
    ·
      have hq7 := hp9 7 rfl ⟨_, rfl, rfl⟩
      have s8 : f10 12 = .int .i64 (orME (fi.length : Int) (fi.length : Int)) := hq7
      refine asg rfl s8 ?_
      exact ⟨_, rfl, Ext.refl _, rfl⟩
    exact trivial
  · intro f11 w20 I0 hf10 xt20 hp10 hN10 hd0
    have s9 : f11 2 = .pointer (some ⟨bb1, 0, none⟩) := hf10 2 rfl
    obtain ⟨a6, c6, s10, rv9⟩ := (hp10 6 _ rfl rfl)
    obtain ⟨s11, hg0, -, cur1, hc1, hk0⟩ := hN10 8 (by decide) trivial
    have hq8 : cur1 = #[.int .i64 (orMN (fi.length : Int) (fi.length : Int)), .slice a6 (orMR (fi.length : Int) (poR fi) (fi.length : Int) (rfR fi fo)).length c6] := (hk0.2.1 9 6 rfl rfl).trans (congrArg Value.cells s10)
    rw [hq8] at hc1
    have hz8_ := hg0
    have H5 : HI M w w20 [box (I0 8) #[.int .i64 (orMN (fi.length : Int) (fi.length : Int)), .slice a6 (orMR (fi.length : Int) (poR fi) (fi.length : Int) (rfR fi fo)).length c6] 35, box bb1 #[.int .i64 0, .slice none 0 0] 35, box bb0 #[.slice a_fv n_fv c_fv, .slice a_fi fi.length c_fi, .slice a_fo fo.length c_fo] 29, imm (.slice a_fo fo.length c_fo) fo, imm (.slice a_fi fi.length c_fi) fi] := H3.lays xt20 [((I0 8), #[.int .i64 (orMN (fi.length : Int) (fi.length : Int)), .slice a6 (orMR (fi.length : Int) (poR fi) (fi.length : Int) (rfR fi fo)).length c6], 35)] (by intro q_ hq_; simp only [List.mem_cons, List.not_mem_nil, or_false] at hq_; rcases hq_ with rfl <;> first | exact ⟨hz8_, hc1⟩) (by simp only [List.map_cons, List.map_nil, List.nodup_cons, List.mem_cons, List.not_mem_nil, or_false, List.nodup_nil, and_true, not_or, not_false_eq_true, true_and] <;> omega)
    have H6 := H5.put (it := imm (.slice a6 (orMR (fi.length : Int) (poR fi) (fi.length : Int) (rfR fi fo)).length c6) (orMR (fi.length : Int) (poR fi) (fi.length : Int) (rfR fi fo))) rfl (rvn_out [((I0 8), #[.int .i64 (orMN (fi.length : Int) (fi.length : Int)), .slice a6 (orMR (fi.length : Int) (poR fi) (fi.length : Int) (rfR fi fo)).length c6], 35)] rv9 (by intro q_ hq_; simp only [List.mem_cons, List.not_mem_nil, or_false] at hq_; rcases hq_ with rfl <;> first | exact ⟨8, by decide, rfl, trivial, rfl⟩))
    refine nx (sq (rg (k (ldX H6 1 rfl ty35 rfl s11 (by decide) rfl (k (stX H6 2 rfl ty35 rfl rfl s9 rfl rfl rfl rfl ?_))))))
    intro w21 (H7 : HI M w w21 [imm (.slice a6 (orMR (fi.length : Int) (poR fi) (fi.length : Int) (rfR fi fo)).length c6) (orMR (fi.length : Int) (poR fi) (fi.length : Int) (rfR fi fo)), box (I0 8) #[.int .i64 (orMN (fi.length : Int) (fi.length : Int)), .slice a6 (orMR (fi.length : Int) (poR fi) (fi.length : Int) (rfR fi fo)).length c6] 35, box bb1 #[.int .i64 (orMN (fi.length : Int) (fi.length : Int)), .slice a6 (orMR (fi.length : Int) (poR fi) (fi.length : Int) (rfR fi fo)).length c6] 35, box bb0 #[.slice a_fv n_fv c_fv, .slice a_fi fi.length c_fi, .slice a_fo fo.length c_fo] 29, imm (.slice a_fo fo.length c_fo) fo, imm (.slice a_fi fi.length c_fi) fi])
    refine z (nx (rt (rc1 H7 2 rfl ty35 rfl rfl s9 rfl (by decide) ?_)))
    have e0 : (orMN (fi.length : Int) (fi.length : Int) : Int) = (fi.length : Int) := by exact (ed_or fi fo).1
    have e1 : (orMR (fi.length : Int) (poR fi) (fi.length : Int) (rfR fi fo) : List (List (BitVec 64))) = edR fi fo := by exact (ed_or fi fo).2
    have ev_ := cg2 (fun (x_0 : Int) (x_1 : List (List (BitVec 64))) => (.agg #[.int .i64 x_0, .slice a6 x_1.length c6] : Value)) e0 e1
    exact ⟨a6, c6, ev_, H7.below, (congrArg (fun (x_ : List (List (BitVec 64))) => RV _ _ (.slice a6 x_.length c6) x_) e1).mp (H7.gives_out 0 rfl)⟩
/- eyewitness/cause.Co -/
set_option maxRecDepth 100000 in
set_option maxHeartbeats 1600000 in
theorem cause_Co {M : Nat → Prop} {w : World} {a_fv : Option Addr} {n_fv c_fv : Nat} {a_fi : Option Addr} {c_fi : Nat} {fi : List (Int × Int × Bool × Int × Int)} {a_fo : Option Addr} {c_fo : Nat} {fo : List Int} (hM : ∀ b, M b → b < w.heap.size) (h_fi : RV M w (.slice a_fi fi.length c_fi) fi) (h_fo : RV M w (.slice a_fo fo.length c_fo) fo) (ho : OrdI fi) (hn_fi : fi.length ≤ 4096) (hfo : fo.length = fi.length) (hfr : ∀ x ∈ fo, x < ((fi.length : Nat) : Int)) : Calls Try.prog 14 #[.agg #[.slice a_fv n_fv c_fv, .slice a_fi fi.length c_fi, .slice a_fo fo.length c_fo]] w (Ret fun v w' => ∃ (a0 : Option Addr) (c0 : Nat), v = .agg #[.int .i64 (fi.length : Int), .slice a0 (coR fi fo).length c0] ∧ Ext w w' ∧ RV M w' (.slice a0 (coR fi fo).length c0) (coR fi fo)) := by
  refine enter 6 Try.func14 rfl rfl rfl fun f0 ha => ?_
  have H := HI.start (M0 := M) (w := w) hM
  have H0 := H.put (it := imm (.slice a_fi fi.length c_fi) fi) rfl (by rw [MS_nil]; exact h_fi)
  have H1 := H0.put (it := imm (.slice a_fo fo.length c_fo) fo) rfl (by rw [MS_cons_none rfl, MS_nil]; exact h_fo)
  have ln_fi := rv_len h_fi
  have ln_fo := rv_len h_fo
  have i0 : f0 0 = .agg #[.slice a_fv n_fv c_fv, .slice a_fi fi.length c_fi, .slice a_fo fo.length c_fo] := ha 0 (by simp)
  refine sq (rg (k (bx H1 rfl i0 ?_)))
  intro bb0 w0 xt0 (H2 : HI M w w0 [box bb0 #[.slice a_fv n_fv c_fv, .slice a_fi fi.length c_fi, .slice a_fo fo.length c_fo] 29, imm (.slice a_fo fo.length c_fo) fo, imm (.slice a_fi fi.length c_fi) fi])
  refine k (al H2 ty35 ?_)
  intro bb1 w1 xt1 (H3 : HI M w w1 [box bb1 #[.int .i64 0, .slice none 0 0] 35, box bb0 #[.slice a_fv n_fv c_fv, .slice a_fi fi.length c_fi, .slice a_fo fo.length c_fo] 29, imm (.slice a_fo fo.length c_fo) fo, imm (.slice a_fi fi.length c_fi) fi])
  refine z (nx (sq (rg (k (ldX H3 1 rfl ty29 rfl rfl (by decide) rfl (k ?_))))))
  have cc0 := cause_Edges (fi := fi) (fo := fo) (a_fv := a_fv) (n_fv := n_fv) (c_fv := c_fv) (w := w1) H3.mb (H3.rv 3 rfl) (H3.rv 2 rfl) (by exact ho) (by first | exact hn_fi | omega) (by exact hfo) (by exact hfr)
  refine ca go12 rfl (ec rfl e0) cc0 ?_
  rintro _ w2 ⟨a0, c0, rfl, xt2, rv0⟩
  have H4 := H3.ext xt2
  have H5 := H4.put (it := imm (.slice a0 (edR fi fo).length c0) (edR fi fo)) rfl rv0
  refine k ?_
  have cc1 := hull_Close (mn := (fi.length : Int)) (mr := (edR fi fo)) (w := w2) H5.mb (by unfold I64 at *; omega) (H5.rv 0 rfl) (by exact ed_right fo hn_fi)
  refine ca go35 rfl (ec rfl e0) cc1 ?_
  rintro _ w3 ⟨a1, c1, rfl, xt3, rv1⟩
  have H6 := H5.ownsG rv1
  refine k (stX H6 2 rfl ty35 rfl rfl rfl rfl rfl rfl rfl ?_)
  intro w4 (H7 : HI M w w4 [own w.heap.size 60 (.slice a1 (closeM (fi.length : Int) (edR fi fo)).length c1) (closeM (fi.length : Int) (edR fi fo)), imm (.slice a0 (edR fi fo).length c0) (edR fi fo), box bb1 #[.int .i64 (fi.length : Int), .slice a1 (closeM (fi.length : Int) (edR fi fo)).length c1] 35, box bb0 #[.slice a_fv n_fv c_fv, .slice a_fi fi.length c_fi, .slice a_fo fo.length c_fo] 29, imm (.slice a_fo fo.length c_fo) fo, imm (.slice a_fi fi.length c_fi) fi])
  refine z (nx (rt (rc1 H7 2 rfl ty35 rfl rfl rfl rfl (by decide) ?_)))
  have e1 : (closeM (fi.length : Int) (edR fi fo) : List (List (BitVec 64))) = coR fi fo := by exact co_close fi fo
  have ev_ := cg1 (fun (x_1 : List (List (BitVec 64))) => (.agg #[.int .i64 (fi.length : Int), .slice a1 x_1.length c1] : Value)) e1
  exact ⟨a1, c1, ev_, H7.below, (congrArg (fun (x_ : List (List (BitVec 64))) => RV _ _ (.slice a1 x_.length c1) x_) e1).mp (H7.outO 0 rfl)⟩
/- eyewitness/eyewitnessref13.Co -/
set_option maxRecDepth 100000 in
set_option maxHeartbeats 1600000 in
theorem ref13_Co {M : Nat → Prop} {w : World} {a_fv : Option Addr} {n_fv c_fv : Nat} {a_fi : Option Addr} {c_fi : Nat} {fi : List (Int × Int × Bool × Int × Int)} {a_fo : Option Addr} {c_fo : Nat} {fo : List Int} (hM : ∀ b, M b → b < w.heap.size) (h_fi : RV M w (.slice a_fi fi.length c_fi) fi) (h_fo : RV M w (.slice a_fo fo.length c_fo) fo) (ho : OrdI fi) (hn_fi : fi.length ≤ 4096) (hfo : fo.length = fi.length) (hfr : ∀ x ∈ fo, x < ((fi.length : Nat) : Int)) : Calls Try.prog 15 #[.agg #[.slice a_fv n_fv c_fv, .slice a_fi fi.length c_fi, .slice a_fo fo.length c_fo]] w (Ret fun v w' => ∃ (a0 : Option Addr) (c0 : Nat), v = .agg #[.int .i64 (fi.length : Int), .slice a0 (coR fi fo).length c0] ∧ Ext w w' ∧ RV M w' (.slice a0 (coR fi fo).length c0) (coR fi fo)) := by
  refine enter 6 Try.func15 rfl rfl rfl fun f0 ha => ?_
  have H := HI.start (M0 := M) (w := w) hM
  have H0 := H.put (it := imm (.slice a_fi fi.length c_fi) fi) rfl (by rw [MS_nil]; exact h_fi)
  have H1 := H0.put (it := imm (.slice a_fo fo.length c_fo) fo) rfl (by rw [MS_cons_none rfl, MS_nil]; exact h_fo)
  have ln_fi := rv_len h_fi
  have ln_fo := rv_len h_fo
  have i0 : f0 0 = .agg #[.slice a_fv n_fv c_fv, .slice a_fi fi.length c_fi, .slice a_fo fo.length c_fo] := ha 0 (by simp)
  refine sq (rg (k (bx H1 rfl i0 ?_)))
  intro bb0 w0 xt0 (H2 : HI M w w0 [box bb0 #[.slice a_fv n_fv c_fv, .slice a_fi fi.length c_fi, .slice a_fo fo.length c_fo] 29, imm (.slice a_fo fo.length c_fo) fo, imm (.slice a_fi fi.length c_fi) fi])
  refine k (al H2 ty35 ?_)
  intro bb1 w1 xt1 (H3 : HI M w w1 [box bb1 #[.int .i64 0, .slice none 0 0] 35, box bb0 #[.slice a_fv n_fv c_fv, .slice a_fi fi.length c_fi, .slice a_fo fo.length c_fo] 29, imm (.slice a_fo fo.length c_fo) fo, imm (.slice a_fi fi.length c_fi) fi])
  refine z (nx (sq (rg (k (ldX H3 1 rfl ty29 rfl rfl (by decide) rfl (k ?_))))))
  have cc0 := ref13_Edges (fi := fi) (fo := fo) (a_fv := a_fv) (n_fv := n_fv) (c_fv := c_fv) (w := w1) H3.mb (H3.rv 3 rfl) (H3.rv 2 rfl) (by exact ho) (by first | exact hn_fi | omega) (by exact hfo) (by exact hfr)
  refine ca go13 rfl (ec rfl e0) cc0 ?_
  rintro _ w2 ⟨a0, c0, rfl, xt2, rv0⟩
  have H4 := H3.ext xt2
  have H5 := H4.put (it := imm (.slice a0 (edR fi fo).length c0) (edR fi fo)) rfl rv0
  refine k ?_
  have cc1 := ref04_Close (mn := (fi.length : Int)) (mr := (edR fi fo)) (w := w2) H5.mb (by unfold I64 at *; omega) (H5.rv 0 rfl) (by exact ed_right fo hn_fi)
  refine ca go22 rfl (ec rfl e0) cc1 ?_
  rintro _ w3 ⟨a1, c1, rfl, xt3, rv1⟩
  have H6 := H5.ext xt3
  have H7 := H6.put (it := imm (.slice a1 (closeM (fi.length : Int) (edR fi fo)).length c1) (closeM (fi.length : Int) (edR fi fo))) rfl rv1
  refine k (stX H7 2 rfl ty35 rfl rfl rfl rfl rfl rfl rfl ?_)
  intro w4 (H8 : HI M w w4 [imm (.slice a1 (closeM (fi.length : Int) (edR fi fo)).length c1) (closeM (fi.length : Int) (edR fi fo)), imm (.slice a0 (edR fi fo).length c0) (edR fi fo), box bb1 #[.int .i64 (fi.length : Int), .slice a1 (closeM (fi.length : Int) (edR fi fo)).length c1] 35, box bb0 #[.slice a_fv n_fv c_fv, .slice a_fi fi.length c_fi, .slice a_fo fo.length c_fo] 29, imm (.slice a_fo fo.length c_fo) fo, imm (.slice a_fi fi.length c_fi) fi])
  refine z (nx (rt (rc1 H8 2 rfl ty35 rfl rfl rfl rfl (by decide) ?_)))
  have e1 : (closeM (fi.length : Int) (edR fi fo) : List (List (BitVec 64))) = coR fi fo := by exact co_close fi fo
  have ev_ := cg1 (fun (x_1 : List (List (BitVec 64))) => (.agg #[.int .i64 (fi.length : Int), .slice a1 x_1.length c1] : Value)) e1
  exact ⟨a1, c1, ev_, H8.below, (congrArg (fun (x_ : List (List (BitVec 64))) => RV _ _ (.slice a1 x_.length c1) x_) e1).mp (H8.gives_out 0 rfl)⟩
end Go.Proofs.Ytmhopljngkgidaa
namespace Go.Proofs.Ytmhopljngkgidaa
open Go.Ew Go.RowKit
set_option linter.unusedVariables false
set_option linter.unusedSimpArgs false
attribute [local irreducible] WL WC SO Code.wp wpList retQ Ret
attribute [local irreducible] bitB hasW inR hasR setR countW countR subR words newR listR orR firstW tab8
theorem go8 : GoF Try.prog 8 := ⟨_, _, Try.func8, rfl, by kernel_rfl⟩
theorem go14 : GoF Try.prog 14 := ⟨_, _, Try.func14, rfl, by kernel_rfl⟩
/- eyewitness/eyewitnesslaw13.awake -/
set_option maxRecDepth 100000 in
set_option maxHeartbeats 1600000 in
theorem awake13 {w : World}  : Calls Try.prog 7 #[] w (Ret fun v w' =>  v = .bool true ∧ Ext w w') := by
  refine enter 36 Try.func7 rfl rfl rfl fun f0 ha => ?_
  have H := HI.start (M0 := (fun _ => False)) (w := w) (fun _ h => h.elim)
  refine sq (rg (k (asg (v := .bool false) rfl rfl (z (nx (sq (rg (k (bd (v := .agg #[.bool true, .string ⟨#[120]⟩, .int .i64 1]) rfl (pbc rfl (pbc rfl (pbc rfl pb0))) (fun _ => by kernel_rfl) (k (bs (xs := ([(true, ⟨#[120]⟩, 1)] : List (Bool × ByteArray × Int))) (cells := #[.bool true, .string ⟨#[120]⟩, .int .i64 1]) (e := 50) H rfl (pbc rfl pb0) (fun _ => by kernel_rfl) ⟨[.bool true, .string ⟨#[120]⟩, .int .i64 1], [], rfl, ⟨_, _, rfl, rfl, ⟨_, _, rfl, ⟨rfl, (by decide +kernel)⟩, ⟨rfl, (show I64 (1) from (by first | (unfold I64; decide +kernel) | decide +kernel))⟩⟩⟩, rfl⟩ rfl (by unfold maxLen; omega) ?_)))))))))))
  intro g0 w0 xt0 (H0 : HI (fun _ => False) w w0 [own w.heap.size 50 (.slice (some ⟨g0, 0, none⟩) 1 1) ([(true, ⟨#[120]⟩, 1)] : List (Bool × ByteArray × Int))])
  refine k (bd (v := .agg #[.bool false, .string ⟨#[120]⟩, .int .i64 1]) rfl (pbc rfl (pbc rfl pb0)) (fun _ => by kernel_rfl) (k (bd (v := .agg #[.bool true, .string ⟨#[121]⟩, .int .i64 1]) rfl (pbc rfl (pbc rfl (pbc rfl pb0))) (fun _ => by kernel_rfl) (k (bs (xs := ([(false, ⟨#[120]⟩, 1), (true, ⟨#[121]⟩, 1)] : List (Bool × ByteArray × Int))) (cells := #[.bool false, .string ⟨#[120]⟩, .int .i64 1, .bool true, .string ⟨#[121]⟩, .int .i64 1]) (e := 50) H0 rfl (pbc rfl (pbc rfl pb0)) (fun _ => by kernel_rfl) ⟨[.bool false, .string ⟨#[120]⟩, .int .i64 1], [.bool true, .string ⟨#[121]⟩, .int .i64 1], rfl, ⟨_, _, rfl, rfl, ⟨_, _, rfl, ⟨rfl, (by decide +kernel)⟩, ⟨rfl, (show I64 (1) from (by first | (unfold I64; decide +kernel) | decide +kernel))⟩⟩⟩, ⟨[.bool true, .string ⟨#[121]⟩, .int .i64 1], [], rfl, ⟨_, _, rfl, rfl, ⟨_, _, rfl, ⟨rfl, (by decide +kernel)⟩, ⟨rfl, (show I64 (1) from (by first | (unfold I64; decide +kernel) | decide +kernel))⟩⟩⟩, rfl⟩⟩ rfl (by unfold maxLen; omega) ?_)))))
  intro g1 w1 xt1 (H1 : HI (fun _ => False) w w1 [own w.heap.size 50 (.slice (some ⟨g1, 0, none⟩) 2 2) ([(false, ⟨#[120]⟩, 1), (true, ⟨#[121]⟩, 1)] : List (Bool × ByteArray × Int)), own w.heap.size 50 (.slice (some ⟨g0, 0, none⟩) 1 1) ([(true, ⟨#[120]⟩, 1)] : List (Bool × ByteArray × Int))])
  refine k ?_
  have H2 := H1.freeze 1 rfl
  have H3 := H2.freeze 0 rfl
  refine bs (xs := ([([(true, ⟨#[120]⟩, 1)] : List (Bool × ByteArray × Int)), ([(false, ⟨#[120]⟩, 1), (true, ⟨#[121]⟩, 1)] : List (Bool × ByteArray × Int))] : List (List (Bool × ByteArray × Int)))) (cells := #[.slice (some ⟨g0, 0, none⟩) ([(true, ⟨#[120]⟩, 1)] : List (Bool × ByteArray × Int)).length 1, .slice (some ⟨g1, 0, none⟩) ([(false, ⟨#[120]⟩, 1), (true, ⟨#[121]⟩, 1)] : List (Bool × ByteArray × Int)).length 2]) (e := 47) H3 rfl (pbc rfl (pbc rfl pb0)) (fun _ => by kernel_rfl) ⟨[.slice (some ⟨g0, 0, none⟩) ([(true, ⟨#[120]⟩, 1)] : List (Bool × ByteArray × Int)).length 1], [.slice (some ⟨g1, 0, none⟩) ([(false, ⟨#[120]⟩, 1), (true, ⟨#[121]⟩, 1)] : List (Bool × ByteArray × Int)).length 2], rfl, ⟨_, rfl, RV.list.1 (H3.rv 1 rfl)⟩, ⟨[.slice (some ⟨g1, 0, none⟩) ([(false, ⟨#[120]⟩, 1), (true, ⟨#[121]⟩, 1)] : List (Bool × ByteArray × Int)).length 2], [], rfl, ⟨_, rfl, RV.list.1 (H3.rv 0 rfl)⟩, rfl⟩⟩ rfl (by unfold maxLen; omega) ?_
  intro g2 w2 xt2 (H4 : HI (fun _ => False) w w2 [own w.heap.size 47 (.slice (some ⟨g2, 0, none⟩) 2 2) ([([(true, ⟨#[120]⟩, 1)] : List (Bool × ByteArray × Int)), ([(false, ⟨#[120]⟩, 1), (true, ⟨#[121]⟩, 1)] : List (Bool × ByteArray × Int))] : List (List (Bool × ByteArray × Int))), imm (.slice (some ⟨g1, 0, none⟩) 2 2) ([(false, ⟨#[120]⟩, 1), (true, ⟨#[121]⟩, 1)] : List (Bool × ByteArray × Int)), imm (.slice (some ⟨g0, 0, none⟩) 1 1) ([(true, ⟨#[120]⟩, 1)] : List (Bool × ByteArray × Int))])
  refine k ?_
  have H5 := H4.freeze 0 rfl
  have cc0 := ref11_Of (h := ([([(true, ⟨#[120]⟩, 1)] : List (Bool × ByteArray × Int)), ([(false, ⟨#[120]⟩, 1), (true, ⟨#[121]⟩, 1)] : List (Bool × ByteArray × Int))] : List (List (Bool × ByteArray × Int)))) (w := w2) H5.mb (H5.rv 0 rfl) (by decide +kernel)
  refine ca go8 rfl (ec rfl e0) cc0 ?_
  rintro _ w3 ⟨a0, c0, a1, c1, a2, c2, rfl, xt3, rv0, rv1, rv2⟩
  have H6 := H5.ext xt3
  have H7 := H6.put (it := imm (.slice a0 (o11V ([([(true, ⟨#[120]⟩, 1)] : List (Bool × ByteArray × Int)), ([(false, ⟨#[120]⟩, 1), (true, ⟨#[121]⟩, 1)] : List (Bool × ByteArray × Int))] : List (List (Bool × ByteArray × Int)))).length c0) (o11V ([([(true, ⟨#[120]⟩, 1)] : List (Bool × ByteArray × Int)), ([(false, ⟨#[120]⟩, 1), (true, ⟨#[121]⟩, 1)] : List (Bool × ByteArray × Int))] : List (List (Bool × ByteArray × Int))))) rfl rv0
  have H8 := H7.put (it := imm (.slice a1 (o11I ([([(true, ⟨#[120]⟩, 1)] : List (Bool × ByteArray × Int)), ([(false, ⟨#[120]⟩, 1), (true, ⟨#[121]⟩, 1)] : List (Bool × ByteArray × Int))] : List (List (Bool × ByteArray × Int)))).length c1) (o11I ([([(true, ⟨#[120]⟩, 1)] : List (Bool × ByteArray × Int)), ([(false, ⟨#[120]⟩, 1), (true, ⟨#[121]⟩, 1)] : List (Bool × ByteArray × Int))] : List (List (Bool × ByteArray × Int))))) rfl (by rw [MS_cons_none rfl]; exact rv1)
  have H9 := H8.put (it := imm (.slice a2 (o11F ([([(true, ⟨#[120]⟩, 1)] : List (Bool × ByteArray × Int)), ([(false, ⟨#[120]⟩, 1), (true, ⟨#[121]⟩, 1)] : List (Bool × ByteArray × Int))] : List (List (Bool × ByteArray × Int)))).length c2) (o11F ([([(true, ⟨#[120]⟩, 1)] : List (Bool × ByteArray × Int)), ([(false, ⟨#[120]⟩, 1), (true, ⟨#[121]⟩, 1)] : List (Bool × ByteArray × Int))] : List (List (Bool × ByteArray × Int))))) rfl (by rw [MS_cons_none rfl, MS_cons_none rfl]; exact rv2)
  refine k (mv (v := .tuple #[.agg #[.slice a0 (o11V ([([(true, ⟨#[120]⟩, 1)] : List (Bool × ByteArray × Int)), ([(false, ⟨#[120]⟩, 1), (true, ⟨#[121]⟩, 1)] : List (Bool × ByteArray × Int))] : List (List (Bool × ByteArray × Int)))).length c0, .slice a1 (o11I ([([(true, ⟨#[120]⟩, 1)] : List (Bool × ByteArray × Int)), ([(false, ⟨#[120]⟩, 1), (true, ⟨#[121]⟩, 1)] : List (Bool × ByteArray × Int))] : List (List (Bool × ByteArray × Int)))).length c1, .slice a2 (o11F ([([(true, ⟨#[120]⟩, 1)] : List (Bool × ByteArray × Int)), ([(false, ⟨#[120]⟩, 1), (true, ⟨#[121]⟩, 1)] : List (Bool × ByteArray × Int))] : List (List (Bool × ByteArray × Int)))).length c2], .bool (o11 ([([(true, ⟨#[120]⟩, 1)] : List (Bool × ByteArray × Int)), ([(false, ⟨#[120]⟩, 1), (true, ⟨#[121]⟩, 1)] : List (Bool × ByteArray × Int))] : List (List (Bool × ByteArray × Int))))]) rfl rfl (k (xt rfl rfl rfl (k (xt rfl rfl rfl (k (al H9 ty29 ?_)))))))
  intro bb0 w4 xt4 (H10 : HI (fun _ => False) w w4 [box bb0 #[.slice none 0 0, .slice none 0 0, .slice none 0 0] 29, imm (.slice a2 (o11F ([([(true, ⟨#[120]⟩, 1)] : List (Bool × ByteArray × Int)), ([(false, ⟨#[120]⟩, 1), (true, ⟨#[121]⟩, 1)] : List (Bool × ByteArray × Int))] : List (List (Bool × ByteArray × Int)))).length c2) (o11F ([([(true, ⟨#[120]⟩, 1)] : List (Bool × ByteArray × Int)), ([(false, ⟨#[120]⟩, 1), (true, ⟨#[121]⟩, 1)] : List (Bool × ByteArray × Int))] : List (List (Bool × ByteArray × Int)))), imm (.slice a1 (o11I ([([(true, ⟨#[120]⟩, 1)] : List (Bool × ByteArray × Int)), ([(false, ⟨#[120]⟩, 1), (true, ⟨#[121]⟩, 1)] : List (Bool × ByteArray × Int))] : List (List (Bool × ByteArray × Int)))).length c1) (o11I ([([(true, ⟨#[120]⟩, 1)] : List (Bool × ByteArray × Int)), ([(false, ⟨#[120]⟩, 1), (true, ⟨#[121]⟩, 1)] : List (Bool × ByteArray × Int))] : List (List (Bool × ByteArray × Int)))), imm (.slice a0 (o11V ([([(true, ⟨#[120]⟩, 1)] : List (Bool × ByteArray × Int)), ([(false, ⟨#[120]⟩, 1), (true, ⟨#[121]⟩, 1)] : List (Bool × ByteArray × Int))] : List (List (Bool × ByteArray × Int)))).length c0) (o11V ([([(true, ⟨#[120]⟩, 1)] : List (Bool × ByteArray × Int)), ([(false, ⟨#[120]⟩, 1), (true, ⟨#[121]⟩, 1)] : List (Bool × ByteArray × Int))] : List (List (Bool × ByteArray × Int)))), imm (.slice (some ⟨g2, 0, none⟩) 2 2) ([([(true, ⟨#[120]⟩, 1)] : List (Bool × ByteArray × Int)), ([(false, ⟨#[120]⟩, 1), (true, ⟨#[121]⟩, 1)] : List (Bool × ByteArray × Int))] : List (List (Bool × ByteArray × Int))), imm (.slice (some ⟨g1, 0, none⟩) 2 2) ([(false, ⟨#[120]⟩, 1), (true, ⟨#[121]⟩, 1)] : List (Bool × ByteArray × Int)), imm (.slice (some ⟨g0, 0, none⟩) 1 1) ([(true, ⟨#[120]⟩, 1)] : List (Bool × ByteArray × Int))])
  refine k (stX H10 0 rfl ty29 rfl rfl rfl rfl rfl rfl rfl ?_)
  intro w5 (H11 : HI (fun _ => False) w w5 [box bb0 #[.slice a0 (o11V ([([(true, ⟨#[120]⟩, 1)] : List (Bool × ByteArray × Int)), ([(false, ⟨#[120]⟩, 1), (true, ⟨#[121]⟩, 1)] : List (Bool × ByteArray × Int))] : List (List (Bool × ByteArray × Int)))).length c0, .slice a1 (o11I ([([(true, ⟨#[120]⟩, 1)] : List (Bool × ByteArray × Int)), ([(false, ⟨#[120]⟩, 1), (true, ⟨#[121]⟩, 1)] : List (Bool × ByteArray × Int))] : List (List (Bool × ByteArray × Int)))).length c1, .slice a2 (o11F ([([(true, ⟨#[120]⟩, 1)] : List (Bool × ByteArray × Int)), ([(false, ⟨#[120]⟩, 1), (true, ⟨#[121]⟩, 1)] : List (Bool × ByteArray × Int))] : List (List (Bool × ByteArray × Int)))).length c2] 29, imm (.slice a2 (o11F ([([(true, ⟨#[120]⟩, 1)] : List (Bool × ByteArray × Int)), ([(false, ⟨#[120]⟩, 1), (true, ⟨#[121]⟩, 1)] : List (Bool × ByteArray × Int))] : List (List (Bool × ByteArray × Int)))).length c2) (o11F ([([(true, ⟨#[120]⟩, 1)] : List (Bool × ByteArray × Int)), ([(false, ⟨#[120]⟩, 1), (true, ⟨#[121]⟩, 1)] : List (Bool × ByteArray × Int))] : List (List (Bool × ByteArray × Int)))), imm (.slice a1 (o11I ([([(true, ⟨#[120]⟩, 1)] : List (Bool × ByteArray × Int)), ([(false, ⟨#[120]⟩, 1), (true, ⟨#[121]⟩, 1)] : List (Bool × ByteArray × Int))] : List (List (Bool × ByteArray × Int)))).length c1) (o11I ([([(true, ⟨#[120]⟩, 1)] : List (Bool × ByteArray × Int)), ([(false, ⟨#[120]⟩, 1), (true, ⟨#[121]⟩, 1)] : List (Bool × ByteArray × Int))] : List (List (Bool × ByteArray × Int)))), imm (.slice a0 (o11V ([([(true, ⟨#[120]⟩, 1)] : List (Bool × ByteArray × Int)), ([(false, ⟨#[120]⟩, 1), (true, ⟨#[121]⟩, 1)] : List (Bool × ByteArray × Int))] : List (List (Bool × ByteArray × Int)))).length c0) (o11V ([([(true, ⟨#[120]⟩, 1)] : List (Bool × ByteArray × Int)), ([(false, ⟨#[120]⟩, 1), (true, ⟨#[121]⟩, 1)] : List (Bool × ByteArray × Int))] : List (List (Bool × ByteArray × Int)))), imm (.slice (some ⟨g2, 0, none⟩) 2 2) ([([(true, ⟨#[120]⟩, 1)] : List (Bool × ByteArray × Int)), ([(false, ⟨#[120]⟩, 1), (true, ⟨#[121]⟩, 1)] : List (Bool × ByteArray × Int))] : List (List (Bool × ByteArray × Int))), imm (.slice (some ⟨g1, 0, none⟩) 2 2) ([(false, ⟨#[120]⟩, 1), (true, ⟨#[121]⟩, 1)] : List (Bool × ByteArray × Int)), imm (.slice (some ⟨g0, 0, none⟩) 1 1) ([(true, ⟨#[120]⟩, 1)] : List (Bool × ByteArray × Int))])
  refine k (asg (v := .bool (o11 ([([(true, ⟨#[120]⟩, 1)] : List (Bool × ByteArray × Int)), ([(false, ⟨#[120]⟩, 1), (true, ⟨#[121]⟩, 1)] : List (Bool × ByteArray × Int))] : List (List (Bool × ByteArray × Int))))) rfl rfl (z (nx (sq (rg (k (ldX H11 0 rfl ty29 rfl rfl (by decide) rfl (k ?_))))))))
  have cc1 := cause_Co (fi := (o11I ([([(true, ⟨#[120]⟩, 1)] : List (Bool × ByteArray × Int)), ([(false, ⟨#[120]⟩, 1), (true, ⟨#[121]⟩, 1)] : List (Bool × ByteArray × Int))] : List (List (Bool × ByteArray × Int))))) (fo := (o11F ([([(true, ⟨#[120]⟩, 1)] : List (Bool × ByteArray × Int)), ([(false, ⟨#[120]⟩, 1), (true, ⟨#[121]⟩, 1)] : List (Bool × ByteArray × Int))] : List (List (Bool × ByteArray × Int))))) (a_fv := a0) (n_fv := (o11V ([([(true, ⟨#[120]⟩, 1)] : List (Bool × ByteArray × Int)), ([(false, ⟨#[120]⟩, 1), (true, ⟨#[121]⟩, 1)] : List (Bool × ByteArray × Int))] : List (List (Bool × ByteArray × Int)))).length) (c_fv := c0) (w := w5) H11.mb (H11.rv 2 rfl) (H11.rv 1 rfl) (by exact o11_ord _) (by decide +kernel) (by decide +kernel) (by decide +kernel)
  refine ca go14 rfl (ec rfl e0) cc1 ?_
  rintro _ w6 ⟨a3, c3, rfl, xt5, rv3⟩
  have H12 := H11.ext xt5
  have H13 := H12.put (it := imm (.slice a3 (coR (o11I ([([(true, ⟨#[120]⟩, 1)] : List (Bool × ByteArray × Int)), ([(false, ⟨#[120]⟩, 1), (true, ⟨#[121]⟩, 1)] : List (Bool × ByteArray × Int))] : List (List (Bool × ByteArray × Int)))) (o11F ([([(true, ⟨#[120]⟩, 1)] : List (Bool × ByteArray × Int)), ([(false, ⟨#[120]⟩, 1), (true, ⟨#[121]⟩, 1)] : List (Bool × ByteArray × Int))] : List (List (Bool × ByteArray × Int))))).length c3) (coR (o11I ([([(true, ⟨#[120]⟩, 1)] : List (Bool × ByteArray × Int)), ([(false, ⟨#[120]⟩, 1), (true, ⟨#[121]⟩, 1)] : List (Bool × ByteArray × Int))] : List (List (Bool × ByteArray × Int)))) (o11F ([([(true, ⟨#[120]⟩, 1)] : List (Bool × ByteArray × Int)), ([(false, ⟨#[120]⟩, 1), (true, ⟨#[121]⟩, 1)] : List (Bool × ByteArray × Int))] : List (List (Bool × ByteArray × Int)))))) rfl rv3
  refine k (al H13 ty35 ?_)
  intro bb1 w7 xt6 (H14 : HI (fun _ => False) w w7 [box bb1 #[.int .i64 0, .slice none 0 0] 35, imm (.slice a3 (coR (o11I ([([(true, ⟨#[120]⟩, 1)] : List (Bool × ByteArray × Int)), ([(false, ⟨#[120]⟩, 1), (true, ⟨#[121]⟩, 1)] : List (Bool × ByteArray × Int))] : List (List (Bool × ByteArray × Int)))) (o11F ([([(true, ⟨#[120]⟩, 1)] : List (Bool × ByteArray × Int)), ([(false, ⟨#[120]⟩, 1), (true, ⟨#[121]⟩, 1)] : List (Bool × ByteArray × Int))] : List (List (Bool × ByteArray × Int))))).length c3) (coR (o11I ([([(true, ⟨#[120]⟩, 1)] : List (Bool × ByteArray × Int)), ([(false, ⟨#[120]⟩, 1), (true, ⟨#[121]⟩, 1)] : List (Bool × ByteArray × Int))] : List (List (Bool × ByteArray × Int)))) (o11F ([([(true, ⟨#[120]⟩, 1)] : List (Bool × ByteArray × Int)), ([(false, ⟨#[120]⟩, 1), (true, ⟨#[121]⟩, 1)] : List (Bool × ByteArray × Int))] : List (List (Bool × ByteArray × Int))))), box bb0 #[.slice a0 (o11V ([([(true, ⟨#[120]⟩, 1)] : List (Bool × ByteArray × Int)), ([(false, ⟨#[120]⟩, 1), (true, ⟨#[121]⟩, 1)] : List (Bool × ByteArray × Int))] : List (List (Bool × ByteArray × Int)))).length c0, .slice a1 (o11I ([([(true, ⟨#[120]⟩, 1)] : List (Bool × ByteArray × Int)), ([(false, ⟨#[120]⟩, 1), (true, ⟨#[121]⟩, 1)] : List (Bool × ByteArray × Int))] : List (List (Bool × ByteArray × Int)))).length c1, .slice a2 (o11F ([([(true, ⟨#[120]⟩, 1)] : List (Bool × ByteArray × Int)), ([(false, ⟨#[120]⟩, 1), (true, ⟨#[121]⟩, 1)] : List (Bool × ByteArray × Int))] : List (List (Bool × ByteArray × Int)))).length c2] 29, imm (.slice a2 (o11F ([([(true, ⟨#[120]⟩, 1)] : List (Bool × ByteArray × Int)), ([(false, ⟨#[120]⟩, 1), (true, ⟨#[121]⟩, 1)] : List (Bool × ByteArray × Int))] : List (List (Bool × ByteArray × Int)))).length c2) (o11F ([([(true, ⟨#[120]⟩, 1)] : List (Bool × ByteArray × Int)), ([(false, ⟨#[120]⟩, 1), (true, ⟨#[121]⟩, 1)] : List (Bool × ByteArray × Int))] : List (List (Bool × ByteArray × Int)))), imm (.slice a1 (o11I ([([(true, ⟨#[120]⟩, 1)] : List (Bool × ByteArray × Int)), ([(false, ⟨#[120]⟩, 1), (true, ⟨#[121]⟩, 1)] : List (Bool × ByteArray × Int))] : List (List (Bool × ByteArray × Int)))).length c1) (o11I ([([(true, ⟨#[120]⟩, 1)] : List (Bool × ByteArray × Int)), ([(false, ⟨#[120]⟩, 1), (true, ⟨#[121]⟩, 1)] : List (Bool × ByteArray × Int))] : List (List (Bool × ByteArray × Int)))), imm (.slice a0 (o11V ([([(true, ⟨#[120]⟩, 1)] : List (Bool × ByteArray × Int)), ([(false, ⟨#[120]⟩, 1), (true, ⟨#[121]⟩, 1)] : List (Bool × ByteArray × Int))] : List (List (Bool × ByteArray × Int)))).length c0) (o11V ([([(true, ⟨#[120]⟩, 1)] : List (Bool × ByteArray × Int)), ([(false, ⟨#[120]⟩, 1), (true, ⟨#[121]⟩, 1)] : List (Bool × ByteArray × Int))] : List (List (Bool × ByteArray × Int)))), imm (.slice (some ⟨g2, 0, none⟩) 2 2) ([([(true, ⟨#[120]⟩, 1)] : List (Bool × ByteArray × Int)), ([(false, ⟨#[120]⟩, 1), (true, ⟨#[121]⟩, 1)] : List (Bool × ByteArray × Int))] : List (List (Bool × ByteArray × Int))), imm (.slice (some ⟨g1, 0, none⟩) 2 2) ([(false, ⟨#[120]⟩, 1), (true, ⟨#[121]⟩, 1)] : List (Bool × ByteArray × Int)), imm (.slice (some ⟨g0, 0, none⟩) 1 1) ([(true, ⟨#[120]⟩, 1)] : List (Bool × ByteArray × Int))])
  refine k (stX H14 0 rfl ty35 rfl rfl rfl rfl rfl rfl rfl ?_)
  intro w8 (H15 : HI (fun _ => False) w w8 [box bb1 #[.int .i64 ((o11I ([([(true, ⟨#[120]⟩, 1)] : List (Bool × ByteArray × Int)), ([(false, ⟨#[120]⟩, 1), (true, ⟨#[121]⟩, 1)] : List (Bool × ByteArray × Int))] : List (List (Bool × ByteArray × Int)))).length : Int), .slice a3 (coR (o11I ([([(true, ⟨#[120]⟩, 1)] : List (Bool × ByteArray × Int)), ([(false, ⟨#[120]⟩, 1), (true, ⟨#[121]⟩, 1)] : List (Bool × ByteArray × Int))] : List (List (Bool × ByteArray × Int)))) (o11F ([([(true, ⟨#[120]⟩, 1)] : List (Bool × ByteArray × Int)), ([(false, ⟨#[120]⟩, 1), (true, ⟨#[121]⟩, 1)] : List (Bool × ByteArray × Int))] : List (List (Bool × ByteArray × Int))))).length c3] 35, imm (.slice a3 (coR (o11I ([([(true, ⟨#[120]⟩, 1)] : List (Bool × ByteArray × Int)), ([(false, ⟨#[120]⟩, 1), (true, ⟨#[121]⟩, 1)] : List (Bool × ByteArray × Int))] : List (List (Bool × ByteArray × Int)))) (o11F ([([(true, ⟨#[120]⟩, 1)] : List (Bool × ByteArray × Int)), ([(false, ⟨#[120]⟩, 1), (true, ⟨#[121]⟩, 1)] : List (Bool × ByteArray × Int))] : List (List (Bool × ByteArray × Int))))).length c3) (coR (o11I ([([(true, ⟨#[120]⟩, 1)] : List (Bool × ByteArray × Int)), ([(false, ⟨#[120]⟩, 1), (true, ⟨#[121]⟩, 1)] : List (Bool × ByteArray × Int))] : List (List (Bool × ByteArray × Int)))) (o11F ([([(true, ⟨#[120]⟩, 1)] : List (Bool × ByteArray × Int)), ([(false, ⟨#[120]⟩, 1), (true, ⟨#[121]⟩, 1)] : List (Bool × ByteArray × Int))] : List (List (Bool × ByteArray × Int))))), box bb0 #[.slice a0 (o11V ([([(true, ⟨#[120]⟩, 1)] : List (Bool × ByteArray × Int)), ([(false, ⟨#[120]⟩, 1), (true, ⟨#[121]⟩, 1)] : List (Bool × ByteArray × Int))] : List (List (Bool × ByteArray × Int)))).length c0, .slice a1 (o11I ([([(true, ⟨#[120]⟩, 1)] : List (Bool × ByteArray × Int)), ([(false, ⟨#[120]⟩, 1), (true, ⟨#[121]⟩, 1)] : List (Bool × ByteArray × Int))] : List (List (Bool × ByteArray × Int)))).length c1, .slice a2 (o11F ([([(true, ⟨#[120]⟩, 1)] : List (Bool × ByteArray × Int)), ([(false, ⟨#[120]⟩, 1), (true, ⟨#[121]⟩, 1)] : List (Bool × ByteArray × Int))] : List (List (Bool × ByteArray × Int)))).length c2] 29, imm (.slice a2 (o11F ([([(true, ⟨#[120]⟩, 1)] : List (Bool × ByteArray × Int)), ([(false, ⟨#[120]⟩, 1), (true, ⟨#[121]⟩, 1)] : List (Bool × ByteArray × Int))] : List (List (Bool × ByteArray × Int)))).length c2) (o11F ([([(true, ⟨#[120]⟩, 1)] : List (Bool × ByteArray × Int)), ([(false, ⟨#[120]⟩, 1), (true, ⟨#[121]⟩, 1)] : List (Bool × ByteArray × Int))] : List (List (Bool × ByteArray × Int)))), imm (.slice a1 (o11I ([([(true, ⟨#[120]⟩, 1)] : List (Bool × ByteArray × Int)), ([(false, ⟨#[120]⟩, 1), (true, ⟨#[121]⟩, 1)] : List (Bool × ByteArray × Int))] : List (List (Bool × ByteArray × Int)))).length c1) (o11I ([([(true, ⟨#[120]⟩, 1)] : List (Bool × ByteArray × Int)), ([(false, ⟨#[120]⟩, 1), (true, ⟨#[121]⟩, 1)] : List (Bool × ByteArray × Int))] : List (List (Bool × ByteArray × Int)))), imm (.slice a0 (o11V ([([(true, ⟨#[120]⟩, 1)] : List (Bool × ByteArray × Int)), ([(false, ⟨#[120]⟩, 1), (true, ⟨#[121]⟩, 1)] : List (Bool × ByteArray × Int))] : List (List (Bool × ByteArray × Int)))).length c0) (o11V ([([(true, ⟨#[120]⟩, 1)] : List (Bool × ByteArray × Int)), ([(false, ⟨#[120]⟩, 1), (true, ⟨#[121]⟩, 1)] : List (Bool × ByteArray × Int))] : List (List (Bool × ByteArray × Int)))), imm (.slice (some ⟨g2, 0, none⟩) 2 2) ([([(true, ⟨#[120]⟩, 1)] : List (Bool × ByteArray × Int)), ([(false, ⟨#[120]⟩, 1), (true, ⟨#[121]⟩, 1)] : List (Bool × ByteArray × Int))] : List (List (Bool × ByteArray × Int))), imm (.slice (some ⟨g1, 0, none⟩) 2 2) ([(false, ⟨#[120]⟩, 1), (true, ⟨#[121]⟩, 1)] : List (Bool × ByteArray × Int)), imm (.slice (some ⟨g0, 0, none⟩) 1 1) ([(true, ⟨#[120]⟩, 1)] : List (Bool × ByteArray × Int))])
  refine z (nx (sq (rg (k (mv (v := .bool (o11 ([([(true, ⟨#[120]⟩, 1)] : List (Bool × ByteArray × Int)), ([(false, ⟨#[120]⟩, 1), (true, ⟨#[121]⟩, 1)] : List (Bool × ByteArray × Int))] : List (List (Bool × ByteArray × Int))))) rfl rfl (k (mv (v := .bool (o11 ([([(true, ⟨#[120]⟩, 1)] : List (Bool × ByteArray × Int)), ([(false, ⟨#[120]⟩, 1), (true, ⟨#[121]⟩, 1)] : List (Bool × ByteArray × Int))] : List (List (Bool × ByteArray × Int))))) rfl rfl ?_)))))))
  have tr0 : (o11 ([([(true, ⟨#[120]⟩, 1)] : List (Bool × ByteArray × Int)), ([(false, ⟨#[120]⟩, 1), (true, ⟨#[121]⟩, 1)] : List (Bool × ByteArray × Int))] : List (List (Bool × ByteArray × Int)))) = true := (by decide +kernel)
  refine k (gy rfl rfl rfl tr0 (ldX H15 0 rfl ty35 rfl rfl (by decide) rfl (k (gy rfl rfl rfl tr0 ?_))))
  have cc2 := ref03_Has (mn := ((o11I ([([(true, ⟨#[120]⟩, 1)] : List (Bool × ByteArray × Int)), ([(false, ⟨#[120]⟩, 1), (true, ⟨#[121]⟩, 1)] : List (Bool × ByteArray × Int))] : List (List (Bool × ByteArray × Int)))).length : Int)) (mr := (coR (o11I ([([(true, ⟨#[120]⟩, 1)] : List (Bool × ByteArray × Int)), ([(false, ⟨#[120]⟩, 1), (true, ⟨#[121]⟩, 1)] : List (Bool × ByteArray × Int))] : List (List (Bool × ByteArray × Int)))) (o11F ([([(true, ⟨#[120]⟩, 1)] : List (Bool × ByteArray × Int)), ([(false, ⟨#[120]⟩, 1), (true, ⟨#[121]⟩, 1)] : List (Bool × ByteArray × Int))] : List (List (Bool × ByteArray × Int)))))) (i := 0) (j := 1) (w := w8) H15.mb (by first | (unfold I64; decide +kernel) | decide +kernel) (H15.rv 1 rfl) (by first | (unfold I64; decide +kernel) | decide +kernel) (by first | (unfold I64; decide +kernel) | decide +kernel) (by decide +kernel) (by decide +kernel) (by decide +kernel)
  refine ca go20 rfl (ec rfl (ec rfl (ec rfl e0))) cc2 ?_
  rintro _ w9 ⟨rfl, xt7⟩
  have H16 := H15.ext xt7
  refine k (pickT rfl rfl rfl rfl tr0 rfl (k (mv (v := .bool (hasM ((o11I ([([(true, ⟨#[120]⟩, 1)] : List (Bool × ByteArray × Int)), ([(false, ⟨#[120]⟩, 1), (true, ⟨#[121]⟩, 1)] : List (Bool × ByteArray × Int))] : List (List (Bool × ByteArray × Int)))).length : Int) (coR (o11I ([([(true, ⟨#[120]⟩, 1)] : List (Bool × ByteArray × Int)), ([(false, ⟨#[120]⟩, 1), (true, ⟨#[121]⟩, 1)] : List (Bool × ByteArray × Int))] : List (List (Bool × ByteArray × Int)))) (o11F ([([(true, ⟨#[120]⟩, 1)] : List (Bool × ByteArray × Int)), ([(false, ⟨#[120]⟩, 1), (true, ⟨#[121]⟩, 1)] : List (Bool × ByteArray × Int))] : List (List (Bool × ByteArray × Int))))) 0 1)) rfl rfl ?_)))
  have tr1 : (hasM ((o11I ([([(true, ⟨#[120]⟩, 1)] : List (Bool × ByteArray × Int)), ([(false, ⟨#[120]⟩, 1), (true, ⟨#[121]⟩, 1)] : List (Bool × ByteArray × Int))] : List (List (Bool × ByteArray × Int)))).length : Int) (coR (o11I ([([(true, ⟨#[120]⟩, 1)] : List (Bool × ByteArray × Int)), ([(false, ⟨#[120]⟩, 1), (true, ⟨#[121]⟩, 1)] : List (Bool × ByteArray × Int))] : List (List (Bool × ByteArray × Int)))) (o11F ([([(true, ⟨#[120]⟩, 1)] : List (Bool × ByteArray × Int)), ([(false, ⟨#[120]⟩, 1), (true, ⟨#[121]⟩, 1)] : List (Bool × ByteArray × Int))] : List (List (Bool × ByteArray × Int))))) 0 1) = true := (by decide +kernel)
  refine k (gy rfl rfl rfl tr1 (ldX H16 0 rfl ty35 rfl rfl (by decide) rfl (k (gy rfl rfl rfl tr1 ?_))))
  have cc3 := ref03_Has (mn := ((o11I ([([(true, ⟨#[120]⟩, 1)] : List (Bool × ByteArray × Int)), ([(false, ⟨#[120]⟩, 1), (true, ⟨#[121]⟩, 1)] : List (Bool × ByteArray × Int))] : List (List (Bool × ByteArray × Int)))).length : Int)) (mr := (coR (o11I ([([(true, ⟨#[120]⟩, 1)] : List (Bool × ByteArray × Int)), ([(false, ⟨#[120]⟩, 1), (true, ⟨#[121]⟩, 1)] : List (Bool × ByteArray × Int))] : List (List (Bool × ByteArray × Int)))) (o11F ([([(true, ⟨#[120]⟩, 1)] : List (Bool × ByteArray × Int)), ([(false, ⟨#[120]⟩, 1), (true, ⟨#[121]⟩, 1)] : List (Bool × ByteArray × Int))] : List (List (Bool × ByteArray × Int)))))) (i := 0) (j := 2) (w := w9) H16.mb (by first | (unfold I64; decide +kernel) | decide +kernel) (H16.rv 1 rfl) (by first | (unfold I64; decide +kernel) | decide +kernel) (by first | (unfold I64; decide +kernel) | decide +kernel) (by decide +kernel) (by decide +kernel) (by decide +kernel)
  refine ca go20 rfl (ec rfl (ec rfl (ec rfl e0))) cc3 ?_
  rintro _ w10 ⟨rfl, xt8⟩
  have H17 := H16.ext xt8
  refine k (pickT rfl rfl rfl rfl tr1 rfl (k (mv (v := .bool (hasM ((o11I ([([(true, ⟨#[120]⟩, 1)] : List (Bool × ByteArray × Int)), ([(false, ⟨#[120]⟩, 1), (true, ⟨#[121]⟩, 1)] : List (Bool × ByteArray × Int))] : List (List (Bool × ByteArray × Int)))).length : Int) (coR (o11I ([([(true, ⟨#[120]⟩, 1)] : List (Bool × ByteArray × Int)), ([(false, ⟨#[120]⟩, 1), (true, ⟨#[121]⟩, 1)] : List (Bool × ByteArray × Int))] : List (List (Bool × ByteArray × Int)))) (o11F ([([(true, ⟨#[120]⟩, 1)] : List (Bool × ByteArray × Int)), ([(false, ⟨#[120]⟩, 1), (true, ⟨#[121]⟩, 1)] : List (Bool × ByteArray × Int))] : List (List (Bool × ByteArray × Int))))) 0 2)) rfl rfl ?_)))
  have tr2 : (hasM ((o11I ([([(true, ⟨#[120]⟩, 1)] : List (Bool × ByteArray × Int)), ([(false, ⟨#[120]⟩, 1), (true, ⟨#[121]⟩, 1)] : List (Bool × ByteArray × Int))] : List (List (Bool × ByteArray × Int)))).length : Int) (coR (o11I ([([(true, ⟨#[120]⟩, 1)] : List (Bool × ByteArray × Int)), ([(false, ⟨#[120]⟩, 1), (true, ⟨#[121]⟩, 1)] : List (Bool × ByteArray × Int))] : List (List (Bool × ByteArray × Int)))) (o11F ([([(true, ⟨#[120]⟩, 1)] : List (Bool × ByteArray × Int)), ([(false, ⟨#[120]⟩, 1), (true, ⟨#[121]⟩, 1)] : List (Bool × ByteArray × Int))] : List (List (Bool × ByteArray × Int))))) 0 2) = true := (by decide +kernel)
  refine k (gy rfl rfl rfl tr2 (ldX H17 0 rfl ty35 rfl rfl (by decide) rfl (k (gy rfl rfl rfl tr2 ?_))))
  have cc4 := ref03_Has (mn := ((o11I ([([(true, ⟨#[120]⟩, 1)] : List (Bool × ByteArray × Int)), ([(false, ⟨#[120]⟩, 1), (true, ⟨#[121]⟩, 1)] : List (Bool × ByteArray × Int))] : List (List (Bool × ByteArray × Int)))).length : Int)) (mr := (coR (o11I ([([(true, ⟨#[120]⟩, 1)] : List (Bool × ByteArray × Int)), ([(false, ⟨#[120]⟩, 1), (true, ⟨#[121]⟩, 1)] : List (Bool × ByteArray × Int))] : List (List (Bool × ByteArray × Int)))) (o11F ([([(true, ⟨#[120]⟩, 1)] : List (Bool × ByteArray × Int)), ([(false, ⟨#[120]⟩, 1), (true, ⟨#[121]⟩, 1)] : List (Bool × ByteArray × Int))] : List (List (Bool × ByteArray × Int)))))) (i := 2) (j := 0) (w := w10) H17.mb (by first | (unfold I64; decide +kernel) | decide +kernel) (H17.rv 1 rfl) (by first | (unfold I64; decide +kernel) | decide +kernel) (by first | (unfold I64; decide +kernel) | decide +kernel) (by decide +kernel) (by decide +kernel) (by decide +kernel)
  refine ca go20 rfl (ec rfl (ec rfl (ec rfl e0))) cc4 ?_
  rintro _ w11 ⟨rfl, xt9⟩
  have H18 := H17.ext xt9
  refine k (gy rfl rfl rfl tr2 (not_ rfl rfl (k (pickT rfl rfl rfl rfl tr2 rfl (k (mv (v := .bool (!(hasM ((o11I ([([(true, ⟨#[120]⟩, 1)] : List (Bool × ByteArray × Int)), ([(false, ⟨#[120]⟩, 1), (true, ⟨#[121]⟩, 1)] : List (Bool × ByteArray × Int))] : List (List (Bool × ByteArray × Int)))).length : Int) (coR (o11I ([([(true, ⟨#[120]⟩, 1)] : List (Bool × ByteArray × Int)), ([(false, ⟨#[120]⟩, 1), (true, ⟨#[121]⟩, 1)] : List (Bool × ByteArray × Int))] : List (List (Bool × ByteArray × Int)))) (o11F ([([(true, ⟨#[120]⟩, 1)] : List (Bool × ByteArray × Int)), ([(false, ⟨#[120]⟩, 1), (true, ⟨#[121]⟩, 1)] : List (Bool × ByteArray × Int))] : List (List (Bool × ByteArray × Int))))) 2 0))) rfl rfl ?_))))))
  have tr3 : (hasM ((o11I ([([(true, ⟨#[120]⟩, 1)] : List (Bool × ByteArray × Int)), ([(false, ⟨#[120]⟩, 1), (true, ⟨#[121]⟩, 1)] : List (Bool × ByteArray × Int))] : List (List (Bool × ByteArray × Int)))).length : Int) (coR (o11I ([([(true, ⟨#[120]⟩, 1)] : List (Bool × ByteArray × Int)), ([(false, ⟨#[120]⟩, 1), (true, ⟨#[121]⟩, 1)] : List (Bool × ByteArray × Int))] : List (List (Bool × ByteArray × Int)))) (o11F ([([(true, ⟨#[120]⟩, 1)] : List (Bool × ByteArray × Int)), ([(false, ⟨#[120]⟩, 1), (true, ⟨#[121]⟩, 1)] : List (Bool × ByteArray × Int))] : List (List (Bool × ByteArray × Int))))) 2 0) = false := (by decide +kernel)
  refine k (gy rfl rfl rfl (by rw [show (hasM ((o11I ([([(true, ⟨#[120]⟩, 1)] : List (Bool × ByteArray × Int)), ([(false, ⟨#[120]⟩, 1), (true, ⟨#[121]⟩, 1)] : List (Bool × ByteArray × Int))] : List (List (Bool × ByteArray × Int)))).length : Int) (coR (o11I ([([(true, ⟨#[120]⟩, 1)] : List (Bool × ByteArray × Int)), ([(false, ⟨#[120]⟩, 1), (true, ⟨#[121]⟩, 1)] : List (Bool × ByteArray × Int))] : List (List (Bool × ByteArray × Int)))) (o11F ([([(true, ⟨#[120]⟩, 1)] : List (Bool × ByteArray × Int)), ([(false, ⟨#[120]⟩, 1), (true, ⟨#[121]⟩, 1)] : List (Bool × ByteArray × Int))] : List (List (Bool × ByteArray × Int))))) 2 0) = false from tr3]; rfl) (ldX H18 2 rfl ty29 rfl rfl (by decide) rfl (k (gy rfl rfl rfl (by rw [show (hasM ((o11I ([([(true, ⟨#[120]⟩, 1)] : List (Bool × ByteArray × Int)), ([(false, ⟨#[120]⟩, 1), (true, ⟨#[121]⟩, 1)] : List (Bool × ByteArray × Int))] : List (List (Bool × ByteArray × Int)))).length : Int) (coR (o11I ([([(true, ⟨#[120]⟩, 1)] : List (Bool × ByteArray × Int)), ([(false, ⟨#[120]⟩, 1), (true, ⟨#[121]⟩, 1)] : List (Bool × ByteArray × Int))] : List (List (Bool × ByteArray × Int)))) (o11F ([([(true, ⟨#[120]⟩, 1)] : List (Bool × ByteArray × Int)), ([(false, ⟨#[120]⟩, 1), (true, ⟨#[121]⟩, 1)] : List (Bool × ByteArray × Int))] : List (List (Bool × ByteArray × Int))))) 2 0) = false from tr3]; rfl) ?_))))
  have cc5 := cause_Edges (fi := (o11I ([([(true, ⟨#[120]⟩, 1)] : List (Bool × ByteArray × Int)), ([(false, ⟨#[120]⟩, 1), (true, ⟨#[121]⟩, 1)] : List (Bool × ByteArray × Int))] : List (List (Bool × ByteArray × Int))))) (fo := (o11F ([([(true, ⟨#[120]⟩, 1)] : List (Bool × ByteArray × Int)), ([(false, ⟨#[120]⟩, 1), (true, ⟨#[121]⟩, 1)] : List (Bool × ByteArray × Int))] : List (List (Bool × ByteArray × Int))))) (a_fv := a0) (n_fv := (o11V ([([(true, ⟨#[120]⟩, 1)] : List (Bool × ByteArray × Int)), ([(false, ⟨#[120]⟩, 1), (true, ⟨#[121]⟩, 1)] : List (Bool × ByteArray × Int))] : List (List (Bool × ByteArray × Int)))).length) (c_fv := c0) (w := w11) H18.mb (H18.rv 4 rfl) (H18.rv 3 rfl) (by exact o11_ord _) (by decide +kernel) (by decide +kernel) (by decide +kernel)
  refine ca go12 rfl (ec rfl e0) cc5 ?_
  rintro _ w12 ⟨a4, c4, rfl, xt10, rv4⟩
  have H19 := H18.ext xt10
  have H20 := H19.put (it := imm (.slice a4 (edR (o11I ([([(true, ⟨#[120]⟩, 1)] : List (Bool × ByteArray × Int)), ([(false, ⟨#[120]⟩, 1), (true, ⟨#[121]⟩, 1)] : List (Bool × ByteArray × Int))] : List (List (Bool × ByteArray × Int)))) (o11F ([([(true, ⟨#[120]⟩, 1)] : List (Bool × ByteArray × Int)), ([(false, ⟨#[120]⟩, 1), (true, ⟨#[121]⟩, 1)] : List (Bool × ByteArray × Int))] : List (List (Bool × ByteArray × Int))))).length c4) (edR (o11I ([([(true, ⟨#[120]⟩, 1)] : List (Bool × ByteArray × Int)), ([(false, ⟨#[120]⟩, 1), (true, ⟨#[121]⟩, 1)] : List (Bool × ByteArray × Int))] : List (List (Bool × ByteArray × Int)))) (o11F ([([(true, ⟨#[120]⟩, 1)] : List (Bool × ByteArray × Int)), ([(false, ⟨#[120]⟩, 1), (true, ⟨#[121]⟩, 1)] : List (Bool × ByteArray × Int))] : List (List (Bool × ByteArray × Int)))))) rfl rv4
  refine k (gy rfl rfl rfl (by rw [show (hasM ((o11I ([([(true, ⟨#[120]⟩, 1)] : List (Bool × ByteArray × Int)), ([(false, ⟨#[120]⟩, 1), (true, ⟨#[121]⟩, 1)] : List (Bool × ByteArray × Int))] : List (List (Bool × ByteArray × Int)))).length : Int) (coR (o11I ([([(true, ⟨#[120]⟩, 1)] : List (Bool × ByteArray × Int)), ([(false, ⟨#[120]⟩, 1), (true, ⟨#[121]⟩, 1)] : List (Bool × ByteArray × Int))] : List (List (Bool × ByteArray × Int)))) (o11F ([([(true, ⟨#[120]⟩, 1)] : List (Bool × ByteArray × Int)), ([(false, ⟨#[120]⟩, 1), (true, ⟨#[121]⟩, 1)] : List (Bool × ByteArray × Int))] : List (List (Bool × ByteArray × Int))))) 2 0) = false from tr3]; rfl) ?_)
  have cc6 := ref03_Has (mn := ((o11I ([([(true, ⟨#[120]⟩, 1)] : List (Bool × ByteArray × Int)), ([(false, ⟨#[120]⟩, 1), (true, ⟨#[121]⟩, 1)] : List (Bool × ByteArray × Int))] : List (List (Bool × ByteArray × Int)))).length : Int)) (mr := (edR (o11I ([([(true, ⟨#[120]⟩, 1)] : List (Bool × ByteArray × Int)), ([(false, ⟨#[120]⟩, 1), (true, ⟨#[121]⟩, 1)] : List (Bool × ByteArray × Int))] : List (List (Bool × ByteArray × Int)))) (o11F ([([(true, ⟨#[120]⟩, 1)] : List (Bool × ByteArray × Int)), ([(false, ⟨#[120]⟩, 1), (true, ⟨#[121]⟩, 1)] : List (Bool × ByteArray × Int))] : List (List (Bool × ByteArray × Int)))))) (i := 0) (j := 2) (w := w12) H20.mb (by first | (unfold I64; decide +kernel) | decide +kernel) (H20.rv 0 rfl) (by first | (unfold I64; decide +kernel) | decide +kernel) (by first | (unfold I64; decide +kernel) | decide +kernel) (by decide +kernel) (by decide +kernel) (by decide +kernel)
  refine ca go20 rfl (ec rfl (ec rfl (ec rfl e0))) cc6 ?_
  rintro _ w13 ⟨rfl, xt11⟩
  have H21 := H20.ext xt11
  refine k (gy rfl rfl rfl (by rw [show (hasM ((o11I ([([(true, ⟨#[120]⟩, 1)] : List (Bool × ByteArray × Int)), ([(false, ⟨#[120]⟩, 1), (true, ⟨#[121]⟩, 1)] : List (Bool × ByteArray × Int))] : List (List (Bool × ByteArray × Int)))).length : Int) (coR (o11I ([([(true, ⟨#[120]⟩, 1)] : List (Bool × ByteArray × Int)), ([(false, ⟨#[120]⟩, 1), (true, ⟨#[121]⟩, 1)] : List (Bool × ByteArray × Int))] : List (List (Bool × ByteArray × Int)))) (o11F ([([(true, ⟨#[120]⟩, 1)] : List (Bool × ByteArray × Int)), ([(false, ⟨#[120]⟩, 1), (true, ⟨#[121]⟩, 1)] : List (Bool × ByteArray × Int))] : List (List (Bool × ByteArray × Int))))) 2 0) = false from tr3]; rfl) (not_ rfl rfl (k (pickT rfl rfl rfl rfl (by rw [show (hasM ((o11I ([([(true, ⟨#[120]⟩, 1)] : List (Bool × ByteArray × Int)), ([(false, ⟨#[120]⟩, 1), (true, ⟨#[121]⟩, 1)] : List (Bool × ByteArray × Int))] : List (List (Bool × ByteArray × Int)))).length : Int) (coR (o11I ([([(true, ⟨#[120]⟩, 1)] : List (Bool × ByteArray × Int)), ([(false, ⟨#[120]⟩, 1), (true, ⟨#[121]⟩, 1)] : List (Bool × ByteArray × Int))] : List (List (Bool × ByteArray × Int)))) (o11F ([([(true, ⟨#[120]⟩, 1)] : List (Bool × ByteArray × Int)), ([(false, ⟨#[120]⟩, 1), (true, ⟨#[121]⟩, 1)] : List (Bool × ByteArray × Int))] : List (List (Bool × ByteArray × Int))))) 2 0) = false from tr3]; rfl) rfl (k (asg (v := .bool (!(hasM ((o11I ([([(true, ⟨#[120]⟩, 1)] : List (Bool × ByteArray × Int)), ([(false, ⟨#[120]⟩, 1), (true, ⟨#[121]⟩, 1)] : List (Bool × ByteArray × Int))] : List (List (Bool × ByteArray × Int)))).length : Int) (edR (o11I ([([(true, ⟨#[120]⟩, 1)] : List (Bool × ByteArray × Int)), ([(false, ⟨#[120]⟩, 1), (true, ⟨#[121]⟩, 1)] : List (Bool × ByteArray × Int))] : List (List (Bool × ByteArray × Int)))) (o11F ([([(true, ⟨#[120]⟩, 1)] : List (Bool × ByteArray × Int)), ([(false, ⟨#[120]⟩, 1), (true, ⟨#[121]⟩, 1)] : List (Bool × ByteArray × Int))] : List (List (Bool × ByteArray × Int))))) 0 2))) rfl rfl (z (nx (rt (r1 rfl rfl ?_))))))))))
  have tr4 : (hasM ((o11I ([([(true, ⟨#[120]⟩, 1)] : List (Bool × ByteArray × Int)), ([(false, ⟨#[120]⟩, 1), (true, ⟨#[121]⟩, 1)] : List (Bool × ByteArray × Int))] : List (List (Bool × ByteArray × Int)))).length : Int) (edR (o11I ([([(true, ⟨#[120]⟩, 1)] : List (Bool × ByteArray × Int)), ([(false, ⟨#[120]⟩, 1), (true, ⟨#[121]⟩, 1)] : List (Bool × ByteArray × Int))] : List (List (Bool × ByteArray × Int)))) (o11F ([([(true, ⟨#[120]⟩, 1)] : List (Bool × ByteArray × Int)), ([(false, ⟨#[120]⟩, 1), (true, ⟨#[121]⟩, 1)] : List (Bool × ByteArray × Int))] : List (List (Bool × ByteArray × Int))))) 0 2) = false := (by decide +kernel)
  have e0 : (!(hasM ((o11I ([([(true, ⟨#[120]⟩, 1)] : List (Bool × ByteArray × Int)), ([(false, ⟨#[120]⟩, 1), (true, ⟨#[121]⟩, 1)] : List (Bool × ByteArray × Int))] : List (List (Bool × ByteArray × Int)))).length : Int) (edR (o11I ([([(true, ⟨#[120]⟩, 1)] : List (Bool × ByteArray × Int)), ([(false, ⟨#[120]⟩, 1), (true, ⟨#[121]⟩, 1)] : List (Bool × ByteArray × Int))] : List (List (Bool × ByteArray × Int)))) (o11F ([([(true, ⟨#[120]⟩, 1)] : List (Bool × ByteArray × Int)), ([(false, ⟨#[120]⟩, 1), (true, ⟨#[121]⟩, 1)] : List (Bool × ByteArray × Int))] : List (List (Bool × ByteArray × Int))))) 0 2) : Bool) = true := by exact (by rw [show (hasM ((o11I ([([(true, ⟨#[120]⟩, 1)] : List (Bool × ByteArray × Int)), ([(false, ⟨#[120]⟩, 1), (true, ⟨#[121]⟩, 1)] : List (Bool × ByteArray × Int))] : List (List (Bool × ByteArray × Int)))).length : Int) (edR (o11I ([([(true, ⟨#[120]⟩, 1)] : List (Bool × ByteArray × Int)), ([(false, ⟨#[120]⟩, 1), (true, ⟨#[121]⟩, 1)] : List (Bool × ByteArray × Int))] : List (List (Bool × ByteArray × Int)))) (o11F ([([(true, ⟨#[120]⟩, 1)] : List (Bool × ByteArray × Int)), ([(false, ⟨#[120]⟩, 1), (true, ⟨#[121]⟩, 1)] : List (Bool × ByteArray × Int))] : List (List (Bool × ByteArray × Int))))) 0 2) = false from tr4]; rfl)
  have ev_ := cg1 (fun (x_0 : Bool) => (.bool x_0 : Value)) e0
  exact ⟨ev_, H21.below⟩
end Go.Proofs.Ytmhopljngkgidaa
namespace Go.Proofs.Ytmhopljngkgidaa
open Go.Ew Go.RowKit
set_option linter.unusedVariables false
set_option linter.unusedSimpArgs false
attribute [local irreducible] WL WC SO Code.wp wpList retQ Ret
attribute [local irreducible] bitB hasW inR hasR setR countW countR subR words newR listR orR firstW tab8
theorem go6 : GoF Try.prog 6 := ⟨_, _, Try.func6, rfl, by kernel_rfl⟩
theorem go7 : GoF Try.prog 7 := ⟨_, _, Try.func7, rfl, by kernel_rfl⟩
theorem go9 : GoF Try.prog 9 := ⟨_, _, Try.func9, rfl, by kernel_rfl⟩
theorem go15 : GoF Try.prog 15 := ⟨_, _, Try.func15, rfl, by kernel_rfl⟩
/- eyewitness/eyewitnesslaw13.CauseTells -/
set_option maxRecDepth 100000 in
set_option maxHeartbeats 1600000 in
theorem law_CauseTells {M : Nat → Prop} {w : World} {a_h : Option Addr} {c_h : Nat} {h : List (List (Bool × ByteArray × Int))} (hM : ∀ b, M b → b < w.heap.size) (h_h : RV M w (.slice a_h h.length c_h) h) (hb_h : h.flatten.length ≤ 1048576) : Calls Try.prog 3 #[.slice a_h h.length c_h] w (Ret fun v w' =>  v = .bool true ∧ Ext w w') := by
  refine enter 39 Try.func3 rfl rfl rfl fun f0 ha => ?_
  have H := HI.start (M0 := M) (w := w) hM
  have H0 := H.put (it := imm (.slice a_h h.length c_h) h) rfl (by rw [MS_nil]; exact h_h)
  have ln_h := rv_len h_h
  have i0 : f0 0 = .slice a_h h.length c_h := ha 0 (by simp)
  refine sq (rg (k (asg (v := .bool false) rfl rfl (z (nx (sq (sq (rg (k (mv rfl i0 (k ?_)))))))))))
  have cc0 := ref06_Small (h := h) (m := 30) (w := w) H0.mb (H0.rv 0 rfl) (by unfold I64 at *; omega) (by omega)
  refine ca go6 rfl (ec rfl (ec rfl e0)) cc0 ?_
  rintro _ w0 ⟨rfl, xt0⟩
  have H1 := H0.ext xt0
  refine k (not_ rfl rfl (z (nx ?_)))
  refine cd (b := !(smallH h 30)) rfl rfl (fun b0 => ?_) (fun b0 => ?_)
  ·
    refine sq (rg (k ?_))
    have cc1 := awake13 (w := w0)
    refine ca go7 rfl e0 cc1 ?_
    rintro _ w1 ⟨rfl, xt1⟩
    have H2 := H1.ext xt1
    refine k (asg (v := .bool true) rfl rfl (z (nx (rt (then_ret (r1 rfl rfl ?_))))))
    exact ⟨rfl, H2.below⟩
  ·
    refine sk (nx (sq ?_))
    have sm_ : smallH h 30 = true := by simpa using ‹(!smallH h 30) = false›
    have fl_ := (small_iff.1 sm_).2.1
    have il_ := o11I_len h
    refine rg (k (mv rfl i0 (k ?_)))
    have cc1 := ref11_Of (h := h) (w := w0) H1.mb (H1.rv 0 rfl) (by omega)
    refine ca go8 rfl (ec rfl e0) cc1 ?_
    rintro _ w1 ⟨a0, c0, a1, c1, a2, c2, rfl, xt1, rv0, rv1, rv2⟩
    have H2 := H1.ext xt1
    have H3 := H2.put (it := imm (.slice a0 (o11V h).length c0) (o11V h)) rfl rv0
    have H4 := H3.put (it := imm (.slice a1 (o11I h).length c1) (o11I h)) rfl (by rw [MS_cons_none rfl]; exact rv1)
    have H5 := H4.put (it := imm (.slice a2 (o11F h).length c2) (o11F h)) rfl (by rw [MS_cons_none rfl, MS_cons_none rfl]; exact rv2)
    refine k (mv (v := .tuple #[.agg #[.slice a0 (o11V h).length c0, .slice a1 (o11I h).length c1, .slice a2 (o11F h).length c2], .bool (o11 h)]) rfl rfl (k (xt rfl rfl rfl (k (xt rfl rfl rfl (k (al H5 ty29 ?_)))))))
    intro bb0 w2 xt2 (H6 : HI M w w2 [box bb0 #[.slice none 0 0, .slice none 0 0, .slice none 0 0] 29, imm (.slice a2 (o11F h).length c2) (o11F h), imm (.slice a1 (o11I h).length c1) (o11I h), imm (.slice a0 (o11V h).length c0) (o11V h), imm (.slice a_h h.length c_h) h])
    refine k (stX H6 0 rfl ty29 rfl rfl rfl rfl rfl rfl rfl ?_)
    intro w3 (H7 : HI M w w3 [box bb0 #[.slice a0 (o11V h).length c0, .slice a1 (o11I h).length c1, .slice a2 (o11F h).length c2] 29, imm (.slice a2 (o11F h).length c2) (o11F h), imm (.slice a1 (o11I h).length c1) (o11I h), imm (.slice a0 (o11V h).length c0) (o11V h), imm (.slice a_h h.length c_h) h])
    refine k (asg (v := .bool (o11 h)) rfl rfl (z (nx (sq (sq (rg (k (mv (v := .bool (o11 h)) rfl rfl (k (not_ rfl rfl (z (nx ?_))))))))))))
    refine cd (b := !(o11 h)) rfl rfl (fun b1 => ?_) (fun b1 => ?_)
    ·
      refine sq (rg (k ?_))
      have cc2 := awake13 (w := w3)
      refine ca go7 rfl e0 cc2 ?_
      rintro _ w4 ⟨rfl, xt3⟩
      have H8 := H7.ext xt3
      refine k (asg (v := .bool true) rfl rfl (z (nx (rt (then_ret (r1 rfl rfl ?_))))))
      exact ⟨rfl, H8.below⟩
    ·
      refine sk (nx (sq ?_))
      refine dr 19 [fun (v : Value) (w' : World) => v = .bool true, fun (v : Value) (w' : World) => v = .bool true, fun (v : Value) (w' : World) => v = .agg #[.slice a0 (o11V h).length c0, .slice a1 (o11I h).length c1, .slice a2 (o11F h).length c2], fun (v : Value) (w' : World) => ∃ (a3 : Option Addr) (c3 : Nat), v = .agg #[.int .i64 ((o11I h).length : Int), .slice a3 (rfR (o11I h) (o11F h)).length c3] ∧ RV (MS M [box bb0 #[.slice a0 (o11V h).length c0, .slice a1 (o11I h).length c1, .slice a2 (o11F h).length c2] 29, imm (.slice a2 (o11F h).length c2) (o11F h), imm (.slice a1 (o11I h).length c1) (o11I h), imm (.slice a0 (o11V h).length c0) (o11V h), imm (.slice a_h h.length c_h) h]) w' (.slice a3 (rfR (o11I h) (o11F h)).length c3) (rfR (o11I h) (o11F h)), fun (v : Value) (w' : World) => v = .agg #[.slice a0 (o11V h).length c0, .slice a1 (o11I h).length c1, .slice a2 (o11F h).length c2], fun (v : Value) (w' : World) => ∃ (a4 : Option Addr) (c4 : Nat), v = .agg #[.int .i64 ((o11I h).length : Int), .slice a4 (rfR (o11I h) (o11F h)).length c4] ∧ RV (MS M [box bb0 #[.slice a0 (o11V h).length c0, .slice a1 (o11I h).length c1, .slice a2 (o11F h).length c2] 29, imm (.slice a2 (o11F h).length c2) (o11F h), imm (.slice a1 (o11I h).length c1) (o11I h), imm (.slice a0 (o11V h).length c0) (o11V h), imm (.slice a_h h.length c_h) h]) w' (.slice a4 (rfR (o11I h) (o11F h)).length c4) (rfR (o11I h) (o11F h)), fun (v : Value) (w' : World) => v = .bool (eqM ((o11I h).length : Int) (rfR (o11I h) (o11F h)) ((o11I h).length : Int) (rfR (o11I h) (o11F h))), fun (v : Value) (w' : World) => v = .bool (eqM ((o11I h).length : Int) (rfR (o11I h) (o11F h)) ((o11I h).length : Int) (rfR (o11I h) (o11F h))), fun (v : Value) (w' : World) => v = .bool (eqM ((o11I h).length : Int) (rfR (o11I h) (o11F h)) ((o11I h).length : Int) (rfR (o11I h) (o11F h))), fun (v : Value) (w' : World) => v = .agg #[.slice a0 (o11V h).length c0, .slice a1 (o11I h).length c1, .slice a2 (o11F h).length c2], fun (v : Value) (w' : World) => ∃ (a5 : Option Addr) (c5 : Nat), v = .agg #[.int .i64 ((o11I h).length : Int), .slice a5 (edR (o11I h) (o11F h)).length c5] ∧ RV (MS M [box bb0 #[.slice a0 (o11V h).length c0, .slice a1 (o11I h).length c1, .slice a2 (o11F h).length c2] 29, imm (.slice a2 (o11F h).length c2) (o11F h), imm (.slice a1 (o11I h).length c1) (o11I h), imm (.slice a0 (o11V h).length c0) (o11V h), imm (.slice a_h h.length c_h) h]) w' (.slice a5 (edR (o11I h) (o11F h)).length c5) (edR (o11I h) (o11F h)), fun (v : Value) (w' : World) => v = .agg #[.slice a0 (o11V h).length c0, .slice a1 (o11I h).length c1, .slice a2 (o11F h).length c2], fun (v : Value) (w' : World) => ∃ (a6 : Option Addr) (c6 : Nat), v = .agg #[.int .i64 ((o11I h).length : Int), .slice a6 (edR (o11I h) (o11F h)).length c6] ∧ RV (MS M [box bb0 #[.slice a0 (o11V h).length c0, .slice a1 (o11I h).length c1, .slice a2 (o11F h).length c2] 29, imm (.slice a2 (o11F h).length c2) (o11F h), imm (.slice a1 (o11I h).length c1) (o11I h), imm (.slice a0 (o11V h).length c0) (o11V h), imm (.slice a_h h.length c_h) h]) w' (.slice a6 (edR (o11I h) (o11F h)).length c6) (edR (o11I h) (o11F h)), fun (v : Value) (w' : World) => v = .bool (eqM ((o11I h).length : Int) (edR (o11I h) (o11F h)) ((o11I h).length : Int) (edR (o11I h) (o11F h))), fun (v : Value) (w' : World) => v = .bool (eqM ((o11I h).length : Int) (edR (o11I h) (o11F h)) ((o11I h).length : Int) (edR (o11I h) (o11F h))), fun (v : Value) (w' : World) => v = .bool (eqM ((o11I h).length : Int) (edR (o11I h) (o11F h)) ((o11I h).length : Int) (edR (o11I h) (o11F h))), fun (v : Value) (w' : World) => v = .agg #[.slice a0 (o11V h).length c0, .slice a1 (o11I h).length c1, .slice a2 (o11F h).length c2], fun (v : Value) (w' : World) => ∃ (a7 : Option Addr) (c7 : Nat), v = .agg #[.int .i64 ((o11I h).length : Int), .slice a7 (coR (o11I h) (o11F h)).length c7] ∧ RV (MS M [box bb0 #[.slice a0 (o11V h).length c0, .slice a1 (o11I h).length c1, .slice a2 (o11F h).length c2] 29, imm (.slice a2 (o11F h).length c2) (o11F h), imm (.slice a1 (o11I h).length c1) (o11I h), imm (.slice a0 (o11V h).length c0) (o11V h), imm (.slice a_h h.length c_h) h]) w' (.slice a7 (coR (o11I h) (o11F h)).length c7) (coR (o11I h) (o11F h)), fun (v : Value) (w' : World) => v = .agg #[.slice a0 (o11V h).length c0, .slice a1 (o11I h).length c1, .slice a2 (o11F h).length c2]] rfl (by kernel_rfl) ?_ ?_
      ·
        refine ⟨fun _ => ⟨fun f0 w12 hf0 xt11 hp0 => ?_, fun _ _ _ _ h => h⟩, ?_⟩
        ·
          have H21 := H7.ext xt11
          have cc10 := awake13 (w := w12)
          refine ca go7 rfl e0 cc10 ?_
          rintro _ w13 ⟨rfl, xt12⟩
          have H22 := H21.ext xt12
          exact ⟨_, rfl, xt12, rfl⟩
        refine ⟨fun _ => ⟨fun f1 w14 hf1 xt13 hp1 => ?_, fun _ _ _ _ h => h⟩, ?_⟩
        ·
          have H23 := H7.ext xt13
          have s0 : f1 17 = .bool true := hp1 0 rfl rfl
          refine mv rfl s0 ?_
          exact ⟨_, rfl, Ext.refl _, rfl⟩
        refine ⟨fun _ => ⟨fun f2 w15 hf2 xt14 hp2 => ?_, fun _ _ _ _ h => h⟩, ?_⟩
        ·
          have H24 := H7.ext xt14
          have s1 : f2 18 = .bool true := hp2 1 rfl rfl
          refine gy rfl rfl s1 rfl (ldX H24 0 rfl ty29 rfl (hf2 3 rfl) (by decide) rfl ?_)
          exact ⟨_, rfl, Ext.refl _, rfl⟩
        refine ⟨fun _ => ⟨fun f3 w16 hf3 xt15 hp3 => ?_, by rintro _ _ _ x_ ⟨a3, c3, e_, rv4⟩; exact ⟨a3, c3, e_, rv4.lift (Up.ext x_)⟩⟩, ?_⟩
        ·
          have H25 := H7.ext xt15
          have s2 : f3 18 = .bool true := hp3 1 rfl rfl
          have s3 : f3 19 = .agg #[.slice a0 (o11V h).length c0, .slice a1 (o11I h).length c1, .slice a2 (o11F h).length c2] := hp3 2 rfl rfl
          refine gy rfl rfl s2 rfl ?_
          have cc11 := cause_Rf (fi := (o11I h)) (fo := (o11F h)) (a_fv := a0) (n_fv := (o11V h).length) (c_fv := c0) (w := w16) H25.mb (H25.rv 2 rfl) (H25.rv 1 rfl) (by omega) (by exact o11F_len h) (by exact o11F_lt h)
          refine ca go10 rfl (ec s3 e0) cc11 ?_
          rintro _ w17 ⟨a8, c8, rfl, xt16, rv9⟩
          have rv10 := OwnsG.rv rv9 H25.mb
          have H26 := H25.ext xt16
          have H27 := H26.put (it := imm (.slice a8 (rfR (o11I h) (o11F h)).length c8) (rfR (o11I h) (o11F h))) rfl rv10
          exact ⟨_, rfl, xt16, ⟨a8, c8, rfl, rv10⟩⟩
        refine ⟨fun _ => ⟨fun f4 w18 hf4 xt17 hp4 => ?_, fun _ _ _ _ h => h⟩, ?_⟩
        ·
          have H28 := H7.ext xt17
          have s4 : f4 18 = .bool true := hp4 1 rfl rfl
          refine gy rfl rfl s4 rfl (ldX H28 0 rfl ty29 rfl (hf4 3 rfl) (by decide) rfl ?_)
          exact ⟨_, rfl, Ext.refl _, rfl⟩
        refine ⟨fun _ => ⟨fun f5 w19 hf5 xt18 hp5 => ?_, by rintro _ _ _ x_ ⟨a4, c4, e_, rv5⟩; exact ⟨a4, c4, e_, rv5.lift (Up.ext x_)⟩⟩, ?_⟩
        ·
          have H29 := H7.ext xt18
          have s5 : f5 18 = .bool true := hp5 1 rfl rfl
          have s6 : f5 21 = .agg #[.slice a0 (o11V h).length c0, .slice a1 (o11I h).length c1, .slice a2 (o11F h).length c2] := hp5 4 rfl rfl
          refine gy rfl rfl s5 rfl ?_
          have cc12 := ref13_Rf (fi := (o11I h)) (fo := (o11F h)) (a_fv := a0) (n_fv := (o11V h).length) (c_fv := c0) (w := w19) H29.mb (H29.rv 2 rfl) (H29.rv 1 rfl) (by omega) (by exact o11F_len h) (by exact o11F_lt h)
          refine ca go11 rfl (ec s6 e0) cc12 ?_
          rintro _ w20 ⟨a9, c9, rfl, xt19, rv11⟩
          have H30 := H29.ext xt19
          have H31 := H30.put (it := imm (.slice a9 (rfR (o11I h) (o11F h)).length c9) (rfR (o11I h) (o11F h))) rfl rv11
          exact ⟨_, rfl, xt19, ⟨a9, c9, rfl, rv11⟩⟩
        refine ⟨fun _ => ⟨fun f6 w21 hf6 xt20 hp6 => ?_, fun _ _ _ _ h => h⟩, ?_⟩
        ·
          have H32 := H7.ext xt20
          have s7 : f6 18 = .bool true := hp6 1 rfl rfl
          obtain ⟨a10, c10, s8, rv12⟩ : ∃ (a10 : Option Addr) (c10 : Nat), f6 20 = .agg #[.int .i64 ((o11I h).length : Int), .slice a10 (rfR (o11I h) (o11F h)).length c10] ∧ RV (MS M [box bb0 #[.slice a0 (o11V h).length c0, .slice a1 (o11I h).length c1, .slice a2 (o11F h).length c2] 29, imm (.slice a2 (o11F h).length c2) (o11F h), imm (.slice a1 (o11I h).length c1) (o11I h), imm (.slice a0 (o11V h).length c0) (o11V h), imm (.slice a_h h.length c_h) h]) w21 (.slice a10 (rfR (o11I h) (o11F h)).length c10) (rfR (o11I h) (o11F h)) := hp6 3 rfl rfl
          have H33 := H32.put (it := imm (.slice a10 (rfR (o11I h) (o11F h)).length c10) (rfR (o11I h) (o11F h))) rfl rv12
          obtain ⟨a11, c11, s9, rv13⟩ : ∃ (a11 : Option Addr) (c11 : Nat), f6 22 = .agg #[.int .i64 ((o11I h).length : Int), .slice a11 (rfR (o11I h) (o11F h)).length c11] ∧ RV (MS M [box bb0 #[.slice a0 (o11V h).length c0, .slice a1 (o11I h).length c1, .slice a2 (o11F h).length c2] 29, imm (.slice a2 (o11F h).length c2) (o11F h), imm (.slice a1 (o11I h).length c1) (o11I h), imm (.slice a0 (o11V h).length c0) (o11V h), imm (.slice a_h h.length c_h) h]) w21 (.slice a11 (rfR (o11I h) (o11F h)).length c11) (rfR (o11I h) (o11F h)) := hp6 5 rfl rfl
          have H34 := H33.put (it := imm (.slice a11 (rfR (o11I h) (o11F h)).length c11) (rfR (o11I h) (o11F h))) rfl (by rw [MS_cons_none rfl]; exact rv13)
          refine gy rfl rfl s7 rfl ?_
          have cc13 := ref03_Equal (an := ((o11I h).length : Int)) (ar := (rfR (o11I h) (o11F h))) (bn := ((o11I h).length : Int)) (br := (rfR (o11I h) (o11F h))) (w := w21) H34.mb (by unfold I64 at *; omega) (H34.rv 1 rfl) (by unfold I64 at *; omega) (H34.rv 0 rfl)
          refine ca go9 rfl (ec s8 (ec s9 e0)) cc13 ?_
          rintro _ w22 ⟨rfl, xt21⟩
          have H35 := H34.ext xt21
          exact ⟨_, rfl, xt21, rfl⟩
        refine ⟨fun _ => ⟨fun f7 w23 hf7 xt22 hp7 => ?_, fun _ _ _ _ h => h⟩, ?_⟩
        ·
          have H36 := H7.ext xt22
          have s10 : f7 18 = .bool true := hp7 1 rfl rfl
          have s11 : f7 23 = .bool (eqM ((o11I h).length : Int) (rfR (o11I h) (o11F h)) ((o11I h).length : Int) (rfR (o11I h) (o11F h))) := hp7 6 rfl rfl
          refine pickT rfl rfl rfl s10 rfl s11 ?_
          exact ⟨_, rfl, Ext.refl _, rfl⟩
        refine ⟨fun _ => ⟨fun f8 w24 hf8 xt23 hp8 => ?_, fun _ _ _ _ h => h⟩, ?_⟩
        ·
          have H37 := H7.ext xt23
          have s12 : f8 24 = .bool (eqM ((o11I h).length : Int) (rfR (o11I h) (o11F h)) ((o11I h).length : Int) (rfR (o11I h) (o11F h))) := hp8 7 rfl rfl
          refine mv rfl s12 ?_
          exact ⟨_, rfl, Ext.refl _, rfl⟩
        refine ⟨fun _ => ⟨fun f9 w25 hf9 xt24 hp9 => ?_, fun _ _ _ _ h => h⟩, ?_⟩
        ·
          have H38 := H7.ext xt24
          have s13 : f9 25 = .bool (eqM ((o11I h).length : Int) (rfR (o11I h) (o11F h)) ((o11I h).length : Int) (rfR (o11I h) (o11F h))) := hp9 8 rfl rfl
          refine gy rfl rfl s13 (eqM_refl _ _) (ldX H38 0 rfl ty29 rfl (hf9 3 rfl) (by decide) rfl ?_)
          exact ⟨_, rfl, Ext.refl _, rfl⟩
        refine ⟨fun _ => ⟨fun f10 w26 hf10 xt25 hp10 => ?_, by rintro _ _ _ x_ ⟨a5, c5, e_, rv6⟩; exact ⟨a5, c5, e_, rv6.lift (Up.ext x_)⟩⟩, ?_⟩
        ·
          have H39 := H7.ext xt25
          have s14 : f10 25 = .bool (eqM ((o11I h).length : Int) (rfR (o11I h) (o11F h)) ((o11I h).length : Int) (rfR (o11I h) (o11F h))) := hp10 8 rfl rfl
          have s15 : f10 26 = .agg #[.slice a0 (o11V h).length c0, .slice a1 (o11I h).length c1, .slice a2 (o11F h).length c2] := hp10 9 rfl rfl
          refine gy rfl rfl s14 (eqM_refl _ _) ?_
          have cc14 := cause_Edges (fi := (o11I h)) (fo := (o11F h)) (a_fv := a0) (n_fv := (o11V h).length) (c_fv := c0) (w := w26) H39.mb (H39.rv 2 rfl) (H39.rv 1 rfl) (by exact o11_ord h) (by omega) (by exact o11F_len h) (by exact o11F_lt h)
          refine ca go12 rfl (ec s15 e0) cc14 ?_
          rintro _ w27 ⟨a12, c12, rfl, xt26, rv14⟩
          have H40 := H39.ext xt26
          have H41 := H40.put (it := imm (.slice a12 (edR (o11I h) (o11F h)).length c12) (edR (o11I h) (o11F h))) rfl rv14
          exact ⟨_, rfl, xt26, ⟨a12, c12, rfl, rv14⟩⟩
        refine ⟨fun _ => ⟨fun f11 w28 hf11 xt27 hp11 => ?_, fun _ _ _ _ h => h⟩, ?_⟩
        ·
          have H42 := H7.ext xt27
          have s16 : f11 25 = .bool (eqM ((o11I h).length : Int) (rfR (o11I h) (o11F h)) ((o11I h).length : Int) (rfR (o11I h) (o11F h))) := hp11 8 rfl rfl
          refine gy rfl rfl s16 (eqM_refl _ _) (ldX H42 0 rfl ty29 rfl (hf11 3 rfl) (by decide) rfl ?_)
          exact ⟨_, rfl, Ext.refl _, rfl⟩
        refine ⟨fun _ => ⟨fun f12 w29 hf12 xt28 hp12 => ?_, by rintro _ _ _ x_ ⟨a6, c6, e_, rv7⟩; exact ⟨a6, c6, e_, rv7.lift (Up.ext x_)⟩⟩, ?_⟩
        ·
          have H43 := H7.ext xt28
          have s17 : f12 25 = .bool (eqM ((o11I h).length : Int) (rfR (o11I h) (o11F h)) ((o11I h).length : Int) (rfR (o11I h) (o11F h))) := hp12 8 rfl rfl
          have s18 : f12 28 = .agg #[.slice a0 (o11V h).length c0, .slice a1 (o11I h).length c1, .slice a2 (o11F h).length c2] := hp12 11 rfl rfl
          refine gy rfl rfl s17 (eqM_refl _ _) ?_
          have cc15 := ref13_Edges (fi := (o11I h)) (fo := (o11F h)) (a_fv := a0) (n_fv := (o11V h).length) (c_fv := c0) (w := w29) H43.mb (H43.rv 2 rfl) (H43.rv 1 rfl) (by exact o11_ord h) (by omega) (by exact o11F_len h) (by exact o11F_lt h)
          refine ca go13 rfl (ec s18 e0) cc15 ?_
          rintro _ w30 ⟨a13, c13, rfl, xt29, rv15⟩
          have H44 := H43.ext xt29
          have H45 := H44.put (it := imm (.slice a13 (edR (o11I h) (o11F h)).length c13) (edR (o11I h) (o11F h))) rfl rv15
          exact ⟨_, rfl, xt29, ⟨a13, c13, rfl, rv15⟩⟩
        refine ⟨fun _ => ⟨fun f13 w31 hf13 xt30 hp13 => ?_, fun _ _ _ _ h => h⟩, ?_⟩
        ·
          have H46 := H7.ext xt30
          have s19 : f13 25 = .bool (eqM ((o11I h).length : Int) (rfR (o11I h) (o11F h)) ((o11I h).length : Int) (rfR (o11I h) (o11F h))) := hp13 8 rfl rfl
          obtain ⟨a14, c14, s20, rv16⟩ : ∃ (a14 : Option Addr) (c14 : Nat), f13 27 = .agg #[.int .i64 ((o11I h).length : Int), .slice a14 (edR (o11I h) (o11F h)).length c14] ∧ RV (MS M [box bb0 #[.slice a0 (o11V h).length c0, .slice a1 (o11I h).length c1, .slice a2 (o11F h).length c2] 29, imm (.slice a2 (o11F h).length c2) (o11F h), imm (.slice a1 (o11I h).length c1) (o11I h), imm (.slice a0 (o11V h).length c0) (o11V h), imm (.slice a_h h.length c_h) h]) w31 (.slice a14 (edR (o11I h) (o11F h)).length c14) (edR (o11I h) (o11F h)) := hp13 10 rfl rfl
          have H47 := H46.put (it := imm (.slice a14 (edR (o11I h) (o11F h)).length c14) (edR (o11I h) (o11F h))) rfl rv16
          obtain ⟨a15, c15, s21, rv17⟩ : ∃ (a15 : Option Addr) (c15 : Nat), f13 29 = .agg #[.int .i64 ((o11I h).length : Int), .slice a15 (edR (o11I h) (o11F h)).length c15] ∧ RV (MS M [box bb0 #[.slice a0 (o11V h).length c0, .slice a1 (o11I h).length c1, .slice a2 (o11F h).length c2] 29, imm (.slice a2 (o11F h).length c2) (o11F h), imm (.slice a1 (o11I h).length c1) (o11I h), imm (.slice a0 (o11V h).length c0) (o11V h), imm (.slice a_h h.length c_h) h]) w31 (.slice a15 (edR (o11I h) (o11F h)).length c15) (edR (o11I h) (o11F h)) := hp13 12 rfl rfl
          have H48 := H47.put (it := imm (.slice a15 (edR (o11I h) (o11F h)).length c15) (edR (o11I h) (o11F h))) rfl (by rw [MS_cons_none rfl]; exact rv17)
          refine gy rfl rfl s19 (eqM_refl _ _) ?_
          have cc16 := ref03_Equal (an := ((o11I h).length : Int)) (ar := (edR (o11I h) (o11F h))) (bn := ((o11I h).length : Int)) (br := (edR (o11I h) (o11F h))) (w := w31) H48.mb (by unfold I64 at *; omega) (H48.rv 1 rfl) (by unfold I64 at *; omega) (H48.rv 0 rfl)
          refine ca go9 rfl (ec s20 (ec s21 e0)) cc16 ?_
          rintro _ w32 ⟨rfl, xt31⟩
          have H49 := H48.ext xt31
          exact ⟨_, rfl, xt31, rfl⟩
        refine ⟨fun _ => ⟨fun f14 w33 hf14 xt32 hp14 => ?_, fun _ _ _ _ h => h⟩, ?_⟩
        ·
          have H50 := H7.ext xt32
          have s22 : f14 25 = .bool (eqM ((o11I h).length : Int) (rfR (o11I h) (o11F h)) ((o11I h).length : Int) (rfR (o11I h) (o11F h))) := hp14 8 rfl rfl
          have s23 : f14 30 = .bool (eqM ((o11I h).length : Int) (edR (o11I h) (o11F h)) ((o11I h).length : Int) (edR (o11I h) (o11F h))) := hp14 13 rfl rfl
          refine pickT rfl rfl rfl s22 (eqM_refl _ _) s23 ?_
          exact ⟨_, rfl, Ext.refl _, rfl⟩
        refine ⟨fun _ => ⟨fun f15 w34 hf15 xt33 hp15 => ?_, fun _ _ _ _ h => h⟩, ?_⟩
        ·
          have H51 := H7.ext xt33
          have s24 : f15 31 = .bool (eqM ((o11I h).length : Int) (edR (o11I h) (o11F h)) ((o11I h).length : Int) (edR (o11I h) (o11F h))) := hp15 14 rfl rfl
          refine mv rfl s24 ?_
          exact ⟨_, rfl, Ext.refl _, rfl⟩
        refine ⟨fun _ => ⟨fun f16 w35 hf16 xt34 hp16 => ?_, fun _ _ _ _ h => h⟩, ?_⟩
        ·
          have H52 := H7.ext xt34
          have s25 : f16 32 = .bool (eqM ((o11I h).length : Int) (edR (o11I h) (o11F h)) ((o11I h).length : Int) (edR (o11I h) (o11F h))) := hp16 15 rfl rfl
          refine gy rfl rfl s25 (eqM_refl _ _) (ldX H52 0 rfl ty29 rfl (hf16 3 rfl) (by decide) rfl ?_)
          exact ⟨_, rfl, Ext.refl _, rfl⟩
        refine ⟨fun _ => ⟨fun f17 w36 hf17 xt35 hp17 => ?_, by rintro _ _ _ x_ ⟨a7, c7, e_, rv8⟩; exact ⟨a7, c7, e_, rv8.lift (Up.ext x_)⟩⟩, ?_⟩
        ·
          have H53 := H7.ext xt35
          have s26 : f17 32 = .bool (eqM ((o11I h).length : Int) (edR (o11I h) (o11F h)) ((o11I h).length : Int) (edR (o11I h) (o11F h))) := hp17 15 rfl rfl
          have s27 : f17 33 = .agg #[.slice a0 (o11V h).length c0, .slice a1 (o11I h).length c1, .slice a2 (o11F h).length c2] := hp17 16 rfl rfl
          refine gy rfl rfl s26 (eqM_refl _ _) ?_
          have cc17 := cause_Co (fi := (o11I h)) (fo := (o11F h)) (a_fv := a0) (n_fv := (o11V h).length) (c_fv := c0) (w := w36) H53.mb (H53.rv 2 rfl) (H53.rv 1 rfl) (by exact o11_ord h) (by omega) (by exact o11F_len h) (by exact o11F_lt h)
          refine ca go14 rfl (ec s27 e0) cc17 ?_
          rintro _ w37 ⟨a16, c16, rfl, xt36, rv18⟩
          have H54 := H53.ext xt36
          have H55 := H54.put (it := imm (.slice a16 (coR (o11I h) (o11F h)).length c16) (coR (o11I h) (o11F h))) rfl rv18
          exact ⟨_, rfl, xt36, ⟨a16, c16, rfl, rv18⟩⟩
        refine ⟨fun _ => ⟨fun f18 w38 hf18 xt37 hp18 => ?_, fun _ _ _ _ h => h⟩, ?_⟩
        ·
          have H56 := H7.ext xt37
          have s28 : f18 32 = .bool (eqM ((o11I h).length : Int) (edR (o11I h) (o11F h)) ((o11I h).length : Int) (edR (o11I h) (o11F h))) := hp18 15 rfl rfl
          refine gy rfl rfl s28 (eqM_refl _ _) (ldX H56 0 rfl ty29 rfl (hf18 3 rfl) (by decide) rfl ?_)
          exact ⟨_, rfl, Ext.refl _, rfl⟩
        exact DSteps.rest rfl _
      · intro f19 w39 hf19 xt38 hp19
        have H57 := H7.ext xt38
        have s29 : f19 32 = .bool (eqM ((o11I h).length : Int) (edR (o11I h) (o11F h)) ((o11I h).length : Int) (edR (o11I h) (o11F h))) := hp19 15 rfl
        obtain ⟨a17, c17, s30, rv19⟩ : ∃ (a17 : Option Addr) (c17 : Nat), f19 34 = .agg #[.int .i64 ((o11I h).length : Int), .slice a17 (coR (o11I h) (o11F h)).length c17] ∧ RV (MS M [box bb0 #[.slice a0 (o11V h).length c0, .slice a1 (o11I h).length c1, .slice a2 (o11F h).length c2] 29, imm (.slice a2 (o11F h).length c2) (o11F h), imm (.slice a1 (o11I h).length c1) (o11I h), imm (.slice a0 (o11V h).length c0) (o11V h), imm (.slice a_h h.length c_h) h]) w39 (.slice a17 (coR (o11I h) (o11F h)).length c17) (coR (o11I h) (o11F h)) := hp19 17 rfl
        have H58 := H57.put (it := imm (.slice a17 (coR (o11I h) (o11F h)).length c17) (coR (o11I h) (o11F h))) rfl rv19
        have s31 : f19 35 = .agg #[.slice a0 (o11V h).length c0, .slice a1 (o11I h).length c1, .slice a2 (o11F h).length c2] := hp19 18 rfl
        refine k (gy rfl rfl s29 (eqM_refl _ _) ?_)
        have cc18 := ref13_Co (fi := (o11I h)) (fo := (o11F h)) (a_fv := a0) (n_fv := (o11V h).length) (c_fv := c0) (w := w39) H58.mb (H58.rv 3 rfl) (H58.rv 2 rfl) (by exact o11_ord h) (by omega) (by exact o11F_len h) (by exact o11F_lt h)
        refine ca go15 rfl (ec s31 e0) cc18 ?_
        rintro _ w40 ⟨a18, c18, rfl, xt39, rv20⟩
        have H59 := H58.ext xt39
        have H60 := H59.put (it := imm (.slice a18 (coR (o11I h) (o11F h)).length c18) (coR (o11I h) (o11F h))) rfl rv20
        refine k (gy rfl rfl s29 (eqM_refl _ _) ?_)
        have cc19 := ref03_Equal (an := ((o11I h).length : Int)) (ar := (coR (o11I h) (o11F h))) (bn := ((o11I h).length : Int)) (br := (coR (o11I h) (o11F h))) (w := w40) H60.mb (by unfold I64 at *; omega) (H60.rv 1 rfl) (by unfold I64 at *; omega) (H60.rv 0 rfl)
        refine ca go9 rfl (ec s30 (ec rfl e0)) cc19 ?_
        rintro _ w41 ⟨rfl, xt40⟩
        have H61 := H60.ext xt40
        refine k (pickT rfl rfl rfl s29 (eqM_refl _ _) rfl (k (asg (v := .bool (eqM ((o11I h).length : Int) (coR (o11I h) (o11F h)) ((o11I h).length : Int) (coR (o11I h) (o11F h)))) rfl rfl (z (nx (rt (r1 rfl rfl ?_)))))))
        have e0 : (eqM ((o11I h).length : Int) (coR (o11I h) (o11F h)) ((o11I h).length : Int) (coR (o11I h) (o11F h)) : Bool) = true := by exact (eqM_refl _ _)
        have ev_ := cg1 (fun (x_0 : Bool) => (.bool x_0 : Value)) e0
        exact ⟨ev_, H61.below⟩
end Go.Proofs.Ytmhopljngkgidaa
