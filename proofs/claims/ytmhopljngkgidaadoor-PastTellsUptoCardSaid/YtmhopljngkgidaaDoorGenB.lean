/- PRINTED by my own tool (wip/tool/gen.py): contracts of Go functions of this seat, each with its proof. -/
import Derived.Test.YtmhopljngkgidaaDoorOwnA
import Derived.Test.YtmhopljngkgidaaDoorGenA
import Derived.Test.YtmhopljngkgidaaDoorOwnB
namespace Go.Proofs.YtmhopljngkgidaaDoor
open Go.Ew Go.RowKit
set_option linter.unusedVariables false
set_option linter.unusedSimpArgs false
attribute [local irreducible] WL WC SO Code.wp wpList retQ Ret
attribute [local irreducible] bitB hasW inR hasR setR countW countR subR words newR listR orR firstW tab8
theorem un9 : Tryd.prog.underlying 9 = some (.string) := by kernel_rfl
theorem un59 : Tryd.prog.underlying 59 = some (.slice 90) := by kernel_rfl
theorem ty90 : TyF Tryd.prog 90 1 false 24 (.slice none 0 0) := ⟨by kernel_rfl, by kernel_rfl⟩
theorem un90 : Tryd.prog.underlying 90 = some (.slice 93) := by kernel_rfl
theorem ty93 : TyF Tryd.prog 93 3 true 32 (.agg #[.bool false, .string ⟨#[]⟩, .int .i64 0]) := ⟨by kernel_rfl, by kernel_rfl⟩
theorem go84 : GoF Tryd.prog 84 := ⟨_, _, Tryd.func84, rfl, by kernel_rfl⟩
theorem fl93_1 : FldF Tryd.prog 93 1 1 := ⟨_, _, Tryd.underlying93, rfl, rfl, by kernel_rfl⟩
theorem ty9 : TyF Tryd.prog 9 1 false 16 (.string ⟨#[]⟩) := ⟨by kernel_rfl, by kernel_rfl⟩
theorem go120 : GoF Tryd.prog 120 := ⟨_, _, Tryd.func120, rfl, by kernel_rfl⟩
theorem go83 : GoF Tryd.prog 83 := ⟨_, _, Tryd.func83, rfl, by kernel_rfl⟩
theorem un63 : Tryd.prog.underlying 63 = some (.slice 9) := by kernel_rfl
theorem ty66 : TyF Tryd.prog 66 3 true 72 (.agg #[.slice none 0 0, .slice none 0 0, .slice none 0 0]) := ⟨by kernel_rfl, by kernel_rfl⟩
theorem go110 : GoF Tryd.prog 110 := ⟨_, _, Tryd.func110, rfl, by kernel_rfl⟩
theorem fl66_0 : FldF Tryd.prog 66 0 0 := ⟨_, _, Tryd.underlying66, rfl, rfl, by kernel_rfl⟩
theorem ty63 : TyF Tryd.prog 63 1 false 24 (.slice none 0 0) := ⟨by kernel_rfl, by kernel_rfl⟩
theorem go111 : GoF Tryd.prog 111 := ⟨_, _, Tryd.func111, rfl, by kernel_rfl⟩
theorem fl93_0 : FldF Tryd.prog 93 0 0 := ⟨_, _, Tryd.underlying93, rfl, rfl, by kernel_rfl⟩
theorem fl93_2 : FldF Tryd.prog 93 2 2 := ⟨_, _, Tryd.underlying93, rfl, rfl, by kernel_rfl⟩
theorem fl102_4 : FldF Tryd.prog 102 4 4 := ⟨_, _, Tryd.underlying102, rfl, rfl, by kernel_rfl⟩
theorem go112 : GoF Tryd.prog 112 := ⟨_, _, Tryd.func112, rfl, by kernel_rfl⟩
set_option maxRecDepth 100000 in
set_option maxHeartbeats 1600000 in
theorem ref06_Name {w : World} {s : ByteArray} (h_s : s.size ≤ maxLen) : Calls Tryd.prog 120 #[.string s] w (Ret fun v w' =>  v = .bool (nameS s) ∧ Ext w w') := by
  refine enter 28 Tryd.func120 rfl rfl rfl fun f0 ha => ?_
  have H := HI.start (M0 := (fun _ => False)) (w := w) (fun _ h => h.elim)
  have i0 : f0 0 = .string s := ha 0 (by simp)
  have hS_ : s.size ≤ 9223372036854775807 := by have h_ := h_s; simp only [maxLen] at h_; exact h_
  refine sq (rg (k (asg (v := .bool false) rfl rfl (z (nx (sq (sq (rg (k (asg (v := .int .i64 0) rfl rfl (z (nx (bk ?_)))))))))))))
  refine lp (fun m f w' => ∃ (j : Nat), m = s.size - j ∧ f 0 = .string s ∧ f 3 = .int .i64 (j : Int) ∧  HI (fun _ => False) w w' [] ∧ (j ≤ s.size) ∧ ((s.data.toList.take j).all okC = true)) _ ⟨0, rfl, i0, (ieq rfl (by first | rfl | omega | simp)), H, (by first | assumption | omega | simp | (simp; omega)), (by rfl)⟩ ?_
  rintro _ f0 w0 ⟨j, rfl, s0, s1, H0, hk, hs⟩
  refine sq (sq (rg (k (mv rfl s1 (k (mv rfl s0 (k (lnT rfl rfl un9 (k (lss rfl rfl rfl rfl (z (nx ?_))))))))))))
  refine cd (b := decide ((j : Int) < (s.size : Int))) rfl rfl (fun b0 => ?_) (fun b0 => ?_)
  ·
    have p0 := of_decide_eq_true b0
    refine sk (nx (sq (bk (sq (rg (k (mv rfl s0 (k (mv rfl s1 (k (ixS rfl rfl rfl rfl (by first | omega | (simp; omega)) un9 ?_)))))))))))
    intro c0 hc0
    refine k (lss rfl rfl rfl rfl (k (mv (v := .bool (decide ((c0.toNat : Int) < 97))) rfl rfl ?_)))
    rcases Bool.eq_false_or_eq_true (decide ((c0.toNat : Int) < 97)) with b1 | b1
    · -- decide ((c0.toNat : Int) < 97) is True
      have p1 := of_decide_eq_true b1
      refine k (gn rfl rfl rfl b1 (k (gn rfl rfl rfl b1 (k (gn rfl rfl rfl b1 (k (gn rfl rfl rfl b1 (k (pickT rfl rfl rfl rfl b1 rfl (z (nx (cdT rfl rfl rfl (sq (rg (k (asg (v := .bool false) rfl rfl (z (nx (rt (inb_ret (then_ret (loop_ret (inb_ret (then_ret (r1 rfl rfl ?_)))))))))))))))))))))))))
      have e0 : (false : Bool) = nameS s := by first | exact name_no hc0 (okC_lo b1) | exact name_no hc0 (by have e_ := Option.some.inj (hc1.symm.trans hc0); subst e_; exact okC_hi b2) | (unfold nameS; rw [name_end hs (by omega)]; first | (rw [show decide (1 ≤ s.size) = true from decide_eq_true (by omega), Bool.true_and, Bool.true_and, decide_eq_decide]; omega) | (rw [show decide (1 ≤ s.size) = false from decide_eq_false (by omega)]; rfl))
      have ev_ := cg1 (fun (x_0 : Bool) => (.bool x_0 : Value)) e0
      exact ⟨ev_, H0.below⟩
    · -- decide ((c0.toNat : Int) < 97) is False
      have p1 := of_decide_eq_false b1
      refine k (gy rfl rfl rfl b1 (mv rfl s0 (k (gy rfl rfl rfl b1 (mv rfl s1 (k (gy rfl rfl rfl b1 (ixS rfl rfl rfl rfl (by first | omega | (simp; omega)) un9 ?_))))))))
      intro c1 hc1
      refine k (gy rfl rfl rfl b1 (gtr rfl rfl rfl rfl (k (pickF rfl rfl rfl rfl b1 rfl (z (nx ?_))))))
      refine cd (b := decide (122 < (c1.toNat : Int))) rfl rfl (fun b2 => ?_) (fun b2 => ?_)
      ·
        have p2 := of_decide_eq_true b2
        refine sq (rg (k (asg (v := .bool false) rfl rfl (z (nx (rt (inb_ret (then_ret (loop_ret (inb_ret (then_ret (r1 rfl rfl ?_))))))))))))
        have e0 : (false : Bool) = nameS s := by first | exact name_no hc0 (okC_lo b1) | exact name_no hc0 (by have e_ := Option.some.inj (hc1.symm.trans hc0); subst e_; exact okC_hi b2) | (unfold nameS; rw [name_end hs (by omega)]; first | (rw [show decide (1 ≤ s.size) = true from decide_eq_true (by omega), Bool.true_and, Bool.true_and, decide_eq_decide]; omega) | (rw [show decide (1 ≤ s.size) = false from decide_eq_false (by omega)]; rfl))
        have ev_ := cg1 (fun (x_0 : Bool) => (.bool x_0 : Value)) e0
        exact ⟨ev_, H0.below⟩
      ·
        have p2 := of_decide_eq_false b2
        refine sk (inb_normal (nx (rg (k (mv rfl s1 (k (add rfl rfl rfl rfl (by unfold I64 at *; omega) (k (asg (v := .int .i64 ((j : Int) + 1)) rfl rfl (z ?_))))))))))
        refine loopN _ ?_ ⟨(j + 1), rfl, s0, (ieq rfl (by first | rfl | omega | (push_cast; omega))), H0, (by first | assumption | omega | simp | (simp; omega)), (by exact all_take (byte_at hc0) hs (by have e_ := Option.some.inj (hc1.symm.trans hc0); subst e_; exact okC_yes b1 b2))⟩
        omega
  ·
    have p0 := of_decide_eq_false b0
    refine ex (then_exit (loop_exit (inb_here (nx (sq (rg (k (mv rfl s0 (k (lnT rfl rfl un9 (k (geq rfl rfl rfl rfl (k (mv (v := .bool (decide (1 ≤ (s.size : Int)))) rfl rfl ?_))))))))))))))
    rcases Bool.eq_false_or_eq_true (decide (1 ≤ (s.size : Int))) with b1 | b1
    · -- decide (1 ≤ (s.size : Int)) is True
      have p1 := of_decide_eq_true b1
      refine k (gy rfl rfl rfl b1 (mv rfl s0 (k (gy rfl rfl rfl b1 (lnT rfl rfl un9 (k (gy rfl rfl rfl b1 (leq rfl rfl rfl rfl (k (pickT rfl rfl rfl rfl b1 rfl (k (asg (v := .bool (decide ((s.size : Int) ≤ 8))) rfl rfl (z (nx (rt (r1 rfl rfl ?_))))))))))))))))
      have e0 : (decide ((s.size : Int) ≤ 8) : Bool) = nameS s := by first | exact name_no hc0 (okC_lo b1) | exact name_no hc0 (by have e_ := Option.some.inj (hc1.symm.trans hc0); subst e_; exact okC_hi b2) | (unfold nameS; rw [name_end hs (by omega)]; first | (rw [show decide (1 ≤ s.size) = true from decide_eq_true (by omega), Bool.true_and, Bool.true_and, decide_eq_decide]; omega) | (rw [show decide (1 ≤ s.size) = false from decide_eq_false (by omega)]; rfl))
      have ev_ := cg1 (fun (x_0 : Bool) => (.bool x_0 : Value)) e0
      exact ⟨ev_, H0.below⟩
    · -- decide (1 ≤ (s.size : Int)) is False
      have p1 := of_decide_eq_false b1
      refine k (gn rfl rfl rfl b1 (k (gn rfl rfl rfl b1 (k (gn rfl rfl rfl b1 (k (pickF rfl rfl rfl rfl b1 rfl (k (asg (v := .bool false) rfl rfl (z (nx (rt (r1 rfl rfl ?_)))))))))))))
      have e0 : (false : Bool) = nameS s := by first | exact name_no hc0 (okC_lo b1) | exact name_no hc0 (by have e_ := Option.some.inj (hc1.symm.trans hc0); subst e_; exact okC_hi b2) | (unfold nameS; rw [name_end hs (by omega)]; first | (rw [show decide (1 ≤ s.size) = true from decide_eq_true (by omega), Bool.true_and, Bool.true_and, decide_eq_decide]; omega) | (rw [show decide (1 ≤ s.size) = false from decide_eq_false (by omega)]; rfl))
      have ev_ := cg1 (fun (x_0 : Bool) => (.bool x_0 : Value)) e0
      exact ⟨ev_, H0.below⟩
set_option maxRecDepth 100000 in
set_option maxHeartbeats 1600000 in
theorem ref06_Flat {M : Nat → Prop} {w : World} {a_h : Option Addr} {c_h : Nat} {h : List (List (Bool × ByteArray × Int))} (hM : ∀ b, M b → b < w.heap.size) (h_h : RV M w (.slice a_h h.length c_h) h) (hb_h : h.flatten.length ≤ 1048576) : Calls Tryd.prog 84 #[.slice a_h h.length c_h] w (Ret fun v w' => ∃ (a0 : Option Addr) (c0 : Nat), v = .slice a0 h.flatten.length c0 ∧ Ext w w' ∧ RV M w' (.slice a0 h.flatten.length c0) h.flatten) := by
  refine enter 18 Tryd.func84 rfl rfl rfl fun f0 ha => ?_
  have H := HI.start (M0 := M) (w := w) hM
  have H0 := H.put (it := imm (.slice a_h h.length c_h) h) rfl (by rw [MS_nil]; exact h_h)
  have ln_h := rv_len h_h
  have i0 : f0 0 = .slice a_h h.length c_h := ha 0 (by simp)
  refine sq (rg (k (asg (v := .slice none 0 0) rfl rfl (z (nx (sq (rg (k (asg (v := .slice none 0 0) rfl rfl (z (nx (sq (sq (rg (k (asg (v := .int .i64 0) rfl rfl (z (nx (bk ?_)))))))))))))))))))
  have H1 := H0.nil_ (Bool × ByteArray × Int) 93
  refine lp (fun m f w' => ∃ (j : Nat) (xs : List (Bool × ByteArray × Int)) (a0 : Option Addr) (c0 : Nat), m = h.length - j ∧ f 0 = .slice a_h h.length c_h ∧ f 3 = .slice a0 xs.length c0 ∧ f 4 = .int .i64 (j : Int) ∧  HI M w w' [own w.heap.size 93 (.slice a0 xs.length c0) xs, imm (.slice a_h h.length c_h) h] ∧ (j ≤ h.length) ∧ (xs = (h.take j).flatten)) _ ⟨0, ([] : List (Bool × ByteArray × Int)), none, 0, rfl, i0, rfl, (ieq rfl (by first | rfl | omega | simp)), H1, (by first | assumption | omega | simp | (simp; omega)), (by rfl)⟩ ?_
  rintro _ f0 w0 ⟨j, xs, a0, c0, rfl, s0, s1, s2, H2, hk, hs⟩
  refine sq (sq (rg (k (mv rfl s2 (k (mv rfl s0 (k (lnS rfl rfl un59 (k (lss rfl rfl rfl rfl (z (nx ?_))))))))))))
  refine cd (b := decide ((j : Int) < (h.length : Int))) rfl rfl (fun b0 => ?_) (fun b0 => ?_)
  ·
    have p0 := of_decide_eq_true b0
    refine sk (nx (sq (bk (rg (k (mv rfl s1 (k (mv rfl s0 (k (mv rfl s2 (k (ia (H2.rv 1 rfl) rfl rfl rfl rfl (by first | omega | (simp; omega)) un59 ty90 ?_))))))))))))
    intro ad0 x0 hx0 hA0
    refine k (ldL hA0.w ty90 rfl rfl ?_)
    intro a1 c1 rv0
    have ln0 := rv_len rv0
    have H3 := H2.put (it := imm (.slice a1 x0.length c1) x0) rfl rv0
    refine k (ap H3 1 rfl rfl rfl rfl rfl rfl (H3.rv 0 rfl).src un90 ty93 rfl (by have h_ := flat_len hx0; rw [hs]; omega) (by have h_ := flat_len hx0; rw [hs]; omega) ?_)
    intro a2 c2 w1 (H4 : HI M w w1 [imm (.slice a1 x0.length c1) x0, own w.heap.size 93 (.slice a2 (xs ++ x0).length c2) (xs ++ x0), imm (.slice a_h h.length c_h) h])
    refine k (asg (v := .slice a2 (xs ++ x0).length c2) rfl rfl (z (inb_normal (nx (rg (k (mv rfl s2 (k (add rfl rfl rfl rfl (by unfold I64 at *; omega) (k (asg (v := .int .i64 ((j : Int) + 1)) rfl rfl (z ?_))))))))))))
    have H5 : HI M w w1 [own w.heap.size 93 (.slice a2 (xs ++ x0).length c2) (xs ++ x0), imm (.slice a_h h.length c_h) h] := H4.pickN [1, 2] (by decide) rfl
    refine loopN _ ?_ ⟨(j + 1), (xs ++ x0), a2, c2, rfl, s0, rfl, (ieq rfl (by first | rfl | omega | (push_cast; omega))), H5, (by first | assumption | omega | simp | (simp; omega)), (by rw [hs, flat_step hx0])⟩
    omega
  ·
    have p0 := of_decide_eq_false b0
    refine ex (then_exit (loop_exit (inb_here (nx (sq (rg (k (mv rfl s1 (k (asg (v := .slice a0 xs.length c0) rfl rfl (z (nx (rt (r1 rfl rfl ?_))))))))))))))
    have e0 : (xs : List (Bool × ByteArray × Int)) = h.flatten := by rw [hs, take_end (by omega)]
    have ev_ := cg1 (fun (x_0 : List (Bool × ByteArray × Int)) => (.slice a0 x_0.length c0 : Value)) e0
    exact ⟨a0, c0, ev_, H2.below, (congrArg (fun (x_ : List (Bool × ByteArray × Int)) => RV _ _ (.slice a0 x_.length c0) x_) e0).mp (H2.outO 0 rfl)⟩
set_option maxRecDepth 100000 in
set_option maxHeartbeats 1600000 in
theorem ref06_Count {M : Nat → Prop} {w : World} {a_h : Option Addr} {c_h : Nat} {h : List (List (Bool × ByteArray × Int))} (hM : ∀ b, M b → b < w.heap.size) (h_h : RV M w (.slice a_h h.length c_h) h) (hb_h : h.flatten.length ≤ 1048576) : Calls Tryd.prog 83 #[.slice a_h h.length c_h] w (Ret fun v w' =>  v = .int .i64 (h.flatten.length : Int) ∧ Ext w w') := by
  refine enter 6 Tryd.func83 rfl rfl rfl fun f0 ha => ?_
  have H := HI.start (M0 := M) (w := w) hM
  have H0 := H.put (it := imm (.slice a_h h.length c_h) h) rfl (by rw [MS_nil]; exact h_h)
  have ln_h := rv_len h_h
  have i0 : f0 0 = .slice a_h h.length c_h := ha 0 (by simp)
  refine sq (rg (k (asg (v := .int .i64 0) rfl rfl (z (nx (sq (rg (k (mv rfl i0 (k ?_))))))))))
  have cc0 := ref06_Flat (h := h) (w := w) H0.mb (H0.rv 0 rfl) (by exact hb_h)
  refine ca go84 rfl (ec rfl e0) cc0 ?_
  rintro _ w0 ⟨a0, c0, rfl, xt0, rv0⟩
  have H1 := H0.ext xt0
  have H2 := H1.put (it := imm (.slice a0 h.flatten.length c0) h.flatten) rfl rv0
  refine k (lnS rfl rfl un90 (k (asg (v := .int .i64 (h.flatten.length : Int)) rfl rfl (z (nx (rt (r1 rfl rfl ?_)))))))
  exact ⟨rfl, H2.below⟩
set_option maxRecDepth 100000 in
set_option maxHeartbeats 1600000 in
theorem ref06_Right {M : Nat → Prop} {w : World} {a_h : Option Addr} {c_h : Nat} {h : List (List (Bool × ByteArray × Int))} (hM : ∀ b, M b → b < w.heap.size) (h_h : RV M w (.slice a_h h.length c_h) h) (hb_h : h.flatten.length ≤ 1048576) : Calls Tryd.prog 110 #[.slice a_h h.length c_h] w (Ret fun v w' =>  v = .bool (rightH h) ∧ Ext w w') := by
  refine enter 23 Tryd.func110 rfl rfl rfl fun f0 ha => ?_
  have H := HI.start (M0 := M) (w := w) hM
  have H0 := H.put (it := imm (.slice a_h h.length c_h) h) rfl (by rw [MS_nil]; exact h_h)
  have ln_h := rv_len h_h
  have i0 : f0 0 = .slice a_h h.length c_h := ha 0 (by simp)
  refine sq (rg (k (asg (v := .bool false) rfl rfl (z (nx (sq (rg (k (mv rfl i0 (k ?_))))))))))
  have cc0 := ref06_Flat (h := h) (w := w) H0.mb (H0.rv 0 rfl) (by exact hb_h)
  refine ca go84 rfl (ec rfl e0) cc0 ?_
  rintro _ w0 ⟨a0, c0, rfl, xt0, rv0⟩
  have H1 := H0.ext xt0
  have H2 := H1.put (it := imm (.slice a0 h.flatten.length c0) h.flatten) rfl rv0
  refine k (asg (v := .slice a0 h.flatten.length c0) rfl rfl (z (nx (sq (sq (rg (k (asg (v := .int .i64 0) rfl rfl (z (nx (bk ?_)))))))))))
  refine lp (fun m f w' => ∃ (j : Nat), m = h.flatten.length - j ∧ f 3 = .slice a0 h.flatten.length c0 ∧ f 4 = .int .i64 (j : Int) ∧  HI M w w' [imm (.slice a0 h.flatten.length c0) h.flatten, imm (.slice a_h h.length c_h) h] ∧ (j ≤ h.flatten.length) ∧ ((h.flatten.take j).all opName = true)) _ ⟨0, rfl, rfl, (ieq rfl (by first | rfl | omega | simp)), H2, (by first | assumption | omega | simp | (simp; omega)), (by rfl)⟩ ?_
  rintro _ f0 w1 ⟨j, rfl, s0, s1, H3, hk, hs⟩
  refine sq (sq (rg (k (mv rfl s1 (k (mv rfl s0 (k (lnS rfl rfl un90 (k (lss rfl rfl rfl rfl (z (nx ?_))))))))))))
  refine cd (b := decide ((j : Int) < (h.flatten.length : Int))) rfl rfl (fun b0 => ?_) (fun b0 => ?_)
  ·
    have p0 := of_decide_eq_true b0
    refine sk (nx (sq (bk (sq (rg (k (mv rfl s0 (k (mv rfl s1 (k (ia (H3.rv 0 rfl) rfl rfl rfl rfl (by first | omega | (simp; omega)) un90 ty93 ?_)))))))))))
    intro ad0 x0 hx0 hA0
    refine k (fa fl93_1 rfl rfl (k (ldS ((hA0).s1).fst.w ty9 rfl rfl ?_)))
    intro rv1
    refine k ?_
    have cc1 := ref06_Name (s := x0.2.1) (w := w1) (by assumption)
    refine ca go120 rfl (ec rfl e0) cc1 ?_
    rintro _ w2 ⟨rfl, xt1⟩
    have H4 := H3.ext xt1
    refine k (not_ rfl rfl (z (nx ?_)))
    refine cd (b := !(nameS x0.2.1)) rfl rfl (fun b1 => ?_) (fun b1 => ?_)
    ·
      refine sq (rg (k (asg (v := .bool false) rfl rfl (z (nx (rt (inb_ret (then_ret (loop_ret (inb_ret (then_ret (r1 rfl rfl ?_))))))))))))
      have e0 : (false : Bool) = rightH h := by first | exact right_no hx0 (by simpa using b1) | exact right_end hs (by omega)
      have ev_ := cg1 (fun (x_0 : Bool) => (.bool x_0 : Value)) e0
      exact ⟨ev_, H4.below⟩
    ·
      refine sk (inb_normal (nx (rg (k (mv rfl s1 (k (add rfl rfl rfl rfl (by unfold I64 at *; omega) (k (asg (v := .int .i64 ((j : Int) + 1)) rfl rfl (z ?_))))))))))
      refine loopN _ ?_ ⟨(j + 1), rfl, s0, (ieq rfl (by first | rfl | omega | (push_cast; omega))), H4, (by first | assumption | omega | simp | (simp; omega)), (by exact all_take hx0 hs (by simpa [opName] using b1))⟩
      omega
  ·
    have p0 := of_decide_eq_false b0
    refine ex (then_exit (loop_exit (inb_here (nx (sq (rg (k (mv rfl s0 (k (lnS rfl rfl un90 (k (leq rfl rfl rfl rfl (k (asg (v := .bool (decide ((h.flatten.length : Int) ≤ 4096))) rfl rfl (z (nx (rt (r1 rfl rfl ?_))))))))))))))))))
    have e0 : (decide ((h.flatten.length : Int) ≤ 4096) : Bool) = rightH h := by first | exact right_no hx0 (by simpa using b1) | exact right_end hs (by omega)
    have ev_ := cg1 (fun (x_0 : Bool) => (.bool x_0 : Value)) e0
    exact ⟨ev_, H3.below⟩
set_option maxRecDepth 100000 in
set_option maxHeartbeats 1600000 in
theorem ref06_Small {M : Nat → Prop} {w : World} {a_h : Option Addr} {c_h : Nat} {h : List (List (Bool × ByteArray × Int))} {m : Int} (hM : ∀ b, M b → b < w.heap.size) (h_h : RV M w (.slice a_h h.length c_h) h) (h_m : I64 m) (hb_h : h.flatten.length ≤ 1048576) : Calls Tryd.prog 46 #[.slice a_h h.length c_h, .int .i64 m] w (Ret fun v w' =>  v = .bool (smallH h m) ∧ Ext w w') := by
  refine enter 32 Tryd.func46 rfl rfl rfl fun f0 ha => ?_
  have H := HI.start (M0 := M) (w := w) hM
  have H0 := H.put (it := imm (.slice a_h h.length c_h) h) rfl (by rw [MS_nil]; exact h_h)
  have ln_h := rv_len h_h
  have i0 : f0 0 = .slice a_h h.length c_h := ha 0 (by simp)
  have i1 : f0 1 = .int .i64 m := ha 1 (by simp)
  refine sq (rg (k (asg (v := .bool false) rfl rfl (z (nx (sq (sq (rg (k (mv rfl i0 (k (lnS rfl rfl un59 (k (mv rfl i1 (k (gtr rfl rfl rfl rfl (k (mv (v := .bool (decide (m < (h.length : Int)))) rfl rfl ?_))))))))))))))))))
  rcases Bool.eq_false_or_eq_true (decide (m < (h.length : Int))) with b0 | b0
  · -- decide (m < (h.length : Int)) is True
    have p0 := of_decide_eq_true b0
    refine k (gn rfl rfl rfl b0 (k (gn rfl rfl rfl b0 (k (gn rfl rfl rfl b0 (k (gn rfl rfl rfl b0 (k (pickT rfl rfl rfl rfl b0 rfl (z (nx (cdT rfl rfl rfl (sq (rg (k (asg (v := .bool false) rfl rfl (z (nx (rt (then_ret (r1 rfl rfl ?_)))))))))))))))))))))
    have e0 : (false : Bool) = smallH h m := by first | exact small_no1 p0 | exact small_no2 p1 | exact small_no3 hx0 (by simpa using b3) | exact small_end p0 p1 hs (by omega)
    have ev_ := cg1 (fun (x_0 : Bool) => (.bool x_0 : Value)) e0
    exact ⟨ev_, H0.below⟩
  · -- decide (m < (h.length : Int)) is False
    have p0 := of_decide_eq_false b0
    refine k (gy rfl rfl rfl b0 (mv rfl i0 (k (gy rfl rfl rfl b0 ?_))))
    have cc0 := ref06_Count (h := h) (w := w) H0.mb (H0.rv 0 rfl) (by exact hb_h)
    refine ca go83 rfl (ec rfl e0) cc0 ?_
    rintro _ w0 ⟨rfl, xt0⟩
    have H1 := H0.ext xt0
    refine k (gy rfl rfl rfl b0 (mv rfl i1 (k (gy rfl rfl rfl b0 (gtr rfl rfl rfl rfl (k (pickF rfl rfl rfl rfl b0 rfl (z (nx ?_)))))))))
    refine cd (b := decide (m < (h.flatten.length : Int))) rfl rfl (fun b1 => ?_) (fun b1 => ?_)
    ·
      have p1 := of_decide_eq_true b1
      refine sq (rg (k (asg (v := .bool false) rfl rfl (z (nx (rt (then_ret (r1 rfl rfl ?_))))))))
      have e0 : (false : Bool) = smallH h m := by first | exact small_no1 p0 | exact small_no2 p1 | exact small_no3 hx0 (by simpa using b3) | exact small_end p0 p1 hs (by omega)
      have ev_ := cg1 (fun (x_0 : Bool) => (.bool x_0 : Value)) e0
      exact ⟨ev_, H1.below⟩
    ·
      have p1 := of_decide_eq_false b1
      refine sk (nx (sq (rg (k (mv rfl i0 (k ?_))))))
      have cc1 := ref06_Flat (h := h) (w := w0) H1.mb (H1.rv 0 rfl) (by exact hb_h)
      refine ca go84 rfl (ec rfl e0) cc1 ?_
      rintro _ w1 ⟨a0, c0, rfl, xt1, rv0⟩
      have H2 := H1.ext xt1
      have H3 := H2.put (it := imm (.slice a0 h.flatten.length c0) h.flatten) rfl rv0
      refine k (asg (v := .slice a0 h.flatten.length c0) rfl rfl (z (nx (sq (sq (rg (k (asg (v := .int .i64 0) rfl rfl (z (nx (bk ?_)))))))))))
      refine lp (fun m f w' => ∃ (j : Nat), m = h.flatten.length - j ∧ f 5 = .slice a0 h.flatten.length c0 ∧ f 6 = .int .i64 (j : Int) ∧  HI M w w' [imm (.slice a0 h.flatten.length c0) h.flatten, imm (.slice a_h h.length c_h) h] ∧ (j ≤ h.flatten.length) ∧ ((h.flatten.take j).all opShort = true)) _ ⟨0, rfl, rfl, (ieq rfl (by first | rfl | omega | simp)), H3, (by first | assumption | omega | simp | (simp; omega)), (by rfl)⟩ ?_
      rintro _ f0 w2 ⟨j, rfl, s0, s1, H4, hk, hs⟩
      refine sq (sq (rg (k (mv rfl s1 (k (mv rfl s0 (k (lnS rfl rfl un90 (k (lss rfl rfl rfl rfl (z (nx ?_))))))))))))
      refine cd (b := decide ((j : Int) < (h.flatten.length : Int))) rfl rfl (fun b2 => ?_) (fun b2 => ?_)
      ·
        have p2 := of_decide_eq_true b2
        refine sk (nx (sq (bk (sq (rg (k (mv rfl s0 (k (mv rfl s1 (k (ia (H4.rv 0 rfl) rfl rfl rfl rfl (by first | omega | (simp; omega)) un90 ty93 ?_)))))))))))
        intro ad0 x0 hx0 hA0
        refine k (fa fl93_1 rfl rfl (k (ldS ((hA0).s1).fst.w ty9 rfl rfl ?_)))
        intro rv1
        refine k (lnT rfl rfl un9 (k (gtr rfl rfl rfl rfl (z (nx ?_)))))
        refine cd (b := decide (20 < (x0.2.1.size : Int))) rfl rfl (fun b3 => ?_) (fun b3 => ?_)
        ·
          have p3 := of_decide_eq_true b3
          refine sq (rg (k (asg (v := .bool false) rfl rfl (z (nx (rt (inb_ret (then_ret (loop_ret (inb_ret (then_ret (r1 rfl rfl ?_))))))))))))
          have e0 : (false : Bool) = smallH h m := by first | exact small_no1 p0 | exact small_no2 p1 | exact small_no3 hx0 (by simpa using b3) | exact small_end p0 p1 hs (by omega)
          have ev_ := cg1 (fun (x_0 : Bool) => (.bool x_0 : Value)) e0
          exact ⟨ev_, H4.below⟩
        ·
          have p3 := of_decide_eq_false b3
          refine sk (inb_normal (nx (rg (k (mv rfl s1 (k (add rfl rfl rfl rfl (by unfold I64 at *; omega) (k (asg (v := .int .i64 ((j : Int) + 1)) rfl rfl (z ?_))))))))))
          refine loopN _ ?_ ⟨(j + 1), rfl, s0, (ieq rfl (by first | rfl | omega | (push_cast; omega))), H4, (by first | assumption | omega | simp | (simp; omega)), (by exact all_take hx0 hs (decide_eq_true (by omega)))⟩
          omega
      ·
        have p2 := of_decide_eq_false b2
        refine ex (then_exit (loop_exit (inb_here (nx (sq (rg (k (asg (v := .bool true) rfl rfl (z (nx (rt (r1 rfl rfl ?_))))))))))))
        have e0 : (true : Bool) = smallH h m := by first | exact small_no1 p0 | exact small_no2 p1 | exact small_no3 hx0 (by simpa using b3) | exact small_end p0 p1 hs (by omega)
        have ev_ := cg1 (fun (x_0 : Bool) => (.bool x_0 : Value)) e0
        exact ⟨ev_, H4.below⟩
set_option maxRecDepth 100000 in
set_option maxHeartbeats 1600000 in
theorem ref09_find {M : Nat → Prop} {w : World} {a_l : Option Addr} {c_l : Nat} {l : List ByteArray} {s : ByteArray} (hM : ∀ b, M b → b < w.heap.size) (h_l : RV M w (.slice a_l l.length c_l) l) (h_s : s.size ≤ maxLen) : Calls Tryd.prog 111 #[.slice a_l l.length c_l, .string s] w (Ret fun v w' =>  v = .int .i64 (findS l s) ∧ Ext w w') := by
  refine enter 19 Tryd.func111 rfl rfl rfl fun f0 ha => ?_
  have H := HI.start (M0 := M) (w := w) hM
  have H0 := H.put (it := imm (.slice a_l l.length c_l) l) rfl (by rw [MS_nil]; exact h_l)
  have ln_l := rv_len h_l
  have i0 : f0 0 = .slice a_l l.length c_l := ha 0 (by simp)
  have i1 : f0 1 = .string s := ha 1 (by simp)
  refine sq (rg (k (asg (v := .int .i64 0) rfl rfl (z (nx (sq (sq (rg (k (asg (v := .int .i64 0) rfl rfl (z (nx (bk ?_)))))))))))))
  refine lp (fun m f w' => ∃ (j : Nat), m = l.length - j ∧ f 0 = .slice a_l l.length c_l ∧ f 1 = .string s ∧ f 5 = .int .i64 (j : Int) ∧  HI M w w' [imm (.slice a_l l.length c_l) l] ∧ (j ≤ l.length) ∧ ((l.take j).any (isS s) = false)) _ ⟨0, rfl, i0, i1, (ieq rfl (by first | rfl | omega | simp)), H0, (by first | assumption | omega | simp | (simp; omega)), (by simp)⟩ ?_
  rintro _ f0 w0 ⟨j, rfl, s0, s1, s2, H1, hk, hs⟩
  refine sq (sq (rg (k (mv rfl s2 (k (mv rfl s0 (k (lnS rfl rfl un63 (k (lss rfl rfl rfl rfl (z (nx ?_))))))))))))
  refine cd (b := decide ((j : Int) < (l.length : Int))) rfl rfl (fun b0 => ?_) (fun b0 => ?_)
  ·
    have p0 := of_decide_eq_true b0
    refine sk (nx (sq (bk (sq (rg (k (mv rfl s0 (k (mv rfl s2 (k (ia (H1.rv 0 rfl) rfl rfl rfl rfl (by first | omega | (simp; omega)) un63 ty9 ?_)))))))))))
    intro ad0 x0 hx0 hA0
    refine k (ldS hA0.w ty9 rfl rfl ?_)
    intro rv0
    refine k (mv rfl s1 (k (eqS rfl rfl rfl rfl (z (nx ?_)))))
    refine cd (b := decide (x0 = s)) rfl rfl (fun b1 => ?_) (fun b1 => ?_)
    ·
      have p1 := of_decide_eq_true b1
      refine sq (rg (k (mv rfl s2 (k (asg (v := .int .i64 (j : Int)) rfl rfl (z (nx (rt (inb_ret (then_ret (loop_ret (inb_ret (then_ret (r1 rfl rfl ?_))))))))))))))
      have e0 : ((j : Int) : Int) = findS l s := by first | exact idxF_hit hx0 hs b1 | exact idxF_miss hs (by omega)
      have ev_ := cg1 (fun (x_0 : Int) => (.int .i64 x_0 : Value)) e0
      exact ⟨ev_, H1.below⟩
    ·
      have p1 := of_decide_eq_false b1
      refine sk (inb_normal (nx (rg (k (mv rfl s2 (k (add rfl rfl rfl rfl (by unfold I64 at *; omega) (k (asg (v := .int .i64 ((j : Int) + 1)) rfl rfl (z ?_))))))))))
      refine loopN _ ?_ ⟨(j + 1), rfl, s0, s1, (ieq rfl (by first | rfl | omega | (push_cast; omega))), H1, (by first | assumption | omega | simp | (simp; omega)), (by exact any_step hx0 hs b1)⟩
      omega
  ·
    have p0 := of_decide_eq_false b0
    refine ex (then_exit (loop_exit (inb_here (nx (sq (rg (k (asg (v := .int .i64 (-1)) rfl rfl (z (nx (rt (r1 rfl rfl ?_))))))))))))
    have e0 : ((-1) : Int) = findS l s := by first | exact idxF_hit hx0 hs b1 | exact idxF_miss hs (by omega)
    have ev_ := cg1 (fun (x_0 : Int) => (.int .i64 x_0 : Value)) e0
    exact ⟨ev_, H1.below⟩
set_option maxRecDepth 100000 in
set_option maxHeartbeats 1600000 in
theorem ref09_Of {M : Nat → Prop} {w : World} {a_h : Option Addr} {c_h : Nat} {h : List (List (Bool × ByteArray × Int))} (hM : ∀ b, M b → b < w.heap.size) (h_h : RV M w (.slice a_h h.length c_h) h) (hb_h : h.flatten.length ≤ 1048576) : Calls Tryd.prog 85 #[.slice a_h h.length c_h] w (Ret fun v w' => ∃ (a0 : Option Addr) (c0 : Nat) (a1 : Option Addr) (c1 : Nat) (a2 : Option Addr) (c2 : Nat), v = .tuple #[.agg #[.slice a0 (ofV h).length c0, .slice a1 (ofI h).length c1, .slice a2 ([] : List Int).length c2], .int .i64 (ofE h)] ∧ Ext w w' ∧ RV M w' (.slice a0 (ofV h).length c0) (ofV h) ∧ RV M w' (.slice a1 (ofI h).length c1) (ofI h) ∧ RV M w' (.slice a2 ([] : List Int).length c2) ([] : List Int)) := by
  refine enter 66 Tryd.func85 rfl rfl rfl fun f0 ha => ?_
  have H := HI.start (M0 := M) (w := w) hM
  have H0 := H.put (it := imm (.slice a_h h.length c_h) h) rfl (by rw [MS_nil]; exact h_h)
  have ln_h := rv_len h_h
  have i0 : f0 0 = .slice a_h h.length c_h := ha 0 (by simp)
  refine sq (rg (k (al H0 ty66 ?_)))
  intro bb0 w0 xt0 (H1 : HI M w w0 [box bb0 #[.slice none 0 0, .slice none 0 0, .slice none 0 0] 66, imm (.slice a_h h.length c_h) h])
  refine k (asg (v := .int .i64 0) rfl rfl (z (nx (sq (sq (rg (k (mv rfl i0 (k ?_)))))))))
  have cc0 := ref06_Right (h := h) (w := w0) H1.mb (H1.rv 1 rfl) (by exact hb_h)
  refine ca go110 rfl (ec rfl e0) cc0 ?_
  rintro _ w1 ⟨rfl, xt1⟩
  have H2 := H1.ext xt1
  refine k (not_ rfl rfl (z (nx ?_)))
  refine cd (b := !(rightH h)) rfl rfl (fun b0 => ?_) (fun b0 => ?_)
  ·
    refine sq ?_
    have hq : rightH h = false := by simpa using b0
    refine rg (k (bd (v := .agg #[.slice none 0 0, .slice none 0 0, .slice none 0 0]) rfl pb0 (fun _ => by kernel_rfl) (k (stX H2 0 rfl ty66 rfl rfl rfl rfl rfl rfl rfl ?_))))
    intro w2 (H3 : HI M w w2 [box bb0 #[.slice none 0 0, .slice none 0 0, .slice none 0 0] 66, imm (.slice a_h h.length c_h) h])
    refine k (asg (v := .int .i64 1) rfl rfl (z (nx (rt (then_ret (rc2 H3 0 rfl ty66 rfl rfl rfl rfl rfl (by decide) ?_))))))
    have e0 : ([] : List ByteArray) = ofV h := by first | exact (of_bad hq).1.symm | (rw [(of_ok hq).1, h1]; unfold factV; rw [show i = h.length from by omega])
    have e1 : ([] : List (Int × Int × Bool × Int × Int)) = ofI h := by first | exact (of_bad hq).2.1.symm | (rw [(of_ok hq).2.1, h2]; unfold factI; rw [show i = h.length from by omega])
    have e2 : ([] : List Int) = ([] : List Int) := rfl
    have e3 : (1 : Int) = ofE h := by first | exact (of_bad hq).2.2.symm | exact (of_ok hq).2.2.symm
    have ev_ := cg4 (fun (x_0 : List ByteArray) (x_1 : List (Int × Int × Bool × Int × Int)) (x_2 : List Int) (x_3 : Int) => (.tuple #[.agg #[.slice none x_0.length 0, .slice none x_1.length 0, .slice none x_2.length 0], .int .i64 x_3] : Value)) e0 e1 e2 e3
    exact ⟨none, 0, none, 0, none, 0, ev_, H3.below, (congrArg (fun (x_ : List ByteArray) => RV _ _ (.slice none x_.length 0) x_) e0).mp (rv_nil _ _), (congrArg (fun (x_ : List (Int × Int × Bool × Int × Int)) => RV _ _ (.slice none x_.length 0) x_) e1).mp (rv_nil _ _), (congrArg (fun (x_ : List Int) => RV _ _ (.slice none x_.length 0) x_) e2).mp (rv_nil _ _)⟩
  ·
    refine sk (nx (sq ?_))
    have hq : rightH h = true := by simpa using b0
    refine rg (k (al H2 ty66 ?_))
    intro bb1 w2 xt2 (H3 : HI M w w2 [box bb1 #[.slice none 0 0, .slice none 0 0, .slice none 0 0] 66, box bb0 #[.slice none 0 0, .slice none 0 0, .slice none 0 0] 66, imm (.slice a_h h.length c_h) h])
    refine z (nx (sq (sq (rg (k (asg (v := .int .i64 0) rfl rfl (z (nx (bk ?_)))))))))
    have H4 := H3.nil_ ByteArray 9
    have H5 := H4.nil_ (Int × Int × Bool × Int × Int) 102
    refine lp (fun m f w' => ∃ (i : Nat) (vs : List ByteArray) (its : List (Int × Int × Bool × Int × Int)) (a0 : Option Addr) (c0 : Nat) (a1 : Option Addr) (c1 : Nat), m = h.length - i ∧ f 0 = .slice a_h h.length c_h ∧ f 2 = .pointer (some ⟨bb0, 0, none⟩) ∧ f 4 = .pointer (some ⟨bb1, 0, none⟩) ∧ f 5 = .int .i64 (i : Int) ∧  HI M w w' [own w.heap.size 102 (.slice a1 its.length c1) its, own w.heap.size 9 (.slice a0 vs.length c0) vs, box bb1 #[.slice a0 vs.length c0, .slice a1 its.length c1, .slice none 0 0] 66, box bb0 #[.slice none 0 0, .slice none 0 0, .slice none 0 0] 66, imm (.slice a_h h.length c_h) h] ∧ (i ≤ h.length) ∧ (vs = (allO h i).1) ∧ (its = (allO h i).2)) _ ⟨0, ([] : List ByteArray), ([] : List (Int × Int × Bool × Int × Int)), none, 0, none, 0, rfl, i0, rfl, rfl, (ieq rfl (by first | rfl | omega | simp)), H5, (by first | assumption | omega | simp | (simp; omega)), (by rfl), (by rfl)⟩ ?_
    rintro _ f0 w3 ⟨i, vs, its, a0, c0, a1, c1, rfl, s0, s1, s2, s3, H6, hi_, h1, h2⟩
    refine sq (sq (rg (k (mv rfl s3 (k (mv rfl s0 (k (lnS rfl rfl un59 (k (lss rfl rfl rfl rfl (z (nx ?_))))))))))))
    refine cd (b := decide ((i : Int) < (h.length : Int))) rfl rfl (fun b1 => ?_) (fun b1 => ?_)
    ·
      have p1 := of_decide_eq_true b1
      refine sk (nx (sq (bk (sq (rg (k (asg (v := .int .i64 0) rfl rfl (z (nx (bk ?_))))))))))
      refine lp (fun m f w' => ∃ (q : Nat) (vs : List ByteArray) (its : List (Int × Int × Bool × Int × Int)) (a2 : Option Addr) (c2 : Nat) (a3 : Option Addr) (c3 : Nat), m = (h.getD i []).length - q ∧ f 0 = .slice a_h h.length c_h ∧ f 2 = .pointer (some ⟨bb0, 0, none⟩) ∧ f 4 = .pointer (some ⟨bb1, 0, none⟩) ∧ f 5 = .int .i64 (i : Int) ∧ f 6 = .int .i64 (q : Int) ∧  HI M w w' [own w.heap.size 102 (.slice a3 its.length c3) its, own w.heap.size 9 (.slice a2 vs.length c2) vs, box bb1 #[.slice a2 vs.length c2, .slice a3 its.length c3, .slice none 0 0] 66, box bb0 #[.slice none 0 0, .slice none 0 0, .slice none 0 0] 66, imm (.slice a_h h.length c_h) h] ∧ (q ≤ (h.getD i []).length) ∧ (vs = (toO i (allO h i) (h.getD i []) q).1) ∧ (its = (toO i (allO h i) (h.getD i []) q).2)) _ ⟨0, vs, its, a0, c0, a1, c1, rfl, s0, s1, s2, s3, (ieq rfl (by first | rfl | omega | simp)), H6, (by first | assumption | omega | simp | (simp; omega)), (by exact h1), (by exact h2)⟩ ?_
      rintro _ f1 w4 ⟨q, vs, its, a2, c2, a3, c3, rfl, s4, s5, s6, s7, s8, H7, hk, h1, h2⟩
      refine sq (sq (rg (k (mv rfl s8 (k (mv rfl s4 (k (mv rfl s7 (k (ia (H7.rv 4 rfl) rfl rfl rfl rfl (by first | omega | (simp; omega)) un59 ty90 ?_))))))))))
      intro ad0 x0 hx0 hA0
      refine k (ldL hA0.w ty90 rfl rfl ?_)
      intro a4 c4 rv0
      have ln0 := rv_len rv0
      have H8 := H7.put (it := imm (.slice a4 x0.length c4) x0) rfl rv0
      refine k (lnS rfl rfl un90 (k (lss rfl rfl rfl rfl (z (nx ?_)))))
      refine cd (b := decide ((q : Int) < (x0.length : Int))) rfl rfl (fun b2 => ?_) (fun b2 => ?_)
      ·
        have p2 := of_decide_eq_true b2
        refine sk (nx (sq (bk (sq (rg (k (mv rfl s4 (k (mv rfl s7 (k (ia (H8.rv 5 rfl) rfl rfl rfl rfl (by first | omega | (simp; omega)) un59 ty90 ?_)))))))))))
        intro ad1 x1 hx1 hA1
        refine k (ldL hA1.w ty90 rfl rfl ?_)
        intro a5 c5 rv1
        have ln1 := rv_len rv1
        have H9 := H8.put (it := imm (.slice a5 x1.length c5) x1) rfl rv1
        refine k (mv rfl s8 (k (ia (H9.rv 0 rfl) rfl rfl rfl rfl (by have e_ := at_is hx1 hx0; subst e_; omega) un90 ty93 ?_)))
        intro ad2 x2 hx2 hA2
        refine k (ldW hA2.w ty93 rfl rfl ?_)
        intro v0 rv2
        obtain ⟨_, ⟨_, _, rfl, rfl, ⟨_, _, rfl, ⟨rfl, rv3⟩, ⟨rfl, rv4⟩⟩⟩, rfl⟩ := rv2
        refine k (al H9 ty93 ?_)
        intro bb2 w5 xt3 (H10 : HI M w w5 [box bb2 #[.bool false, .string ⟨#[]⟩, .int .i64 0] 93, imm (.slice a5 x1.length c5) x1, imm (.slice a4 x0.length c4) x0, own w.heap.size 102 (.slice a3 its.length c3) its, own w.heap.size 9 (.slice a2 vs.length c2) vs, box bb1 #[.slice a2 vs.length c2, .slice a3 its.length c3, .slice none 0 0] 66, box bb0 #[.slice none 0 0, .slice none 0 0, .slice none 0 0] 66, imm (.slice a_h h.length c_h) h])
        refine k (stX H10 0 rfl ty93 rfl rfl rfl rfl rfl rfl rfl ?_)
        intro w6 (H11 : HI M w w6 [box bb2 #[.bool x2.1, .string x2.2.1, .int .i64 x2.2.2] 93, imm (.slice a5 x1.length c5) x1, imm (.slice a4 x0.length c4) x0, own w.heap.size 102 (.slice a3 its.length c3) its, own w.heap.size 9 (.slice a2 vs.length c2) vs, box bb1 #[.slice a2 vs.length c2, .slice a3 its.length c3, .slice none 0 0] 66, box bb0 #[.slice none 0 0, .slice none 0 0, .slice none 0 0] 66, imm (.slice a_h h.length c_h) h])
        refine z (nx (sq (rg (k (fa fl66_0 rfl s6 (k (ldX H11 5 rfl ty63 rfl rfl (by decide) rfl (k (fa fl93_1 rfl rfl (k (ldX H11 0 rfl ty9 rfl rfl (by decide) rfl (k ?_))))))))))))
        have H12 := H11.freeze 4 rfl
        have cc1 := ref09_find (l := vs) (s := x2.2.1) (w := w6) H12.mb (H12.rv 4 rfl) (by assumption)
        refine ca go111 rfl (ec rfl (ec rfl e0)) cc1 ?_
        rintro _ w7 ⟨rfl, xt4⟩
        have H13 := H11.ext xt4
        refine k (asg (v := .int .i64 (findS vs x2.2.1)) rfl rfl (z (nx (sq (sq (rg (k (mv (v := .int .i64 (findS vs x2.2.1)) rfl rfl (k (lss rfl rfl rfl rfl (z (nx ?_))))))))))))
        refine cd (b := decide ((findS vs x2.2.1) < 0)) rfl rfl (fun b3 => ?_) (fun b3 => ?_)
        ·
          have p3 := of_decide_eq_true b3
          refine sq (rg (k (fa fl66_0 rfl s6 (k (ldX H13 5 rfl ty63 rfl rfl (by decide) rfl (k (lnS rfl rfl un63 (k (asg (v := .int .i64 (vs.length : Int)) rfl rfl (z (nx (rg (k (fa fl66_0 rfl s6 (k (ldX H13 5 rfl ty63 rfl rfl (by decide) rfl (k (fa fl93_1 rfl rfl (k (ldX H13 0 rfl ty9 rfl rfl (by decide) rfl (k (bs (xs := ([x2.2.1] : List ByteArray)) (cells := #[.string x2.2.1]) (e := 9) H13 rfl (pbc rfl pb0) (fun _ => by kernel_rfl) ⟨[.string x2.2.1], [], rfl, ⟨rfl, (by assumption)⟩, rfl⟩ rfl (by unfold maxLen; omega) ?_))))))))))))))))))))))
          intro g0 w8 xt5 (H14 : HI M w w8 [own w.heap.size 9 (.slice (some ⟨g0, 0, none⟩) 1 1) ([x2.2.1] : List ByteArray), box bb2 #[.bool x2.1, .string x2.2.1, .int .i64 x2.2.2] 93, imm (.slice a5 x1.length c5) x1, imm (.slice a4 x0.length c4) x0, own w.heap.size 102 (.slice a3 its.length c3) its, own w.heap.size 9 (.slice a2 vs.length c2) vs, box bb1 #[.slice a2 vs.length c2, .slice a3 its.length c3, .slice none 0 0] 66, box bb0 #[.slice none 0 0, .slice none 0 0, .slice none 0 0] 66, imm (.slice a_h h.length c_h) h])
          refine k (ap H14 5 rfl rfl rfl rfl rfl rfl (own_src (H14.at_ 0 rfl)) un63 ty9 rfl (by have e_ := at_is hx1 hx0; have h_ := of_room (k := q) hx0 (by omega); rw [← getD_row hx0, ← h1, ← h2] at h_; simp only [List.length_cons, List.length_nil]; omega) (by have e_ := at_is hx1 hx0; have h_ := of_room (k := q) hx0 (by omega); rw [← getD_row hx0, ← h1, ← h2] at h_; simp only [List.length_cons, List.length_nil]; omega) ?_)
          intro a6 c6 w9 (H15 : HI M w w9 [own w.heap.size 9 (.slice (some ⟨g0, 0, none⟩) 1 1) ([x2.2.1] : List ByteArray), box bb2 #[.bool x2.1, .string x2.2.1, .int .i64 x2.2.2] 93, imm (.slice a5 x1.length c5) x1, imm (.slice a4 x0.length c4) x0, own w.heap.size 102 (.slice a3 its.length c3) its, own w.heap.size 9 (.slice a6 (vs ++ ([x2.2.1] : List ByteArray)).length c6) (vs ++ ([x2.2.1] : List ByteArray)), box bb1 #[.slice a2 vs.length c2, .slice a3 its.length c3, .slice none 0 0] 66, box bb0 #[.slice none 0 0, .slice none 0 0, .slice none 0 0] 66, imm (.slice a_h h.length c_h) h])
          refine k (fa fl66_0 rfl s6 (k (stX H15 6 rfl ty63 rfl rfl rfl rfl rfl rfl rfl ?_)))
          intro w10 (H16 : HI M w w10 [own w.heap.size 9 (.slice (some ⟨g0, 0, none⟩) 1 1) ([x2.2.1] : List ByteArray), box bb2 #[.bool x2.1, .string x2.2.1, .int .i64 x2.2.2] 93, imm (.slice a5 x1.length c5) x1, imm (.slice a4 x0.length c4) x0, own w.heap.size 102 (.slice a3 its.length c3) its, own w.heap.size 9 (.slice a6 (vs ++ ([x2.2.1] : List ByteArray)).length c6) (vs ++ ([x2.2.1] : List ByteArray)), box bb1 #[.slice a6 (vs ++ ([x2.2.1] : List ByteArray)).length c6, .slice a3 its.length c3, .slice none 0 0] 66, box bb0 #[.slice none 0 0, .slice none 0 0, .slice none 0 0] 66, imm (.slice a_h h.length c_h) h])
          refine z (nx (rg (k (fa fl66_1 rfl s6 (k (ldX H16 6 rfl ty64 rfl rfl (by decide) rfl (k (mv rfl s7 (k (mv rfl s8 (k (fa fl93_0 rfl rfl (k (ldX H16 1 rfl ty4 rfl rfl (by decide) rfl (k (mv (v := .int .i64 (vs.length : Int)) rfl rfl (k (fa fl93_2 rfl rfl (k (ldX H16 1 rfl ty3 rfl rfl (by decide) rfl (k (bd (v := .agg #[.int .i64 (i : Int), .int .i64 (q : Int), .bool x2.1, .int .i64 (vs.length : Int), .int .i64 x2.2.2]) rfl (pbc rfl (pbc rfl (pbc rfl (pbc rfl (pbc rfl pb0))))) (fun _ => by kernel_rfl) (k (bs (xs := ([((i : Int), (q : Int), x2.1, (vs.length : Int), x2.2.2)] : List (Int × Int × Bool × Int × Int))) (cells := #[.int .i64 (i : Int), .int .i64 (q : Int), .bool x2.1, .int .i64 (vs.length : Int), .int .i64 x2.2.2]) (e := 102) H16 rfl (pbc rfl pb0) (fun _ => by kernel_rfl) ⟨[.int .i64 (i : Int), .int .i64 (q : Int), .bool x2.1, .int .i64 (vs.length : Int), .int .i64 x2.2.2], [], rfl, ⟨_, _, rfl, ⟨rfl, (show I64 ((i : Int)) from (by unfold I64 at *; omega))⟩, ⟨_, _, rfl, ⟨rfl, (show I64 ((q : Int)) from (by unfold I64 at *; omega))⟩, ⟨_, _, rfl, rfl, ⟨_, _, rfl, ⟨rfl, (show I64 ((vs.length : Int)) from (by have e_ := at_is hx1 hx0; have h3 := of_room (k := q) hx0 (by omega); rw [← getD_row hx0, ← h1, ← h2] at h3; unfold I64; omega))⟩, ⟨rfl, (show I64 (x2.2.2) from (by unfold I64 at *; omega))⟩⟩⟩⟩⟩, rfl⟩ rfl (by unfold maxLen; omega) ?_))))))))))))))))))))))))
          intro g1 w11 xt6 (H17 : HI M w w11 [own w.heap.size 102 (.slice (some ⟨g1, 0, none⟩) 1 1) ([((i : Int), (q : Int), x2.1, (vs.length : Int), x2.2.2)] : List (Int × Int × Bool × Int × Int)), own w.heap.size 9 (.slice (some ⟨g0, 0, none⟩) 1 1) ([x2.2.1] : List ByteArray), box bb2 #[.bool x2.1, .string x2.2.1, .int .i64 x2.2.2] 93, imm (.slice a5 x1.length c5) x1, imm (.slice a4 x0.length c4) x0, own w.heap.size 102 (.slice a3 its.length c3) its, own w.heap.size 9 (.slice a6 (vs ++ ([x2.2.1] : List ByteArray)).length c6) (vs ++ ([x2.2.1] : List ByteArray)), box bb1 #[.slice a6 (vs ++ ([x2.2.1] : List ByteArray)).length c6, .slice a3 its.length c3, .slice none 0 0] 66, box bb0 #[.slice none 0 0, .slice none 0 0, .slice none 0 0] 66, imm (.slice a_h h.length c_h) h])
          refine k (ap H17 5 rfl rfl rfl rfl rfl rfl (own_src (H17.at_ 0 rfl)) un64 ty102 rfl (by have e_ := at_is hx1 hx0; have h_ := of_room (k := q) hx0 (by omega); rw [← getD_row hx0, ← h1, ← h2] at h_; simp only [List.length_cons, List.length_nil]; omega) (by have e_ := at_is hx1 hx0; have h_ := of_room (k := q) hx0 (by omega); rw [← getD_row hx0, ← h1, ← h2] at h_; simp only [List.length_cons, List.length_nil]; omega) ?_)
          intro a7 c7 w12 (H18 : HI M w w12 [own w.heap.size 102 (.slice (some ⟨g1, 0, none⟩) 1 1) ([((i : Int), (q : Int), x2.1, (vs.length : Int), x2.2.2)] : List (Int × Int × Bool × Int × Int)), own w.heap.size 9 (.slice (some ⟨g0, 0, none⟩) 1 1) ([x2.2.1] : List ByteArray), box bb2 #[.bool x2.1, .string x2.2.1, .int .i64 x2.2.2] 93, imm (.slice a5 x1.length c5) x1, imm (.slice a4 x0.length c4) x0, own w.heap.size 102 (.slice a7 (its ++ ([((i : Int), (q : Int), x2.1, (vs.length : Int), x2.2.2)] : List (Int × Int × Bool × Int × Int))).length c7) (its ++ ([((i : Int), (q : Int), x2.1, (vs.length : Int), x2.2.2)] : List (Int × Int × Bool × Int × Int))), own w.heap.size 9 (.slice a6 (vs ++ ([x2.2.1] : List ByteArray)).length c6) (vs ++ ([x2.2.1] : List ByteArray)), box bb1 #[.slice a6 (vs ++ ([x2.2.1] : List ByteArray)).length c6, .slice a3 its.length c3, .slice none 0 0] 66, box bb0 #[.slice none 0 0, .slice none 0 0, .slice none 0 0] 66, imm (.slice a_h h.length c_h) h])
          refine k (fa fl66_1 rfl s6 (k (stX H18 7 rfl ty64 rfl rfl rfl rfl rfl rfl rfl ?_)))
          intro w13 (H19 : HI M w w13 [own w.heap.size 102 (.slice (some ⟨g1, 0, none⟩) 1 1) ([((i : Int), (q : Int), x2.1, (vs.length : Int), x2.2.2)] : List (Int × Int × Bool × Int × Int)), own w.heap.size 9 (.slice (some ⟨g0, 0, none⟩) 1 1) ([x2.2.1] : List ByteArray), box bb2 #[.bool x2.1, .string x2.2.1, .int .i64 x2.2.2] 93, imm (.slice a5 x1.length c5) x1, imm (.slice a4 x0.length c4) x0, own w.heap.size 102 (.slice a7 (its ++ ([((i : Int), (q : Int), x2.1, (vs.length : Int), x2.2.2)] : List (Int × Int × Bool × Int × Int))).length c7) (its ++ ([((i : Int), (q : Int), x2.1, (vs.length : Int), x2.2.2)] : List (Int × Int × Bool × Int × Int))), own w.heap.size 9 (.slice a6 (vs ++ ([x2.2.1] : List ByteArray)).length c6) (vs ++ ([x2.2.1] : List ByteArray)), box bb1 #[.slice a6 (vs ++ ([x2.2.1] : List ByteArray)).length c6, .slice a7 (its ++ ([((i : Int), (q : Int), x2.1, (vs.length : Int), x2.2.2)] : List (Int × Int × Bool × Int × Int))).length c7, .slice none 0 0] 66, box bb0 #[.slice none 0 0, .slice none 0 0, .slice none 0 0] 66, imm (.slice a_h h.length c_h) h])
          refine z (inb_normal (nx (rg (k (mv rfl s8 (k (add rfl rfl rfl rfl (by unfold I64 at *; omega) (k (asg (v := .int .i64 ((q : Int) + 1)) rfl rfl (z ?_))))))))))
          have H20 : HI M w w13 [own w.heap.size 102 (.slice a7 (its ++ ([((i : Int), (q : Int), x2.1, (vs.length : Int), x2.2.2)] : List (Int × Int × Bool × Int × Int))).length c7) (its ++ ([((i : Int), (q : Int), x2.1, (vs.length : Int), x2.2.2)] : List (Int × Int × Bool × Int × Int))), own w.heap.size 9 (.slice a6 (vs ++ ([x2.2.1] : List ByteArray)).length c6) (vs ++ ([x2.2.1] : List ByteArray)), box bb1 #[.slice a6 (vs ++ ([x2.2.1] : List ByteArray)).length c6, .slice a7 (its ++ ([((i : Int), (q : Int), x2.1, (vs.length : Int), x2.2.2)] : List (Int × Int × Bool × Int × Int))).length c7, .slice none 0 0] 66, box bb0 #[.slice none 0 0, .slice none 0 0, .slice none 0 0] 66, imm (.slice a_h h.length c_h) h] := H19.pickN [5, 6, 7, 8, 9] (by decide) rfl
          refine loopN _ ?_ ⟨(q + 1), (vs ++ ([x2.2.1] : List ByteArray)), (its ++ ([((i : Int), (q : Int), x2.1, (vs.length : Int), x2.2.2)] : List (Int × Int × Bool × Int × Int))), a6, c6, a7, c7, rfl, s4, s5, s6, s7, (ieq rfl (by first | rfl | omega | (push_cast; omega))), H20, (by rw [getD_row hx0]; omega), (by rw [h1] at *; have e_ := at_is hx1 hx0; subst e_; rw [getD_row hx0] at *; first | exact (step_new hx2 p3).1 | exact (step_old hx2 p3).1), (by rw [h1, h2] at *; have e_ := at_is hx1 hx0; subst e_; rw [getD_row hx0] at *; first | exact (step_new hx2 p3).2 | exact (step_old hx2 p3).2)⟩
          rw [getD_row hx0]; omega
        ·
          have p3 := of_decide_eq_false b3
          refine sk (nx (rg (k (fa fl66_1 rfl s6 (k (ldX H13 5 rfl ty64 rfl rfl (by decide) rfl (k (mv rfl s7 (k (mv rfl s8 (k (fa fl93_0 rfl rfl (k (ldX H13 0 rfl ty4 rfl rfl (by decide) rfl (k (mv (v := .int .i64 (findS vs x2.2.1)) rfl rfl (k (fa fl93_2 rfl rfl (k (ldX H13 0 rfl ty3 rfl rfl (by decide) rfl (k (bd (v := .agg #[.int .i64 (i : Int), .int .i64 (q : Int), .bool x2.1, .int .i64 (findS vs x2.2.1), .int .i64 x2.2.2]) rfl (pbc rfl (pbc rfl (pbc rfl (pbc rfl (pbc rfl pb0))))) (fun _ => by kernel_rfl) (k (bs (xs := ([((i : Int), (q : Int), x2.1, findS vs x2.2.1, x2.2.2)] : List (Int × Int × Bool × Int × Int))) (cells := #[.int .i64 (i : Int), .int .i64 (q : Int), .bool x2.1, .int .i64 (findS vs x2.2.1), .int .i64 x2.2.2]) (e := 102) H13 rfl (pbc rfl pb0) (fun _ => by kernel_rfl) ⟨[.int .i64 (i : Int), .int .i64 (q : Int), .bool x2.1, .int .i64 (findS vs x2.2.1), .int .i64 x2.2.2], [], rfl, ⟨_, _, rfl, ⟨rfl, (show I64 ((i : Int)) from (by unfold I64 at *; omega))⟩, ⟨_, _, rfl, ⟨rfl, (show I64 ((q : Int)) from (by unfold I64 at *; omega))⟩, ⟨_, _, rfl, rfl, ⟨_, _, rfl, ⟨rfl, (show I64 (findS vs x2.2.1) from (by have h_ := idxF_range (p := isS x2.2.1) (r := vs); have e_ := at_is hx1 hx0; have h3 := of_room (k := q) hx0 (by omega); rw [← getD_row hx0, ← h1, ← h2] at h3; unfold findS; unfold I64; omega))⟩, ⟨rfl, (show I64 (x2.2.2) from (by unfold I64 at *; omega))⟩⟩⟩⟩⟩, rfl⟩ rfl (by unfold maxLen; omega) ?_))))))))))))))))))))))))
          intro g0 w8 xt5 (H14 : HI M w w8 [own w.heap.size 102 (.slice (some ⟨g0, 0, none⟩) 1 1) ([((i : Int), (q : Int), x2.1, findS vs x2.2.1, x2.2.2)] : List (Int × Int × Bool × Int × Int)), box bb2 #[.bool x2.1, .string x2.2.1, .int .i64 x2.2.2] 93, imm (.slice a5 x1.length c5) x1, imm (.slice a4 x0.length c4) x0, own w.heap.size 102 (.slice a3 its.length c3) its, own w.heap.size 9 (.slice a2 vs.length c2) vs, box bb1 #[.slice a2 vs.length c2, .slice a3 its.length c3, .slice none 0 0] 66, box bb0 #[.slice none 0 0, .slice none 0 0, .slice none 0 0] 66, imm (.slice a_h h.length c_h) h])
          refine k (ap H14 4 rfl rfl rfl rfl rfl rfl (own_src (H14.at_ 0 rfl)) un64 ty102 rfl (by have e_ := at_is hx1 hx0; have h_ := of_room (k := q) hx0 (by omega); rw [← getD_row hx0, ← h1, ← h2] at h_; simp only [List.length_cons, List.length_nil]; omega) (by have e_ := at_is hx1 hx0; have h_ := of_room (k := q) hx0 (by omega); rw [← getD_row hx0, ← h1, ← h2] at h_; simp only [List.length_cons, List.length_nil]; omega) ?_)
          intro a6 c6 w9 (H15 : HI M w w9 [own w.heap.size 102 (.slice (some ⟨g0, 0, none⟩) 1 1) ([((i : Int), (q : Int), x2.1, findS vs x2.2.1, x2.2.2)] : List (Int × Int × Bool × Int × Int)), box bb2 #[.bool x2.1, .string x2.2.1, .int .i64 x2.2.2] 93, imm (.slice a5 x1.length c5) x1, imm (.slice a4 x0.length c4) x0, own w.heap.size 102 (.slice a6 (its ++ ([((i : Int), (q : Int), x2.1, findS vs x2.2.1, x2.2.2)] : List (Int × Int × Bool × Int × Int))).length c6) (its ++ ([((i : Int), (q : Int), x2.1, findS vs x2.2.1, x2.2.2)] : List (Int × Int × Bool × Int × Int))), own w.heap.size 9 (.slice a2 vs.length c2) vs, box bb1 #[.slice a2 vs.length c2, .slice a3 its.length c3, .slice none 0 0] 66, box bb0 #[.slice none 0 0, .slice none 0 0, .slice none 0 0] 66, imm (.slice a_h h.length c_h) h])
          refine k (fa fl66_1 rfl s6 (k (stX H15 6 rfl ty64 rfl rfl rfl rfl rfl rfl rfl ?_)))
          intro w10 (H16 : HI M w w10 [own w.heap.size 102 (.slice (some ⟨g0, 0, none⟩) 1 1) ([((i : Int), (q : Int), x2.1, findS vs x2.2.1, x2.2.2)] : List (Int × Int × Bool × Int × Int)), box bb2 #[.bool x2.1, .string x2.2.1, .int .i64 x2.2.2] 93, imm (.slice a5 x1.length c5) x1, imm (.slice a4 x0.length c4) x0, own w.heap.size 102 (.slice a6 (its ++ ([((i : Int), (q : Int), x2.1, findS vs x2.2.1, x2.2.2)] : List (Int × Int × Bool × Int × Int))).length c6) (its ++ ([((i : Int), (q : Int), x2.1, findS vs x2.2.1, x2.2.2)] : List (Int × Int × Bool × Int × Int))), own w.heap.size 9 (.slice a2 vs.length c2) vs, box bb1 #[.slice a2 vs.length c2, .slice a6 (its ++ ([((i : Int), (q : Int), x2.1, findS vs x2.2.1, x2.2.2)] : List (Int × Int × Bool × Int × Int))).length c6, .slice none 0 0] 66, box bb0 #[.slice none 0 0, .slice none 0 0, .slice none 0 0] 66, imm (.slice a_h h.length c_h) h])
          refine z (inb_normal (nx (rg (k (mv rfl s8 (k (add rfl rfl rfl rfl (by unfold I64 at *; omega) (k (asg (v := .int .i64 ((q : Int) + 1)) rfl rfl (z ?_))))))))))
          have H17 : HI M w w10 [own w.heap.size 102 (.slice a6 (its ++ ([((i : Int), (q : Int), x2.1, findS vs x2.2.1, x2.2.2)] : List (Int × Int × Bool × Int × Int))).length c6) (its ++ ([((i : Int), (q : Int), x2.1, findS vs x2.2.1, x2.2.2)] : List (Int × Int × Bool × Int × Int))), own w.heap.size 9 (.slice a2 vs.length c2) vs, box bb1 #[.slice a2 vs.length c2, .slice a6 (its ++ ([((i : Int), (q : Int), x2.1, findS vs x2.2.1, x2.2.2)] : List (Int × Int × Bool × Int × Int))).length c6, .slice none 0 0] 66, box bb0 #[.slice none 0 0, .slice none 0 0, .slice none 0 0] 66, imm (.slice a_h h.length c_h) h] := H16.pickN [4, 5, 6, 7, 8] (by decide) rfl
          refine loopN _ ?_ ⟨(q + 1), vs, (its ++ ([((i : Int), (q : Int), x2.1, findS vs x2.2.1, x2.2.2)] : List (Int × Int × Bool × Int × Int))), a2, c2, a6, c6, rfl, s4, s5, s6, s7, (ieq rfl (by first | rfl | omega | (push_cast; omega))), H17, (by rw [getD_row hx0]; omega), (by rw [h1] at *; have e_ := at_is hx1 hx0; subst e_; rw [getD_row hx0] at *; first | exact (step_new hx2 p3).1 | exact (step_old hx2 p3).1), (by rw [h1, h2] at *; have e_ := at_is hx1 hx0; subst e_; rw [getD_row hx0] at *; first | exact (step_new hx2 p3).2 | exact (step_old hx2 p3).2)⟩
          rw [getD_row hx0]; omega
      ·
        have p2 := of_decide_eq_false b2
        refine ex (then_exit (loop_exit (inb_here (inb_normal (nx (rg (k (mv rfl s7 (k (add rfl rfl rfl rfl (by unfold I64 at *; omega) (k (asg (v := .int .i64 ((i : Int) + 1)) rfl rfl (z ?_)))))))))))))
        have H9 : HI M w w4 [own w.heap.size 102 (.slice a3 its.length c3) its, own w.heap.size 9 (.slice a2 vs.length c2) vs, box bb1 #[.slice a2 vs.length c2, .slice a3 its.length c3, .slice none 0 0] 66, box bb0 #[.slice none 0 0, .slice none 0 0, .slice none 0 0] 66, imm (.slice a_h h.length c_h) h] := H8.pickN [1, 2, 3, 4, 5] (by decide) rfl
        refine loopN _ ?_ ⟨(i + 1), vs, its, a2, c2, a3, c3, rfl, s4, s5, s6, (ieq rfl (by first | rfl | omega | (push_cast; omega))), H9, (by first | assumption | omega | simp | (simp; omega)), (by rw [h1, allO_end (by omega) (by rw [getD_row hx0]; omega)]), (by rw [h2, allO_end (by omega) (by rw [getD_row hx0]; omega)])⟩
        omega
    ·
      have p1 := of_decide_eq_false b1
      refine ex (then_exit (loop_exit (inb_here (nx (sq (rg (k (ldX H6 2 rfl ty66 rfl s2 (by decide) rfl (k (stX H6 3 rfl ty66 rfl rfl s1 rfl rfl rfl rfl ?_))))))))))
      intro w4 (H7 : HI M w w4 [own w.heap.size 102 (.slice a1 its.length c1) its, own w.heap.size 9 (.slice a0 vs.length c0) vs, box bb1 #[.slice a0 vs.length c0, .slice a1 its.length c1, .slice none 0 0] 66, box bb0 #[.slice a0 vs.length c0, .slice a1 its.length c1, .slice none 0 0] 66, imm (.slice a_h h.length c_h) h])
      refine k (asg (v := .int .i64 0) rfl rfl (z (nx (rt (rc2 H7 3 rfl ty66 rfl rfl rfl s1 rfl (by decide) ?_)))))
      have e0 : (vs : List ByteArray) = ofV h := by first | exact (of_bad hq).1.symm | (rw [(of_ok hq).1, h1]; unfold factV; rw [show i = h.length from by omega])
      have e1 : (its : List (Int × Int × Bool × Int × Int)) = ofI h := by first | exact (of_bad hq).2.1.symm | (rw [(of_ok hq).2.1, h2]; unfold factI; rw [show i = h.length from by omega])
      have e2 : ([] : List Int) = ([] : List Int) := rfl
      have e3 : (0 : Int) = ofE h := by first | exact (of_bad hq).2.2.symm | exact (of_ok hq).2.2.symm
      have ev_ := cg4 (fun (x_0 : List ByteArray) (x_1 : List (Int × Int × Bool × Int × Int)) (x_2 : List Int) (x_3 : Int) => (.tuple #[.agg #[.slice a0 x_0.length c0, .slice a1 x_1.length c1, .slice none x_2.length 0], .int .i64 x_3] : Value)) e0 e1 e2 e3
      exact ⟨a0, c0, a1, c1, none, 0, ev_, H7.below, (congrArg (fun (x_ : List ByteArray) => RV _ _ (.slice a0 x_.length c0) x_) e0).mp (H7.outO 1 rfl), (congrArg (fun (x_ : List (Int × Int × Bool × Int × Int)) => RV _ _ (.slice a1 x_.length c1) x_) e1).mp (H7.outO 0 rfl), (congrArg (fun (x_ : List Int) => RV _ _ (.slice none x_.length 0) x_) e2).mp (rv_nil _ _)⟩
set_option maxRecDepth 100000 in
set_option maxHeartbeats 1600000 in
theorem ref10_Write {M : Nat → Prop} {w : World} {a_fv : Option Addr} {n_fv c_fv : Nat} {a_fi : Option Addr} {c_fi : Nat} {fi : List (Int × Int × Bool × Int × Int)} {a_fo : Option Addr} {n_fo c_fo : Nat} {vr : Int} {val : Int} (hM : ∀ b, M b → b < w.heap.size) (h_fi : RV M w (.slice a_fi fi.length c_fi) fi) (h_vr : I64 vr) (h_val : I64 val) : Calls Tryd.prog 112 #[.agg #[.slice a_fv n_fv c_fv, .slice a_fi fi.length c_fi, .slice a_fo n_fo c_fo], .int .i64 vr, .int .i64 val] w (Ret fun v w' =>  v = .tuple #[.int .i64 (max (wrI fi vr val) 0), .bool (decide (0 ≤ wrI fi vr val))] ∧ Ext w w') := by
  refine enter 43 Tryd.func112 rfl rfl rfl fun f0 ha => ?_
  have H := HI.start (M0 := M) (w := w) hM
  have H0 := H.put (it := imm (.slice a_fi fi.length c_fi) fi) rfl (by rw [MS_nil]; exact h_fi)
  have ln_fi := rv_len h_fi
  have i0 : f0 0 = .agg #[.slice a_fv n_fv c_fv, .slice a_fi fi.length c_fi, .slice a_fo n_fo c_fo] := ha 0 (by simp)
  have i1 : f0 1 = .int .i64 vr := ha 1 (by simp)
  have i2 : f0 2 = .int .i64 val := ha 2 (by simp)
  refine sq (rg (k (bx H0 rfl i0 ?_)))
  intro bb0 w0 xt0 (H1 : HI M w w0 [box bb0 #[.slice a_fv n_fv c_fv, .slice a_fi fi.length c_fi, .slice a_fo n_fo c_fo] 66, imm (.slice a_fi fi.length c_fi) fi])
  refine k (asg (v := .int .i64 0) rfl rfl (k (asg (v := .bool false) rfl rfl (z (nx (sq (sq (rg (k (asg (v := .int .i64 0) rfl rfl (z (nx (bk ?_)))))))))))))
  refine lp (fun m f w' => ∃ (j : Nat), m = fi.length - j ∧ f 1 = .int .i64 vr ∧ f 2 = .int .i64 val ∧ f 3 = .pointer (some ⟨bb0, 0, none⟩) ∧ f 8 = .int .i64 (j : Int) ∧  HI M w w' [box bb0 #[.slice a_fv n_fv c_fv, .slice a_fi fi.length c_fi, .slice a_fo n_fo c_fo] 66, imm (.slice a_fi fi.length c_fi) fi] ∧ (j ≤ fi.length) ∧ ((fi.take j).any (isW vr val) = false)) _ ⟨0, rfl, i1, i2, rfl, (ieq rfl (by first | rfl | omega | simp)), H1, (by first | assumption | omega | simp | (simp; omega)), (by simp)⟩ ?_
  rintro _ f0 w1 ⟨j, rfl, s0, s1, s2, s3, H2, hk, hs⟩
  refine sq (sq (rg (k (mv rfl s3 (k (fa fl66_1 rfl s2 (k (ldX H2 0 rfl ty64 rfl rfl (by decide) rfl (k (lnS rfl rfl un64 (k (lss rfl rfl rfl rfl (z (nx ?_))))))))))))))
  refine cd (b := decide ((j : Int) < (fi.length : Int))) rfl rfl (fun b0 => ?_) (fun b0 => ?_)
  ·
    have p0 := of_decide_eq_true b0
    refine sk (nx (sq (bk (sq (rg (k (fa fl66_1 rfl s2 (k (ldX H2 0 rfl ty64 rfl rfl (by decide) rfl (k (mv rfl s3 (k (ia (H2.rv 1 rfl) rfl rfl rfl rfl (by first | omega | (simp; omega)) un64 ty102 ?_)))))))))))))
    intro ad0 x0 hx0 hA0
    refine k (fa fl102_2 rfl rfl (k (ldB ((hA0).s2).fst.w ty4 rfl rfl (k (mv (v := .bool x0.2.2.1) rfl rfl ?_)))))
    rcases Bool.eq_false_or_eq_true (x0.2.2.1) with b1 | b1
    · -- x0.2.2.1 is True
      refine k (gy rfl rfl rfl b1 (fa fl66_1 rfl s2 (k (gy rfl rfl rfl b1 (ldX H2 0 rfl ty64 rfl rfl (by decide) rfl (k (gy rfl rfl rfl b1 (mv rfl s3 (k (gy rfl rfl rfl b1 (ia (H2.rv 1 rfl) rfl rfl rfl rfl (by first | omega | (simp; omega)) un64 ty102 ?_)))))))))))
      intro ad1 x1 hx1 hA1
      refine k (gy rfl rfl rfl b1 (fa fl102_3 rfl rfl (k (gy rfl rfl rfl b1 (ldI ((hA1).s3).fst.w ty3 rfl rfl ?_)))))
      intro rv0
      refine k (gy rfl rfl rfl b1 (mv rfl s0 (k (gy rfl rfl rfl b1 (eql rfl rfl rfl rfl (k (pickT rfl rfl rfl rfl b1 rfl (k (mv (v := .bool (decide (x1.2.2.2.1 = vr))) rfl rfl ?_)))))))))
      rcases Bool.eq_false_or_eq_true (decide (x1.2.2.2.1 = vr)) with b2 | b2
      · -- decide (x1.2.2.2.1 = vr) is True
        have p2 := of_decide_eq_true b2
        refine k (gy rfl rfl rfl b2 (fa fl66_1 rfl s2 (k (gy rfl rfl rfl b2 (ldX H2 0 rfl ty64 rfl rfl (by decide) rfl (k (gy rfl rfl rfl b2 (mv rfl s3 (k (gy rfl rfl rfl b2 (ia (H2.rv 1 rfl) rfl rfl rfl rfl (by first | omega | (simp; omega)) un64 ty102 ?_)))))))))))
        intro ad2 x2 hx2 hA2
        refine k (gy rfl rfl rfl b2 (fa fl102_4 rfl rfl (k (gy rfl rfl rfl b2 (ldI (hA2).s4.w ty3 rfl rfl ?_)))))
        intro rv1
        refine k (gy rfl rfl rfl b2 (mv rfl s1 (k (gy rfl rfl rfl b2 (eql rfl rfl rfl rfl (k (pickT rfl rfl rfl rfl b2 rfl (z (nx ?_)))))))))
        refine cd (b := decide (x2.2.2.2.2 = val)) rfl rfl (fun b3 => ?_) (fun b3 => ?_)
        ·
          have p3 := of_decide_eq_true b3
          refine sq (rg (k (mv rfl s3 (k (asg (v := .int .i64 (j : Int)) rfl rfl (k (asg (v := .bool true) rfl rfl (z (nx (rt (inb_ret (then_ret (loop_ret (inb_ret (then_ret (r2 rfl rfl rfl ?_))))))))))))))))
          have e0 : ((j : Int) : Int) = (max (wrI fi vr val) 0) := by first | (have e1 := at_is hx1 hx0; subst e1; have e2 := at_is hx2 hx0; subst e2; have h_ := wr_hit hx0 b1 b2 b3 hs; omega) | (have h_ := wr_miss hs (by omega); omega)
          have e1 : (true : Bool) = decide (0 ≤ wrI fi vr val) := by first | (have e1 := at_is hx1 hx0; subst e1; have e2 := at_is hx2 hx0; subst e2; have h_ := wr_hit hx0 b1 b2 b3 hs; symm; rw [decide_eq_true_eq]; omega) | (have h_ := wr_miss hs (by omega); symm; rw [decide_eq_false_iff_not]; omega)
          have ev_ := cg2 (fun (x_0 : Int) (x_1 : Bool) => (.tuple #[.int .i64 x_0, .bool x_1] : Value)) e0 e1
          exact ⟨ev_, H2.below⟩
        ·
          have p3 := of_decide_eq_false b3
          refine sk (inb_normal (nx (rg (k (mv rfl s3 (k (add rfl rfl rfl rfl (by unfold I64 at *; omega) (k (asg (v := .int .i64 ((j : Int) + 1)) rfl rfl (z ?_))))))))))
          refine loopN _ ?_ ⟨(j + 1), rfl, s0, s1, s2, (ieq rfl (by first | rfl | omega | (push_cast; omega))), H2, (by first | assumption | omega | simp | (simp; omega)), (by first | exact any_step hx0 hs (isW_no1 b1) | (have e1 := at_is hx1 hx0; subst e1; first | exact any_step hx0 hs (isW_no2 b2) | (have e2 := at_is hx2 hx0; subst e2; exact any_step hx0 hs (isW_no3 b3))))⟩
          omega
      · -- decide (x1.2.2.2.1 = vr) is False
        have p2 := of_decide_eq_false b2
        refine k (gn rfl rfl rfl b2 (k (gn rfl rfl rfl b2 (k (gn rfl rfl rfl b2 (k (gn rfl rfl rfl b2 (k (gn rfl rfl rfl b2 (k (gn rfl rfl rfl b2 (k (gn rfl rfl rfl b2 (k (gn rfl rfl rfl b2 (k (pickF rfl rfl rfl rfl b2 rfl (z (nx (cdF rfl rfl rfl (sk (inb_normal (nx (rg (k (mv rfl s3 (k (add rfl rfl rfl rfl (by unfold I64 at *; omega) (k (asg (v := .int .i64 ((j : Int) + 1)) rfl rfl (z ?_)))))))))))))))))))))))))))))))
        refine loopN _ ?_ ⟨(j + 1), rfl, s0, s1, s2, (ieq rfl (by first | rfl | omega | (push_cast; omega))), H2, (by first | assumption | omega | simp | (simp; omega)), (by first | exact any_step hx0 hs (isW_no1 b1) | (have e1 := at_is hx1 hx0; subst e1; first | exact any_step hx0 hs (isW_no2 b2) | (have e2 := at_is hx2 hx0; subst e2; exact any_step hx0 hs (isW_no3 b3))))⟩
        omega
    · -- x0.2.2.1 is False
      refine k (gn rfl rfl rfl b1 (k (gn rfl rfl rfl b1 (k (gn rfl rfl rfl b1 (k (gn rfl rfl rfl b1 (k (gn rfl rfl rfl b1 (k (gn rfl rfl rfl b1 (k (gn rfl rfl rfl b1 (k (gn rfl rfl rfl b1 (k (pickF rfl rfl rfl rfl b1 rfl (k (mv (v := .bool false) rfl rfl (k (gn rfl rfl rfl rfl (k (gn rfl rfl rfl rfl (k (gn rfl rfl rfl rfl (k (gn rfl rfl rfl rfl (k (gn rfl rfl rfl rfl (k (gn rfl rfl rfl rfl (k (gn rfl rfl rfl rfl (k (gn rfl rfl rfl rfl (k (pickF rfl rfl rfl rfl rfl rfl (z (nx (cdF rfl rfl rfl (sk (inb_normal (nx (rg (k (mv rfl s3 (k (add rfl rfl rfl rfl (by unfold I64 at *; omega) (k (asg (v := .int .i64 ((j : Int) + 1)) rfl rfl (z ?_)))))))))))))))))))))))))))))))))))))))))))))))))))
      refine loopN _ ?_ ⟨(j + 1), rfl, s0, s1, s2, (ieq rfl (by first | rfl | omega | (push_cast; omega))), H2, (by first | assumption | omega | simp | (simp; omega)), (by first | exact any_step hx0 hs (isW_no1 b1) | (have e1 := at_is hx1 hx0; subst e1; first | exact any_step hx0 hs (isW_no2 b2) | (have e2 := at_is hx2 hx0; subst e2; exact any_step hx0 hs (isW_no3 b3))))⟩
      omega
  ·
    have p0 := of_decide_eq_false b0
    refine ex (then_exit (loop_exit (inb_here (nx (sq (rg (k (asg (v := .int .i64 0) rfl rfl (k (asg (v := .bool false) rfl rfl (z (nx (rt (r2 rfl rfl rfl ?_))))))))))))))
    have e0 : (0 : Int) = (max (wrI fi vr val) 0) := by first | (have e1 := at_is hx1 hx0; subst e1; have e2 := at_is hx2 hx0; subst e2; have h_ := wr_hit hx0 b1 b2 b3 hs; omega) | (have h_ := wr_miss hs (by omega); omega)
    have e1 : (false : Bool) = decide (0 ≤ wrI fi vr val) := by first | (have e1 := at_is hx1 hx0; subst e1; have e2 := at_is hx2 hx0; subst e2; have h_ := wr_hit hx0 b1 b2 b3 hs; symm; rw [decide_eq_true_eq]; omega) | (have h_ := wr_miss hs (by omega); symm; rw [decide_eq_false_iff_not]; omega)
    have ev_ := cg2 (fun (x_0 : Int) (x_1 : Bool) => (.tuple #[.int .i64 x_0, .bool x_1] : Value)) e0 e1
    exact ⟨ev_, H2.below⟩
set_option maxRecDepth 100000 in
set_option maxHeartbeats 1600000 in
theorem ref10_Check {M : Nat → Prop} {w : World} {a_fv : Option Addr} {n_fv c_fv : Nat} {a_fi : Option Addr} {c_fi : Nat} {fi : List (Int × Int × Bool × Int × Int)} {a_fo : Option Addr} {n_fo c_fo : Nat} (hM : ∀ b, M b → b < w.heap.size) (h_fi : RV M w (.slice a_fi fi.length c_fi) fi) : Calls Tryd.prog 86 #[.agg #[.slice a_fv n_fv c_fv, .slice a_fi fi.length c_fi, .slice a_fo n_fo c_fo]] w (Ret fun v w' =>  v = .tuple #[.int .i64 ((chkA fi).1), .int .i64 ((chkA fi).2.1), .int .i64 ((chkA fi).2.2)] ∧ Ext w w') := by
  refine enter 43 Tryd.func86 rfl rfl rfl fun f0 ha => ?_
  have H := HI.start (M0 := M) (w := w) hM
  have H0 := H.put (it := imm (.slice a_fi fi.length c_fi) fi) rfl (by rw [MS_nil]; exact h_fi)
  have ln_fi := rv_len h_fi
  have i0 : f0 0 = .agg #[.slice a_fv n_fv c_fv, .slice a_fi fi.length c_fi, .slice a_fo n_fo c_fo] := ha 0 (by simp)
  refine sq (rg (k (bx H0 rfl i0 ?_)))
  intro bb0 w0 xt0 (H1 : HI M w w0 [box bb0 #[.slice a_fv n_fv c_fv, .slice a_fi fi.length c_fi, .slice a_fo n_fo c_fo] 66, imm (.slice a_fi fi.length c_fi) fi])
  refine k (asg (v := .int .i64 0) rfl rfl (k (asg (v := .int .i64 0) rfl rfl (k (asg (v := .int .i64 0) rfl rfl (z (nx (sq (sq (rg (k (asg (v := .int .i64 0) rfl rfl (z (nx (bk ?_)))))))))))))))
  refine lp (fun m f w' => ∃ (j : Nat), m = fi.length - j ∧ f 1 = .pointer (some ⟨bb0, 0, none⟩) ∧ f 5 = .int .i64 (j : Int) ∧  HI M w w' [box bb0 #[.slice a_fv n_fv c_fv, .slice a_fi fi.length c_fi, .slice a_fo n_fo c_fo] 66, imm (.slice a_fi fi.length c_fi) fi] ∧ (j ≤ fi.length) ∧ (∀ k, k < j → badI fi k = false)) _ ⟨0, rfl, rfl, (ieq rfl (by first | rfl | omega | simp)), H1, (by first | assumption | omega | simp | (simp; omega)), (by intro k hk; omega)⟩ ?_
  rintro _ f0 w1 ⟨j, rfl, s0, s1, H2, hk, hs⟩
  refine sq (sq (rg (k (mv rfl s1 (k (fa fl66_1 rfl s0 (k (ldX H2 0 rfl ty64 rfl rfl (by decide) rfl (k (lnS rfl rfl un64 (k (lss rfl rfl rfl rfl (z (nx ?_))))))))))))))
  refine cd (b := decide ((j : Int) < (fi.length : Int))) rfl rfl (fun b0 => ?_) (fun b0 => ?_)
  ·
    have p0 := of_decide_eq_true b0
    refine sk (nx (sq (bk (sq (rg (k (fa fl66_1 rfl s0 (k (ldX H2 0 rfl ty64 rfl rfl (by decide) rfl (k (mv rfl s1 (k (ia (H2.rv 1 rfl) rfl rfl rfl rfl (by first | omega | (simp; omega)) un64 ty102 ?_)))))))))))))
    intro ad0 x0 hx0 hA0
    refine k (ldW hA0.w ty102 rfl rfl ?_)
    intro v0 rv0
    obtain ⟨_, ⟨_, _, rfl, ⟨rfl, rv1⟩, ⟨_, _, rfl, ⟨rfl, rv2⟩, ⟨_, _, rfl, rfl, ⟨_, _, rfl, ⟨rfl, rv3⟩, ⟨rfl, rv4⟩⟩⟩⟩⟩, rfl⟩ := rv0
    refine k (al H2 ty102 ?_)
    intro bb1 w2 xt1 (H3 : HI M w w2 [box bb1 #[.int .i64 0, .int .i64 0, .bool false, .int .i64 0, .int .i64 0] 102, box bb0 #[.slice a_fv n_fv c_fv, .slice a_fi fi.length c_fi, .slice a_fo n_fo c_fo] 66, imm (.slice a_fi fi.length c_fi) fi])
    refine k (stX H3 0 rfl ty102 rfl rfl rfl rfl rfl rfl rfl ?_)
    intro w3 (H4 : HI M w w3 [box bb1 #[.int .i64 x0.1, .int .i64 x0.2.1, .bool x0.2.2.1, .int .i64 x0.2.2.2.1, .int .i64 x0.2.2.2.2] 102, box bb0 #[.slice a_fv n_fv c_fv, .slice a_fi fi.length c_fi, .slice a_fo n_fo c_fo] 66, imm (.slice a_fi fi.length c_fi) fi])
    refine z (nx (sq (sq (rg (k (fa fl102_2 rfl rfl (k (ldX H4 0 rfl ty4 rfl rfl (by decide) rfl (k (not_ rfl rfl (z (nx ?_))))))))))))
    refine cd (b := !x0.2.2.1) rfl rfl (fun b1 => ?_) (fun b1 => ?_)
    ·
      refine ex (then_exit (inb_here (nx (rg (k (mv rfl s1 (k (add rfl rfl rfl rfl (by unfold I64 at *; omega) (k (asg (v := .int .i64 ((j : Int) + 1)) rfl rfl (z ?_)))))))))))
      have H5 : HI M w w3 [box bb0 #[.slice a_fv n_fv c_fv, .slice a_fi fi.length c_fi, .slice a_fo n_fo c_fo] 66, imm (.slice a_fi fi.length c_fi) fi] := H4.pickN [1, 2] (by decide) rfl
      refine loopN _ ?_ ⟨(j + 1), rfl, s0, (ieq rfl (by first | rfl | omega | (push_cast; omega))), H5, (by first | assumption | omega | simp | (simp; omega)), (by first | exact bad_next hs hx0 (bad_read (by simpa using b1)) | exact bad_next hs hx0 (bad_good p2 p3))⟩
      omega
    ·
      refine sk (nx (sq (sq (rg (k (fa fl102_4 rfl rfl (k (ldX H4 0 rfl ty3 rfl rfl (by decide) rfl (k (eql rfl rfl rfl rfl (z (nx ?_))))))))))))
      refine cd (b := decide (x0.2.2.2.2 = 0)) rfl rfl (fun b2 => ?_) (fun b2 => ?_)
      ·
        have p2 := of_decide_eq_true b2
        refine sq (rg (k (mv rfl s1 (k (mv rfl s1 (k (asg (v := .int .i64 (j : Int)) rfl rfl (k (asg (v := .int .i64 (j : Int)) rfl rfl (k (asg (v := .int .i64 5) rfl rfl (z (nx (rt (then_ret (inb_ret (then_ret (loop_ret (inb_ret (then_ret (r3 rfl rfl rfl rfl ?_)))))))))))))))))))))
        have e0 : ((j : Int) : Int) = (chkA fi).1 := by first | exact (congrArg (fun z_ : Int × Int × Int => z_.1) (chk_zero hs hx0 (by simpa using b1) p2)).symm | exact (congrArg (fun z_ : Int × Int × Int => z_.1) (chk_twice hs hx0 (by simpa using b1) p2 p3)).symm | exact (congrArg (fun z_ : Int × Int × Int => z_.1) (chk_end hs (by omega))).symm
        have e1 : ((j : Int) : Int) = (chkA fi).2.1 := by first | exact (congrArg (fun z_ : Int × Int × Int => z_.2.1) (chk_zero hs hx0 (by simpa using b1) p2)).symm | exact (congrArg (fun z_ : Int × Int × Int => z_.2.1) (chk_twice hs hx0 (by simpa using b1) p2 p3)).symm | exact (congrArg (fun z_ : Int × Int × Int => z_.2.1) (chk_end hs (by omega))).symm
        have e2 : (5 : Int) = (chkA fi).2.2 := by first | exact (congrArg (fun z_ : Int × Int × Int => z_.2.2) (chk_zero hs hx0 (by simpa using b1) p2)).symm | exact (congrArg (fun z_ : Int × Int × Int => z_.2.2) (chk_twice hs hx0 (by simpa using b1) p2 p3)).symm | exact (congrArg (fun z_ : Int × Int × Int => z_.2.2) (chk_end hs (by omega))).symm
        have ev_ := cg3 (fun (x_0 : Int) (x_1 : Int) (x_2 : Int) => (.tuple #[.int .i64 x_0, .int .i64 x_1, .int .i64 x_2] : Value)) e0 e1 e2
        exact ⟨ev_, H4.below⟩
      ·
        have p2 := of_decide_eq_false b2
        refine sk (nx (sq (rg (k (ldX H4 1 rfl ty66 rfl s0 (by decide) rfl (k (fa fl102_3 rfl rfl (k (ldX H4 0 rfl ty3 rfl rfl (by decide) rfl (k (fa fl102_4 rfl rfl (k (ldX H4 0 rfl ty3 rfl rfl (by decide) rfl (k ?_))))))))))))))
        have cc0 := ref10_Write (fi := fi) (vr := x0.2.2.2.1) (val := x0.2.2.2.2) (a_fv := a_fv) (n_fv := n_fv) (c_fv := c_fv) (a_fo := a_fo) (n_fo := n_fo) (c_fo := c_fo) (w := w3) H4.mb (H4.rv 2 rfl) (by unfold I64 at *; omega) (by unfold I64 at *; omega)
        refine ca go112 rfl (ec rfl (ec rfl (ec rfl e0))) cc0 ?_
        rintro _ w4 ⟨rfl, xt2⟩
        have H5 := H4.ext xt2
        refine k (mv (v := .tuple #[.int .i64 (max (wrI fi x0.2.2.2.1 x0.2.2.2.2) 0), .bool (decide (0 ≤ wrI fi x0.2.2.2.1 x0.2.2.2.2))]) rfl rfl (k (xt rfl rfl rfl (k (xt rfl rfl rfl (k (asg (v := .int .i64 (max (wrI fi x0.2.2.2.1 x0.2.2.2.2) 0)) rfl rfl (k (asg (v := .bool (decide (0 ≤ wrI fi x0.2.2.2.1 x0.2.2.2.2))) rfl rfl (z (nx (sq (rg (k (mv (v := .int .i64 (max (wrI fi x0.2.2.2.1 x0.2.2.2.2) 0)) rfl rfl (k (mv rfl s1 (k (lss rfl rfl rfl rfl (z (nx ?_)))))))))))))))))))))
        refine cd (b := decide ((max (wrI fi x0.2.2.2.1 x0.2.2.2.2) 0) < (j : Int))) rfl rfl (fun b3 => ?_) (fun b3 => ?_)
        ·
          have p3 := of_decide_eq_true b3
          refine sq (rg (k (mv (v := .int .i64 (max (wrI fi x0.2.2.2.1 x0.2.2.2.2) 0)) rfl rfl (k (mv rfl s1 (k (asg (v := .int .i64 (max (wrI fi x0.2.2.2.1 x0.2.2.2.2) 0)) rfl rfl (k (asg (v := .int .i64 (j : Int)) rfl rfl (k (asg (v := .int .i64 4) rfl rfl (z (nx (rt (inb_ret (then_ret (loop_ret (inb_ret (then_ret (r3 rfl rfl rfl rfl ?_))))))))))))))))))))
          have e0 : ((max (wrI fi x0.2.2.2.1 x0.2.2.2.2) 0) : Int) = (chkA fi).1 := by first | exact (congrArg (fun z_ : Int × Int × Int => z_.1) (chk_zero hs hx0 (by simpa using b1) p2)).symm | exact (congrArg (fun z_ : Int × Int × Int => z_.1) (chk_twice hs hx0 (by simpa using b1) p2 p3)).symm | exact (congrArg (fun z_ : Int × Int × Int => z_.1) (chk_end hs (by omega))).symm
          have e1 : ((j : Int) : Int) = (chkA fi).2.1 := by first | exact (congrArg (fun z_ : Int × Int × Int => z_.2.1) (chk_zero hs hx0 (by simpa using b1) p2)).symm | exact (congrArg (fun z_ : Int × Int × Int => z_.2.1) (chk_twice hs hx0 (by simpa using b1) p2 p3)).symm | exact (congrArg (fun z_ : Int × Int × Int => z_.2.1) (chk_end hs (by omega))).symm
          have e2 : (4 : Int) = (chkA fi).2.2 := by first | exact (congrArg (fun z_ : Int × Int × Int => z_.2.2) (chk_zero hs hx0 (by simpa using b1) p2)).symm | exact (congrArg (fun z_ : Int × Int × Int => z_.2.2) (chk_twice hs hx0 (by simpa using b1) p2 p3)).symm | exact (congrArg (fun z_ : Int × Int × Int => z_.2.2) (chk_end hs (by omega))).symm
          have ev_ := cg3 (fun (x_0 : Int) (x_1 : Int) (x_2 : Int) => (.tuple #[.int .i64 x_0, .int .i64 x_1, .int .i64 x_2] : Value)) e0 e1 e2
          exact ⟨ev_, H5.below⟩
        ·
          have p3 := of_decide_eq_false b3
          refine sk (inb_normal (nx (rg (k (mv rfl s1 (k (add rfl rfl rfl rfl (by unfold I64 at *; omega) (k (asg (v := .int .i64 ((j : Int) + 1)) rfl rfl (z ?_))))))))))
          have H6 : HI M w w4 [box bb0 #[.slice a_fv n_fv c_fv, .slice a_fi fi.length c_fi, .slice a_fo n_fo c_fo] 66, imm (.slice a_fi fi.length c_fi) fi] := H5.pickN [1, 2] (by decide) rfl
          refine loopN _ ?_ ⟨(j + 1), rfl, s0, (ieq rfl (by first | rfl | omega | (push_cast; omega))), H6, (by first | assumption | omega | simp | (simp; omega)), (by first | exact bad_next hs hx0 (bad_read (by simpa using b1)) | exact bad_next hs hx0 (bad_good p2 p3))⟩
          omega
  ·
    have p0 := of_decide_eq_false b0
    refine ex (then_exit (loop_exit (inb_here (nx (sq (rg (k (asg (v := .int .i64 0) rfl rfl (k (asg (v := .int .i64 0) rfl rfl (k (asg (v := .int .i64 0) rfl rfl (z (nx (rt (r3 rfl rfl rfl rfl ?_))))))))))))))))
    have e0 : (0 : Int) = (chkA fi).1 := by first | exact (congrArg (fun z_ : Int × Int × Int => z_.1) (chk_zero hs hx0 (by simpa using b1) p2)).symm | exact (congrArg (fun z_ : Int × Int × Int => z_.1) (chk_twice hs hx0 (by simpa using b1) p2 p3)).symm | exact (congrArg (fun z_ : Int × Int × Int => z_.1) (chk_end hs (by omega))).symm
    have e1 : (0 : Int) = (chkA fi).2.1 := by first | exact (congrArg (fun z_ : Int × Int × Int => z_.2.1) (chk_zero hs hx0 (by simpa using b1) p2)).symm | exact (congrArg (fun z_ : Int × Int × Int => z_.2.1) (chk_twice hs hx0 (by simpa using b1) p2 p3)).symm | exact (congrArg (fun z_ : Int × Int × Int => z_.2.1) (chk_end hs (by omega))).symm
    have e2 : (0 : Int) = (chkA fi).2.2 := by first | exact (congrArg (fun z_ : Int × Int × Int => z_.2.2) (chk_zero hs hx0 (by simpa using b1) p2)).symm | exact (congrArg (fun z_ : Int × Int × Int => z_.2.2) (chk_twice hs hx0 (by simpa using b1) p2 p3)).symm | exact (congrArg (fun z_ : Int × Int × Int => z_.2.2) (chk_end hs (by omega))).symm
    have ev_ := cg3 (fun (x_0 : Int) (x_1 : Int) (x_2 : Int) => (.tuple #[.int .i64 x_0, .int .i64 x_1, .int .i64 x_2] : Value)) e0 e1 e2
    exact ⟨ev_, H2.below⟩
end Go.Proofs.YtmhopljngkgidaaDoor
namespace Go.Proofs.YtmhopljngkgidaaDoor
open Go.Ew Go.RowKit
set_option linter.unusedVariables false
set_option linter.unusedSimpArgs false
attribute [local irreducible] WL WC SO Code.wp wpList retQ Ret
attribute [local irreducible] bitB hasW inR hasR setR countW countR subR words newR listR orR firstW tab8
theorem fl102_1 : FldF Tryd.prog 102 1 1 := ⟨_, _, Tryd.underlying102, rfl, rfl, by kernel_rfl⟩
theorem fl102_0 : FldF Tryd.prog 102 0 0 := ⟨_, _, Tryd.underlying102, rfl, rfl, by kernel_rfl⟩
theorem go115 : GoF Tryd.prog 115 := ⟨_, _, Tryd.func115, rfl, by kernel_rfl⟩
set_option maxRecDepth 100000 in
set_option maxHeartbeats 1600000 in
theorem session_Past {M : Nat → Prop} {w : World} {a_fv : Option Addr} {n_fv c_fv : Nat} {a_fi : Option Addr} {c_fi : Nat} {fi : List (Int × Int × Bool × Int × Int)} {a_fo : Option Addr} {n_fo c_fo : Nat} {tt : Int} (hM : ∀ b, M b → b < w.heap.size) (h_fi : RV M w (.slice a_fi fi.length c_fi) fi) (h_tt : I64 tt) (ho : OrdI fi) (hn_fi : fi.length ≤ 4096) : Calls Tryd.prog 91 #[.agg #[.slice a_fv n_fv c_fv, .slice a_fi fi.length c_fi, .slice a_fo n_fo c_fo], .int .i64 tt] w (Ret fun v w' => ∃ (a0 : Option Addr) (c0 : Nat), v = .slice a0 (pastA fi tt).length c0 ∧ Ext w w' ∧ OwnsG M 3 w (pastA fi tt) (.slice a0 (pastA fi tt).length c0) w') := by
  refine enter 41 Tryd.func91 rfl rfl rfl fun f0 ha => ?_
  have H := HI.start (M0 := M) (w := w) hM
  have H0 := H.put (it := imm (.slice a_fi fi.length c_fi) fi) rfl (by rw [MS_nil]; exact h_fi)
  have ln_fi := rv_len h_fi
  have i0 : f0 0 = .agg #[.slice a_fv n_fv c_fv, .slice a_fi fi.length c_fi, .slice a_fo n_fo c_fo] := ha 0 (by simp)
  have i1 : f0 1 = .int .i64 tt := ha 1 (by simp)
  refine sq (rg (k (bx H0 rfl i0 ?_)))
  intro bb0 w0 xt0 (H1 : HI M w w0 [box bb0 #[.slice a_fv n_fv c_fv, .slice a_fi fi.length c_fi, .slice a_fo n_fo c_fo] 66, imm (.slice a_fi fi.length c_fi) fi])
  refine k (asg (v := .slice none 0 0) rfl rfl (z (nx (sq (sq (rg (k (mv rfl i1 (k (lss rfl rfl rfl rfl (k (mv (v := .bool (decide (tt < 0))) rfl rfl ?_))))))))))))
  rcases Bool.eq_false_or_eq_true (decide (tt < 0)) with b0 | b0
  · -- decide (tt < 0) is True
    have p0 := of_decide_eq_true b0
    refine k (gn rfl rfl rfl b0 (k (gn rfl rfl rfl b0 (k (gn rfl rfl rfl b0 (k (gn rfl rfl rfl b0 (k (gn rfl rfl rfl b0 (k (pickT rfl rfl rfl rfl b0 rfl (z (nx (cdT rfl rfl rfl (sq (rg (k (asg (v := .slice none 0 0) rfl rfl (z (nx (rt (then_ret (r1 rfl rfl ?_)))))))))))))))))))))))
    have e0 : ([] : List Int) = pastA fi tt := by first | exact pastA_no (by omega) | (rw [hs]; exact pastA_yes (by omega) (by omega) hx0 hp0_ (by omega))
    have ev_ := cg1 (fun (x_0 : List Int) => (.slice none x_0.length 0 : Value)) e0
    exact ⟨none, 0, ev_, H1.below, (congrArg (fun (x_ : List Int) => OwnsG _ _ _ x_ (.slice none x_.length 0) _) e0).mp (ownsG_nil H1.below)⟩
  · -- decide (tt < 0) is False
    have p0 := of_decide_eq_false b0
    refine k (gy rfl rfl rfl b0 (mv rfl i1 (k (gy rfl rfl rfl b0 (fa fl66_1 rfl rfl (k (gy rfl rfl rfl b0 (ldX H1 0 rfl ty64 rfl rfl (by decide) rfl (k (gy rfl rfl rfl b0 (lnS rfl rfl un64 (k (gy rfl rfl rfl b0 (geq rfl rfl rfl rfl (k (pickF rfl rfl rfl rfl b0 rfl (z (nx ?_))))))))))))))))))
    refine cd (b := decide ((fi.length : Int) ≤ tt)) rfl rfl (fun b1 => ?_) (fun b1 => ?_)
    ·
      have p1 := of_decide_eq_true b1
      refine sq (rg (k (asg (v := .slice none 0 0) rfl rfl (z (nx (rt (then_ret (r1 rfl rfl ?_))))))))
      have e0 : ([] : List Int) = pastA fi tt := by first | exact pastA_no (by omega) | (rw [hs]; exact pastA_yes (by omega) (by omega) hx0 hp0_ (by omega))
      have ev_ := cg1 (fun (x_0 : List Int) => (.slice none x_0.length 0 : Value)) e0
      exact ⟨none, 0, ev_, H1.below, (congrArg (fun (x_ : List Int) => OwnsG _ _ _ x_ (.slice none x_.length 0) _) e0).mp (ownsG_nil H1.below)⟩
    ·
      have p1 := of_decide_eq_false b1
      refine sk (nx (sq (rg (k (mv rfl i1 (k (fa fl66_1 rfl rfl (k (ldX H1 0 rfl ty64 rfl rfl (by decide) rfl (k (mv rfl i1 (k (ia (H1.rv 1 rfl) rfl rfl rfl rfl (by first | omega | (simp; omega)) un64 ty102 ?_)))))))))))))
      intro ad0 x0 hx0 hA0
      refine k (fa fl102_1 rfl rfl (k (ldI ((hA0).s1).fst.w ty3 rfl rfl ?_)))
      intro rv0
      refine k (sub rfl rfl rfl rfl (by have hp0_ := ho.nonneg tt.toNat (by omega); have hp1_ := (ho.back tt.toNat (by omega)).1; rw [plc_atI hx0] at hp0_ hp1_; unfold I64; omega) (k (asg (v := .int .i64 (tt - x0.2.1)) rfl rfl (z (nx (sq ?_))))))
      have hp0_ := ho.nonneg tt.toNat (by omega)
      have hp1_ := (ho.back tt.toNat (by omega)).1
      rw [plc_atI hx0] at hp0_ hp1_
      refine rg (k (mv rfl i1 (k (mv (v := .int .i64 (tt - x0.2.1)) rfl rfl (k (sub rfl rfl rfl rfl (by unfold I64 at *; omega) (k (add rfl rfl rfl rfl (by unfold I64 at *; omega) (k ?_)))))))))
      have n0 : ((((tt - (tt - x0.2.1)) + 1).toNat : Nat) : Int) = (tt - (tt - x0.2.1)) + 1 := Int.toNat_of_nonneg (by omega)
      refine mk0 (α := Int) (m := ((tt - (tt - x0.2.1)) + 1).toNat) H1 rfl rfl rfl (by rw [n0]; exact rfl) un42 ty3 (by omega) (by omega) ?_
      intro g0 w1 xt1 (H2 : HI M w w1 [own w.heap.size 3 (.slice (some ⟨g0, 0, none⟩) 0 (((tt - (tt - x0.2.1)) + 1).toNat)) ([] : List Int), box bb0 #[.slice a_fv n_fv c_fv, .slice a_fi fi.length c_fi, .slice a_fo n_fo c_fo] 66, imm (.slice a_fi fi.length c_fi) fi])
      refine k (asg (v := .slice (some ⟨g0, 0, none⟩) 0 (((tt - (tt - x0.2.1)) + 1).toNat)) rfl rfl (z (nx (sq (sq (rg (k (mv (v := .int .i64 (tt - x0.2.1)) rfl rfl (k (asg (v := .int .i64 (tt - x0.2.1)) rfl rfl (z (nx (bk ?_)))))))))))))
      refine lp (fun m f w' => ∃ (q : Nat) (xs : List Int) (a0 : Option Addr) (c0 : Nat), m = (x0.2.1 + 1).toNat - q ∧ f 1 = .int .i64 tt ∧ f 6 = .slice a0 xs.length c0 ∧ f 7 = .int .i64 (tt - x0.2.1 + (q : Int)) ∧  HI M w w' [own w.heap.size 3 (.slice a0 xs.length c0) xs, box bb0 #[.slice a_fv n_fv c_fv, .slice a_fi fi.length c_fi, .slice a_fo n_fo c_fo] 66, imm (.slice a_fi fi.length c_fi) fi] ∧ ((q : Int) ≤ x0.2.1 + 1) ∧ (xs = pastTo (tt - x0.2.1) q)) _ ⟨0, ([] : List Int), (some ⟨g0, 0, none⟩), (((tt - (tt - x0.2.1)) + 1).toNat), rfl, i1, rfl, (ieq rfl (by omega)), H2, (by omega), (by rfl)⟩ ?_
      rintro _ f0 w2 ⟨q, xs, a0, c0, rfl, s0, s1, s2, H3, hq_, hs⟩
      refine sq (sq (rg (k (mv rfl s2 (k (mv rfl s0 (k (leq rfl rfl rfl rfl (z (nx ?_))))))))))
      refine cd (b := decide ((tt - x0.2.1 + (q : Int)) ≤ tt)) rfl rfl (fun b2 => ?_) (fun b2 => ?_)
      ·
        have p2 := of_decide_eq_true b2
        refine sk (nx (sq (bk (rg (k (mv rfl s1 (k (mv rfl s2 (k (bs (xs := ([(tt - x0.2.1 + (q : Int))] : List Int)) (cells := #[.int .i64 (tt - x0.2.1 + (q : Int))]) (e := 3) H3 rfl (pbc rfl pb0) (fun _ => by kernel_rfl) ⟨[.int .i64 (tt - x0.2.1 + (q : Int))], [], rfl, ⟨rfl, (show I64 ((tt - x0.2.1 + (q : Int))) from (by unfold I64 at *; omega))⟩, rfl⟩ rfl (by unfold maxLen; omega) ?_))))))))))
        intro g1 w3 xt2 (H4 : HI M w w3 [own w.heap.size 3 (.slice (some ⟨g1, 0, none⟩) 1 1) ([(tt - x0.2.1 + (q : Int))] : List Int), own w.heap.size 3 (.slice a0 xs.length c0) xs, box bb0 #[.slice a_fv n_fv c_fv, .slice a_fi fi.length c_fi, .slice a_fo n_fo c_fo] 66, imm (.slice a_fi fi.length c_fi) fi])
        refine k (ap H4 1 rfl rfl rfl rfl rfl rfl (own_src (H4.at_ 0 rfl)) un42 ty3 rfl (by rw [hs, pastTo_len]; simp only [List.length_cons, List.length_nil]; omega) (by rw [hs, pastTo_len]; simp only [List.length_cons, List.length_nil]; omega) ?_)
        intro a1 c1 w4 (H5 : HI M w w4 [own w.heap.size 3 (.slice (some ⟨g1, 0, none⟩) 1 1) ([(tt - x0.2.1 + (q : Int))] : List Int), own w.heap.size 3 (.slice a1 (xs ++ ([(tt - x0.2.1 + (q : Int))] : List Int)).length c1) (xs ++ ([(tt - x0.2.1 + (q : Int))] : List Int)), box bb0 #[.slice a_fv n_fv c_fv, .slice a_fi fi.length c_fi, .slice a_fo n_fo c_fo] 66, imm (.slice a_fi fi.length c_fi) fi])
        refine k (asg (v := .slice a1 (xs ++ ([(tt - x0.2.1 + (q : Int))] : List Int)).length c1) rfl rfl (z (inb_normal (nx (rg (k (mv rfl s2 (k (add rfl rfl rfl rfl (by unfold I64 at *; omega) (k (asg (v := .int .i64 ((tt - x0.2.1 + (q : Int)) + 1)) rfl rfl (z ?_))))))))))))
        have H6 : HI M w w4 [own w.heap.size 3 (.slice a1 (xs ++ ([(tt - x0.2.1 + (q : Int))] : List Int)).length c1) (xs ++ ([(tt - x0.2.1 + (q : Int))] : List Int)), box bb0 #[.slice a_fv n_fv c_fv, .slice a_fi fi.length c_fi, .slice a_fo n_fo c_fo] 66, imm (.slice a_fi fi.length c_fi) fi] := H5.pickN [1, 2, 3] (by decide) rfl
        refine loopN _ ?_ ⟨(q + 1), (xs ++ ([(tt - x0.2.1 + (q : Int))] : List Int)), a1, c1, rfl, s0, rfl, (ieq rfl (by omega)), H6, (by first | assumption | omega | simp | (simp; omega)), (by rw [hs]; exact pastTo_step _ _)⟩
        omega
      ·
        have p2 := of_decide_eq_false b2
        refine ex (then_exit (loop_exit (inb_here (nx (sq (rg (k (mv rfl s1 (k (asg (v := .slice a0 xs.length c0) rfl rfl (z (nx (rt (r1 rfl rfl ?_))))))))))))))
        have e0 : (xs : List Int) = pastA fi tt := by first | exact pastA_no (by omega) | (rw [hs]; exact pastA_yes (by omega) (by omega) hx0 hp0_ (by omega))
        have ev_ := cg1 (fun (x_0 : List Int) => (.slice a0 x_0.length c0 : Value)) e0
        exact ⟨a0, c0, ev_, H3.below, (congrArg (fun (x_ : List Int) => OwnsG _ _ _ x_ (.slice a0 x_.length c0) _) e0).mp (H3.ownsG_out 0 rfl)⟩
set_option maxRecDepth 100000 in
set_option maxHeartbeats 1600000 in
theorem ref12_Ahead {M : Nat → Prop} {w : World} {a_fv : Option Addr} {n_fv c_fv : Nat} {a_fi : Option Addr} {c_fi : Nat} {fi : List (Int × Int × Bool × Int × Int)} {a_fo : Option Addr} {n_fo c_fo : Nat} {i : Int} {j : Int} (hM : ∀ b, M b → b < w.heap.size) (h_fi : RV M w (.slice a_fi fi.length c_fi) fi) (h_i : I64 i) (h_j : I64 j) : Calls Tryd.prog 115 #[.agg #[.slice a_fv n_fv c_fv, .slice a_fi fi.length c_fi, .slice a_fo n_fo c_fo], .int .i64 i, .int .i64 j] w (Ret fun v w' =>  v = .bool (ahB fi i j) ∧ Ext w w') := by
  refine enter 57 Tryd.func115 rfl rfl rfl fun f0 ha => ?_
  have H := HI.start (M0 := M) (w := w) hM
  have H0 := H.put (it := imm (.slice a_fi fi.length c_fi) fi) rfl (by rw [MS_nil]; exact h_fi)
  have ln_fi := rv_len h_fi
  have i0 : f0 0 = .agg #[.slice a_fv n_fv c_fv, .slice a_fi fi.length c_fi, .slice a_fo n_fo c_fo] := ha 0 (by simp)
  have i1 : f0 1 = .int .i64 i := ha 1 (by simp)
  have i2 : f0 2 = .int .i64 j := ha 2 (by simp)
  refine sq (rg (k (bx H0 rfl i0 ?_)))
  intro bb0 w0 xt0 (H1 : HI M w w0 [box bb0 #[.slice a_fv n_fv c_fv, .slice a_fi fi.length c_fi, .slice a_fo n_fo c_fo] 66, imm (.slice a_fi fi.length c_fi) fi])
  refine k (asg (v := .bool false) rfl rfl (z (nx (sq ?_))))
  rcases Bool.eq_false_or_eq_true (decide (0 ≤ i)) with b0 | b0
  · -- decide (0 ≤ i) is True
    have p0 := of_decide_eq_true b0
    rcases Bool.eq_false_or_eq_true (decide (0 ≤ j)) with b1 | b1
    · -- decide (0 ≤ j) is True
      have p1 := of_decide_eq_true b1
      rcases Bool.eq_false_or_eq_true (decide (i < (fi.length : Int))) with b2 | b2
      · -- decide (i < (fi.length : Int)) is True
        have p2 := of_decide_eq_true b2
        rcases Bool.eq_false_or_eq_true (decide (j < (fi.length : Int))) with b3 | b3
        · -- decide (j < (fi.length : Int)) is True
          have p3 := of_decide_eq_true b3
          obtain ⟨x0, hx0⟩ : ∃ x, fi[i.toNat]? = some x := ⟨_, List.getElem?_eq_getElem (by first | omega | (simp; omega))⟩
          obtain ⟨x1, hx1⟩ : ∃ x, fi[j.toNat]? = some x := ⟨_, List.getElem?_eq_getElem (by first | omega | (simp; omega))⟩
          rcases Bool.eq_false_or_eq_true (decide (x0.1 = x1.1)) with b4 | b4
          · -- decide (x0.1 = x1.1) is True
            have p4 := of_decide_eq_true b4
            refine dr 48 [fun (v : Value) (w' : World) => v = .int .i64 i, fun (v : Value) (w' : World) => v = .bool (decide (0 ≤ i)), fun (v : Value) (w' : World) => v = .bool (decide (0 ≤ i)), fun (v : Value) (w' : World) => v = .int .i64 j, fun (v : Value) (w' : World) => v = .bool (decide (0 ≤ j)), fun (v : Value) (w' : World) => v = .bool (decide (0 ≤ j)), fun (v : Value) (w' : World) => v = .bool (decide (0 ≤ j)), fun (v : Value) (w' : World) => v = .int .i64 i, fun (v : Value) (w' : World) => v = .pointer (some ⟨bb0, 1, none⟩), fun (v : Value) (w' : World) => v = .slice a_fi fi.length c_fi, fun (v : Value) (w' : World) => v = .int .i64 (fi.length : Int), fun (v : Value) (w' : World) => v = .bool (decide (i < (fi.length : Int))), fun (v : Value) (w' : World) => v = .bool (decide (i < (fi.length : Int))), fun (v : Value) (w' : World) => v = .bool (decide (i < (fi.length : Int))), fun (v : Value) (w' : World) => v = .int .i64 j, fun (v : Value) (w' : World) => v = .pointer (some ⟨bb0, 1, none⟩), fun (v : Value) (w' : World) => v = .slice a_fi fi.length c_fi, fun (v : Value) (w' : World) => v = .int .i64 (fi.length : Int), fun (v : Value) (w' : World) => v = .bool (decide (j < (fi.length : Int))), fun (v : Value) (w' : World) => v = .bool (decide (j < (fi.length : Int))), fun (v : Value) (w' : World) => v = .bool (decide (j < (fi.length : Int))), fun (v : Value) (w' : World) => v = .pointer (some ⟨bb0, 1, none⟩), fun (v : Value) (w' : World) => v = .slice a_fi fi.length c_fi, fun (v : Value) (w' : World) => v = .int .i64 i, fun (v : Value) (w' : World) => ∃ (ad2 : Addr), v = .pointer (some ad2) ∧ At (MS M [box bb0 #[.slice a_fv n_fv c_fv, .slice a_fi fi.length c_fi, .slice a_fo n_fo c_fo] 66, imm (.slice a_fi fi.length c_fi) fi]) w' ad2 x0, fun (v : Value) (w' : World) => ∃ (ad2 : Addr), v = .pointer (some ((ad2).add 0)) ∧ At (MS M [box bb0 #[.slice a_fv n_fv c_fv, .slice a_fi fi.length c_fi, .slice a_fo n_fo c_fo] 66, imm (.slice a_fi fi.length c_fi) fi]) w' ad2 x0, fun (v : Value) (w' : World) => v = .int .i64 x0.1 ∧ I64 (x0.1), fun (v : Value) (w' : World) => v = .pointer (some ⟨bb0, 1, none⟩), fun (v : Value) (w' : World) => v = .slice a_fi fi.length c_fi, fun (v : Value) (w' : World) => v = .int .i64 j, fun (v : Value) (w' : World) => ∃ (ad3 : Addr), v = .pointer (some ad3) ∧ At (MS M [box bb0 #[.slice a_fv n_fv c_fv, .slice a_fi fi.length c_fi, .slice a_fo n_fo c_fo] 66, imm (.slice a_fi fi.length c_fi) fi]) w' ad3 x1, fun (v : Value) (w' : World) => ∃ (ad3 : Addr), v = .pointer (some ((ad3).add 0)) ∧ At (MS M [box bb0 #[.slice a_fv n_fv c_fv, .slice a_fi fi.length c_fi, .slice a_fo n_fo c_fo] 66, imm (.slice a_fi fi.length c_fi) fi]) w' ad3 x1, fun (v : Value) (w' : World) => v = .int .i64 x1.1 ∧ I64 (x1.1), fun (v : Value) (w' : World) => v = .bool (decide (x0.1 = x1.1)), fun (v : Value) (w' : World) => v = .bool (decide (x0.1 = x1.1)), fun (v : Value) (w' : World) => v = .bool (decide (x0.1 = x1.1)), fun (v : Value) (w' : World) => v = .pointer (some ⟨bb0, 1, none⟩), fun (v : Value) (w' : World) => v = .slice a_fi fi.length c_fi, fun (v : Value) (w' : World) => v = .int .i64 i, fun (v : Value) (w' : World) => ∃ (ad4 : Addr), v = .pointer (some ad4) ∧ At (MS M [box bb0 #[.slice a_fv n_fv c_fv, .slice a_fi fi.length c_fi, .slice a_fo n_fo c_fo] 66, imm (.slice a_fi fi.length c_fi) fi]) w' ad4 x0, fun (v : Value) (w' : World) => ∃ (ad4 : Addr), v = .pointer (some ((ad4).add 1)) ∧ At (MS M [box bb0 #[.slice a_fv n_fv c_fv, .slice a_fi fi.length c_fi, .slice a_fo n_fo c_fo] 66, imm (.slice a_fi fi.length c_fi) fi]) w' ad4 x0, fun (v : Value) (w' : World) => v = .int .i64 x0.2.1 ∧ I64 (x0.2.1), fun (v : Value) (w' : World) => v = .pointer (some ⟨bb0, 1, none⟩), fun (v : Value) (w' : World) => v = .slice a_fi fi.length c_fi, fun (v : Value) (w' : World) => v = .int .i64 j, fun (v : Value) (w' : World) => ∃ (ad5 : Addr), v = .pointer (some ad5) ∧ At (MS M [box bb0 #[.slice a_fv n_fv c_fv, .slice a_fi fi.length c_fi, .slice a_fo n_fo c_fo] 66, imm (.slice a_fi fi.length c_fi) fi]) w' ad5 x1, fun (v : Value) (w' : World) => ∃ (ad5 : Addr), v = .pointer (some ((ad5).add 1)) ∧ At (MS M [box bb0 #[.slice a_fv n_fv c_fv, .slice a_fi fi.length c_fi, .slice a_fo n_fo c_fo] 66, imm (.slice a_fi fi.length c_fi) fi]) w' ad5 x1, fun (v : Value) (w' : World) => v = .int .i64 x1.2.1 ∧ I64 (x1.2.1)] rfl (by kernel_rfl) ?_ ?_
            ·
              refine ⟨fun _ => ⟨fun f0 w1 hf0 xt1 hp0 => ?_, fun _ _ _ _ h => h⟩, ?_⟩
              ·
                have H2 := H1.ext xt1
                refine mv rfl ((hf0 1 rfl).trans i1) ?_
                exact ⟨_, rfl, Ext.refl _, rfl⟩
              refine ⟨fun _ => ⟨fun f1 w2 hf1 xt2 hp1 => ?_, fun _ _ _ _ h => h⟩, ?_⟩
              ·
                have H3 := H1.ext xt2
                have s0 : f1 7 = .int .i64 i := hp1 0 rfl rfl
                refine geq rfl rfl s0 rfl ?_
                exact ⟨_, rfl, Ext.refl _, rfl⟩
              refine ⟨fun _ => ⟨fun f2 w3 hf2 xt3 hp2 => ?_, fun _ _ _ _ h => h⟩, ?_⟩
              ·
                have H4 := H1.ext xt3
                have s1 : f2 8 = .bool (decide (0 ≤ i)) := hp2 1 rfl rfl
                refine mv rfl s1 ?_
                exact ⟨_, rfl, Ext.refl _, rfl⟩
              refine ⟨fun _ => ⟨fun f3 w4 hf3 xt4 hp3 => ?_, fun _ _ _ _ h => h⟩, ?_⟩
              ·
                have H5 := H1.ext xt4
                have s2 : f3 9 = .bool (decide (0 ≤ i)) := hp3 2 rfl rfl
                refine gy rfl rfl s2 b0 (mv rfl ((hf3 2 rfl).trans i2) ?_)
                exact ⟨_, rfl, Ext.refl _, rfl⟩
              refine ⟨fun _ => ⟨fun f4 w5 hf4 xt5 hp4 => ?_, fun _ _ _ _ h => h⟩, ?_⟩
              ·
                have H6 := H1.ext xt5
                have s3 : f4 9 = .bool (decide (0 ≤ i)) := hp4 2 rfl rfl
                have s4 : f4 10 = .int .i64 j := hp4 3 rfl rfl
                refine gy rfl rfl s3 b0 (geq rfl rfl s4 rfl ?_)
                exact ⟨_, rfl, Ext.refl _, rfl⟩
              refine ⟨fun _ => ⟨fun f5 w6 hf5 xt6 hp5 => ?_, fun _ _ _ _ h => h⟩, ?_⟩
              ·
                have H7 := H1.ext xt6
                have s5 : f5 9 = .bool (decide (0 ≤ i)) := hp5 2 rfl rfl
                have s6 : f5 11 = .bool (decide (0 ≤ j)) := hp5 4 rfl rfl
                refine pickT rfl rfl rfl s5 b0 s6 ?_
                exact ⟨_, rfl, Ext.refl _, rfl⟩
              refine ⟨fun _ => ⟨fun f6 w7 hf6 xt7 hp6 => ?_, fun _ _ _ _ h => h⟩, ?_⟩
              ·
                have H8 := H1.ext xt7
                have s7 : f6 12 = .bool (decide (0 ≤ j)) := hp6 5 rfl rfl
                refine mv rfl s7 ?_
                exact ⟨_, rfl, Ext.refl _, rfl⟩
              refine ⟨fun _ => ⟨fun f7 w8 hf7 xt8 hp7 => ?_, fun _ _ _ _ h => h⟩, ?_⟩
              ·
                have H9 := H1.ext xt8
                have s8 : f7 13 = .bool (decide (0 ≤ j)) := hp7 6 rfl rfl
                refine gy rfl rfl s8 b1 (mv rfl ((hf7 1 rfl).trans i1) ?_)
                exact ⟨_, rfl, Ext.refl _, rfl⟩
              refine ⟨fun _ => ⟨fun f8 w9 hf8 xt9 hp8 => ?_, fun _ _ _ _ h => h⟩, ?_⟩
              ·
                have H10 := H1.ext xt9
                have s9 : f8 13 = .bool (decide (0 ≤ j)) := hp8 6 rfl rfl
                refine gy rfl rfl s9 b1 (fa fl66_1 rfl (hf8 3 rfl) ?_)
                exact ⟨_, rfl, Ext.refl _, rfl⟩
              refine ⟨fun _ => ⟨fun f9 w10 hf9 xt10 hp9 => ?_, fun _ _ _ _ h => h⟩, ?_⟩
              ·
                have H11 := H1.ext xt10
                have s10 : f9 13 = .bool (decide (0 ≤ j)) := hp9 6 rfl rfl
                have s11 : f9 15 = .pointer (some ⟨bb0, 1, none⟩) := hp9 8 rfl rfl
                refine gy rfl rfl s10 b1 (ldX H11 0 rfl ty64 rfl s11 (by decide) rfl ?_)
                exact ⟨_, rfl, Ext.refl _, rfl⟩
              refine ⟨fun _ => ⟨fun f10 w11 hf10 xt11 hp10 => ?_, fun _ _ _ _ h => h⟩, ?_⟩
              ·
                have H12 := H1.ext xt11
                have s12 : f10 13 = .bool (decide (0 ≤ j)) := hp10 6 rfl rfl
                have s13 : f10 16 = .slice a_fi fi.length c_fi := hp10 9 rfl rfl
                refine gy rfl rfl s12 b1 (lnS rfl s13 un64 ?_)
                exact ⟨_, rfl, Ext.refl _, rfl⟩
              refine ⟨fun _ => ⟨fun f11 w12 hf11 xt12 hp11 => ?_, fun _ _ _ _ h => h⟩, ?_⟩
              ·
                have H13 := H1.ext xt12
                have s14 : f11 13 = .bool (decide (0 ≤ j)) := hp11 6 rfl rfl
                have s15 : f11 14 = .int .i64 i := hp11 7 rfl rfl
                have s16 : f11 17 = .int .i64 (fi.length : Int) := hp11 10 rfl rfl
                refine gy rfl rfl s14 b1 (lss rfl rfl s15 s16 ?_)
                exact ⟨_, rfl, Ext.refl _, rfl⟩
              refine ⟨fun _ => ⟨fun f12 w13 hf12 xt13 hp12 => ?_, fun _ _ _ _ h => h⟩, ?_⟩
              ·
                have H14 := H1.ext xt13
                have s17 : f12 13 = .bool (decide (0 ≤ j)) := hp12 6 rfl rfl
                have s18 : f12 18 = .bool (decide (i < (fi.length : Int))) := hp12 11 rfl rfl
                refine pickT rfl rfl rfl s17 b1 s18 ?_
                exact ⟨_, rfl, Ext.refl _, rfl⟩
              refine ⟨fun _ => ⟨fun f13 w14 hf13 xt14 hp13 => ?_, fun _ _ _ _ h => h⟩, ?_⟩
              ·
                have H15 := H1.ext xt14
                have s19 : f13 19 = .bool (decide (i < (fi.length : Int))) := hp13 12 rfl rfl
                refine mv rfl s19 ?_
                exact ⟨_, rfl, Ext.refl _, rfl⟩
              refine ⟨fun _ => ⟨fun f14 w15 hf14 xt15 hp14 => ?_, fun _ _ _ _ h => h⟩, ?_⟩
              ·
                have H16 := H1.ext xt15
                have s20 : f14 20 = .bool (decide (i < (fi.length : Int))) := hp14 13 rfl rfl
                refine gy rfl rfl s20 b2 (mv rfl ((hf14 2 rfl).trans i2) ?_)
                exact ⟨_, rfl, Ext.refl _, rfl⟩
              refine ⟨fun _ => ⟨fun f15 w16 hf15 xt16 hp15 => ?_, fun _ _ _ _ h => h⟩, ?_⟩
              ·
                have H17 := H1.ext xt16
                have s21 : f15 20 = .bool (decide (i < (fi.length : Int))) := hp15 13 rfl rfl
                refine gy rfl rfl s21 b2 (fa fl66_1 rfl (hf15 3 rfl) ?_)
                exact ⟨_, rfl, Ext.refl _, rfl⟩
              refine ⟨fun _ => ⟨fun f16 w17 hf16 xt17 hp16 => ?_, fun _ _ _ _ h => h⟩, ?_⟩
              ·
                have H18 := H1.ext xt17
                have s22 : f16 20 = .bool (decide (i < (fi.length : Int))) := hp16 13 rfl rfl
                have s23 : f16 22 = .pointer (some ⟨bb0, 1, none⟩) := hp16 15 rfl rfl
                refine gy rfl rfl s22 b2 (ldX H18 0 rfl ty64 rfl s23 (by decide) rfl ?_)
                exact ⟨_, rfl, Ext.refl _, rfl⟩
              refine ⟨fun _ => ⟨fun f17 w18 hf17 xt18 hp17 => ?_, fun _ _ _ _ h => h⟩, ?_⟩
              ·
                have H19 := H1.ext xt18
                have s24 : f17 20 = .bool (decide (i < (fi.length : Int))) := hp17 13 rfl rfl
                have s25 : f17 23 = .slice a_fi fi.length c_fi := hp17 16 rfl rfl
                refine gy rfl rfl s24 b2 (lnS rfl s25 un64 ?_)
                exact ⟨_, rfl, Ext.refl _, rfl⟩
              refine ⟨fun _ => ⟨fun f18 w19 hf18 xt19 hp18 => ?_, fun _ _ _ _ h => h⟩, ?_⟩
              ·
                have H20 := H1.ext xt19
                have s26 : f18 20 = .bool (decide (i < (fi.length : Int))) := hp18 13 rfl rfl
                have s27 : f18 21 = .int .i64 j := hp18 14 rfl rfl
                have s28 : f18 24 = .int .i64 (fi.length : Int) := hp18 17 rfl rfl
                refine gy rfl rfl s26 b2 (lss rfl rfl s27 s28 ?_)
                exact ⟨_, rfl, Ext.refl _, rfl⟩
              refine ⟨fun _ => ⟨fun f19 w20 hf19 xt20 hp19 => ?_, fun _ _ _ _ h => h⟩, ?_⟩
              ·
                have H21 := H1.ext xt20
                have s29 : f19 20 = .bool (decide (i < (fi.length : Int))) := hp19 13 rfl rfl
                have s30 : f19 25 = .bool (decide (j < (fi.length : Int))) := hp19 18 rfl rfl
                refine pickT rfl rfl rfl s29 b2 s30 ?_
                exact ⟨_, rfl, Ext.refl _, rfl⟩
              refine ⟨fun _ => ⟨fun f20 w21 hf20 xt21 hp20 => ?_, fun _ _ _ _ h => h⟩, ?_⟩
              ·
                have H22 := H1.ext xt21
                have s31 : f20 26 = .bool (decide (j < (fi.length : Int))) := hp20 19 rfl rfl
                refine mv rfl s31 ?_
                exact ⟨_, rfl, Ext.refl _, rfl⟩
              refine ⟨fun _ => ⟨fun f21 w22 hf21 xt22 hp21 => ?_, fun _ _ _ _ h => h⟩, ?_⟩
              ·
                have H23 := H1.ext xt22
                have s32 : f21 27 = .bool (decide (j < (fi.length : Int))) := hp21 20 rfl rfl
                refine gy rfl rfl s32 b3 (fa fl66_1 rfl (hf21 3 rfl) ?_)
                exact ⟨_, rfl, Ext.refl _, rfl⟩
              refine ⟨fun _ => ⟨fun f22 w23 hf22 xt23 hp22 => ?_, fun _ _ _ _ h => h⟩, ?_⟩
              ·
                have H24 := H1.ext xt23
                have s33 : f22 27 = .bool (decide (j < (fi.length : Int))) := hp22 20 rfl rfl
                have s34 : f22 28 = .pointer (some ⟨bb0, 1, none⟩) := hp22 21 rfl rfl
                refine gy rfl rfl s33 b3 (ldX H24 0 rfl ty64 rfl s34 (by decide) rfl ?_)
                exact ⟨_, rfl, Ext.refl _, rfl⟩
              refine ⟨fun _ => ⟨fun f23 w24 hf23 xt24 hp23 => ?_, fun _ _ _ _ h => h⟩, ?_⟩
              ·
                have H25 := H1.ext xt24
                have s35 : f23 27 = .bool (decide (j < (fi.length : Int))) := hp23 20 rfl rfl
                refine gy rfl rfl s35 b3 (mv rfl ((hf23 1 rfl).trans i1) ?_)
                exact ⟨_, rfl, Ext.refl _, rfl⟩
              refine ⟨fun _ => ⟨fun f24 w25 hf24 xt25 hp24 => ?_, by rintro _ _ _ x_ ⟨ad2, e_, hA2⟩; exact ⟨ad2, e_, hA2.lift (Up.ext x_)⟩⟩, ?_⟩
              ·
                have H26 := H1.ext xt25
                have s36 : f24 27 = .bool (decide (j < (fi.length : Int))) := hp24 20 rfl rfl
                have s37 : f24 29 = .slice a_fi fi.length c_fi := hp24 22 rfl rfl
                have s38 : f24 30 = .int .i64 i := hp24 23 rfl rfl
                refine gy rfl rfl s36 b3 (ia (H26.rv 1 rfl) rfl rfl s37 s38 (by first | omega | (simp; omega)) un64 ty102 ?_)
                intro ad6 x6 hx6 hA6
                obtain rfl : x0 = x6 := Option.some.inj (hx0.symm.trans hx6)
                exact ⟨_, rfl, Ext.refl _, ⟨ad6, rfl, hA6⟩⟩
              refine ⟨fun _ => ⟨fun f25 w26 hf25 xt26 hp25 => ?_, by rintro _ _ _ x_ ⟨ad2, e_, hA2⟩; exact ⟨ad2, e_, hA2.lift (Up.ext x_)⟩⟩, ?_⟩
              ·
                have H27 := H1.ext xt26
                have s39 : f25 27 = .bool (decide (j < (fi.length : Int))) := hp25 20 rfl rfl
                obtain ⟨ad7, s40, hA7⟩ : ∃ (ad7 : Addr), f25 31 = .pointer (some ad7) ∧ At (MS M [box bb0 #[.slice a_fv n_fv c_fv, .slice a_fi fi.length c_fi, .slice a_fo n_fo c_fo] 66, imm (.slice a_fi fi.length c_fi) fi]) w26 ad7 x0 := hp25 24 rfl rfl
                have H28 := H27.put (it := atI ad7 x0) rfl hA7
                refine gy rfl rfl s39 b3 (fa fl102_0 rfl s40 ?_)
                exact ⟨_, rfl, Ext.refl _, ⟨ad7, rfl, (by assumption)⟩⟩
              refine ⟨fun _ => ⟨fun f26 w27 hf26 xt27 hp26 => ?_, fun _ _ _ _ h => h⟩, ?_⟩
              ·
                have H29 := H1.ext xt27
                have s41 : f26 27 = .bool (decide (j < (fi.length : Int))) := hp26 20 rfl rfl
                obtain ⟨ad8, s42, hA8⟩ : ∃ (ad8 : Addr), f26 32 = .pointer (some ((ad8).add 0)) ∧ At (MS M [box bb0 #[.slice a_fv n_fv c_fv, .slice a_fi fi.length c_fi, .slice a_fo n_fo c_fo] 66, imm (.slice a_fi fi.length c_fi) fi]) w27 ad8 x0 := hp26 25 rfl rfl
                have H30 := H29.put (it := atI ad8 x0) rfl hA8
                refine gy rfl rfl s41 b3 (ldI ((H30.atv 0 rfl)).fst.w ty3 rfl s42 ?_)
                intro rv6
                exact ⟨_, rfl, Ext.refl _, ⟨rfl, rv6⟩⟩
              refine ⟨fun _ => ⟨fun f27 w28 hf27 xt28 hp27 => ?_, fun _ _ _ _ h => h⟩, ?_⟩
              ·
                have H31 := H1.ext xt28
                have s43 : f27 27 = .bool (decide (j < (fi.length : Int))) := hp27 20 rfl rfl
                refine gy rfl rfl s43 b3 (fa fl66_1 rfl (hf27 3 rfl) ?_)
                exact ⟨_, rfl, Ext.refl _, rfl⟩
              refine ⟨fun _ => ⟨fun f28 w29 hf28 xt29 hp28 => ?_, fun _ _ _ _ h => h⟩, ?_⟩
              ·
                have H32 := H1.ext xt29
                have s44 : f28 27 = .bool (decide (j < (fi.length : Int))) := hp28 20 rfl rfl
                have s45 : f28 34 = .pointer (some ⟨bb0, 1, none⟩) := hp28 27 rfl rfl
                refine gy rfl rfl s44 b3 (ldX H32 0 rfl ty64 rfl s45 (by decide) rfl ?_)
                exact ⟨_, rfl, Ext.refl _, rfl⟩
              refine ⟨fun _ => ⟨fun f29 w30 hf29 xt30 hp29 => ?_, fun _ _ _ _ h => h⟩, ?_⟩
              ·
                have H33 := H1.ext xt30
                have s46 : f29 27 = .bool (decide (j < (fi.length : Int))) := hp29 20 rfl rfl
                refine gy rfl rfl s46 b3 (mv rfl ((hf29 2 rfl).trans i2) ?_)
                exact ⟨_, rfl, Ext.refl _, rfl⟩
              refine ⟨fun _ => ⟨fun f30 w31 hf30 xt31 hp30 => ?_, by rintro _ _ _ x_ ⟨ad3, e_, hA3⟩; exact ⟨ad3, e_, hA3.lift (Up.ext x_)⟩⟩, ?_⟩
              ·
                have H34 := H1.ext xt31
                have s47 : f30 27 = .bool (decide (j < (fi.length : Int))) := hp30 20 rfl rfl
                have s48 : f30 35 = .slice a_fi fi.length c_fi := hp30 28 rfl rfl
                have s49 : f30 36 = .int .i64 j := hp30 29 rfl rfl
                refine gy rfl rfl s47 b3 (ia (H34.rv 1 rfl) rfl rfl s48 s49 (by first | omega | (simp; omega)) un64 ty102 ?_)
                intro ad9 x7 hx7 hA9
                obtain rfl : x1 = x7 := Option.some.inj (hx1.symm.trans hx7)
                exact ⟨_, rfl, Ext.refl _, ⟨ad9, rfl, hA9⟩⟩
              refine ⟨fun _ => ⟨fun f31 w32 hf31 xt32 hp31 => ?_, by rintro _ _ _ x_ ⟨ad3, e_, hA3⟩; exact ⟨ad3, e_, hA3.lift (Up.ext x_)⟩⟩, ?_⟩
              ·
                have H35 := H1.ext xt32
                have s50 : f31 27 = .bool (decide (j < (fi.length : Int))) := hp31 20 rfl rfl
                obtain ⟨ad10, s51, hA10⟩ : ∃ (ad10 : Addr), f31 37 = .pointer (some ad10) ∧ At (MS M [box bb0 #[.slice a_fv n_fv c_fv, .slice a_fi fi.length c_fi, .slice a_fo n_fo c_fo] 66, imm (.slice a_fi fi.length c_fi) fi]) w32 ad10 x1 := hp31 30 rfl rfl
                have H36 := H35.put (it := atI ad10 x1) rfl hA10
                refine gy rfl rfl s50 b3 (fa fl102_0 rfl s51 ?_)
                exact ⟨_, rfl, Ext.refl _, ⟨ad10, rfl, (by assumption)⟩⟩
              refine ⟨fun _ => ⟨fun f32 w33 hf32 xt33 hp32 => ?_, fun _ _ _ _ h => h⟩, ?_⟩
              ·
                have H37 := H1.ext xt33
                have s52 : f32 27 = .bool (decide (j < (fi.length : Int))) := hp32 20 rfl rfl
                obtain ⟨ad11, s53, hA11⟩ : ∃ (ad11 : Addr), f32 38 = .pointer (some ((ad11).add 0)) ∧ At (MS M [box bb0 #[.slice a_fv n_fv c_fv, .slice a_fi fi.length c_fi, .slice a_fo n_fo c_fo] 66, imm (.slice a_fi fi.length c_fi) fi]) w33 ad11 x1 := hp32 31 rfl rfl
                have H38 := H37.put (it := atI ad11 x1) rfl hA11
                refine gy rfl rfl s52 b3 (ldI ((H38.atv 0 rfl)).fst.w ty3 rfl s53 ?_)
                intro rv7
                exact ⟨_, rfl, Ext.refl _, ⟨rfl, rv7⟩⟩
              refine ⟨fun _ => ⟨fun f33 w34 hf33 xt34 hp33 => ?_, fun _ _ _ _ h => h⟩, ?_⟩
              ·
                have H39 := H1.ext xt34
                have s54 : f33 27 = .bool (decide (j < (fi.length : Int))) := hp33 20 rfl rfl
                obtain ⟨s55, rv8⟩ : f33 33 = .int .i64 x0.1 ∧ I64 (x0.1) := hp33 26 rfl rfl
                obtain ⟨s56, rv9⟩ : f33 39 = .int .i64 x1.1 ∧ I64 (x1.1) := hp33 32 rfl rfl
                refine gy rfl rfl s54 b3 (eql rfl rfl s55 s56 ?_)
                exact ⟨_, rfl, Ext.refl _, rfl⟩
              refine ⟨fun _ => ⟨fun f34 w35 hf34 xt35 hp34 => ?_, fun _ _ _ _ h => h⟩, ?_⟩
              ·
                have H40 := H1.ext xt35
                have s57 : f34 27 = .bool (decide (j < (fi.length : Int))) := hp34 20 rfl rfl
                have s58 : f34 40 = .bool (decide (x0.1 = x1.1)) := hp34 33 rfl rfl
                refine pickT rfl rfl rfl s57 b3 s58 ?_
                exact ⟨_, rfl, Ext.refl _, rfl⟩
              refine ⟨fun _ => ⟨fun f35 w36 hf35 xt36 hp35 => ?_, fun _ _ _ _ h => h⟩, ?_⟩
              ·
                have H41 := H1.ext xt36
                have s59 : f35 41 = .bool (decide (x0.1 = x1.1)) := hp35 34 rfl rfl
                refine mv rfl s59 ?_
                exact ⟨_, rfl, Ext.refl _, rfl⟩
              refine ⟨fun _ => ⟨fun f36 w37 hf36 xt37 hp36 => ?_, fun _ _ _ _ h => h⟩, ?_⟩
              ·
                have H42 := H1.ext xt37
                have s60 : f36 42 = .bool (decide (x0.1 = x1.1)) := hp36 35 rfl rfl
                refine gy rfl rfl s60 b4 (fa fl66_1 rfl (hf36 3 rfl) ?_)
                exact ⟨_, rfl, Ext.refl _, rfl⟩
              refine ⟨fun _ => ⟨fun f37 w38 hf37 xt38 hp37 => ?_, fun _ _ _ _ h => h⟩, ?_⟩
              ·
                have H43 := H1.ext xt38
                have s61 : f37 42 = .bool (decide (x0.1 = x1.1)) := hp37 35 rfl rfl
                have s62 : f37 43 = .pointer (some ⟨bb0, 1, none⟩) := hp37 36 rfl rfl
                refine gy rfl rfl s61 b4 (ldX H43 0 rfl ty64 rfl s62 (by decide) rfl ?_)
                exact ⟨_, rfl, Ext.refl _, rfl⟩
              refine ⟨fun _ => ⟨fun f38 w39 hf38 xt39 hp38 => ?_, fun _ _ _ _ h => h⟩, ?_⟩
              ·
                have H44 := H1.ext xt39
                have s63 : f38 42 = .bool (decide (x0.1 = x1.1)) := hp38 35 rfl rfl
                refine gy rfl rfl s63 b4 (mv rfl ((hf38 1 rfl).trans i1) ?_)
                exact ⟨_, rfl, Ext.refl _, rfl⟩
              refine ⟨fun _ => ⟨fun f39 w40 hf39 xt40 hp39 => ?_, by rintro _ _ _ x_ ⟨ad4, e_, hA4⟩; exact ⟨ad4, e_, hA4.lift (Up.ext x_)⟩⟩, ?_⟩
              ·
                have H45 := H1.ext xt40
                have s64 : f39 42 = .bool (decide (x0.1 = x1.1)) := hp39 35 rfl rfl
                have s65 : f39 44 = .slice a_fi fi.length c_fi := hp39 37 rfl rfl
                have s66 : f39 45 = .int .i64 i := hp39 38 rfl rfl
                refine gy rfl rfl s64 b4 (ia (H45.rv 1 rfl) rfl rfl s65 s66 (by first | omega | (simp; omega)) un64 ty102 ?_)
                intro ad12 x8 hx8 hA12
                obtain rfl : x0 = x8 := Option.some.inj (hx0.symm.trans hx8)
                exact ⟨_, rfl, Ext.refl _, ⟨ad12, rfl, hA12⟩⟩
              refine ⟨fun _ => ⟨fun f40 w41 hf40 xt41 hp40 => ?_, by rintro _ _ _ x_ ⟨ad4, e_, hA4⟩; exact ⟨ad4, e_, hA4.lift (Up.ext x_)⟩⟩, ?_⟩
              ·
                have H46 := H1.ext xt41
                have s67 : f40 42 = .bool (decide (x0.1 = x1.1)) := hp40 35 rfl rfl
                obtain ⟨ad13, s68, hA13⟩ : ∃ (ad13 : Addr), f40 46 = .pointer (some ad13) ∧ At (MS M [box bb0 #[.slice a_fv n_fv c_fv, .slice a_fi fi.length c_fi, .slice a_fo n_fo c_fo] 66, imm (.slice a_fi fi.length c_fi) fi]) w41 ad13 x0 := hp40 39 rfl rfl
                have H47 := H46.put (it := atI ad13 x0) rfl hA13
                refine gy rfl rfl s67 b4 (fa fl102_1 rfl s68 ?_)
                exact ⟨_, rfl, Ext.refl _, ⟨ad13, rfl, (by assumption)⟩⟩
              refine ⟨fun _ => ⟨fun f41 w42 hf41 xt42 hp41 => ?_, fun _ _ _ _ h => h⟩, ?_⟩
              ·
                have H48 := H1.ext xt42
                have s69 : f41 42 = .bool (decide (x0.1 = x1.1)) := hp41 35 rfl rfl
                obtain ⟨ad14, s70, hA14⟩ : ∃ (ad14 : Addr), f41 47 = .pointer (some ((ad14).add 1)) ∧ At (MS M [box bb0 #[.slice a_fv n_fv c_fv, .slice a_fi fi.length c_fi, .slice a_fo n_fo c_fo] 66, imm (.slice a_fi fi.length c_fi) fi]) w42 ad14 x0 := hp41 40 rfl rfl
                have H49 := H48.put (it := atI ad14 x0) rfl hA14
                refine gy rfl rfl s69 b4 (ldI (((H49.atv 0 rfl)).s1).fst.w ty3 rfl s70 ?_)
                intro rv10
                exact ⟨_, rfl, Ext.refl _, ⟨rfl, rv10⟩⟩
              refine ⟨fun _ => ⟨fun f42 w43 hf42 xt43 hp42 => ?_, fun _ _ _ _ h => h⟩, ?_⟩
              ·
                have H50 := H1.ext xt43
                have s71 : f42 42 = .bool (decide (x0.1 = x1.1)) := hp42 35 rfl rfl
                refine gy rfl rfl s71 b4 (fa fl66_1 rfl (hf42 3 rfl) ?_)
                exact ⟨_, rfl, Ext.refl _, rfl⟩
              refine ⟨fun _ => ⟨fun f43 w44 hf43 xt44 hp43 => ?_, fun _ _ _ _ h => h⟩, ?_⟩
              ·
                have H51 := H1.ext xt44
                have s72 : f43 42 = .bool (decide (x0.1 = x1.1)) := hp43 35 rfl rfl
                have s73 : f43 49 = .pointer (some ⟨bb0, 1, none⟩) := hp43 42 rfl rfl
                refine gy rfl rfl s72 b4 (ldX H51 0 rfl ty64 rfl s73 (by decide) rfl ?_)
                exact ⟨_, rfl, Ext.refl _, rfl⟩
              refine ⟨fun _ => ⟨fun f44 w45 hf44 xt45 hp44 => ?_, fun _ _ _ _ h => h⟩, ?_⟩
              ·
                have H52 := H1.ext xt45
                have s74 : f44 42 = .bool (decide (x0.1 = x1.1)) := hp44 35 rfl rfl
                refine gy rfl rfl s74 b4 (mv rfl ((hf44 2 rfl).trans i2) ?_)
                exact ⟨_, rfl, Ext.refl _, rfl⟩
              refine ⟨fun _ => ⟨fun f45 w46 hf45 xt46 hp45 => ?_, by rintro _ _ _ x_ ⟨ad5, e_, hA5⟩; exact ⟨ad5, e_, hA5.lift (Up.ext x_)⟩⟩, ?_⟩
              ·
                have H53 := H1.ext xt46
                have s75 : f45 42 = .bool (decide (x0.1 = x1.1)) := hp45 35 rfl rfl
                have s76 : f45 50 = .slice a_fi fi.length c_fi := hp45 43 rfl rfl
                have s77 : f45 51 = .int .i64 j := hp45 44 rfl rfl
                refine gy rfl rfl s75 b4 (ia (H53.rv 1 rfl) rfl rfl s76 s77 (by first | omega | (simp; omega)) un64 ty102 ?_)
                intro ad15 x9 hx9 hA15
                obtain rfl : x1 = x9 := Option.some.inj (hx1.symm.trans hx9)
                exact ⟨_, rfl, Ext.refl _, ⟨ad15, rfl, hA15⟩⟩
              refine ⟨fun _ => ⟨fun f46 w47 hf46 xt47 hp46 => ?_, by rintro _ _ _ x_ ⟨ad5, e_, hA5⟩; exact ⟨ad5, e_, hA5.lift (Up.ext x_)⟩⟩, ?_⟩
              ·
                have H54 := H1.ext xt47
                have s78 : f46 42 = .bool (decide (x0.1 = x1.1)) := hp46 35 rfl rfl
                obtain ⟨ad16, s79, hA16⟩ : ∃ (ad16 : Addr), f46 52 = .pointer (some ad16) ∧ At (MS M [box bb0 #[.slice a_fv n_fv c_fv, .slice a_fi fi.length c_fi, .slice a_fo n_fo c_fo] 66, imm (.slice a_fi fi.length c_fi) fi]) w47 ad16 x1 := hp46 45 rfl rfl
                have H55 := H54.put (it := atI ad16 x1) rfl hA16
                refine gy rfl rfl s78 b4 (fa fl102_1 rfl s79 ?_)
                exact ⟨_, rfl, Ext.refl _, ⟨ad16, rfl, (by assumption)⟩⟩
              refine ⟨fun _ => ⟨fun f47 w48 hf47 xt48 hp47 => ?_, fun _ _ _ _ h => h⟩, ?_⟩
              ·
                have H56 := H1.ext xt48
                have s80 : f47 42 = .bool (decide (x0.1 = x1.1)) := hp47 35 rfl rfl
                obtain ⟨ad17, s81, hA17⟩ : ∃ (ad17 : Addr), f47 53 = .pointer (some ((ad17).add 1)) ∧ At (MS M [box bb0 #[.slice a_fv n_fv c_fv, .slice a_fi fi.length c_fi, .slice a_fo n_fo c_fo] 66, imm (.slice a_fi fi.length c_fi) fi]) w48 ad17 x1 := hp47 46 rfl rfl
                have H57 := H56.put (it := atI ad17 x1) rfl hA17
                refine gy rfl rfl s80 b4 (ldI (((H57.atv 0 rfl)).s1).fst.w ty3 rfl s81 ?_)
                intro rv11
                exact ⟨_, rfl, Ext.refl _, ⟨rfl, rv11⟩⟩
              exact DSteps.rest rfl _
            · intro f48 w49 hf48 xt49 hp48
              have H58 := H1.ext xt49
              have s82 : f48 42 = .bool (decide (x0.1 = x1.1)) := hp48 35 rfl
              obtain ⟨s83, rv12⟩ : f48 48 = .int .i64 x0.2.1 ∧ I64 (x0.2.1) := hp48 41 rfl
              obtain ⟨s84, rv13⟩ : f48 54 = .int .i64 x1.2.1 ∧ I64 (x1.2.1) := hp48 47 rfl
              refine k (gy rfl rfl s82 b4 (lss rfl rfl s83 s84 (k (pickT rfl rfl rfl s82 b4 rfl (k (asg (v := .bool (decide (x0.2.1 < x1.2.1))) rfl rfl (z (nx (rt (r1 rfl rfl ?_))))))))))
              have e0 : (decide (x0.2.1 < x1.2.1) : Bool) = ahB fi i j := by first | exact ahB_no (by omega) | exact ahB_ses hx0 hx1 (by assumption) | exact ahB_yes (by omega) (by omega) (by omega) (by omega) hx0 hx1 (by assumption)
              have ev_ := cg1 (fun (x_0 : Bool) => (.bool x_0 : Value)) e0
              exact ⟨ev_, H58.below⟩
          · -- decide (x0.1 = x1.1) is False
            have p4 := of_decide_eq_false b4
            refine dr 48 [fun (v : Value) (w' : World) => v = .int .i64 i, fun (v : Value) (w' : World) => v = .bool (decide (0 ≤ i)), fun (v : Value) (w' : World) => v = .bool (decide (0 ≤ i)), fun (v : Value) (w' : World) => v = .int .i64 j, fun (v : Value) (w' : World) => v = .bool (decide (0 ≤ j)), fun (v : Value) (w' : World) => v = .bool (decide (0 ≤ j)), fun (v : Value) (w' : World) => v = .bool (decide (0 ≤ j)), fun (v : Value) (w' : World) => v = .int .i64 i, fun (v : Value) (w' : World) => v = .pointer (some ⟨bb0, 1, none⟩), fun (v : Value) (w' : World) => v = .slice a_fi fi.length c_fi, fun (v : Value) (w' : World) => v = .int .i64 (fi.length : Int), fun (v : Value) (w' : World) => v = .bool (decide (i < (fi.length : Int))), fun (v : Value) (w' : World) => v = .bool (decide (i < (fi.length : Int))), fun (v : Value) (w' : World) => v = .bool (decide (i < (fi.length : Int))), fun (v : Value) (w' : World) => v = .int .i64 j, fun (v : Value) (w' : World) => v = .pointer (some ⟨bb0, 1, none⟩), fun (v : Value) (w' : World) => v = .slice a_fi fi.length c_fi, fun (v : Value) (w' : World) => v = .int .i64 (fi.length : Int), fun (v : Value) (w' : World) => v = .bool (decide (j < (fi.length : Int))), fun (v : Value) (w' : World) => v = .bool (decide (j < (fi.length : Int))), fun (v : Value) (w' : World) => v = .bool (decide (j < (fi.length : Int))), fun (v : Value) (w' : World) => v = .pointer (some ⟨bb0, 1, none⟩), fun (v : Value) (w' : World) => v = .slice a_fi fi.length c_fi, fun (v : Value) (w' : World) => v = .int .i64 i, fun (v : Value) (w' : World) => ∃ (ad2 : Addr), v = .pointer (some ad2) ∧ At (MS M [box bb0 #[.slice a_fv n_fv c_fv, .slice a_fi fi.length c_fi, .slice a_fo n_fo c_fo] 66, imm (.slice a_fi fi.length c_fi) fi]) w' ad2 x0, fun (v : Value) (w' : World) => ∃ (ad2 : Addr), v = .pointer (some ((ad2).add 0)) ∧ At (MS M [box bb0 #[.slice a_fv n_fv c_fv, .slice a_fi fi.length c_fi, .slice a_fo n_fo c_fo] 66, imm (.slice a_fi fi.length c_fi) fi]) w' ad2 x0, fun (v : Value) (w' : World) => v = .int .i64 x0.1 ∧ I64 (x0.1), fun (v : Value) (w' : World) => v = .pointer (some ⟨bb0, 1, none⟩), fun (v : Value) (w' : World) => v = .slice a_fi fi.length c_fi, fun (v : Value) (w' : World) => v = .int .i64 j, fun (v : Value) (w' : World) => ∃ (ad3 : Addr), v = .pointer (some ad3) ∧ At (MS M [box bb0 #[.slice a_fv n_fv c_fv, .slice a_fi fi.length c_fi, .slice a_fo n_fo c_fo] 66, imm (.slice a_fi fi.length c_fi) fi]) w' ad3 x1, fun (v : Value) (w' : World) => ∃ (ad3 : Addr), v = .pointer (some ((ad3).add 0)) ∧ At (MS M [box bb0 #[.slice a_fv n_fv c_fv, .slice a_fi fi.length c_fi, .slice a_fo n_fo c_fo] 66, imm (.slice a_fi fi.length c_fi) fi]) w' ad3 x1, fun (v : Value) (w' : World) => v = .int .i64 x1.1 ∧ I64 (x1.1), fun (v : Value) (w' : World) => v = .bool (decide (x0.1 = x1.1)), fun (v : Value) (w' : World) => v = .bool (decide (x0.1 = x1.1)), fun (v : Value) (w' : World) => v = .bool (decide (x0.1 = x1.1)), fun (v : Value) (_ : World) => v = undef, fun (v : Value) (_ : World) => v = undef, fun (v : Value) (_ : World) => v = undef, fun (v : Value) (_ : World) => v = undef, fun (v : Value) (_ : World) => v = undef, fun (v : Value) (_ : World) => v = undef, fun (v : Value) (_ : World) => v = undef, fun (v : Value) (_ : World) => v = undef, fun (v : Value) (_ : World) => v = undef, fun (v : Value) (_ : World) => v = undef, fun (v : Value) (_ : World) => v = undef, fun (v : Value) (_ : World) => v = undef] rfl (by kernel_rfl) ?_ ?_
            ·
              refine ⟨fun _ => ⟨fun f0 w1 hf0 xt1 hp0 => ?_, fun _ _ _ _ h => h⟩, ?_⟩
              ·
                have H2 := H1.ext xt1
                refine mv rfl ((hf0 1 rfl).trans i1) ?_
                exact ⟨_, rfl, Ext.refl _, rfl⟩
              refine ⟨fun _ => ⟨fun f1 w2 hf1 xt2 hp1 => ?_, fun _ _ _ _ h => h⟩, ?_⟩
              ·
                have H3 := H1.ext xt2
                have s0 : f1 7 = .int .i64 i := hp1 0 rfl rfl
                refine geq rfl rfl s0 rfl ?_
                exact ⟨_, rfl, Ext.refl _, rfl⟩
              refine ⟨fun _ => ⟨fun f2 w3 hf2 xt3 hp2 => ?_, fun _ _ _ _ h => h⟩, ?_⟩
              ·
                have H4 := H1.ext xt3
                have s1 : f2 8 = .bool (decide (0 ≤ i)) := hp2 1 rfl rfl
                refine mv rfl s1 ?_
                exact ⟨_, rfl, Ext.refl _, rfl⟩
              refine ⟨fun _ => ⟨fun f3 w4 hf3 xt4 hp3 => ?_, fun _ _ _ _ h => h⟩, ?_⟩
              ·
                have H5 := H1.ext xt4
                have s2 : f3 9 = .bool (decide (0 ≤ i)) := hp3 2 rfl rfl
                refine gy rfl rfl s2 b0 (mv rfl ((hf3 2 rfl).trans i2) ?_)
                exact ⟨_, rfl, Ext.refl _, rfl⟩
              refine ⟨fun _ => ⟨fun f4 w5 hf4 xt5 hp4 => ?_, fun _ _ _ _ h => h⟩, ?_⟩
              ·
                have H6 := H1.ext xt5
                have s3 : f4 9 = .bool (decide (0 ≤ i)) := hp4 2 rfl rfl
                have s4 : f4 10 = .int .i64 j := hp4 3 rfl rfl
                refine gy rfl rfl s3 b0 (geq rfl rfl s4 rfl ?_)
                exact ⟨_, rfl, Ext.refl _, rfl⟩
              refine ⟨fun _ => ⟨fun f5 w6 hf5 xt6 hp5 => ?_, fun _ _ _ _ h => h⟩, ?_⟩
              ·
                have H7 := H1.ext xt6
                have s5 : f5 9 = .bool (decide (0 ≤ i)) := hp5 2 rfl rfl
                have s6 : f5 11 = .bool (decide (0 ≤ j)) := hp5 4 rfl rfl
                refine pickT rfl rfl rfl s5 b0 s6 ?_
                exact ⟨_, rfl, Ext.refl _, rfl⟩
              refine ⟨fun _ => ⟨fun f6 w7 hf6 xt7 hp6 => ?_, fun _ _ _ _ h => h⟩, ?_⟩
              ·
                have H8 := H1.ext xt7
                have s7 : f6 12 = .bool (decide (0 ≤ j)) := hp6 5 rfl rfl
                refine mv rfl s7 ?_
                exact ⟨_, rfl, Ext.refl _, rfl⟩
              refine ⟨fun _ => ⟨fun f7 w8 hf7 xt8 hp7 => ?_, fun _ _ _ _ h => h⟩, ?_⟩
              ·
                have H9 := H1.ext xt8
                have s8 : f7 13 = .bool (decide (0 ≤ j)) := hp7 6 rfl rfl
                refine gy rfl rfl s8 b1 (mv rfl ((hf7 1 rfl).trans i1) ?_)
                exact ⟨_, rfl, Ext.refl _, rfl⟩
              refine ⟨fun _ => ⟨fun f8 w9 hf8 xt9 hp8 => ?_, fun _ _ _ _ h => h⟩, ?_⟩
              ·
                have H10 := H1.ext xt9
                have s9 : f8 13 = .bool (decide (0 ≤ j)) := hp8 6 rfl rfl
                refine gy rfl rfl s9 b1 (fa fl66_1 rfl (hf8 3 rfl) ?_)
                exact ⟨_, rfl, Ext.refl _, rfl⟩
              refine ⟨fun _ => ⟨fun f9 w10 hf9 xt10 hp9 => ?_, fun _ _ _ _ h => h⟩, ?_⟩
              ·
                have H11 := H1.ext xt10
                have s10 : f9 13 = .bool (decide (0 ≤ j)) := hp9 6 rfl rfl
                have s11 : f9 15 = .pointer (some ⟨bb0, 1, none⟩) := hp9 8 rfl rfl
                refine gy rfl rfl s10 b1 (ldX H11 0 rfl ty64 rfl s11 (by decide) rfl ?_)
                exact ⟨_, rfl, Ext.refl _, rfl⟩
              refine ⟨fun _ => ⟨fun f10 w11 hf10 xt11 hp10 => ?_, fun _ _ _ _ h => h⟩, ?_⟩
              ·
                have H12 := H1.ext xt11
                have s12 : f10 13 = .bool (decide (0 ≤ j)) := hp10 6 rfl rfl
                have s13 : f10 16 = .slice a_fi fi.length c_fi := hp10 9 rfl rfl
                refine gy rfl rfl s12 b1 (lnS rfl s13 un64 ?_)
                exact ⟨_, rfl, Ext.refl _, rfl⟩
              refine ⟨fun _ => ⟨fun f11 w12 hf11 xt12 hp11 => ?_, fun _ _ _ _ h => h⟩, ?_⟩
              ·
                have H13 := H1.ext xt12
                have s14 : f11 13 = .bool (decide (0 ≤ j)) := hp11 6 rfl rfl
                have s15 : f11 14 = .int .i64 i := hp11 7 rfl rfl
                have s16 : f11 17 = .int .i64 (fi.length : Int) := hp11 10 rfl rfl
                refine gy rfl rfl s14 b1 (lss rfl rfl s15 s16 ?_)
                exact ⟨_, rfl, Ext.refl _, rfl⟩
              refine ⟨fun _ => ⟨fun f12 w13 hf12 xt13 hp12 => ?_, fun _ _ _ _ h => h⟩, ?_⟩
              ·
                have H14 := H1.ext xt13
                have s17 : f12 13 = .bool (decide (0 ≤ j)) := hp12 6 rfl rfl
                have s18 : f12 18 = .bool (decide (i < (fi.length : Int))) := hp12 11 rfl rfl
                refine pickT rfl rfl rfl s17 b1 s18 ?_
                exact ⟨_, rfl, Ext.refl _, rfl⟩
              refine ⟨fun _ => ⟨fun f13 w14 hf13 xt14 hp13 => ?_, fun _ _ _ _ h => h⟩, ?_⟩
              ·
                have H15 := H1.ext xt14
                have s19 : f13 19 = .bool (decide (i < (fi.length : Int))) := hp13 12 rfl rfl
                refine mv rfl s19 ?_
                exact ⟨_, rfl, Ext.refl _, rfl⟩
              refine ⟨fun _ => ⟨fun f14 w15 hf14 xt15 hp14 => ?_, fun _ _ _ _ h => h⟩, ?_⟩
              ·
                have H16 := H1.ext xt15
                have s20 : f14 20 = .bool (decide (i < (fi.length : Int))) := hp14 13 rfl rfl
                refine gy rfl rfl s20 b2 (mv rfl ((hf14 2 rfl).trans i2) ?_)
                exact ⟨_, rfl, Ext.refl _, rfl⟩
              refine ⟨fun _ => ⟨fun f15 w16 hf15 xt16 hp15 => ?_, fun _ _ _ _ h => h⟩, ?_⟩
              ·
                have H17 := H1.ext xt16
                have s21 : f15 20 = .bool (decide (i < (fi.length : Int))) := hp15 13 rfl rfl
                refine gy rfl rfl s21 b2 (fa fl66_1 rfl (hf15 3 rfl) ?_)
                exact ⟨_, rfl, Ext.refl _, rfl⟩
              refine ⟨fun _ => ⟨fun f16 w17 hf16 xt17 hp16 => ?_, fun _ _ _ _ h => h⟩, ?_⟩
              ·
                have H18 := H1.ext xt17
                have s22 : f16 20 = .bool (decide (i < (fi.length : Int))) := hp16 13 rfl rfl
                have s23 : f16 22 = .pointer (some ⟨bb0, 1, none⟩) := hp16 15 rfl rfl
                refine gy rfl rfl s22 b2 (ldX H18 0 rfl ty64 rfl s23 (by decide) rfl ?_)
                exact ⟨_, rfl, Ext.refl _, rfl⟩
              refine ⟨fun _ => ⟨fun f17 w18 hf17 xt18 hp17 => ?_, fun _ _ _ _ h => h⟩, ?_⟩
              ·
                have H19 := H1.ext xt18
                have s24 : f17 20 = .bool (decide (i < (fi.length : Int))) := hp17 13 rfl rfl
                have s25 : f17 23 = .slice a_fi fi.length c_fi := hp17 16 rfl rfl
                refine gy rfl rfl s24 b2 (lnS rfl s25 un64 ?_)
                exact ⟨_, rfl, Ext.refl _, rfl⟩
              refine ⟨fun _ => ⟨fun f18 w19 hf18 xt19 hp18 => ?_, fun _ _ _ _ h => h⟩, ?_⟩
              ·
                have H20 := H1.ext xt19
                have s26 : f18 20 = .bool (decide (i < (fi.length : Int))) := hp18 13 rfl rfl
                have s27 : f18 21 = .int .i64 j := hp18 14 rfl rfl
                have s28 : f18 24 = .int .i64 (fi.length : Int) := hp18 17 rfl rfl
                refine gy rfl rfl s26 b2 (lss rfl rfl s27 s28 ?_)
                exact ⟨_, rfl, Ext.refl _, rfl⟩
              refine ⟨fun _ => ⟨fun f19 w20 hf19 xt20 hp19 => ?_, fun _ _ _ _ h => h⟩, ?_⟩
              ·
                have H21 := H1.ext xt20
                have s29 : f19 20 = .bool (decide (i < (fi.length : Int))) := hp19 13 rfl rfl
                have s30 : f19 25 = .bool (decide (j < (fi.length : Int))) := hp19 18 rfl rfl
                refine pickT rfl rfl rfl s29 b2 s30 ?_
                exact ⟨_, rfl, Ext.refl _, rfl⟩
              refine ⟨fun _ => ⟨fun f20 w21 hf20 xt21 hp20 => ?_, fun _ _ _ _ h => h⟩, ?_⟩
              ·
                have H22 := H1.ext xt21
                have s31 : f20 26 = .bool (decide (j < (fi.length : Int))) := hp20 19 rfl rfl
                refine mv rfl s31 ?_
                exact ⟨_, rfl, Ext.refl _, rfl⟩
              refine ⟨fun _ => ⟨fun f21 w22 hf21 xt22 hp21 => ?_, fun _ _ _ _ h => h⟩, ?_⟩
              ·
                have H23 := H1.ext xt22
                have s32 : f21 27 = .bool (decide (j < (fi.length : Int))) := hp21 20 rfl rfl
                refine gy rfl rfl s32 b3 (fa fl66_1 rfl (hf21 3 rfl) ?_)
                exact ⟨_, rfl, Ext.refl _, rfl⟩
              refine ⟨fun _ => ⟨fun f22 w23 hf22 xt23 hp22 => ?_, fun _ _ _ _ h => h⟩, ?_⟩
              ·
                have H24 := H1.ext xt23
                have s33 : f22 27 = .bool (decide (j < (fi.length : Int))) := hp22 20 rfl rfl
                have s34 : f22 28 = .pointer (some ⟨bb0, 1, none⟩) := hp22 21 rfl rfl
                refine gy rfl rfl s33 b3 (ldX H24 0 rfl ty64 rfl s34 (by decide) rfl ?_)
                exact ⟨_, rfl, Ext.refl _, rfl⟩
              refine ⟨fun _ => ⟨fun f23 w24 hf23 xt24 hp23 => ?_, fun _ _ _ _ h => h⟩, ?_⟩
              ·
                have H25 := H1.ext xt24
                have s35 : f23 27 = .bool (decide (j < (fi.length : Int))) := hp23 20 rfl rfl
                refine gy rfl rfl s35 b3 (mv rfl ((hf23 1 rfl).trans i1) ?_)
                exact ⟨_, rfl, Ext.refl _, rfl⟩
              refine ⟨fun _ => ⟨fun f24 w25 hf24 xt25 hp24 => ?_, by rintro _ _ _ x_ ⟨ad2, e_, hA2⟩; exact ⟨ad2, e_, hA2.lift (Up.ext x_)⟩⟩, ?_⟩
              ·
                have H26 := H1.ext xt25
                have s36 : f24 27 = .bool (decide (j < (fi.length : Int))) := hp24 20 rfl rfl
                have s37 : f24 29 = .slice a_fi fi.length c_fi := hp24 22 rfl rfl
                have s38 : f24 30 = .int .i64 i := hp24 23 rfl rfl
                refine gy rfl rfl s36 b3 (ia (H26.rv 1 rfl) rfl rfl s37 s38 (by first | omega | (simp; omega)) un64 ty102 ?_)
                intro ad4 x4 hx4 hA4
                obtain rfl : x0 = x4 := Option.some.inj (hx0.symm.trans hx4)
                exact ⟨_, rfl, Ext.refl _, ⟨ad4, rfl, hA4⟩⟩
              refine ⟨fun _ => ⟨fun f25 w26 hf25 xt26 hp25 => ?_, by rintro _ _ _ x_ ⟨ad2, e_, hA2⟩; exact ⟨ad2, e_, hA2.lift (Up.ext x_)⟩⟩, ?_⟩
              ·
                have H27 := H1.ext xt26
                have s39 : f25 27 = .bool (decide (j < (fi.length : Int))) := hp25 20 rfl rfl
                obtain ⟨ad5, s40, hA5⟩ : ∃ (ad5 : Addr), f25 31 = .pointer (some ad5) ∧ At (MS M [box bb0 #[.slice a_fv n_fv c_fv, .slice a_fi fi.length c_fi, .slice a_fo n_fo c_fo] 66, imm (.slice a_fi fi.length c_fi) fi]) w26 ad5 x0 := hp25 24 rfl rfl
                have H28 := H27.put (it := atI ad5 x0) rfl hA5
                refine gy rfl rfl s39 b3 (fa fl102_0 rfl s40 ?_)
                exact ⟨_, rfl, Ext.refl _, ⟨ad5, rfl, (by assumption)⟩⟩
              refine ⟨fun _ => ⟨fun f26 w27 hf26 xt27 hp26 => ?_, fun _ _ _ _ h => h⟩, ?_⟩
              ·
                have H29 := H1.ext xt27
                have s41 : f26 27 = .bool (decide (j < (fi.length : Int))) := hp26 20 rfl rfl
                obtain ⟨ad6, s42, hA6⟩ : ∃ (ad6 : Addr), f26 32 = .pointer (some ((ad6).add 0)) ∧ At (MS M [box bb0 #[.slice a_fv n_fv c_fv, .slice a_fi fi.length c_fi, .slice a_fo n_fo c_fo] 66, imm (.slice a_fi fi.length c_fi) fi]) w27 ad6 x0 := hp26 25 rfl rfl
                have H30 := H29.put (it := atI ad6 x0) rfl hA6
                refine gy rfl rfl s41 b3 (ldI ((H30.atv 0 rfl)).fst.w ty3 rfl s42 ?_)
                intro rv4
                exact ⟨_, rfl, Ext.refl _, ⟨rfl, rv4⟩⟩
              refine ⟨fun _ => ⟨fun f27 w28 hf27 xt28 hp27 => ?_, fun _ _ _ _ h => h⟩, ?_⟩
              ·
                have H31 := H1.ext xt28
                have s43 : f27 27 = .bool (decide (j < (fi.length : Int))) := hp27 20 rfl rfl
                refine gy rfl rfl s43 b3 (fa fl66_1 rfl (hf27 3 rfl) ?_)
                exact ⟨_, rfl, Ext.refl _, rfl⟩
              refine ⟨fun _ => ⟨fun f28 w29 hf28 xt29 hp28 => ?_, fun _ _ _ _ h => h⟩, ?_⟩
              ·
                have H32 := H1.ext xt29
                have s44 : f28 27 = .bool (decide (j < (fi.length : Int))) := hp28 20 rfl rfl
                have s45 : f28 34 = .pointer (some ⟨bb0, 1, none⟩) := hp28 27 rfl rfl
                refine gy rfl rfl s44 b3 (ldX H32 0 rfl ty64 rfl s45 (by decide) rfl ?_)
                exact ⟨_, rfl, Ext.refl _, rfl⟩
              refine ⟨fun _ => ⟨fun f29 w30 hf29 xt30 hp29 => ?_, fun _ _ _ _ h => h⟩, ?_⟩
              ·
                have H33 := H1.ext xt30
                have s46 : f29 27 = .bool (decide (j < (fi.length : Int))) := hp29 20 rfl rfl
                refine gy rfl rfl s46 b3 (mv rfl ((hf29 2 rfl).trans i2) ?_)
                exact ⟨_, rfl, Ext.refl _, rfl⟩
              refine ⟨fun _ => ⟨fun f30 w31 hf30 xt31 hp30 => ?_, by rintro _ _ _ x_ ⟨ad3, e_, hA3⟩; exact ⟨ad3, e_, hA3.lift (Up.ext x_)⟩⟩, ?_⟩
              ·
                have H34 := H1.ext xt31
                have s47 : f30 27 = .bool (decide (j < (fi.length : Int))) := hp30 20 rfl rfl
                have s48 : f30 35 = .slice a_fi fi.length c_fi := hp30 28 rfl rfl
                have s49 : f30 36 = .int .i64 j := hp30 29 rfl rfl
                refine gy rfl rfl s47 b3 (ia (H34.rv 1 rfl) rfl rfl s48 s49 (by first | omega | (simp; omega)) un64 ty102 ?_)
                intro ad7 x5 hx5 hA7
                obtain rfl : x1 = x5 := Option.some.inj (hx1.symm.trans hx5)
                exact ⟨_, rfl, Ext.refl _, ⟨ad7, rfl, hA7⟩⟩
              refine ⟨fun _ => ⟨fun f31 w32 hf31 xt32 hp31 => ?_, by rintro _ _ _ x_ ⟨ad3, e_, hA3⟩; exact ⟨ad3, e_, hA3.lift (Up.ext x_)⟩⟩, ?_⟩
              ·
                have H35 := H1.ext xt32
                have s50 : f31 27 = .bool (decide (j < (fi.length : Int))) := hp31 20 rfl rfl
                obtain ⟨ad8, s51, hA8⟩ : ∃ (ad8 : Addr), f31 37 = .pointer (some ad8) ∧ At (MS M [box bb0 #[.slice a_fv n_fv c_fv, .slice a_fi fi.length c_fi, .slice a_fo n_fo c_fo] 66, imm (.slice a_fi fi.length c_fi) fi]) w32 ad8 x1 := hp31 30 rfl rfl
                have H36 := H35.put (it := atI ad8 x1) rfl hA8
                refine gy rfl rfl s50 b3 (fa fl102_0 rfl s51 ?_)
                exact ⟨_, rfl, Ext.refl _, ⟨ad8, rfl, (by assumption)⟩⟩
              refine ⟨fun _ => ⟨fun f32 w33 hf32 xt33 hp32 => ?_, fun _ _ _ _ h => h⟩, ?_⟩
              ·
                have H37 := H1.ext xt33
                have s52 : f32 27 = .bool (decide (j < (fi.length : Int))) := hp32 20 rfl rfl
                obtain ⟨ad9, s53, hA9⟩ : ∃ (ad9 : Addr), f32 38 = .pointer (some ((ad9).add 0)) ∧ At (MS M [box bb0 #[.slice a_fv n_fv c_fv, .slice a_fi fi.length c_fi, .slice a_fo n_fo c_fo] 66, imm (.slice a_fi fi.length c_fi) fi]) w33 ad9 x1 := hp32 31 rfl rfl
                have H38 := H37.put (it := atI ad9 x1) rfl hA9
                refine gy rfl rfl s52 b3 (ldI ((H38.atv 0 rfl)).fst.w ty3 rfl s53 ?_)
                intro rv5
                exact ⟨_, rfl, Ext.refl _, ⟨rfl, rv5⟩⟩
              refine ⟨fun _ => ⟨fun f33 w34 hf33 xt34 hp33 => ?_, fun _ _ _ _ h => h⟩, ?_⟩
              ·
                have H39 := H1.ext xt34
                have s54 : f33 27 = .bool (decide (j < (fi.length : Int))) := hp33 20 rfl rfl
                obtain ⟨s55, rv6⟩ : f33 33 = .int .i64 x0.1 ∧ I64 (x0.1) := hp33 26 rfl rfl
                obtain ⟨s56, rv7⟩ : f33 39 = .int .i64 x1.1 ∧ I64 (x1.1) := hp33 32 rfl rfl
                refine gy rfl rfl s54 b3 (eql rfl rfl s55 s56 ?_)
                exact ⟨_, rfl, Ext.refl _, rfl⟩
              refine ⟨fun _ => ⟨fun f34 w35 hf34 xt35 hp34 => ?_, fun _ _ _ _ h => h⟩, ?_⟩
              ·
                have H40 := H1.ext xt35
                have s57 : f34 27 = .bool (decide (j < (fi.length : Int))) := hp34 20 rfl rfl
                have s58 : f34 40 = .bool (decide (x0.1 = x1.1)) := hp34 33 rfl rfl
                refine pickT rfl rfl rfl s57 b3 s58 ?_
                exact ⟨_, rfl, Ext.refl _, rfl⟩
              refine ⟨fun _ => ⟨fun f35 w36 hf35 xt36 hp35 => ?_, fun _ _ _ _ h => h⟩, ?_⟩
              ·
                have H41 := H1.ext xt36
                have s59 : f35 41 = .bool (decide (x0.1 = x1.1)) := hp35 34 rfl rfl
                refine mv rfl s59 ?_
                exact ⟨_, rfl, Ext.refl _, rfl⟩
              refine ⟨fun _ => ⟨fun f36 w37 hf36 xt37 hp36 => ?_, fun _ _ _ _ h => h⟩, ?_⟩
              ·
                have H42 := H1.ext xt37
                have s60 : f36 42 = .bool (decide (x0.1 = x1.1)) := hp36 35 rfl rfl
                refine gn rfl rfl s60 b4 ?_
                exact ⟨_, rfl, Ext.refl _, rfl⟩
              refine ⟨fun _ => ⟨fun f37 w38 hf37 xt38 hp37 => ?_, fun _ _ _ _ h => h⟩, ?_⟩
              ·
                have H43 := H1.ext xt38
                have s61 : f37 42 = .bool (decide (x0.1 = x1.1)) := hp37 35 rfl rfl
                have s62 : f37 43 = undef := hp37 36 rfl rfl
                refine gn rfl rfl s61 b4 ?_
                exact ⟨_, rfl, Ext.refl _, rfl⟩
              refine ⟨fun _ => ⟨fun f38 w39 hf38 xt39 hp38 => ?_, fun _ _ _ _ h => h⟩, ?_⟩
              ·
                have H44 := H1.ext xt39
                have s63 : f38 42 = .bool (decide (x0.1 = x1.1)) := hp38 35 rfl rfl
                refine gn rfl rfl s63 b4 ?_
                exact ⟨_, rfl, Ext.refl _, rfl⟩
              refine ⟨fun _ => ⟨fun f39 w40 hf39 xt40 hp39 => ?_, fun _ _ _ _ h => h⟩, ?_⟩
              ·
                have H45 := H1.ext xt40
                have s64 : f39 42 = .bool (decide (x0.1 = x1.1)) := hp39 35 rfl rfl
                have s65 : f39 44 = undef := hp39 37 rfl rfl
                have s66 : f39 45 = undef := hp39 38 rfl rfl
                refine gn rfl rfl s64 b4 ?_
                exact ⟨_, rfl, Ext.refl _, rfl⟩
              refine ⟨fun _ => ⟨fun f40 w41 hf40 xt41 hp40 => ?_, fun _ _ _ _ h => h⟩, ?_⟩
              ·
                have H46 := H1.ext xt41
                have s67 : f40 42 = .bool (decide (x0.1 = x1.1)) := hp40 35 rfl rfl
                have s68 : f40 46 = undef := hp40 39 rfl rfl
                refine gn rfl rfl s67 b4 ?_
                exact ⟨_, rfl, Ext.refl _, rfl⟩
              refine ⟨fun _ => ⟨fun f41 w42 hf41 xt42 hp41 => ?_, fun _ _ _ _ h => h⟩, ?_⟩
              ·
                have H47 := H1.ext xt42
                have s69 : f41 42 = .bool (decide (x0.1 = x1.1)) := hp41 35 rfl rfl
                have s70 : f41 47 = undef := hp41 40 rfl rfl
                refine gn rfl rfl s69 b4 ?_
                exact ⟨_, rfl, Ext.refl _, rfl⟩
              refine ⟨fun _ => ⟨fun f42 w43 hf42 xt43 hp42 => ?_, fun _ _ _ _ h => h⟩, ?_⟩
              ·
                have H48 := H1.ext xt43
                have s71 : f42 42 = .bool (decide (x0.1 = x1.1)) := hp42 35 rfl rfl
                refine gn rfl rfl s71 b4 ?_
                exact ⟨_, rfl, Ext.refl _, rfl⟩
              refine ⟨fun _ => ⟨fun f43 w44 hf43 xt44 hp43 => ?_, fun _ _ _ _ h => h⟩, ?_⟩
              ·
                have H49 := H1.ext xt44
                have s72 : f43 42 = .bool (decide (x0.1 = x1.1)) := hp43 35 rfl rfl
                have s73 : f43 49 = undef := hp43 42 rfl rfl
                refine gn rfl rfl s72 b4 ?_
                exact ⟨_, rfl, Ext.refl _, rfl⟩
              refine ⟨fun _ => ⟨fun f44 w45 hf44 xt45 hp44 => ?_, fun _ _ _ _ h => h⟩, ?_⟩
              ·
                have H50 := H1.ext xt45
                have s74 : f44 42 = .bool (decide (x0.1 = x1.1)) := hp44 35 rfl rfl
                refine gn rfl rfl s74 b4 ?_
                exact ⟨_, rfl, Ext.refl _, rfl⟩
              refine ⟨fun _ => ⟨fun f45 w46 hf45 xt46 hp45 => ?_, fun _ _ _ _ h => h⟩, ?_⟩
              ·
                have H51 := H1.ext xt46
                have s75 : f45 42 = .bool (decide (x0.1 = x1.1)) := hp45 35 rfl rfl
                have s76 : f45 50 = undef := hp45 43 rfl rfl
                have s77 : f45 51 = undef := hp45 44 rfl rfl
                refine gn rfl rfl s75 b4 ?_
                exact ⟨_, rfl, Ext.refl _, rfl⟩
              refine ⟨fun _ => ⟨fun f46 w47 hf46 xt47 hp46 => ?_, fun _ _ _ _ h => h⟩, ?_⟩
              ·
                have H52 := H1.ext xt47
                have s78 : f46 42 = .bool (decide (x0.1 = x1.1)) := hp46 35 rfl rfl
                have s79 : f46 52 = undef := hp46 45 rfl rfl
                refine gn rfl rfl s78 b4 ?_
                exact ⟨_, rfl, Ext.refl _, rfl⟩
              refine ⟨fun _ => ⟨fun f47 w48 hf47 xt48 hp47 => ?_, fun _ _ _ _ h => h⟩, ?_⟩
              ·
                have H53 := H1.ext xt48
                have s80 : f47 42 = .bool (decide (x0.1 = x1.1)) := hp47 35 rfl rfl
                have s81 : f47 53 = undef := hp47 46 rfl rfl
                refine gn rfl rfl s80 b4 ?_
                exact ⟨_, rfl, Ext.refl _, rfl⟩
              exact DSteps.rest rfl _
            · intro f48 w49 hf48 xt49 hp48
              have H54 := H1.ext xt49
              have s82 : f48 42 = .bool (decide (x0.1 = x1.1)) := hp48 35 rfl
              have s83 : f48 48 = undef := hp48 41 rfl
              have s84 : f48 54 = undef := hp48 47 rfl
              refine k (gn rfl rfl s82 b4 (k (pickF rfl rfl rfl s82 b4 rfl (k (asg (v := .bool false) rfl rfl (z (nx (rt (r1 rfl rfl ?_)))))))))
              have e0 : (false : Bool) = ahB fi i j := by first | exact ahB_no (by omega) | exact ahB_ses hx0 hx1 (by assumption) | exact ahB_yes (by omega) (by omega) (by omega) (by omega) hx0 hx1 (by assumption)
              have ev_ := cg1 (fun (x_0 : Bool) => (.bool x_0 : Value)) e0
              exact ⟨ev_, H54.below⟩
        · -- decide (j < (fi.length : Int)) is False
          have p3 := of_decide_eq_false b3
          refine dr 48 [fun (v : Value) (w' : World) => v = .int .i64 i, fun (v : Value) (w' : World) => v = .bool (decide (0 ≤ i)), fun (v : Value) (w' : World) => v = .bool (decide (0 ≤ i)), fun (v : Value) (w' : World) => v = .int .i64 j, fun (v : Value) (w' : World) => v = .bool (decide (0 ≤ j)), fun (v : Value) (w' : World) => v = .bool (decide (0 ≤ j)), fun (v : Value) (w' : World) => v = .bool (decide (0 ≤ j)), fun (v : Value) (w' : World) => v = .int .i64 i, fun (v : Value) (w' : World) => v = .pointer (some ⟨bb0, 1, none⟩), fun (v : Value) (w' : World) => v = .slice a_fi fi.length c_fi, fun (v : Value) (w' : World) => v = .int .i64 (fi.length : Int), fun (v : Value) (w' : World) => v = .bool (decide (i < (fi.length : Int))), fun (v : Value) (w' : World) => v = .bool (decide (i < (fi.length : Int))), fun (v : Value) (w' : World) => v = .bool (decide (i < (fi.length : Int))), fun (v : Value) (w' : World) => v = .int .i64 j, fun (v : Value) (w' : World) => v = .pointer (some ⟨bb0, 1, none⟩), fun (v : Value) (w' : World) => v = .slice a_fi fi.length c_fi, fun (v : Value) (w' : World) => v = .int .i64 (fi.length : Int), fun (v : Value) (w' : World) => v = .bool (decide (j < (fi.length : Int))), fun (v : Value) (w' : World) => v = .bool (decide (j < (fi.length : Int))), fun (v : Value) (w' : World) => v = .bool (decide (j < (fi.length : Int))), fun (v : Value) (_ : World) => v = undef, fun (v : Value) (_ : World) => v = undef, fun (v : Value) (_ : World) => v = undef, fun (v : Value) (_ : World) => v = undef, fun (v : Value) (_ : World) => v = undef, fun (v : Value) (_ : World) => v = undef, fun (v : Value) (_ : World) => v = undef, fun (v : Value) (_ : World) => v = undef, fun (v : Value) (_ : World) => v = undef, fun (v : Value) (_ : World) => v = undef, fun (v : Value) (_ : World) => v = undef, fun (v : Value) (_ : World) => v = undef, fun (v : Value) (_ : World) => v = undef, fun (v : Value) (w' : World) => v = .bool false, fun (v : Value) (w' : World) => v = .bool false, fun (v : Value) (_ : World) => v = undef, fun (v : Value) (_ : World) => v = undef, fun (v : Value) (_ : World) => v = undef, fun (v : Value) (_ : World) => v = undef, fun (v : Value) (_ : World) => v = undef, fun (v : Value) (_ : World) => v = undef, fun (v : Value) (_ : World) => v = undef, fun (v : Value) (_ : World) => v = undef, fun (v : Value) (_ : World) => v = undef, fun (v : Value) (_ : World) => v = undef, fun (v : Value) (_ : World) => v = undef, fun (v : Value) (_ : World) => v = undef] rfl (by kernel_rfl) ?_ ?_
          ·
            refine ⟨fun _ => ⟨fun f0 w1 hf0 xt1 hp0 => ?_, fun _ _ _ _ h => h⟩, ?_⟩
            ·
              have H2 := H1.ext xt1
              refine mv rfl ((hf0 1 rfl).trans i1) ?_
              exact ⟨_, rfl, Ext.refl _, rfl⟩
            refine ⟨fun _ => ⟨fun f1 w2 hf1 xt2 hp1 => ?_, fun _ _ _ _ h => h⟩, ?_⟩
            ·
              have H3 := H1.ext xt2
              have s0 : f1 7 = .int .i64 i := hp1 0 rfl rfl
              refine geq rfl rfl s0 rfl ?_
              exact ⟨_, rfl, Ext.refl _, rfl⟩
            refine ⟨fun _ => ⟨fun f2 w3 hf2 xt3 hp2 => ?_, fun _ _ _ _ h => h⟩, ?_⟩
            ·
              have H4 := H1.ext xt3
              have s1 : f2 8 = .bool (decide (0 ≤ i)) := hp2 1 rfl rfl
              refine mv rfl s1 ?_
              exact ⟨_, rfl, Ext.refl _, rfl⟩
            refine ⟨fun _ => ⟨fun f3 w4 hf3 xt4 hp3 => ?_, fun _ _ _ _ h => h⟩, ?_⟩
            ·
              have H5 := H1.ext xt4
              have s2 : f3 9 = .bool (decide (0 ≤ i)) := hp3 2 rfl rfl
              refine gy rfl rfl s2 b0 (mv rfl ((hf3 2 rfl).trans i2) ?_)
              exact ⟨_, rfl, Ext.refl _, rfl⟩
            refine ⟨fun _ => ⟨fun f4 w5 hf4 xt5 hp4 => ?_, fun _ _ _ _ h => h⟩, ?_⟩
            ·
              have H6 := H1.ext xt5
              have s3 : f4 9 = .bool (decide (0 ≤ i)) := hp4 2 rfl rfl
              have s4 : f4 10 = .int .i64 j := hp4 3 rfl rfl
              refine gy rfl rfl s3 b0 (geq rfl rfl s4 rfl ?_)
              exact ⟨_, rfl, Ext.refl _, rfl⟩
            refine ⟨fun _ => ⟨fun f5 w6 hf5 xt6 hp5 => ?_, fun _ _ _ _ h => h⟩, ?_⟩
            ·
              have H7 := H1.ext xt6
              have s5 : f5 9 = .bool (decide (0 ≤ i)) := hp5 2 rfl rfl
              have s6 : f5 11 = .bool (decide (0 ≤ j)) := hp5 4 rfl rfl
              refine pickT rfl rfl rfl s5 b0 s6 ?_
              exact ⟨_, rfl, Ext.refl _, rfl⟩
            refine ⟨fun _ => ⟨fun f6 w7 hf6 xt7 hp6 => ?_, fun _ _ _ _ h => h⟩, ?_⟩
            ·
              have H8 := H1.ext xt7
              have s7 : f6 12 = .bool (decide (0 ≤ j)) := hp6 5 rfl rfl
              refine mv rfl s7 ?_
              exact ⟨_, rfl, Ext.refl _, rfl⟩
            refine ⟨fun _ => ⟨fun f7 w8 hf7 xt8 hp7 => ?_, fun _ _ _ _ h => h⟩, ?_⟩
            ·
              have H9 := H1.ext xt8
              have s8 : f7 13 = .bool (decide (0 ≤ j)) := hp7 6 rfl rfl
              refine gy rfl rfl s8 b1 (mv rfl ((hf7 1 rfl).trans i1) ?_)
              exact ⟨_, rfl, Ext.refl _, rfl⟩
            refine ⟨fun _ => ⟨fun f8 w9 hf8 xt9 hp8 => ?_, fun _ _ _ _ h => h⟩, ?_⟩
            ·
              have H10 := H1.ext xt9
              have s9 : f8 13 = .bool (decide (0 ≤ j)) := hp8 6 rfl rfl
              refine gy rfl rfl s9 b1 (fa fl66_1 rfl (hf8 3 rfl) ?_)
              exact ⟨_, rfl, Ext.refl _, rfl⟩
            refine ⟨fun _ => ⟨fun f9 w10 hf9 xt10 hp9 => ?_, fun _ _ _ _ h => h⟩, ?_⟩
            ·
              have H11 := H1.ext xt10
              have s10 : f9 13 = .bool (decide (0 ≤ j)) := hp9 6 rfl rfl
              have s11 : f9 15 = .pointer (some ⟨bb0, 1, none⟩) := hp9 8 rfl rfl
              refine gy rfl rfl s10 b1 (ldX H11 0 rfl ty64 rfl s11 (by decide) rfl ?_)
              exact ⟨_, rfl, Ext.refl _, rfl⟩
            refine ⟨fun _ => ⟨fun f10 w11 hf10 xt11 hp10 => ?_, fun _ _ _ _ h => h⟩, ?_⟩
            ·
              have H12 := H1.ext xt11
              have s12 : f10 13 = .bool (decide (0 ≤ j)) := hp10 6 rfl rfl
              have s13 : f10 16 = .slice a_fi fi.length c_fi := hp10 9 rfl rfl
              refine gy rfl rfl s12 b1 (lnS rfl s13 un64 ?_)
              exact ⟨_, rfl, Ext.refl _, rfl⟩
            refine ⟨fun _ => ⟨fun f11 w12 hf11 xt12 hp11 => ?_, fun _ _ _ _ h => h⟩, ?_⟩
            ·
              have H13 := H1.ext xt12
              have s14 : f11 13 = .bool (decide (0 ≤ j)) := hp11 6 rfl rfl
              have s15 : f11 14 = .int .i64 i := hp11 7 rfl rfl
              have s16 : f11 17 = .int .i64 (fi.length : Int) := hp11 10 rfl rfl
              refine gy rfl rfl s14 b1 (lss rfl rfl s15 s16 ?_)
              exact ⟨_, rfl, Ext.refl _, rfl⟩
            refine ⟨fun _ => ⟨fun f12 w13 hf12 xt13 hp12 => ?_, fun _ _ _ _ h => h⟩, ?_⟩
            ·
              have H14 := H1.ext xt13
              have s17 : f12 13 = .bool (decide (0 ≤ j)) := hp12 6 rfl rfl
              have s18 : f12 18 = .bool (decide (i < (fi.length : Int))) := hp12 11 rfl rfl
              refine pickT rfl rfl rfl s17 b1 s18 ?_
              exact ⟨_, rfl, Ext.refl _, rfl⟩
            refine ⟨fun _ => ⟨fun f13 w14 hf13 xt14 hp13 => ?_, fun _ _ _ _ h => h⟩, ?_⟩
            ·
              have H15 := H1.ext xt14
              have s19 : f13 19 = .bool (decide (i < (fi.length : Int))) := hp13 12 rfl rfl
              refine mv rfl s19 ?_
              exact ⟨_, rfl, Ext.refl _, rfl⟩
            refine ⟨fun _ => ⟨fun f14 w15 hf14 xt15 hp14 => ?_, fun _ _ _ _ h => h⟩, ?_⟩
            ·
              have H16 := H1.ext xt15
              have s20 : f14 20 = .bool (decide (i < (fi.length : Int))) := hp14 13 rfl rfl
              refine gy rfl rfl s20 b2 (mv rfl ((hf14 2 rfl).trans i2) ?_)
              exact ⟨_, rfl, Ext.refl _, rfl⟩
            refine ⟨fun _ => ⟨fun f15 w16 hf15 xt16 hp15 => ?_, fun _ _ _ _ h => h⟩, ?_⟩
            ·
              have H17 := H1.ext xt16
              have s21 : f15 20 = .bool (decide (i < (fi.length : Int))) := hp15 13 rfl rfl
              refine gy rfl rfl s21 b2 (fa fl66_1 rfl (hf15 3 rfl) ?_)
              exact ⟨_, rfl, Ext.refl _, rfl⟩
            refine ⟨fun _ => ⟨fun f16 w17 hf16 xt17 hp16 => ?_, fun _ _ _ _ h => h⟩, ?_⟩
            ·
              have H18 := H1.ext xt17
              have s22 : f16 20 = .bool (decide (i < (fi.length : Int))) := hp16 13 rfl rfl
              have s23 : f16 22 = .pointer (some ⟨bb0, 1, none⟩) := hp16 15 rfl rfl
              refine gy rfl rfl s22 b2 (ldX H18 0 rfl ty64 rfl s23 (by decide) rfl ?_)
              exact ⟨_, rfl, Ext.refl _, rfl⟩
            refine ⟨fun _ => ⟨fun f17 w18 hf17 xt18 hp17 => ?_, fun _ _ _ _ h => h⟩, ?_⟩
            ·
              have H19 := H1.ext xt18
              have s24 : f17 20 = .bool (decide (i < (fi.length : Int))) := hp17 13 rfl rfl
              have s25 : f17 23 = .slice a_fi fi.length c_fi := hp17 16 rfl rfl
              refine gy rfl rfl s24 b2 (lnS rfl s25 un64 ?_)
              exact ⟨_, rfl, Ext.refl _, rfl⟩
            refine ⟨fun _ => ⟨fun f18 w19 hf18 xt19 hp18 => ?_, fun _ _ _ _ h => h⟩, ?_⟩
            ·
              have H20 := H1.ext xt19
              have s26 : f18 20 = .bool (decide (i < (fi.length : Int))) := hp18 13 rfl rfl
              have s27 : f18 21 = .int .i64 j := hp18 14 rfl rfl
              have s28 : f18 24 = .int .i64 (fi.length : Int) := hp18 17 rfl rfl
              refine gy rfl rfl s26 b2 (lss rfl rfl s27 s28 ?_)
              exact ⟨_, rfl, Ext.refl _, rfl⟩
            refine ⟨fun _ => ⟨fun f19 w20 hf19 xt20 hp19 => ?_, fun _ _ _ _ h => h⟩, ?_⟩
            ·
              have H21 := H1.ext xt20
              have s29 : f19 20 = .bool (decide (i < (fi.length : Int))) := hp19 13 rfl rfl
              have s30 : f19 25 = .bool (decide (j < (fi.length : Int))) := hp19 18 rfl rfl
              refine pickT rfl rfl rfl s29 b2 s30 ?_
              exact ⟨_, rfl, Ext.refl _, rfl⟩
            refine ⟨fun _ => ⟨fun f20 w21 hf20 xt21 hp20 => ?_, fun _ _ _ _ h => h⟩, ?_⟩
            ·
              have H22 := H1.ext xt21
              have s31 : f20 26 = .bool (decide (j < (fi.length : Int))) := hp20 19 rfl rfl
              refine mv rfl s31 ?_
              exact ⟨_, rfl, Ext.refl _, rfl⟩
            refine ⟨fun _ => ⟨fun f21 w22 hf21 xt22 hp21 => ?_, fun _ _ _ _ h => h⟩, ?_⟩
            ·
              have H23 := H1.ext xt22
              have s32 : f21 27 = .bool (decide (j < (fi.length : Int))) := hp21 20 rfl rfl
              refine gn rfl rfl s32 b3 ?_
              exact ⟨_, rfl, Ext.refl _, rfl⟩
            refine ⟨fun _ => ⟨fun f22 w23 hf22 xt23 hp22 => ?_, fun _ _ _ _ h => h⟩, ?_⟩
            ·
              have H24 := H1.ext xt23
              have s33 : f22 27 = .bool (decide (j < (fi.length : Int))) := hp22 20 rfl rfl
              have s34 : f22 28 = undef := hp22 21 rfl rfl
              refine gn rfl rfl s33 b3 ?_
              exact ⟨_, rfl, Ext.refl _, rfl⟩
            refine ⟨fun _ => ⟨fun f23 w24 hf23 xt24 hp23 => ?_, fun _ _ _ _ h => h⟩, ?_⟩
            ·
              have H25 := H1.ext xt24
              have s35 : f23 27 = .bool (decide (j < (fi.length : Int))) := hp23 20 rfl rfl
              refine gn rfl rfl s35 b3 ?_
              exact ⟨_, rfl, Ext.refl _, rfl⟩
            refine ⟨fun _ => ⟨fun f24 w25 hf24 xt25 hp24 => ?_, fun _ _ _ _ h => h⟩, ?_⟩
            ·
              have H26 := H1.ext xt25
              have s36 : f24 27 = .bool (decide (j < (fi.length : Int))) := hp24 20 rfl rfl
              have s37 : f24 29 = undef := hp24 22 rfl rfl
              have s38 : f24 30 = undef := hp24 23 rfl rfl
              refine gn rfl rfl s36 b3 ?_
              exact ⟨_, rfl, Ext.refl _, rfl⟩
            refine ⟨fun _ => ⟨fun f25 w26 hf25 xt26 hp25 => ?_, fun _ _ _ _ h => h⟩, ?_⟩
            ·
              have H27 := H1.ext xt26
              have s39 : f25 27 = .bool (decide (j < (fi.length : Int))) := hp25 20 rfl rfl
              have s40 : f25 31 = undef := hp25 24 rfl rfl
              refine gn rfl rfl s39 b3 ?_
              exact ⟨_, rfl, Ext.refl _, rfl⟩
            refine ⟨fun _ => ⟨fun f26 w27 hf26 xt27 hp26 => ?_, fun _ _ _ _ h => h⟩, ?_⟩
            ·
              have H28 := H1.ext xt27
              have s41 : f26 27 = .bool (decide (j < (fi.length : Int))) := hp26 20 rfl rfl
              have s42 : f26 32 = undef := hp26 25 rfl rfl
              refine gn rfl rfl s41 b3 ?_
              exact ⟨_, rfl, Ext.refl _, rfl⟩
            refine ⟨fun _ => ⟨fun f27 w28 hf27 xt28 hp27 => ?_, fun _ _ _ _ h => h⟩, ?_⟩
            ·
              have H29 := H1.ext xt28
              have s43 : f27 27 = .bool (decide (j < (fi.length : Int))) := hp27 20 rfl rfl
              refine gn rfl rfl s43 b3 ?_
              exact ⟨_, rfl, Ext.refl _, rfl⟩
            refine ⟨fun _ => ⟨fun f28 w29 hf28 xt29 hp28 => ?_, fun _ _ _ _ h => h⟩, ?_⟩
            ·
              have H30 := H1.ext xt29
              have s44 : f28 27 = .bool (decide (j < (fi.length : Int))) := hp28 20 rfl rfl
              have s45 : f28 34 = undef := hp28 27 rfl rfl
              refine gn rfl rfl s44 b3 ?_
              exact ⟨_, rfl, Ext.refl _, rfl⟩
            refine ⟨fun _ => ⟨fun f29 w30 hf29 xt30 hp29 => ?_, fun _ _ _ _ h => h⟩, ?_⟩
            ·
              have H31 := H1.ext xt30
              have s46 : f29 27 = .bool (decide (j < (fi.length : Int))) := hp29 20 rfl rfl
              refine gn rfl rfl s46 b3 ?_
              exact ⟨_, rfl, Ext.refl _, rfl⟩
            refine ⟨fun _ => ⟨fun f30 w31 hf30 xt31 hp30 => ?_, fun _ _ _ _ h => h⟩, ?_⟩
            ·
              have H32 := H1.ext xt31
              have s47 : f30 27 = .bool (decide (j < (fi.length : Int))) := hp30 20 rfl rfl
              have s48 : f30 35 = undef := hp30 28 rfl rfl
              have s49 : f30 36 = undef := hp30 29 rfl rfl
              refine gn rfl rfl s47 b3 ?_
              exact ⟨_, rfl, Ext.refl _, rfl⟩
            refine ⟨fun _ => ⟨fun f31 w32 hf31 xt32 hp31 => ?_, fun _ _ _ _ h => h⟩, ?_⟩
            ·
              have H33 := H1.ext xt32
              have s50 : f31 27 = .bool (decide (j < (fi.length : Int))) := hp31 20 rfl rfl
              have s51 : f31 37 = undef := hp31 30 rfl rfl
              refine gn rfl rfl s50 b3 ?_
              exact ⟨_, rfl, Ext.refl _, rfl⟩
            refine ⟨fun _ => ⟨fun f32 w33 hf32 xt33 hp32 => ?_, fun _ _ _ _ h => h⟩, ?_⟩
            ·
              have H34 := H1.ext xt33
              have s52 : f32 27 = .bool (decide (j < (fi.length : Int))) := hp32 20 rfl rfl
              have s53 : f32 38 = undef := hp32 31 rfl rfl
              refine gn rfl rfl s52 b3 ?_
              exact ⟨_, rfl, Ext.refl _, rfl⟩
            refine ⟨fun _ => ⟨fun f33 w34 hf33 xt34 hp33 => ?_, fun _ _ _ _ h => h⟩, ?_⟩
            ·
              have H35 := H1.ext xt34
              have s54 : f33 27 = .bool (decide (j < (fi.length : Int))) := hp33 20 rfl rfl
              have s55 : f33 33 = undef := hp33 26 rfl rfl
              have s56 : f33 39 = undef := hp33 32 rfl rfl
              refine gn rfl rfl s54 b3 ?_
              exact ⟨_, rfl, Ext.refl _, rfl⟩
            refine ⟨fun _ => ⟨fun f34 w35 hf34 xt35 hp34 => ?_, fun _ _ _ _ h => h⟩, ?_⟩
            ·
              have H36 := H1.ext xt35
              have s57 : f34 27 = .bool (decide (j < (fi.length : Int))) := hp34 20 rfl rfl
              have s58 : f34 40 = undef := hp34 33 rfl rfl
              refine pickF rfl rfl rfl s57 b3 rfl ?_
              exact ⟨_, rfl, Ext.refl _, rfl⟩
            refine ⟨fun _ => ⟨fun f35 w36 hf35 xt36 hp35 => ?_, fun _ _ _ _ h => h⟩, ?_⟩
            ·
              have H37 := H1.ext xt36
              have s59 : f35 41 = .bool false := hp35 34 rfl rfl
              refine mv rfl s59 ?_
              exact ⟨_, rfl, Ext.refl _, rfl⟩
            refine ⟨fun _ => ⟨fun f36 w37 hf36 xt37 hp36 => ?_, fun _ _ _ _ h => h⟩, ?_⟩
            ·
              have H38 := H1.ext xt37
              have s60 : f36 42 = .bool false := hp36 35 rfl rfl
              refine gn rfl rfl s60 rfl ?_
              exact ⟨_, rfl, Ext.refl _, rfl⟩
            refine ⟨fun _ => ⟨fun f37 w38 hf37 xt38 hp37 => ?_, fun _ _ _ _ h => h⟩, ?_⟩
            ·
              have H39 := H1.ext xt38
              have s61 : f37 42 = .bool false := hp37 35 rfl rfl
              have s62 : f37 43 = undef := hp37 36 rfl rfl
              refine gn rfl rfl s61 rfl ?_
              exact ⟨_, rfl, Ext.refl _, rfl⟩
            refine ⟨fun _ => ⟨fun f38 w39 hf38 xt39 hp38 => ?_, fun _ _ _ _ h => h⟩, ?_⟩
            ·
              have H40 := H1.ext xt39
              have s63 : f38 42 = .bool false := hp38 35 rfl rfl
              refine gn rfl rfl s63 rfl ?_
              exact ⟨_, rfl, Ext.refl _, rfl⟩
            refine ⟨fun _ => ⟨fun f39 w40 hf39 xt40 hp39 => ?_, fun _ _ _ _ h => h⟩, ?_⟩
            ·
              have H41 := H1.ext xt40
              have s64 : f39 42 = .bool false := hp39 35 rfl rfl
              have s65 : f39 44 = undef := hp39 37 rfl rfl
              have s66 : f39 45 = undef := hp39 38 rfl rfl
              refine gn rfl rfl s64 rfl ?_
              exact ⟨_, rfl, Ext.refl _, rfl⟩
            refine ⟨fun _ => ⟨fun f40 w41 hf40 xt41 hp40 => ?_, fun _ _ _ _ h => h⟩, ?_⟩
            ·
              have H42 := H1.ext xt41
              have s67 : f40 42 = .bool false := hp40 35 rfl rfl
              have s68 : f40 46 = undef := hp40 39 rfl rfl
              refine gn rfl rfl s67 rfl ?_
              exact ⟨_, rfl, Ext.refl _, rfl⟩
            refine ⟨fun _ => ⟨fun f41 w42 hf41 xt42 hp41 => ?_, fun _ _ _ _ h => h⟩, ?_⟩
            ·
              have H43 := H1.ext xt42
              have s69 : f41 42 = .bool false := hp41 35 rfl rfl
              have s70 : f41 47 = undef := hp41 40 rfl rfl
              refine gn rfl rfl s69 rfl ?_
              exact ⟨_, rfl, Ext.refl _, rfl⟩
            refine ⟨fun _ => ⟨fun f42 w43 hf42 xt43 hp42 => ?_, fun _ _ _ _ h => h⟩, ?_⟩
            ·
              have H44 := H1.ext xt43
              have s71 : f42 42 = .bool false := hp42 35 rfl rfl
              refine gn rfl rfl s71 rfl ?_
              exact ⟨_, rfl, Ext.refl _, rfl⟩
            refine ⟨fun _ => ⟨fun f43 w44 hf43 xt44 hp43 => ?_, fun _ _ _ _ h => h⟩, ?_⟩
            ·
              have H45 := H1.ext xt44
              have s72 : f43 42 = .bool false := hp43 35 rfl rfl
              have s73 : f43 49 = undef := hp43 42 rfl rfl
              refine gn rfl rfl s72 rfl ?_
              exact ⟨_, rfl, Ext.refl _, rfl⟩
            refine ⟨fun _ => ⟨fun f44 w45 hf44 xt45 hp44 => ?_, fun _ _ _ _ h => h⟩, ?_⟩
            ·
              have H46 := H1.ext xt45
              have s74 : f44 42 = .bool false := hp44 35 rfl rfl
              refine gn rfl rfl s74 rfl ?_
              exact ⟨_, rfl, Ext.refl _, rfl⟩
            refine ⟨fun _ => ⟨fun f45 w46 hf45 xt46 hp45 => ?_, fun _ _ _ _ h => h⟩, ?_⟩
            ·
              have H47 := H1.ext xt46
              have s75 : f45 42 = .bool false := hp45 35 rfl rfl
              have s76 : f45 50 = undef := hp45 43 rfl rfl
              have s77 : f45 51 = undef := hp45 44 rfl rfl
              refine gn rfl rfl s75 rfl ?_
              exact ⟨_, rfl, Ext.refl _, rfl⟩
            refine ⟨fun _ => ⟨fun f46 w47 hf46 xt47 hp46 => ?_, fun _ _ _ _ h => h⟩, ?_⟩
            ·
              have H48 := H1.ext xt47
              have s78 : f46 42 = .bool false := hp46 35 rfl rfl
              have s79 : f46 52 = undef := hp46 45 rfl rfl
              refine gn rfl rfl s78 rfl ?_
              exact ⟨_, rfl, Ext.refl _, rfl⟩
            refine ⟨fun _ => ⟨fun f47 w48 hf47 xt48 hp47 => ?_, fun _ _ _ _ h => h⟩, ?_⟩
            ·
              have H49 := H1.ext xt48
              have s80 : f47 42 = .bool false := hp47 35 rfl rfl
              have s81 : f47 53 = undef := hp47 46 rfl rfl
              refine gn rfl rfl s80 rfl ?_
              exact ⟨_, rfl, Ext.refl _, rfl⟩
            exact DSteps.rest rfl _
          · intro f48 w49 hf48 xt49 hp48
            have H50 := H1.ext xt49
            have s82 : f48 42 = .bool false := hp48 35 rfl
            have s83 : f48 48 = undef := hp48 41 rfl
            have s84 : f48 54 = undef := hp48 47 rfl
            refine k (gn rfl rfl s82 rfl (k (pickF rfl rfl rfl s82 rfl rfl (k (asg (v := .bool false) rfl rfl (z (nx (rt (r1 rfl rfl ?_)))))))))
            have e0 : (false : Bool) = ahB fi i j := by first | exact ahB_no (by omega) | exact ahB_ses hx0 hx1 (by assumption) | exact ahB_yes (by omega) (by omega) (by omega) (by omega) hx0 hx1 (by assumption)
            have ev_ := cg1 (fun (x_0 : Bool) => (.bool x_0 : Value)) e0
            exact ⟨ev_, H50.below⟩
      · -- decide (i < (fi.length : Int)) is False
        have p2 := of_decide_eq_false b2
        refine dr 48 [fun (v : Value) (w' : World) => v = .int .i64 i, fun (v : Value) (w' : World) => v = .bool (decide (0 ≤ i)), fun (v : Value) (w' : World) => v = .bool (decide (0 ≤ i)), fun (v : Value) (w' : World) => v = .int .i64 j, fun (v : Value) (w' : World) => v = .bool (decide (0 ≤ j)), fun (v : Value) (w' : World) => v = .bool (decide (0 ≤ j)), fun (v : Value) (w' : World) => v = .bool (decide (0 ≤ j)), fun (v : Value) (w' : World) => v = .int .i64 i, fun (v : Value) (w' : World) => v = .pointer (some ⟨bb0, 1, none⟩), fun (v : Value) (w' : World) => v = .slice a_fi fi.length c_fi, fun (v : Value) (w' : World) => v = .int .i64 (fi.length : Int), fun (v : Value) (w' : World) => v = .bool (decide (i < (fi.length : Int))), fun (v : Value) (w' : World) => v = .bool (decide (i < (fi.length : Int))), fun (v : Value) (w' : World) => v = .bool (decide (i < (fi.length : Int))), fun (v : Value) (_ : World) => v = undef, fun (v : Value) (_ : World) => v = undef, fun (v : Value) (_ : World) => v = undef, fun (v : Value) (_ : World) => v = undef, fun (v : Value) (_ : World) => v = undef, fun (v : Value) (w' : World) => v = .bool false, fun (v : Value) (w' : World) => v = .bool false, fun (v : Value) (_ : World) => v = undef, fun (v : Value) (_ : World) => v = undef, fun (v : Value) (_ : World) => v = undef, fun (v : Value) (_ : World) => v = undef, fun (v : Value) (_ : World) => v = undef, fun (v : Value) (_ : World) => v = undef, fun (v : Value) (_ : World) => v = undef, fun (v : Value) (_ : World) => v = undef, fun (v : Value) (_ : World) => v = undef, fun (v : Value) (_ : World) => v = undef, fun (v : Value) (_ : World) => v = undef, fun (v : Value) (_ : World) => v = undef, fun (v : Value) (_ : World) => v = undef, fun (v : Value) (w' : World) => v = .bool false, fun (v : Value) (w' : World) => v = .bool false, fun (v : Value) (_ : World) => v = undef, fun (v : Value) (_ : World) => v = undef, fun (v : Value) (_ : World) => v = undef, fun (v : Value) (_ : World) => v = undef, fun (v : Value) (_ : World) => v = undef, fun (v : Value) (_ : World) => v = undef, fun (v : Value) (_ : World) => v = undef, fun (v : Value) (_ : World) => v = undef, fun (v : Value) (_ : World) => v = undef, fun (v : Value) (_ : World) => v = undef, fun (v : Value) (_ : World) => v = undef, fun (v : Value) (_ : World) => v = undef] rfl (by kernel_rfl) ?_ ?_
        ·
          refine ⟨fun _ => ⟨fun f0 w1 hf0 xt1 hp0 => ?_, fun _ _ _ _ h => h⟩, ?_⟩
          ·
            have H2 := H1.ext xt1
            refine mv rfl ((hf0 1 rfl).trans i1) ?_
            exact ⟨_, rfl, Ext.refl _, rfl⟩
          refine ⟨fun _ => ⟨fun f1 w2 hf1 xt2 hp1 => ?_, fun _ _ _ _ h => h⟩, ?_⟩
          ·
            have H3 := H1.ext xt2
            have s0 : f1 7 = .int .i64 i := hp1 0 rfl rfl
            refine geq rfl rfl s0 rfl ?_
            exact ⟨_, rfl, Ext.refl _, rfl⟩
          refine ⟨fun _ => ⟨fun f2 w3 hf2 xt3 hp2 => ?_, fun _ _ _ _ h => h⟩, ?_⟩
          ·
            have H4 := H1.ext xt3
            have s1 : f2 8 = .bool (decide (0 ≤ i)) := hp2 1 rfl rfl
            refine mv rfl s1 ?_
            exact ⟨_, rfl, Ext.refl _, rfl⟩
          refine ⟨fun _ => ⟨fun f3 w4 hf3 xt4 hp3 => ?_, fun _ _ _ _ h => h⟩, ?_⟩
          ·
            have H5 := H1.ext xt4
            have s2 : f3 9 = .bool (decide (0 ≤ i)) := hp3 2 rfl rfl
            refine gy rfl rfl s2 b0 (mv rfl ((hf3 2 rfl).trans i2) ?_)
            exact ⟨_, rfl, Ext.refl _, rfl⟩
          refine ⟨fun _ => ⟨fun f4 w5 hf4 xt5 hp4 => ?_, fun _ _ _ _ h => h⟩, ?_⟩
          ·
            have H6 := H1.ext xt5
            have s3 : f4 9 = .bool (decide (0 ≤ i)) := hp4 2 rfl rfl
            have s4 : f4 10 = .int .i64 j := hp4 3 rfl rfl
            refine gy rfl rfl s3 b0 (geq rfl rfl s4 rfl ?_)
            exact ⟨_, rfl, Ext.refl _, rfl⟩
          refine ⟨fun _ => ⟨fun f5 w6 hf5 xt6 hp5 => ?_, fun _ _ _ _ h => h⟩, ?_⟩
          ·
            have H7 := H1.ext xt6
            have s5 : f5 9 = .bool (decide (0 ≤ i)) := hp5 2 rfl rfl
            have s6 : f5 11 = .bool (decide (0 ≤ j)) := hp5 4 rfl rfl
            refine pickT rfl rfl rfl s5 b0 s6 ?_
            exact ⟨_, rfl, Ext.refl _, rfl⟩
          refine ⟨fun _ => ⟨fun f6 w7 hf6 xt7 hp6 => ?_, fun _ _ _ _ h => h⟩, ?_⟩
          ·
            have H8 := H1.ext xt7
            have s7 : f6 12 = .bool (decide (0 ≤ j)) := hp6 5 rfl rfl
            refine mv rfl s7 ?_
            exact ⟨_, rfl, Ext.refl _, rfl⟩
          refine ⟨fun _ => ⟨fun f7 w8 hf7 xt8 hp7 => ?_, fun _ _ _ _ h => h⟩, ?_⟩
          ·
            have H9 := H1.ext xt8
            have s8 : f7 13 = .bool (decide (0 ≤ j)) := hp7 6 rfl rfl
            refine gy rfl rfl s8 b1 (mv rfl ((hf7 1 rfl).trans i1) ?_)
            exact ⟨_, rfl, Ext.refl _, rfl⟩
          refine ⟨fun _ => ⟨fun f8 w9 hf8 xt9 hp8 => ?_, fun _ _ _ _ h => h⟩, ?_⟩
          ·
            have H10 := H1.ext xt9
            have s9 : f8 13 = .bool (decide (0 ≤ j)) := hp8 6 rfl rfl
            refine gy rfl rfl s9 b1 (fa fl66_1 rfl (hf8 3 rfl) ?_)
            exact ⟨_, rfl, Ext.refl _, rfl⟩
          refine ⟨fun _ => ⟨fun f9 w10 hf9 xt10 hp9 => ?_, fun _ _ _ _ h => h⟩, ?_⟩
          ·
            have H11 := H1.ext xt10
            have s10 : f9 13 = .bool (decide (0 ≤ j)) := hp9 6 rfl rfl
            have s11 : f9 15 = .pointer (some ⟨bb0, 1, none⟩) := hp9 8 rfl rfl
            refine gy rfl rfl s10 b1 (ldX H11 0 rfl ty64 rfl s11 (by decide) rfl ?_)
            exact ⟨_, rfl, Ext.refl _, rfl⟩
          refine ⟨fun _ => ⟨fun f10 w11 hf10 xt11 hp10 => ?_, fun _ _ _ _ h => h⟩, ?_⟩
          ·
            have H12 := H1.ext xt11
            have s12 : f10 13 = .bool (decide (0 ≤ j)) := hp10 6 rfl rfl
            have s13 : f10 16 = .slice a_fi fi.length c_fi := hp10 9 rfl rfl
            refine gy rfl rfl s12 b1 (lnS rfl s13 un64 ?_)
            exact ⟨_, rfl, Ext.refl _, rfl⟩
          refine ⟨fun _ => ⟨fun f11 w12 hf11 xt12 hp11 => ?_, fun _ _ _ _ h => h⟩, ?_⟩
          ·
            have H13 := H1.ext xt12
            have s14 : f11 13 = .bool (decide (0 ≤ j)) := hp11 6 rfl rfl
            have s15 : f11 14 = .int .i64 i := hp11 7 rfl rfl
            have s16 : f11 17 = .int .i64 (fi.length : Int) := hp11 10 rfl rfl
            refine gy rfl rfl s14 b1 (lss rfl rfl s15 s16 ?_)
            exact ⟨_, rfl, Ext.refl _, rfl⟩
          refine ⟨fun _ => ⟨fun f12 w13 hf12 xt13 hp12 => ?_, fun _ _ _ _ h => h⟩, ?_⟩
          ·
            have H14 := H1.ext xt13
            have s17 : f12 13 = .bool (decide (0 ≤ j)) := hp12 6 rfl rfl
            have s18 : f12 18 = .bool (decide (i < (fi.length : Int))) := hp12 11 rfl rfl
            refine pickT rfl rfl rfl s17 b1 s18 ?_
            exact ⟨_, rfl, Ext.refl _, rfl⟩
          refine ⟨fun _ => ⟨fun f13 w14 hf13 xt14 hp13 => ?_, fun _ _ _ _ h => h⟩, ?_⟩
          ·
            have H15 := H1.ext xt14
            have s19 : f13 19 = .bool (decide (i < (fi.length : Int))) := hp13 12 rfl rfl
            refine mv rfl s19 ?_
            exact ⟨_, rfl, Ext.refl _, rfl⟩
          refine ⟨fun _ => ⟨fun f14 w15 hf14 xt15 hp14 => ?_, fun _ _ _ _ h => h⟩, ?_⟩
          ·
            have H16 := H1.ext xt15
            have s20 : f14 20 = .bool (decide (i < (fi.length : Int))) := hp14 13 rfl rfl
            refine gn rfl rfl s20 b2 ?_
            exact ⟨_, rfl, Ext.refl _, rfl⟩
          refine ⟨fun _ => ⟨fun f15 w16 hf15 xt16 hp15 => ?_, fun _ _ _ _ h => h⟩, ?_⟩
          ·
            have H17 := H1.ext xt16
            have s21 : f15 20 = .bool (decide (i < (fi.length : Int))) := hp15 13 rfl rfl
            refine gn rfl rfl s21 b2 ?_
            exact ⟨_, rfl, Ext.refl _, rfl⟩
          refine ⟨fun _ => ⟨fun f16 w17 hf16 xt17 hp16 => ?_, fun _ _ _ _ h => h⟩, ?_⟩
          ·
            have H18 := H1.ext xt17
            have s22 : f16 20 = .bool (decide (i < (fi.length : Int))) := hp16 13 rfl rfl
            have s23 : f16 22 = undef := hp16 15 rfl rfl
            refine gn rfl rfl s22 b2 ?_
            exact ⟨_, rfl, Ext.refl _, rfl⟩
          refine ⟨fun _ => ⟨fun f17 w18 hf17 xt18 hp17 => ?_, fun _ _ _ _ h => h⟩, ?_⟩
          ·
            have H19 := H1.ext xt18
            have s24 : f17 20 = .bool (decide (i < (fi.length : Int))) := hp17 13 rfl rfl
            have s25 : f17 23 = undef := hp17 16 rfl rfl
            refine gn rfl rfl s24 b2 ?_
            exact ⟨_, rfl, Ext.refl _, rfl⟩
          refine ⟨fun _ => ⟨fun f18 w19 hf18 xt19 hp18 => ?_, fun _ _ _ _ h => h⟩, ?_⟩
          ·
            have H20 := H1.ext xt19
            have s26 : f18 20 = .bool (decide (i < (fi.length : Int))) := hp18 13 rfl rfl
            have s27 : f18 21 = undef := hp18 14 rfl rfl
            have s28 : f18 24 = undef := hp18 17 rfl rfl
            refine gn rfl rfl s26 b2 ?_
            exact ⟨_, rfl, Ext.refl _, rfl⟩
          refine ⟨fun _ => ⟨fun f19 w20 hf19 xt20 hp19 => ?_, fun _ _ _ _ h => h⟩, ?_⟩
          ·
            have H21 := H1.ext xt20
            have s29 : f19 20 = .bool (decide (i < (fi.length : Int))) := hp19 13 rfl rfl
            have s30 : f19 25 = undef := hp19 18 rfl rfl
            refine pickF rfl rfl rfl s29 b2 rfl ?_
            exact ⟨_, rfl, Ext.refl _, rfl⟩
          refine ⟨fun _ => ⟨fun f20 w21 hf20 xt21 hp20 => ?_, fun _ _ _ _ h => h⟩, ?_⟩
          ·
            have H22 := H1.ext xt21
            have s31 : f20 26 = .bool false := hp20 19 rfl rfl
            refine mv rfl s31 ?_
            exact ⟨_, rfl, Ext.refl _, rfl⟩
          refine ⟨fun _ => ⟨fun f21 w22 hf21 xt22 hp21 => ?_, fun _ _ _ _ h => h⟩, ?_⟩
          ·
            have H23 := H1.ext xt22
            have s32 : f21 27 = .bool false := hp21 20 rfl rfl
            refine gn rfl rfl s32 rfl ?_
            exact ⟨_, rfl, Ext.refl _, rfl⟩
          refine ⟨fun _ => ⟨fun f22 w23 hf22 xt23 hp22 => ?_, fun _ _ _ _ h => h⟩, ?_⟩
          ·
            have H24 := H1.ext xt23
            have s33 : f22 27 = .bool false := hp22 20 rfl rfl
            have s34 : f22 28 = undef := hp22 21 rfl rfl
            refine gn rfl rfl s33 rfl ?_
            exact ⟨_, rfl, Ext.refl _, rfl⟩
          refine ⟨fun _ => ⟨fun f23 w24 hf23 xt24 hp23 => ?_, fun _ _ _ _ h => h⟩, ?_⟩
          ·
            have H25 := H1.ext xt24
            have s35 : f23 27 = .bool false := hp23 20 rfl rfl
            refine gn rfl rfl s35 rfl ?_
            exact ⟨_, rfl, Ext.refl _, rfl⟩
          refine ⟨fun _ => ⟨fun f24 w25 hf24 xt25 hp24 => ?_, fun _ _ _ _ h => h⟩, ?_⟩
          ·
            have H26 := H1.ext xt25
            have s36 : f24 27 = .bool false := hp24 20 rfl rfl
            have s37 : f24 29 = undef := hp24 22 rfl rfl
            have s38 : f24 30 = undef := hp24 23 rfl rfl
            refine gn rfl rfl s36 rfl ?_
            exact ⟨_, rfl, Ext.refl _, rfl⟩
          refine ⟨fun _ => ⟨fun f25 w26 hf25 xt26 hp25 => ?_, fun _ _ _ _ h => h⟩, ?_⟩
          ·
            have H27 := H1.ext xt26
            have s39 : f25 27 = .bool false := hp25 20 rfl rfl
            have s40 : f25 31 = undef := hp25 24 rfl rfl
            refine gn rfl rfl s39 rfl ?_
            exact ⟨_, rfl, Ext.refl _, rfl⟩
          refine ⟨fun _ => ⟨fun f26 w27 hf26 xt27 hp26 => ?_, fun _ _ _ _ h => h⟩, ?_⟩
          ·
            have H28 := H1.ext xt27
            have s41 : f26 27 = .bool false := hp26 20 rfl rfl
            have s42 : f26 32 = undef := hp26 25 rfl rfl
            refine gn rfl rfl s41 rfl ?_
            exact ⟨_, rfl, Ext.refl _, rfl⟩
          refine ⟨fun _ => ⟨fun f27 w28 hf27 xt28 hp27 => ?_, fun _ _ _ _ h => h⟩, ?_⟩
          ·
            have H29 := H1.ext xt28
            have s43 : f27 27 = .bool false := hp27 20 rfl rfl
            refine gn rfl rfl s43 rfl ?_
            exact ⟨_, rfl, Ext.refl _, rfl⟩
          refine ⟨fun _ => ⟨fun f28 w29 hf28 xt29 hp28 => ?_, fun _ _ _ _ h => h⟩, ?_⟩
          ·
            have H30 := H1.ext xt29
            have s44 : f28 27 = .bool false := hp28 20 rfl rfl
            have s45 : f28 34 = undef := hp28 27 rfl rfl
            refine gn rfl rfl s44 rfl ?_
            exact ⟨_, rfl, Ext.refl _, rfl⟩
          refine ⟨fun _ => ⟨fun f29 w30 hf29 xt30 hp29 => ?_, fun _ _ _ _ h => h⟩, ?_⟩
          ·
            have H31 := H1.ext xt30
            have s46 : f29 27 = .bool false := hp29 20 rfl rfl
            refine gn rfl rfl s46 rfl ?_
            exact ⟨_, rfl, Ext.refl _, rfl⟩
          refine ⟨fun _ => ⟨fun f30 w31 hf30 xt31 hp30 => ?_, fun _ _ _ _ h => h⟩, ?_⟩
          ·
            have H32 := H1.ext xt31
            have s47 : f30 27 = .bool false := hp30 20 rfl rfl
            have s48 : f30 35 = undef := hp30 28 rfl rfl
            have s49 : f30 36 = undef := hp30 29 rfl rfl
            refine gn rfl rfl s47 rfl ?_
            exact ⟨_, rfl, Ext.refl _, rfl⟩
          refine ⟨fun _ => ⟨fun f31 w32 hf31 xt32 hp31 => ?_, fun _ _ _ _ h => h⟩, ?_⟩
          ·
            have H33 := H1.ext xt32
            have s50 : f31 27 = .bool false := hp31 20 rfl rfl
            have s51 : f31 37 = undef := hp31 30 rfl rfl
            refine gn rfl rfl s50 rfl ?_
            exact ⟨_, rfl, Ext.refl _, rfl⟩
          refine ⟨fun _ => ⟨fun f32 w33 hf32 xt33 hp32 => ?_, fun _ _ _ _ h => h⟩, ?_⟩
          ·
            have H34 := H1.ext xt33
            have s52 : f32 27 = .bool false := hp32 20 rfl rfl
            have s53 : f32 38 = undef := hp32 31 rfl rfl
            refine gn rfl rfl s52 rfl ?_
            exact ⟨_, rfl, Ext.refl _, rfl⟩
          refine ⟨fun _ => ⟨fun f33 w34 hf33 xt34 hp33 => ?_, fun _ _ _ _ h => h⟩, ?_⟩
          ·
            have H35 := H1.ext xt34
            have s54 : f33 27 = .bool false := hp33 20 rfl rfl
            have s55 : f33 33 = undef := hp33 26 rfl rfl
            have s56 : f33 39 = undef := hp33 32 rfl rfl
            refine gn rfl rfl s54 rfl ?_
            exact ⟨_, rfl, Ext.refl _, rfl⟩
          refine ⟨fun _ => ⟨fun f34 w35 hf34 xt35 hp34 => ?_, fun _ _ _ _ h => h⟩, ?_⟩
          ·
            have H36 := H1.ext xt35
            have s57 : f34 27 = .bool false := hp34 20 rfl rfl
            have s58 : f34 40 = undef := hp34 33 rfl rfl
            refine pickF rfl rfl rfl s57 rfl rfl ?_
            exact ⟨_, rfl, Ext.refl _, rfl⟩
          refine ⟨fun _ => ⟨fun f35 w36 hf35 xt36 hp35 => ?_, fun _ _ _ _ h => h⟩, ?_⟩
          ·
            have H37 := H1.ext xt36
            have s59 : f35 41 = .bool false := hp35 34 rfl rfl
            refine mv rfl s59 ?_
            exact ⟨_, rfl, Ext.refl _, rfl⟩
          refine ⟨fun _ => ⟨fun f36 w37 hf36 xt37 hp36 => ?_, fun _ _ _ _ h => h⟩, ?_⟩
          ·
            have H38 := H1.ext xt37
            have s60 : f36 42 = .bool false := hp36 35 rfl rfl
            refine gn rfl rfl s60 rfl ?_
            exact ⟨_, rfl, Ext.refl _, rfl⟩
          refine ⟨fun _ => ⟨fun f37 w38 hf37 xt38 hp37 => ?_, fun _ _ _ _ h => h⟩, ?_⟩
          ·
            have H39 := H1.ext xt38
            have s61 : f37 42 = .bool false := hp37 35 rfl rfl
            have s62 : f37 43 = undef := hp37 36 rfl rfl
            refine gn rfl rfl s61 rfl ?_
            exact ⟨_, rfl, Ext.refl _, rfl⟩
          refine ⟨fun _ => ⟨fun f38 w39 hf38 xt39 hp38 => ?_, fun _ _ _ _ h => h⟩, ?_⟩
          ·
            have H40 := H1.ext xt39
            have s63 : f38 42 = .bool false := hp38 35 rfl rfl
            refine gn rfl rfl s63 rfl ?_
            exact ⟨_, rfl, Ext.refl _, rfl⟩
          refine ⟨fun _ => ⟨fun f39 w40 hf39 xt40 hp39 => ?_, fun _ _ _ _ h => h⟩, ?_⟩
          ·
            have H41 := H1.ext xt40
            have s64 : f39 42 = .bool false := hp39 35 rfl rfl
            have s65 : f39 44 = undef := hp39 37 rfl rfl
            have s66 : f39 45 = undef := hp39 38 rfl rfl
            refine gn rfl rfl s64 rfl ?_
            exact ⟨_, rfl, Ext.refl _, rfl⟩
          refine ⟨fun _ => ⟨fun f40 w41 hf40 xt41 hp40 => ?_, fun _ _ _ _ h => h⟩, ?_⟩
          ·
            have H42 := H1.ext xt41
            have s67 : f40 42 = .bool false := hp40 35 rfl rfl
            have s68 : f40 46 = undef := hp40 39 rfl rfl
            refine gn rfl rfl s67 rfl ?_
            exact ⟨_, rfl, Ext.refl _, rfl⟩
          refine ⟨fun _ => ⟨fun f41 w42 hf41 xt42 hp41 => ?_, fun _ _ _ _ h => h⟩, ?_⟩
          ·
            have H43 := H1.ext xt42
            have s69 : f41 42 = .bool false := hp41 35 rfl rfl
            have s70 : f41 47 = undef := hp41 40 rfl rfl
            refine gn rfl rfl s69 rfl ?_
            exact ⟨_, rfl, Ext.refl _, rfl⟩
          refine ⟨fun _ => ⟨fun f42 w43 hf42 xt43 hp42 => ?_, fun _ _ _ _ h => h⟩, ?_⟩
          ·
            have H44 := H1.ext xt43
            have s71 : f42 42 = .bool false := hp42 35 rfl rfl
            refine gn rfl rfl s71 rfl ?_
            exact ⟨_, rfl, Ext.refl _, rfl⟩
          refine ⟨fun _ => ⟨fun f43 w44 hf43 xt44 hp43 => ?_, fun _ _ _ _ h => h⟩, ?_⟩
          ·
            have H45 := H1.ext xt44
            have s72 : f43 42 = .bool false := hp43 35 rfl rfl
            have s73 : f43 49 = undef := hp43 42 rfl rfl
            refine gn rfl rfl s72 rfl ?_
            exact ⟨_, rfl, Ext.refl _, rfl⟩
          refine ⟨fun _ => ⟨fun f44 w45 hf44 xt45 hp44 => ?_, fun _ _ _ _ h => h⟩, ?_⟩
          ·
            have H46 := H1.ext xt45
            have s74 : f44 42 = .bool false := hp44 35 rfl rfl
            refine gn rfl rfl s74 rfl ?_
            exact ⟨_, rfl, Ext.refl _, rfl⟩
          refine ⟨fun _ => ⟨fun f45 w46 hf45 xt46 hp45 => ?_, fun _ _ _ _ h => h⟩, ?_⟩
          ·
            have H47 := H1.ext xt46
            have s75 : f45 42 = .bool false := hp45 35 rfl rfl
            have s76 : f45 50 = undef := hp45 43 rfl rfl
            have s77 : f45 51 = undef := hp45 44 rfl rfl
            refine gn rfl rfl s75 rfl ?_
            exact ⟨_, rfl, Ext.refl _, rfl⟩
          refine ⟨fun _ => ⟨fun f46 w47 hf46 xt47 hp46 => ?_, fun _ _ _ _ h => h⟩, ?_⟩
          ·
            have H48 := H1.ext xt47
            have s78 : f46 42 = .bool false := hp46 35 rfl rfl
            have s79 : f46 52 = undef := hp46 45 rfl rfl
            refine gn rfl rfl s78 rfl ?_
            exact ⟨_, rfl, Ext.refl _, rfl⟩
          refine ⟨fun _ => ⟨fun f47 w48 hf47 xt48 hp47 => ?_, fun _ _ _ _ h => h⟩, ?_⟩
          ·
            have H49 := H1.ext xt48
            have s80 : f47 42 = .bool false := hp47 35 rfl rfl
            have s81 : f47 53 = undef := hp47 46 rfl rfl
            refine gn rfl rfl s80 rfl ?_
            exact ⟨_, rfl, Ext.refl _, rfl⟩
          exact DSteps.rest rfl _
        · intro f48 w49 hf48 xt49 hp48
          have H50 := H1.ext xt49
          have s82 : f48 42 = .bool false := hp48 35 rfl
          have s83 : f48 48 = undef := hp48 41 rfl
          have s84 : f48 54 = undef := hp48 47 rfl
          refine k (gn rfl rfl s82 rfl (k (pickF rfl rfl rfl s82 rfl rfl (k (asg (v := .bool false) rfl rfl (z (nx (rt (r1 rfl rfl ?_)))))))))
          have e0 : (false : Bool) = ahB fi i j := by first | exact ahB_no (by omega) | exact ahB_ses hx0 hx1 (by assumption) | exact ahB_yes (by omega) (by omega) (by omega) (by omega) hx0 hx1 (by assumption)
          have ev_ := cg1 (fun (x_0 : Bool) => (.bool x_0 : Value)) e0
          exact ⟨ev_, H50.below⟩
    · -- decide (0 ≤ j) is False
      have p1 := of_decide_eq_false b1
      refine dr 48 [fun (v : Value) (w' : World) => v = .int .i64 i, fun (v : Value) (w' : World) => v = .bool (decide (0 ≤ i)), fun (v : Value) (w' : World) => v = .bool (decide (0 ≤ i)), fun (v : Value) (w' : World) => v = .int .i64 j, fun (v : Value) (w' : World) => v = .bool (decide (0 ≤ j)), fun (v : Value) (w' : World) => v = .bool (decide (0 ≤ j)), fun (v : Value) (w' : World) => v = .bool (decide (0 ≤ j)), fun (v : Value) (_ : World) => v = undef, fun (v : Value) (_ : World) => v = undef, fun (v : Value) (_ : World) => v = undef, fun (v : Value) (_ : World) => v = undef, fun (v : Value) (_ : World) => v = undef, fun (v : Value) (w' : World) => v = .bool false, fun (v : Value) (w' : World) => v = .bool false, fun (v : Value) (_ : World) => v = undef, fun (v : Value) (_ : World) => v = undef, fun (v : Value) (_ : World) => v = undef, fun (v : Value) (_ : World) => v = undef, fun (v : Value) (_ : World) => v = undef, fun (v : Value) (w' : World) => v = .bool false, fun (v : Value) (w' : World) => v = .bool false, fun (v : Value) (_ : World) => v = undef, fun (v : Value) (_ : World) => v = undef, fun (v : Value) (_ : World) => v = undef, fun (v : Value) (_ : World) => v = undef, fun (v : Value) (_ : World) => v = undef, fun (v : Value) (_ : World) => v = undef, fun (v : Value) (_ : World) => v = undef, fun (v : Value) (_ : World) => v = undef, fun (v : Value) (_ : World) => v = undef, fun (v : Value) (_ : World) => v = undef, fun (v : Value) (_ : World) => v = undef, fun (v : Value) (_ : World) => v = undef, fun (v : Value) (_ : World) => v = undef, fun (v : Value) (w' : World) => v = .bool false, fun (v : Value) (w' : World) => v = .bool false, fun (v : Value) (_ : World) => v = undef, fun (v : Value) (_ : World) => v = undef, fun (v : Value) (_ : World) => v = undef, fun (v : Value) (_ : World) => v = undef, fun (v : Value) (_ : World) => v = undef, fun (v : Value) (_ : World) => v = undef, fun (v : Value) (_ : World) => v = undef, fun (v : Value) (_ : World) => v = undef, fun (v : Value) (_ : World) => v = undef, fun (v : Value) (_ : World) => v = undef, fun (v : Value) (_ : World) => v = undef, fun (v : Value) (_ : World) => v = undef] rfl (by kernel_rfl) ?_ ?_
      ·
        refine ⟨fun _ => ⟨fun f0 w1 hf0 xt1 hp0 => ?_, fun _ _ _ _ h => h⟩, ?_⟩
        ·
          have H2 := H1.ext xt1
          refine mv rfl ((hf0 1 rfl).trans i1) ?_
          exact ⟨_, rfl, Ext.refl _, rfl⟩
        refine ⟨fun _ => ⟨fun f1 w2 hf1 xt2 hp1 => ?_, fun _ _ _ _ h => h⟩, ?_⟩
        ·
          have H3 := H1.ext xt2
          have s0 : f1 7 = .int .i64 i := hp1 0 rfl rfl
          refine geq rfl rfl s0 rfl ?_
          exact ⟨_, rfl, Ext.refl _, rfl⟩
        refine ⟨fun _ => ⟨fun f2 w3 hf2 xt3 hp2 => ?_, fun _ _ _ _ h => h⟩, ?_⟩
        ·
          have H4 := H1.ext xt3
          have s1 : f2 8 = .bool (decide (0 ≤ i)) := hp2 1 rfl rfl
          refine mv rfl s1 ?_
          exact ⟨_, rfl, Ext.refl _, rfl⟩
        refine ⟨fun _ => ⟨fun f3 w4 hf3 xt4 hp3 => ?_, fun _ _ _ _ h => h⟩, ?_⟩
        ·
          have H5 := H1.ext xt4
          have s2 : f3 9 = .bool (decide (0 ≤ i)) := hp3 2 rfl rfl
          refine gy rfl rfl s2 b0 (mv rfl ((hf3 2 rfl).trans i2) ?_)
          exact ⟨_, rfl, Ext.refl _, rfl⟩
        refine ⟨fun _ => ⟨fun f4 w5 hf4 xt5 hp4 => ?_, fun _ _ _ _ h => h⟩, ?_⟩
        ·
          have H6 := H1.ext xt5
          have s3 : f4 9 = .bool (decide (0 ≤ i)) := hp4 2 rfl rfl
          have s4 : f4 10 = .int .i64 j := hp4 3 rfl rfl
          refine gy rfl rfl s3 b0 (geq rfl rfl s4 rfl ?_)
          exact ⟨_, rfl, Ext.refl _, rfl⟩
        refine ⟨fun _ => ⟨fun f5 w6 hf5 xt6 hp5 => ?_, fun _ _ _ _ h => h⟩, ?_⟩
        ·
          have H7 := H1.ext xt6
          have s5 : f5 9 = .bool (decide (0 ≤ i)) := hp5 2 rfl rfl
          have s6 : f5 11 = .bool (decide (0 ≤ j)) := hp5 4 rfl rfl
          refine pickT rfl rfl rfl s5 b0 s6 ?_
          exact ⟨_, rfl, Ext.refl _, rfl⟩
        refine ⟨fun _ => ⟨fun f6 w7 hf6 xt7 hp6 => ?_, fun _ _ _ _ h => h⟩, ?_⟩
        ·
          have H8 := H1.ext xt7
          have s7 : f6 12 = .bool (decide (0 ≤ j)) := hp6 5 rfl rfl
          refine mv rfl s7 ?_
          exact ⟨_, rfl, Ext.refl _, rfl⟩
        refine ⟨fun _ => ⟨fun f7 w8 hf7 xt8 hp7 => ?_, fun _ _ _ _ h => h⟩, ?_⟩
        ·
          have H9 := H1.ext xt8
          have s8 : f7 13 = .bool (decide (0 ≤ j)) := hp7 6 rfl rfl
          refine gn rfl rfl s8 b1 ?_
          exact ⟨_, rfl, Ext.refl _, rfl⟩
        refine ⟨fun _ => ⟨fun f8 w9 hf8 xt9 hp8 => ?_, fun _ _ _ _ h => h⟩, ?_⟩
        ·
          have H10 := H1.ext xt9
          have s9 : f8 13 = .bool (decide (0 ≤ j)) := hp8 6 rfl rfl
          refine gn rfl rfl s9 b1 ?_
          exact ⟨_, rfl, Ext.refl _, rfl⟩
        refine ⟨fun _ => ⟨fun f9 w10 hf9 xt10 hp9 => ?_, fun _ _ _ _ h => h⟩, ?_⟩
        ·
          have H11 := H1.ext xt10
          have s10 : f9 13 = .bool (decide (0 ≤ j)) := hp9 6 rfl rfl
          have s11 : f9 15 = undef := hp9 8 rfl rfl
          refine gn rfl rfl s10 b1 ?_
          exact ⟨_, rfl, Ext.refl _, rfl⟩
        refine ⟨fun _ => ⟨fun f10 w11 hf10 xt11 hp10 => ?_, fun _ _ _ _ h => h⟩, ?_⟩
        ·
          have H12 := H1.ext xt11
          have s12 : f10 13 = .bool (decide (0 ≤ j)) := hp10 6 rfl rfl
          have s13 : f10 16 = undef := hp10 9 rfl rfl
          refine gn rfl rfl s12 b1 ?_
          exact ⟨_, rfl, Ext.refl _, rfl⟩
        refine ⟨fun _ => ⟨fun f11 w12 hf11 xt12 hp11 => ?_, fun _ _ _ _ h => h⟩, ?_⟩
        ·
          have H13 := H1.ext xt12
          have s14 : f11 13 = .bool (decide (0 ≤ j)) := hp11 6 rfl rfl
          have s15 : f11 14 = undef := hp11 7 rfl rfl
          have s16 : f11 17 = undef := hp11 10 rfl rfl
          refine gn rfl rfl s14 b1 ?_
          exact ⟨_, rfl, Ext.refl _, rfl⟩
        refine ⟨fun _ => ⟨fun f12 w13 hf12 xt13 hp12 => ?_, fun _ _ _ _ h => h⟩, ?_⟩
        ·
          have H14 := H1.ext xt13
          have s17 : f12 13 = .bool (decide (0 ≤ j)) := hp12 6 rfl rfl
          have s18 : f12 18 = undef := hp12 11 rfl rfl
          refine pickF rfl rfl rfl s17 b1 rfl ?_
          exact ⟨_, rfl, Ext.refl _, rfl⟩
        refine ⟨fun _ => ⟨fun f13 w14 hf13 xt14 hp13 => ?_, fun _ _ _ _ h => h⟩, ?_⟩
        ·
          have H15 := H1.ext xt14
          have s19 : f13 19 = .bool false := hp13 12 rfl rfl
          refine mv rfl s19 ?_
          exact ⟨_, rfl, Ext.refl _, rfl⟩
        refine ⟨fun _ => ⟨fun f14 w15 hf14 xt15 hp14 => ?_, fun _ _ _ _ h => h⟩, ?_⟩
        ·
          have H16 := H1.ext xt15
          have s20 : f14 20 = .bool false := hp14 13 rfl rfl
          refine gn rfl rfl s20 rfl ?_
          exact ⟨_, rfl, Ext.refl _, rfl⟩
        refine ⟨fun _ => ⟨fun f15 w16 hf15 xt16 hp15 => ?_, fun _ _ _ _ h => h⟩, ?_⟩
        ·
          have H17 := H1.ext xt16
          have s21 : f15 20 = .bool false := hp15 13 rfl rfl
          refine gn rfl rfl s21 rfl ?_
          exact ⟨_, rfl, Ext.refl _, rfl⟩
        refine ⟨fun _ => ⟨fun f16 w17 hf16 xt17 hp16 => ?_, fun _ _ _ _ h => h⟩, ?_⟩
        ·
          have H18 := H1.ext xt17
          have s22 : f16 20 = .bool false := hp16 13 rfl rfl
          have s23 : f16 22 = undef := hp16 15 rfl rfl
          refine gn rfl rfl s22 rfl ?_
          exact ⟨_, rfl, Ext.refl _, rfl⟩
        refine ⟨fun _ => ⟨fun f17 w18 hf17 xt18 hp17 => ?_, fun _ _ _ _ h => h⟩, ?_⟩
        ·
          have H19 := H1.ext xt18
          have s24 : f17 20 = .bool false := hp17 13 rfl rfl
          have s25 : f17 23 = undef := hp17 16 rfl rfl
          refine gn rfl rfl s24 rfl ?_
          exact ⟨_, rfl, Ext.refl _, rfl⟩
        refine ⟨fun _ => ⟨fun f18 w19 hf18 xt19 hp18 => ?_, fun _ _ _ _ h => h⟩, ?_⟩
        ·
          have H20 := H1.ext xt19
          have s26 : f18 20 = .bool false := hp18 13 rfl rfl
          have s27 : f18 21 = undef := hp18 14 rfl rfl
          have s28 : f18 24 = undef := hp18 17 rfl rfl
          refine gn rfl rfl s26 rfl ?_
          exact ⟨_, rfl, Ext.refl _, rfl⟩
        refine ⟨fun _ => ⟨fun f19 w20 hf19 xt20 hp19 => ?_, fun _ _ _ _ h => h⟩, ?_⟩
        ·
          have H21 := H1.ext xt20
          have s29 : f19 20 = .bool false := hp19 13 rfl rfl
          have s30 : f19 25 = undef := hp19 18 rfl rfl
          refine pickF rfl rfl rfl s29 rfl rfl ?_
          exact ⟨_, rfl, Ext.refl _, rfl⟩
        refine ⟨fun _ => ⟨fun f20 w21 hf20 xt21 hp20 => ?_, fun _ _ _ _ h => h⟩, ?_⟩
        ·
          have H22 := H1.ext xt21
          have s31 : f20 26 = .bool false := hp20 19 rfl rfl
          refine mv rfl s31 ?_
          exact ⟨_, rfl, Ext.refl _, rfl⟩
        refine ⟨fun _ => ⟨fun f21 w22 hf21 xt22 hp21 => ?_, fun _ _ _ _ h => h⟩, ?_⟩
        ·
          have H23 := H1.ext xt22
          have s32 : f21 27 = .bool false := hp21 20 rfl rfl
          refine gn rfl rfl s32 rfl ?_
          exact ⟨_, rfl, Ext.refl _, rfl⟩
        refine ⟨fun _ => ⟨fun f22 w23 hf22 xt23 hp22 => ?_, fun _ _ _ _ h => h⟩, ?_⟩
        ·
          have H24 := H1.ext xt23
          have s33 : f22 27 = .bool false := hp22 20 rfl rfl
          have s34 : f22 28 = undef := hp22 21 rfl rfl
          refine gn rfl rfl s33 rfl ?_
          exact ⟨_, rfl, Ext.refl _, rfl⟩
        refine ⟨fun _ => ⟨fun f23 w24 hf23 xt24 hp23 => ?_, fun _ _ _ _ h => h⟩, ?_⟩
        ·
          have H25 := H1.ext xt24
          have s35 : f23 27 = .bool false := hp23 20 rfl rfl
          refine gn rfl rfl s35 rfl ?_
          exact ⟨_, rfl, Ext.refl _, rfl⟩
        refine ⟨fun _ => ⟨fun f24 w25 hf24 xt25 hp24 => ?_, fun _ _ _ _ h => h⟩, ?_⟩
        ·
          have H26 := H1.ext xt25
          have s36 : f24 27 = .bool false := hp24 20 rfl rfl
          have s37 : f24 29 = undef := hp24 22 rfl rfl
          have s38 : f24 30 = undef := hp24 23 rfl rfl
          refine gn rfl rfl s36 rfl ?_
          exact ⟨_, rfl, Ext.refl _, rfl⟩
        refine ⟨fun _ => ⟨fun f25 w26 hf25 xt26 hp25 => ?_, fun _ _ _ _ h => h⟩, ?_⟩
        ·
          have H27 := H1.ext xt26
          have s39 : f25 27 = .bool false := hp25 20 rfl rfl
          have s40 : f25 31 = undef := hp25 24 rfl rfl
          refine gn rfl rfl s39 rfl ?_
          exact ⟨_, rfl, Ext.refl _, rfl⟩
        refine ⟨fun _ => ⟨fun f26 w27 hf26 xt27 hp26 => ?_, fun _ _ _ _ h => h⟩, ?_⟩
        ·
          have H28 := H1.ext xt27
          have s41 : f26 27 = .bool false := hp26 20 rfl rfl
          have s42 : f26 32 = undef := hp26 25 rfl rfl
          refine gn rfl rfl s41 rfl ?_
          exact ⟨_, rfl, Ext.refl _, rfl⟩
        refine ⟨fun _ => ⟨fun f27 w28 hf27 xt28 hp27 => ?_, fun _ _ _ _ h => h⟩, ?_⟩
        ·
          have H29 := H1.ext xt28
          have s43 : f27 27 = .bool false := hp27 20 rfl rfl
          refine gn rfl rfl s43 rfl ?_
          exact ⟨_, rfl, Ext.refl _, rfl⟩
        refine ⟨fun _ => ⟨fun f28 w29 hf28 xt29 hp28 => ?_, fun _ _ _ _ h => h⟩, ?_⟩
        ·
          have H30 := H1.ext xt29
          have s44 : f28 27 = .bool false := hp28 20 rfl rfl
          have s45 : f28 34 = undef := hp28 27 rfl rfl
          refine gn rfl rfl s44 rfl ?_
          exact ⟨_, rfl, Ext.refl _, rfl⟩
        refine ⟨fun _ => ⟨fun f29 w30 hf29 xt30 hp29 => ?_, fun _ _ _ _ h => h⟩, ?_⟩
        ·
          have H31 := H1.ext xt30
          have s46 : f29 27 = .bool false := hp29 20 rfl rfl
          refine gn rfl rfl s46 rfl ?_
          exact ⟨_, rfl, Ext.refl _, rfl⟩
        refine ⟨fun _ => ⟨fun f30 w31 hf30 xt31 hp30 => ?_, fun _ _ _ _ h => h⟩, ?_⟩
        ·
          have H32 := H1.ext xt31
          have s47 : f30 27 = .bool false := hp30 20 rfl rfl
          have s48 : f30 35 = undef := hp30 28 rfl rfl
          have s49 : f30 36 = undef := hp30 29 rfl rfl
          refine gn rfl rfl s47 rfl ?_
          exact ⟨_, rfl, Ext.refl _, rfl⟩
        refine ⟨fun _ => ⟨fun f31 w32 hf31 xt32 hp31 => ?_, fun _ _ _ _ h => h⟩, ?_⟩
        ·
          have H33 := H1.ext xt32
          have s50 : f31 27 = .bool false := hp31 20 rfl rfl
          have s51 : f31 37 = undef := hp31 30 rfl rfl
          refine gn rfl rfl s50 rfl ?_
          exact ⟨_, rfl, Ext.refl _, rfl⟩
        refine ⟨fun _ => ⟨fun f32 w33 hf32 xt33 hp32 => ?_, fun _ _ _ _ h => h⟩, ?_⟩
        ·
          have H34 := H1.ext xt33
          have s52 : f32 27 = .bool false := hp32 20 rfl rfl
          have s53 : f32 38 = undef := hp32 31 rfl rfl
          refine gn rfl rfl s52 rfl ?_
          exact ⟨_, rfl, Ext.refl _, rfl⟩
        refine ⟨fun _ => ⟨fun f33 w34 hf33 xt34 hp33 => ?_, fun _ _ _ _ h => h⟩, ?_⟩
        ·
          have H35 := H1.ext xt34
          have s54 : f33 27 = .bool false := hp33 20 rfl rfl
          have s55 : f33 33 = undef := hp33 26 rfl rfl
          have s56 : f33 39 = undef := hp33 32 rfl rfl
          refine gn rfl rfl s54 rfl ?_
          exact ⟨_, rfl, Ext.refl _, rfl⟩
        refine ⟨fun _ => ⟨fun f34 w35 hf34 xt35 hp34 => ?_, fun _ _ _ _ h => h⟩, ?_⟩
        ·
          have H36 := H1.ext xt35
          have s57 : f34 27 = .bool false := hp34 20 rfl rfl
          have s58 : f34 40 = undef := hp34 33 rfl rfl
          refine pickF rfl rfl rfl s57 rfl rfl ?_
          exact ⟨_, rfl, Ext.refl _, rfl⟩
        refine ⟨fun _ => ⟨fun f35 w36 hf35 xt36 hp35 => ?_, fun _ _ _ _ h => h⟩, ?_⟩
        ·
          have H37 := H1.ext xt36
          have s59 : f35 41 = .bool false := hp35 34 rfl rfl
          refine mv rfl s59 ?_
          exact ⟨_, rfl, Ext.refl _, rfl⟩
        refine ⟨fun _ => ⟨fun f36 w37 hf36 xt37 hp36 => ?_, fun _ _ _ _ h => h⟩, ?_⟩
        ·
          have H38 := H1.ext xt37
          have s60 : f36 42 = .bool false := hp36 35 rfl rfl
          refine gn rfl rfl s60 rfl ?_
          exact ⟨_, rfl, Ext.refl _, rfl⟩
        refine ⟨fun _ => ⟨fun f37 w38 hf37 xt38 hp37 => ?_, fun _ _ _ _ h => h⟩, ?_⟩
        ·
          have H39 := H1.ext xt38
          have s61 : f37 42 = .bool false := hp37 35 rfl rfl
          have s62 : f37 43 = undef := hp37 36 rfl rfl
          refine gn rfl rfl s61 rfl ?_
          exact ⟨_, rfl, Ext.refl _, rfl⟩
        refine ⟨fun _ => ⟨fun f38 w39 hf38 xt39 hp38 => ?_, fun _ _ _ _ h => h⟩, ?_⟩
        ·
          have H40 := H1.ext xt39
          have s63 : f38 42 = .bool false := hp38 35 rfl rfl
          refine gn rfl rfl s63 rfl ?_
          exact ⟨_, rfl, Ext.refl _, rfl⟩
        refine ⟨fun _ => ⟨fun f39 w40 hf39 xt40 hp39 => ?_, fun _ _ _ _ h => h⟩, ?_⟩
        ·
          have H41 := H1.ext xt40
          have s64 : f39 42 = .bool false := hp39 35 rfl rfl
          have s65 : f39 44 = undef := hp39 37 rfl rfl
          have s66 : f39 45 = undef := hp39 38 rfl rfl
          refine gn rfl rfl s64 rfl ?_
          exact ⟨_, rfl, Ext.refl _, rfl⟩
        refine ⟨fun _ => ⟨fun f40 w41 hf40 xt41 hp40 => ?_, fun _ _ _ _ h => h⟩, ?_⟩
        ·
          have H42 := H1.ext xt41
          have s67 : f40 42 = .bool false := hp40 35 rfl rfl
          have s68 : f40 46 = undef := hp40 39 rfl rfl
          refine gn rfl rfl s67 rfl ?_
          exact ⟨_, rfl, Ext.refl _, rfl⟩
        refine ⟨fun _ => ⟨fun f41 w42 hf41 xt42 hp41 => ?_, fun _ _ _ _ h => h⟩, ?_⟩
        ·
          have H43 := H1.ext xt42
          have s69 : f41 42 = .bool false := hp41 35 rfl rfl
          have s70 : f41 47 = undef := hp41 40 rfl rfl
          refine gn rfl rfl s69 rfl ?_
          exact ⟨_, rfl, Ext.refl _, rfl⟩
        refine ⟨fun _ => ⟨fun f42 w43 hf42 xt43 hp42 => ?_, fun _ _ _ _ h => h⟩, ?_⟩
        ·
          have H44 := H1.ext xt43
          have s71 : f42 42 = .bool false := hp42 35 rfl rfl
          refine gn rfl rfl s71 rfl ?_
          exact ⟨_, rfl, Ext.refl _, rfl⟩
        refine ⟨fun _ => ⟨fun f43 w44 hf43 xt44 hp43 => ?_, fun _ _ _ _ h => h⟩, ?_⟩
        ·
          have H45 := H1.ext xt44
          have s72 : f43 42 = .bool false := hp43 35 rfl rfl
          have s73 : f43 49 = undef := hp43 42 rfl rfl
          refine gn rfl rfl s72 rfl ?_
          exact ⟨_, rfl, Ext.refl _, rfl⟩
        refine ⟨fun _ => ⟨fun f44 w45 hf44 xt45 hp44 => ?_, fun _ _ _ _ h => h⟩, ?_⟩
        ·
          have H46 := H1.ext xt45
          have s74 : f44 42 = .bool false := hp44 35 rfl rfl
          refine gn rfl rfl s74 rfl ?_
          exact ⟨_, rfl, Ext.refl _, rfl⟩
        refine ⟨fun _ => ⟨fun f45 w46 hf45 xt46 hp45 => ?_, fun _ _ _ _ h => h⟩, ?_⟩
        ·
          have H47 := H1.ext xt46
          have s75 : f45 42 = .bool false := hp45 35 rfl rfl
          have s76 : f45 50 = undef := hp45 43 rfl rfl
          have s77 : f45 51 = undef := hp45 44 rfl rfl
          refine gn rfl rfl s75 rfl ?_
          exact ⟨_, rfl, Ext.refl _, rfl⟩
        refine ⟨fun _ => ⟨fun f46 w47 hf46 xt47 hp46 => ?_, fun _ _ _ _ h => h⟩, ?_⟩
        ·
          have H48 := H1.ext xt47
          have s78 : f46 42 = .bool false := hp46 35 rfl rfl
          have s79 : f46 52 = undef := hp46 45 rfl rfl
          refine gn rfl rfl s78 rfl ?_
          exact ⟨_, rfl, Ext.refl _, rfl⟩
        refine ⟨fun _ => ⟨fun f47 w48 hf47 xt48 hp47 => ?_, fun _ _ _ _ h => h⟩, ?_⟩
        ·
          have H49 := H1.ext xt48
          have s80 : f47 42 = .bool false := hp47 35 rfl rfl
          have s81 : f47 53 = undef := hp47 46 rfl rfl
          refine gn rfl rfl s80 rfl ?_
          exact ⟨_, rfl, Ext.refl _, rfl⟩
        exact DSteps.rest rfl _
      · intro f48 w49 hf48 xt49 hp48
        have H50 := H1.ext xt49
        have s82 : f48 42 = .bool false := hp48 35 rfl
        have s83 : f48 48 = undef := hp48 41 rfl
        have s84 : f48 54 = undef := hp48 47 rfl
        refine k (gn rfl rfl s82 rfl (k (pickF rfl rfl rfl s82 rfl rfl (k (asg (v := .bool false) rfl rfl (z (nx (rt (r1 rfl rfl ?_)))))))))
        have e0 : (false : Bool) = ahB fi i j := by first | exact ahB_no (by omega) | exact ahB_ses hx0 hx1 (by assumption) | exact ahB_yes (by omega) (by omega) (by omega) (by omega) hx0 hx1 (by assumption)
        have ev_ := cg1 (fun (x_0 : Bool) => (.bool x_0 : Value)) e0
        exact ⟨ev_, H50.below⟩
  · -- decide (0 ≤ i) is False
    have p0 := of_decide_eq_false b0
    refine dr 48 [fun (v : Value) (w' : World) => v = .int .i64 i, fun (v : Value) (w' : World) => v = .bool (decide (0 ≤ i)), fun (v : Value) (w' : World) => v = .bool (decide (0 ≤ i)), fun (v : Value) (_ : World) => v = undef, fun (v : Value) (_ : World) => v = undef, fun (v : Value) (w' : World) => v = .bool false, fun (v : Value) (w' : World) => v = .bool false, fun (v : Value) (_ : World) => v = undef, fun (v : Value) (_ : World) => v = undef, fun (v : Value) (_ : World) => v = undef, fun (v : Value) (_ : World) => v = undef, fun (v : Value) (_ : World) => v = undef, fun (v : Value) (w' : World) => v = .bool false, fun (v : Value) (w' : World) => v = .bool false, fun (v : Value) (_ : World) => v = undef, fun (v : Value) (_ : World) => v = undef, fun (v : Value) (_ : World) => v = undef, fun (v : Value) (_ : World) => v = undef, fun (v : Value) (_ : World) => v = undef, fun (v : Value) (w' : World) => v = .bool false, fun (v : Value) (w' : World) => v = .bool false, fun (v : Value) (_ : World) => v = undef, fun (v : Value) (_ : World) => v = undef, fun (v : Value) (_ : World) => v = undef, fun (v : Value) (_ : World) => v = undef, fun (v : Value) (_ : World) => v = undef, fun (v : Value) (_ : World) => v = undef, fun (v : Value) (_ : World) => v = undef, fun (v : Value) (_ : World) => v = undef, fun (v : Value) (_ : World) => v = undef, fun (v : Value) (_ : World) => v = undef, fun (v : Value) (_ : World) => v = undef, fun (v : Value) (_ : World) => v = undef, fun (v : Value) (_ : World) => v = undef, fun (v : Value) (w' : World) => v = .bool false, fun (v : Value) (w' : World) => v = .bool false, fun (v : Value) (_ : World) => v = undef, fun (v : Value) (_ : World) => v = undef, fun (v : Value) (_ : World) => v = undef, fun (v : Value) (_ : World) => v = undef, fun (v : Value) (_ : World) => v = undef, fun (v : Value) (_ : World) => v = undef, fun (v : Value) (_ : World) => v = undef, fun (v : Value) (_ : World) => v = undef, fun (v : Value) (_ : World) => v = undef, fun (v : Value) (_ : World) => v = undef, fun (v : Value) (_ : World) => v = undef, fun (v : Value) (_ : World) => v = undef] rfl (by kernel_rfl) ?_ ?_
    ·
      refine ⟨fun _ => ⟨fun f0 w1 hf0 xt1 hp0 => ?_, fun _ _ _ _ h => h⟩, ?_⟩
      ·
        have H2 := H1.ext xt1
        refine mv rfl ((hf0 1 rfl).trans i1) ?_
        exact ⟨_, rfl, Ext.refl _, rfl⟩
      refine ⟨fun _ => ⟨fun f1 w2 hf1 xt2 hp1 => ?_, fun _ _ _ _ h => h⟩, ?_⟩
      ·
        have H3 := H1.ext xt2
        have s0 : f1 7 = .int .i64 i := hp1 0 rfl rfl
        refine geq rfl rfl s0 rfl ?_
        exact ⟨_, rfl, Ext.refl _, rfl⟩
      refine ⟨fun _ => ⟨fun f2 w3 hf2 xt3 hp2 => ?_, fun _ _ _ _ h => h⟩, ?_⟩
      ·
        have H4 := H1.ext xt3
        have s1 : f2 8 = .bool (decide (0 ≤ i)) := hp2 1 rfl rfl
        refine mv rfl s1 ?_
        exact ⟨_, rfl, Ext.refl _, rfl⟩
      refine ⟨fun _ => ⟨fun f3 w4 hf3 xt4 hp3 => ?_, fun _ _ _ _ h => h⟩, ?_⟩
      ·
        have H5 := H1.ext xt4
        have s2 : f3 9 = .bool (decide (0 ≤ i)) := hp3 2 rfl rfl
        refine gn rfl rfl s2 b0 ?_
        exact ⟨_, rfl, Ext.refl _, rfl⟩
      refine ⟨fun _ => ⟨fun f4 w5 hf4 xt5 hp4 => ?_, fun _ _ _ _ h => h⟩, ?_⟩
      ·
        have H6 := H1.ext xt5
        have s3 : f4 9 = .bool (decide (0 ≤ i)) := hp4 2 rfl rfl
        have s4 : f4 10 = undef := hp4 3 rfl rfl
        refine gn rfl rfl s3 b0 ?_
        exact ⟨_, rfl, Ext.refl _, rfl⟩
      refine ⟨fun _ => ⟨fun f5 w6 hf5 xt6 hp5 => ?_, fun _ _ _ _ h => h⟩, ?_⟩
      ·
        have H7 := H1.ext xt6
        have s5 : f5 9 = .bool (decide (0 ≤ i)) := hp5 2 rfl rfl
        have s6 : f5 11 = undef := hp5 4 rfl rfl
        refine pickF rfl rfl rfl s5 b0 rfl ?_
        exact ⟨_, rfl, Ext.refl _, rfl⟩
      refine ⟨fun _ => ⟨fun f6 w7 hf6 xt7 hp6 => ?_, fun _ _ _ _ h => h⟩, ?_⟩
      ·
        have H8 := H1.ext xt7
        have s7 : f6 12 = .bool false := hp6 5 rfl rfl
        refine mv rfl s7 ?_
        exact ⟨_, rfl, Ext.refl _, rfl⟩
      refine ⟨fun _ => ⟨fun f7 w8 hf7 xt8 hp7 => ?_, fun _ _ _ _ h => h⟩, ?_⟩
      ·
        have H9 := H1.ext xt8
        have s8 : f7 13 = .bool false := hp7 6 rfl rfl
        refine gn rfl rfl s8 rfl ?_
        exact ⟨_, rfl, Ext.refl _, rfl⟩
      refine ⟨fun _ => ⟨fun f8 w9 hf8 xt9 hp8 => ?_, fun _ _ _ _ h => h⟩, ?_⟩
      ·
        have H10 := H1.ext xt9
        have s9 : f8 13 = .bool false := hp8 6 rfl rfl
        refine gn rfl rfl s9 rfl ?_
        exact ⟨_, rfl, Ext.refl _, rfl⟩
      refine ⟨fun _ => ⟨fun f9 w10 hf9 xt10 hp9 => ?_, fun _ _ _ _ h => h⟩, ?_⟩
      ·
        have H11 := H1.ext xt10
        have s10 : f9 13 = .bool false := hp9 6 rfl rfl
        have s11 : f9 15 = undef := hp9 8 rfl rfl
        refine gn rfl rfl s10 rfl ?_
        exact ⟨_, rfl, Ext.refl _, rfl⟩
      refine ⟨fun _ => ⟨fun f10 w11 hf10 xt11 hp10 => ?_, fun _ _ _ _ h => h⟩, ?_⟩
      ·
        have H12 := H1.ext xt11
        have s12 : f10 13 = .bool false := hp10 6 rfl rfl
        have s13 : f10 16 = undef := hp10 9 rfl rfl
        refine gn rfl rfl s12 rfl ?_
        exact ⟨_, rfl, Ext.refl _, rfl⟩
      refine ⟨fun _ => ⟨fun f11 w12 hf11 xt12 hp11 => ?_, fun _ _ _ _ h => h⟩, ?_⟩
      ·
        have H13 := H1.ext xt12
        have s14 : f11 13 = .bool false := hp11 6 rfl rfl
        have s15 : f11 14 = undef := hp11 7 rfl rfl
        have s16 : f11 17 = undef := hp11 10 rfl rfl
        refine gn rfl rfl s14 rfl ?_
        exact ⟨_, rfl, Ext.refl _, rfl⟩
      refine ⟨fun _ => ⟨fun f12 w13 hf12 xt13 hp12 => ?_, fun _ _ _ _ h => h⟩, ?_⟩
      ·
        have H14 := H1.ext xt13
        have s17 : f12 13 = .bool false := hp12 6 rfl rfl
        have s18 : f12 18 = undef := hp12 11 rfl rfl
        refine pickF rfl rfl rfl s17 rfl rfl ?_
        exact ⟨_, rfl, Ext.refl _, rfl⟩
      refine ⟨fun _ => ⟨fun f13 w14 hf13 xt14 hp13 => ?_, fun _ _ _ _ h => h⟩, ?_⟩
      ·
        have H15 := H1.ext xt14
        have s19 : f13 19 = .bool false := hp13 12 rfl rfl
        refine mv rfl s19 ?_
        exact ⟨_, rfl, Ext.refl _, rfl⟩
      refine ⟨fun _ => ⟨fun f14 w15 hf14 xt15 hp14 => ?_, fun _ _ _ _ h => h⟩, ?_⟩
      ·
        have H16 := H1.ext xt15
        have s20 : f14 20 = .bool false := hp14 13 rfl rfl
        refine gn rfl rfl s20 rfl ?_
        exact ⟨_, rfl, Ext.refl _, rfl⟩
      refine ⟨fun _ => ⟨fun f15 w16 hf15 xt16 hp15 => ?_, fun _ _ _ _ h => h⟩, ?_⟩
      ·
        have H17 := H1.ext xt16
        have s21 : f15 20 = .bool false := hp15 13 rfl rfl
        refine gn rfl rfl s21 rfl ?_
        exact ⟨_, rfl, Ext.refl _, rfl⟩
      refine ⟨fun _ => ⟨fun f16 w17 hf16 xt17 hp16 => ?_, fun _ _ _ _ h => h⟩, ?_⟩
      ·
        have H18 := H1.ext xt17
        have s22 : f16 20 = .bool false := hp16 13 rfl rfl
        have s23 : f16 22 = undef := hp16 15 rfl rfl
        refine gn rfl rfl s22 rfl ?_
        exact ⟨_, rfl, Ext.refl _, rfl⟩
      refine ⟨fun _ => ⟨fun f17 w18 hf17 xt18 hp17 => ?_, fun _ _ _ _ h => h⟩, ?_⟩
      ·
        have H19 := H1.ext xt18
        have s24 : f17 20 = .bool false := hp17 13 rfl rfl
        have s25 : f17 23 = undef := hp17 16 rfl rfl
        refine gn rfl rfl s24 rfl ?_
        exact ⟨_, rfl, Ext.refl _, rfl⟩
      refine ⟨fun _ => ⟨fun f18 w19 hf18 xt19 hp18 => ?_, fun _ _ _ _ h => h⟩, ?_⟩
      ·
        have H20 := H1.ext xt19
        have s26 : f18 20 = .bool false := hp18 13 rfl rfl
        have s27 : f18 21 = undef := hp18 14 rfl rfl
        have s28 : f18 24 = undef := hp18 17 rfl rfl
        refine gn rfl rfl s26 rfl ?_
        exact ⟨_, rfl, Ext.refl _, rfl⟩
      refine ⟨fun _ => ⟨fun f19 w20 hf19 xt20 hp19 => ?_, fun _ _ _ _ h => h⟩, ?_⟩
      ·
        have H21 := H1.ext xt20
        have s29 : f19 20 = .bool false := hp19 13 rfl rfl
        have s30 : f19 25 = undef := hp19 18 rfl rfl
        refine pickF rfl rfl rfl s29 rfl rfl ?_
        exact ⟨_, rfl, Ext.refl _, rfl⟩
      refine ⟨fun _ => ⟨fun f20 w21 hf20 xt21 hp20 => ?_, fun _ _ _ _ h => h⟩, ?_⟩
      ·
        have H22 := H1.ext xt21
        have s31 : f20 26 = .bool false := hp20 19 rfl rfl
        refine mv rfl s31 ?_
        exact ⟨_, rfl, Ext.refl _, rfl⟩
      refine ⟨fun _ => ⟨fun f21 w22 hf21 xt22 hp21 => ?_, fun _ _ _ _ h => h⟩, ?_⟩
      ·
        have H23 := H1.ext xt22
        have s32 : f21 27 = .bool false := hp21 20 rfl rfl
        refine gn rfl rfl s32 rfl ?_
        exact ⟨_, rfl, Ext.refl _, rfl⟩
      refine ⟨fun _ => ⟨fun f22 w23 hf22 xt23 hp22 => ?_, fun _ _ _ _ h => h⟩, ?_⟩
      ·
        have H24 := H1.ext xt23
        have s33 : f22 27 = .bool false := hp22 20 rfl rfl
        have s34 : f22 28 = undef := hp22 21 rfl rfl
        refine gn rfl rfl s33 rfl ?_
        exact ⟨_, rfl, Ext.refl _, rfl⟩
      refine ⟨fun _ => ⟨fun f23 w24 hf23 xt24 hp23 => ?_, fun _ _ _ _ h => h⟩, ?_⟩
      ·
        have H25 := H1.ext xt24
        have s35 : f23 27 = .bool false := hp23 20 rfl rfl
        refine gn rfl rfl s35 rfl ?_
        exact ⟨_, rfl, Ext.refl _, rfl⟩
      refine ⟨fun _ => ⟨fun f24 w25 hf24 xt25 hp24 => ?_, fun _ _ _ _ h => h⟩, ?_⟩
      ·
        have H26 := H1.ext xt25
        have s36 : f24 27 = .bool false := hp24 20 rfl rfl
        have s37 : f24 29 = undef := hp24 22 rfl rfl
        have s38 : f24 30 = undef := hp24 23 rfl rfl
        refine gn rfl rfl s36 rfl ?_
        exact ⟨_, rfl, Ext.refl _, rfl⟩
      refine ⟨fun _ => ⟨fun f25 w26 hf25 xt26 hp25 => ?_, fun _ _ _ _ h => h⟩, ?_⟩
      ·
        have H27 := H1.ext xt26
        have s39 : f25 27 = .bool false := hp25 20 rfl rfl
        have s40 : f25 31 = undef := hp25 24 rfl rfl
        refine gn rfl rfl s39 rfl ?_
        exact ⟨_, rfl, Ext.refl _, rfl⟩
      refine ⟨fun _ => ⟨fun f26 w27 hf26 xt27 hp26 => ?_, fun _ _ _ _ h => h⟩, ?_⟩
      ·
        have H28 := H1.ext xt27
        have s41 : f26 27 = .bool false := hp26 20 rfl rfl
        have s42 : f26 32 = undef := hp26 25 rfl rfl
        refine gn rfl rfl s41 rfl ?_
        exact ⟨_, rfl, Ext.refl _, rfl⟩
      refine ⟨fun _ => ⟨fun f27 w28 hf27 xt28 hp27 => ?_, fun _ _ _ _ h => h⟩, ?_⟩
      ·
        have H29 := H1.ext xt28
        have s43 : f27 27 = .bool false := hp27 20 rfl rfl
        refine gn rfl rfl s43 rfl ?_
        exact ⟨_, rfl, Ext.refl _, rfl⟩
      refine ⟨fun _ => ⟨fun f28 w29 hf28 xt29 hp28 => ?_, fun _ _ _ _ h => h⟩, ?_⟩
      ·
        have H30 := H1.ext xt29
        have s44 : f28 27 = .bool false := hp28 20 rfl rfl
        have s45 : f28 34 = undef := hp28 27 rfl rfl
        refine gn rfl rfl s44 rfl ?_
        exact ⟨_, rfl, Ext.refl _, rfl⟩
      refine ⟨fun _ => ⟨fun f29 w30 hf29 xt30 hp29 => ?_, fun _ _ _ _ h => h⟩, ?_⟩
      ·
        have H31 := H1.ext xt30
        have s46 : f29 27 = .bool false := hp29 20 rfl rfl
        refine gn rfl rfl s46 rfl ?_
        exact ⟨_, rfl, Ext.refl _, rfl⟩
      refine ⟨fun _ => ⟨fun f30 w31 hf30 xt31 hp30 => ?_, fun _ _ _ _ h => h⟩, ?_⟩
      ·
        have H32 := H1.ext xt31
        have s47 : f30 27 = .bool false := hp30 20 rfl rfl
        have s48 : f30 35 = undef := hp30 28 rfl rfl
        have s49 : f30 36 = undef := hp30 29 rfl rfl
        refine gn rfl rfl s47 rfl ?_
        exact ⟨_, rfl, Ext.refl _, rfl⟩
      refine ⟨fun _ => ⟨fun f31 w32 hf31 xt32 hp31 => ?_, fun _ _ _ _ h => h⟩, ?_⟩
      ·
        have H33 := H1.ext xt32
        have s50 : f31 27 = .bool false := hp31 20 rfl rfl
        have s51 : f31 37 = undef := hp31 30 rfl rfl
        refine gn rfl rfl s50 rfl ?_
        exact ⟨_, rfl, Ext.refl _, rfl⟩
      refine ⟨fun _ => ⟨fun f32 w33 hf32 xt33 hp32 => ?_, fun _ _ _ _ h => h⟩, ?_⟩
      ·
        have H34 := H1.ext xt33
        have s52 : f32 27 = .bool false := hp32 20 rfl rfl
        have s53 : f32 38 = undef := hp32 31 rfl rfl
        refine gn rfl rfl s52 rfl ?_
        exact ⟨_, rfl, Ext.refl _, rfl⟩
      refine ⟨fun _ => ⟨fun f33 w34 hf33 xt34 hp33 => ?_, fun _ _ _ _ h => h⟩, ?_⟩
      ·
        have H35 := H1.ext xt34
        have s54 : f33 27 = .bool false := hp33 20 rfl rfl
        have s55 : f33 33 = undef := hp33 26 rfl rfl
        have s56 : f33 39 = undef := hp33 32 rfl rfl
        refine gn rfl rfl s54 rfl ?_
        exact ⟨_, rfl, Ext.refl _, rfl⟩
      refine ⟨fun _ => ⟨fun f34 w35 hf34 xt35 hp34 => ?_, fun _ _ _ _ h => h⟩, ?_⟩
      ·
        have H36 := H1.ext xt35
        have s57 : f34 27 = .bool false := hp34 20 rfl rfl
        have s58 : f34 40 = undef := hp34 33 rfl rfl
        refine pickF rfl rfl rfl s57 rfl rfl ?_
        exact ⟨_, rfl, Ext.refl _, rfl⟩
      refine ⟨fun _ => ⟨fun f35 w36 hf35 xt36 hp35 => ?_, fun _ _ _ _ h => h⟩, ?_⟩
      ·
        have H37 := H1.ext xt36
        have s59 : f35 41 = .bool false := hp35 34 rfl rfl
        refine mv rfl s59 ?_
        exact ⟨_, rfl, Ext.refl _, rfl⟩
      refine ⟨fun _ => ⟨fun f36 w37 hf36 xt37 hp36 => ?_, fun _ _ _ _ h => h⟩, ?_⟩
      ·
        have H38 := H1.ext xt37
        have s60 : f36 42 = .bool false := hp36 35 rfl rfl
        refine gn rfl rfl s60 rfl ?_
        exact ⟨_, rfl, Ext.refl _, rfl⟩
      refine ⟨fun _ => ⟨fun f37 w38 hf37 xt38 hp37 => ?_, fun _ _ _ _ h => h⟩, ?_⟩
      ·
        have H39 := H1.ext xt38
        have s61 : f37 42 = .bool false := hp37 35 rfl rfl
        have s62 : f37 43 = undef := hp37 36 rfl rfl
        refine gn rfl rfl s61 rfl ?_
        exact ⟨_, rfl, Ext.refl _, rfl⟩
      refine ⟨fun _ => ⟨fun f38 w39 hf38 xt39 hp38 => ?_, fun _ _ _ _ h => h⟩, ?_⟩
      ·
        have H40 := H1.ext xt39
        have s63 : f38 42 = .bool false := hp38 35 rfl rfl
        refine gn rfl rfl s63 rfl ?_
        exact ⟨_, rfl, Ext.refl _, rfl⟩
      refine ⟨fun _ => ⟨fun f39 w40 hf39 xt40 hp39 => ?_, fun _ _ _ _ h => h⟩, ?_⟩
      ·
        have H41 := H1.ext xt40
        have s64 : f39 42 = .bool false := hp39 35 rfl rfl
        have s65 : f39 44 = undef := hp39 37 rfl rfl
        have s66 : f39 45 = undef := hp39 38 rfl rfl
        refine gn rfl rfl s64 rfl ?_
        exact ⟨_, rfl, Ext.refl _, rfl⟩
      refine ⟨fun _ => ⟨fun f40 w41 hf40 xt41 hp40 => ?_, fun _ _ _ _ h => h⟩, ?_⟩
      ·
        have H42 := H1.ext xt41
        have s67 : f40 42 = .bool false := hp40 35 rfl rfl
        have s68 : f40 46 = undef := hp40 39 rfl rfl
        refine gn rfl rfl s67 rfl ?_
        exact ⟨_, rfl, Ext.refl _, rfl⟩
      refine ⟨fun _ => ⟨fun f41 w42 hf41 xt42 hp41 => ?_, fun _ _ _ _ h => h⟩, ?_⟩
      ·
        have H43 := H1.ext xt42
        have s69 : f41 42 = .bool false := hp41 35 rfl rfl
        have s70 : f41 47 = undef := hp41 40 rfl rfl
        refine gn rfl rfl s69 rfl ?_
        exact ⟨_, rfl, Ext.refl _, rfl⟩
      refine ⟨fun _ => ⟨fun f42 w43 hf42 xt43 hp42 => ?_, fun _ _ _ _ h => h⟩, ?_⟩
      ·
        have H44 := H1.ext xt43
        have s71 : f42 42 = .bool false := hp42 35 rfl rfl
        refine gn rfl rfl s71 rfl ?_
        exact ⟨_, rfl, Ext.refl _, rfl⟩
      refine ⟨fun _ => ⟨fun f43 w44 hf43 xt44 hp43 => ?_, fun _ _ _ _ h => h⟩, ?_⟩
      ·
        have H45 := H1.ext xt44
        have s72 : f43 42 = .bool false := hp43 35 rfl rfl
        have s73 : f43 49 = undef := hp43 42 rfl rfl
        refine gn rfl rfl s72 rfl ?_
        exact ⟨_, rfl, Ext.refl _, rfl⟩
      refine ⟨fun _ => ⟨fun f44 w45 hf44 xt45 hp44 => ?_, fun _ _ _ _ h => h⟩, ?_⟩
      ·
        have H46 := H1.ext xt45
        have s74 : f44 42 = .bool false := hp44 35 rfl rfl
        refine gn rfl rfl s74 rfl ?_
        exact ⟨_, rfl, Ext.refl _, rfl⟩
      refine ⟨fun _ => ⟨fun f45 w46 hf45 xt46 hp45 => ?_, fun _ _ _ _ h => h⟩, ?_⟩
      ·
        have H47 := H1.ext xt46
        have s75 : f45 42 = .bool false := hp45 35 rfl rfl
        have s76 : f45 50 = undef := hp45 43 rfl rfl
        have s77 : f45 51 = undef := hp45 44 rfl rfl
        refine gn rfl rfl s75 rfl ?_
        exact ⟨_, rfl, Ext.refl _, rfl⟩
      refine ⟨fun _ => ⟨fun f46 w47 hf46 xt47 hp46 => ?_, fun _ _ _ _ h => h⟩, ?_⟩
      ·
        have H48 := H1.ext xt47
        have s78 : f46 42 = .bool false := hp46 35 rfl rfl
        have s79 : f46 52 = undef := hp46 45 rfl rfl
        refine gn rfl rfl s78 rfl ?_
        exact ⟨_, rfl, Ext.refl _, rfl⟩
      refine ⟨fun _ => ⟨fun f47 w48 hf47 xt48 hp47 => ?_, fun _ _ _ _ h => h⟩, ?_⟩
      ·
        have H49 := H1.ext xt48
        have s80 : f47 42 = .bool false := hp47 35 rfl rfl
        have s81 : f47 53 = undef := hp47 46 rfl rfl
        refine gn rfl rfl s80 rfl ?_
        exact ⟨_, rfl, Ext.refl _, rfl⟩
      exact DSteps.rest rfl _
    · intro f48 w49 hf48 xt49 hp48
      have H50 := H1.ext xt49
      have s82 : f48 42 = .bool false := hp48 35 rfl
      have s83 : f48 48 = undef := hp48 41 rfl
      have s84 : f48 54 = undef := hp48 47 rfl
      refine k (gn rfl rfl s82 rfl (k (pickF rfl rfl rfl s82 rfl rfl (k (asg (v := .bool false) rfl rfl (z (nx (rt (r1 rfl rfl ?_)))))))))
      have e0 : (false : Bool) = ahB fi i j := by first | exact ahB_no (by omega) | exact ahB_ses hx0 hx1 (by assumption) | exact ahB_yes (by omega) (by omega) (by omega) (by omega) hx0 hx1 (by assumption)
      have ev_ := cg1 (fun (x_0 : Bool) => (.bool x_0 : Value)) e0
      exact ⟨ev_, H50.below⟩
set_option maxRecDepth 100000 in
set_option maxHeartbeats 1600000 in
theorem ref12_Past {M : Nat → Prop} {w : World} {a_fv : Option Addr} {n_fv c_fv : Nat} {a_fi : Option Addr} {c_fi : Nat} {fi : List (Int × Int × Bool × Int × Int)} {a_fo : Option Addr} {n_fo c_fo : Nat} {tt : Int} (hM : ∀ b, M b → b < w.heap.size) (h_fi : RV M w (.slice a_fi fi.length c_fi) fi) (h_tt : I64 tt) (hn_fi : fi.length ≤ 4096) : Calls Tryd.prog 93 #[.agg #[.slice a_fv n_fv c_fv, .slice a_fi fi.length c_fi, .slice a_fo n_fo c_fo], .int .i64 tt] w (Ret fun v w' => ∃ (a0 : Option Addr) (c0 : Nat), v = .slice a0 (pastB fi tt fi.length).length c0 ∧ Ext w w' ∧ OwnsG M 3 w (pastB fi tt fi.length) (.slice a0 (pastB fi tt fi.length).length c0) w') := by
  refine enter 28 Tryd.func93 rfl rfl rfl fun f0 ha => ?_
  have H := HI.start (M0 := M) (w := w) hM
  have H0 := H.put (it := imm (.slice a_fi fi.length c_fi) fi) rfl (by rw [MS_nil]; exact h_fi)
  have ln_fi := rv_len h_fi
  have i0 : f0 0 = .agg #[.slice a_fv n_fv c_fv, .slice a_fi fi.length c_fi, .slice a_fo n_fo c_fo] := ha 0 (by simp)
  have i1 : f0 1 = .int .i64 tt := ha 1 (by simp)
  refine sq (rg (k (bx H0 rfl i0 ?_)))
  intro bb0 w0 xt0 (H1 : HI M w w0 [box bb0 #[.slice a_fv n_fv c_fv, .slice a_fi fi.length c_fi, .slice a_fo n_fo c_fo] 66, imm (.slice a_fi fi.length c_fi) fi])
  refine k (asg (v := .slice none 0 0) rfl rfl (z (nx (sq (rg (k (asg (v := .slice none 0 0) rfl rfl (z (nx (sq (sq (rg (k (asg (v := .int .i64 0) rfl rfl (z (nx (bk ?_)))))))))))))))))
  have H2 := H1.nil_ Int 3
  refine lp (fun m f w' => ∃ (j : Nat) (xs : List Int) (a0 : Option Addr) (c0 : Nat), m = fi.length - j ∧ f 1 = .int .i64 tt ∧ f 2 = .pointer (some ⟨bb0, 0, none⟩) ∧ f 5 = .slice a0 xs.length c0 ∧ f 6 = .int .i64 (j : Int) ∧  HI M w w' [own w.heap.size 3 (.slice a0 xs.length c0) xs, box bb0 #[.slice a_fv n_fv c_fv, .slice a_fi fi.length c_fi, .slice a_fo n_fo c_fo] 66, imm (.slice a_fi fi.length c_fi) fi] ∧ (j ≤ fi.length) ∧ (xs = pastB fi tt j)) _ ⟨0, ([] : List Int), none, 0, rfl, i1, rfl, rfl, (ieq rfl (by first | rfl | omega | simp)), H2, (by first | assumption | omega | simp | (simp; omega)), (by rfl)⟩ ?_
  rintro _ f0 w1 ⟨j, xs, a0, c0, rfl, s0, s1, s2, s3, H3, hk, hs⟩
  refine sq (sq (rg (k (mv rfl s3 (k (fa fl66_1 rfl s1 (k (ldX H3 1 rfl ty64 rfl rfl (by decide) rfl (k (lnS rfl rfl un64 (k (lss rfl rfl rfl rfl (z (nx ?_))))))))))))))
  refine cd (b := decide ((j : Int) < (fi.length : Int))) rfl rfl (fun b0 => ?_) (fun b0 => ?_)
  ·
    have p0 := of_decide_eq_true b0
    refine sk (nx (sq (bk (sq (rg (k (mv rfl s3 (k (mv rfl s0 (k (eql rfl rfl rfl rfl (k (mv (v := .bool (decide ((j : Int) = tt))) rfl rfl ?_)))))))))))))
    rcases Bool.eq_false_or_eq_true (decide ((j : Int) = tt)) with b1 | b1
    · -- decide ((j : Int) = tt) is True
      have p1 := of_decide_eq_true b1
      refine k (gn rfl rfl rfl b1 (k (gn rfl rfl rfl b1 (k (gn rfl rfl rfl b1 (k (gn rfl rfl rfl b1 (k (pickT rfl rfl rfl rfl b1 rfl (z (nx (cdT rfl rfl rfl (rg (k (mv rfl s2 (k (mv rfl s3 (k (bs (xs := ([(j : Int)] : List Int)) (cells := #[.int .i64 (j : Int)]) (e := 3) H3 rfl (pbc rfl pb0) (fun _ => by kernel_rfl) ⟨[.int .i64 (j : Int)], [], rfl, ⟨rfl, (show I64 ((j : Int)) from (by unfold I64 at *; omega))⟩, rfl⟩ rfl (by unfold maxLen; omega) ?_)))))))))))))))))))
      intro g0 w2 xt1 (H4 : HI M w w2 [own w.heap.size 3 (.slice (some ⟨g0, 0, none⟩) 1 1) ([(j : Int)] : List Int), own w.heap.size 3 (.slice a0 xs.length c0) xs, box bb0 #[.slice a_fv n_fv c_fv, .slice a_fi fi.length c_fi, .slice a_fo n_fo c_fo] 66, imm (.slice a_fi fi.length c_fi) fi])
      refine k (ap H4 1 rfl rfl rfl rfl rfl rfl (own_src (H4.at_ 0 rfl)) un42 ty3 rfl (by have h_ := pastB_len fi tt j; rw [hs]; simp only [List.length_cons, List.length_nil]; omega) (by have h_ := pastB_len fi tt j; rw [hs]; simp only [List.length_cons, List.length_nil]; omega) ?_)
      intro a1 c1 w3 (H5 : HI M w w3 [own w.heap.size 3 (.slice (some ⟨g0, 0, none⟩) 1 1) ([(j : Int)] : List Int), own w.heap.size 3 (.slice a1 (xs ++ ([(j : Int)] : List Int)).length c1) (xs ++ ([(j : Int)] : List Int)), box bb0 #[.slice a_fv n_fv c_fv, .slice a_fi fi.length c_fi, .slice a_fo n_fo c_fo] 66, imm (.slice a_fi fi.length c_fi) fi])
      refine k (asg (v := .slice a1 (xs ++ ([(j : Int)] : List Int)).length c1) rfl rfl (z (inb_normal (nx (rg (k (mv rfl s3 (k (add rfl rfl rfl rfl (by unfold I64 at *; omega) (k (asg (v := .int .i64 ((j : Int) + 1)) rfl rfl (z ?_))))))))))))
      have H6 : HI M w w3 [own w.heap.size 3 (.slice a1 (xs ++ ([(j : Int)] : List Int)).length c1) (xs ++ ([(j : Int)] : List Int)), box bb0 #[.slice a_fv n_fv c_fv, .slice a_fi fi.length c_fi, .slice a_fo n_fo c_fo] 66, imm (.slice a_fi fi.length c_fi) fi] := H5.pickN [1, 2, 3] (by decide) rfl
      refine loopN _ ?_ ⟨(j + 1), (xs ++ ([(j : Int)] : List Int)), a1, c1, rfl, s0, s1, rfl, (ieq rfl (by first | rfl | omega | (push_cast; omega))), H6, (by first | assumption | omega | simp | (simp; omega)), (by rw [hs]; first | exact pastB_yes (by rw [b1]; rfl) | exact pastB_yes (by rw [b1, b2]; rfl) | exact pastB_no (by rw [b1, b2]; rfl))⟩
      omega
    · -- decide ((j : Int) = tt) is False
      have p1 := of_decide_eq_false b1
      refine k (gy rfl rfl rfl b1 (ldX H3 1 rfl ty66 rfl s1 (by decide) rfl (k (gy rfl rfl rfl b1 (mv rfl s3 (k (gy rfl rfl rfl b1 (mv rfl s0 (k (gy rfl rfl rfl b1 ?_))))))))))
      have cc0 := ref12_Ahead (fi := fi) (i := (j : Int)) (j := tt) (a_fv := a_fv) (n_fv := n_fv) (c_fv := c_fv) (a_fo := a_fo) (n_fo := n_fo) (c_fo := c_fo) (w := w1) H3.mb (H3.rv 2 rfl) (by unfold I64 at *; omega) (by unfold I64 at *; omega)
      refine ca go115 rfl (ec rfl (ec rfl (ec rfl e0))) cc0 ?_
      rintro _ w2 ⟨rfl, xt1⟩
      have H4 := H3.ext xt1
      refine k (pickF rfl rfl rfl rfl b1 rfl (z (nx ?_)))
      refine cd (b := ahB fi (j : Int) tt) rfl rfl (fun b2 => ?_) (fun b2 => ?_)
      ·
        refine rg (k (mv rfl s2 (k (mv rfl s3 (k (bs (xs := ([(j : Int)] : List Int)) (cells := #[.int .i64 (j : Int)]) (e := 3) H4 rfl (pbc rfl pb0) (fun _ => by kernel_rfl) ⟨[.int .i64 (j : Int)], [], rfl, ⟨rfl, (show I64 ((j : Int)) from (by unfold I64 at *; omega))⟩, rfl⟩ rfl (by unfold maxLen; omega) ?_))))))
        intro g0 w3 xt2 (H5 : HI M w w3 [own w.heap.size 3 (.slice (some ⟨g0, 0, none⟩) 1 1) ([(j : Int)] : List Int), own w.heap.size 3 (.slice a0 xs.length c0) xs, box bb0 #[.slice a_fv n_fv c_fv, .slice a_fi fi.length c_fi, .slice a_fo n_fo c_fo] 66, imm (.slice a_fi fi.length c_fi) fi])
        refine k (ap H5 1 rfl rfl rfl rfl rfl rfl (own_src (H5.at_ 0 rfl)) un42 ty3 rfl (by have h_ := pastB_len fi tt j; rw [hs]; simp only [List.length_cons, List.length_nil]; omega) (by have h_ := pastB_len fi tt j; rw [hs]; simp only [List.length_cons, List.length_nil]; omega) ?_)
        intro a1 c1 w4 (H6 : HI M w w4 [own w.heap.size 3 (.slice (some ⟨g0, 0, none⟩) 1 1) ([(j : Int)] : List Int), own w.heap.size 3 (.slice a1 (xs ++ ([(j : Int)] : List Int)).length c1) (xs ++ ([(j : Int)] : List Int)), box bb0 #[.slice a_fv n_fv c_fv, .slice a_fi fi.length c_fi, .slice a_fo n_fo c_fo] 66, imm (.slice a_fi fi.length c_fi) fi])
        refine k (asg (v := .slice a1 (xs ++ ([(j : Int)] : List Int)).length c1) rfl rfl (z (inb_normal (nx (rg (k (mv rfl s3 (k (add rfl rfl rfl rfl (by unfold I64 at *; omega) (k (asg (v := .int .i64 ((j : Int) + 1)) rfl rfl (z ?_))))))))))))
        have H7 : HI M w w4 [own w.heap.size 3 (.slice a1 (xs ++ ([(j : Int)] : List Int)).length c1) (xs ++ ([(j : Int)] : List Int)), box bb0 #[.slice a_fv n_fv c_fv, .slice a_fi fi.length c_fi, .slice a_fo n_fo c_fo] 66, imm (.slice a_fi fi.length c_fi) fi] := H6.pickN [1, 2, 3] (by decide) rfl
        refine loopN _ ?_ ⟨(j + 1), (xs ++ ([(j : Int)] : List Int)), a1, c1, rfl, s0, s1, rfl, (ieq rfl (by first | rfl | omega | (push_cast; omega))), H7, (by first | assumption | omega | simp | (simp; omega)), (by rw [hs]; first | exact pastB_yes (by rw [b1]; rfl) | exact pastB_yes (by rw [b1, b2]; rfl) | exact pastB_no (by rw [b1, b2]; rfl))⟩
        omega
      ·
        refine sk (inb_normal (nx (rg (k (mv rfl s3 (k (add rfl rfl rfl rfl (by unfold I64 at *; omega) (k (asg (v := .int .i64 ((j : Int) + 1)) rfl rfl (z ?_))))))))))
        refine loopN _ ?_ ⟨(j + 1), xs, a0, c0, rfl, s0, s1, s2, (ieq rfl (by first | rfl | omega | (push_cast; omega))), H4, (by first | assumption | omega | simp | (simp; omega)), (by rw [hs]; first | exact pastB_yes (by rw [b1]; rfl) | exact pastB_yes (by rw [b1, b2]; rfl) | exact pastB_no (by rw [b1, b2]; rfl))⟩
        omega
  ·
    have p0 := of_decide_eq_false b0
    refine ex (then_exit (loop_exit (inb_here (nx (sq (rg (k (mv rfl s2 (k (asg (v := .slice a0 xs.length c0) rfl rfl (z (nx (rt (r1 rfl rfl ?_))))))))))))))
    have e0 : (xs : List Int) = pastB fi tt fi.length := by rw [hs, show j = fi.length from by omega]
    have ev_ := cg1 (fun (x_0 : List Int) => (.slice a0 x_0.length c0 : Value)) e0
    exact ⟨a0, c0, ev_, H3.below, (congrArg (fun (x_ : List Int) => OwnsG _ _ _ x_ (.slice a0 x_.length c0) _) e0).mp (H3.ownsG_out 0 rfl)⟩
end Go.Proofs.YtmhopljngkgidaaDoor
namespace Go.Proofs.YtmhopljngkgidaaDoor
open Go.Ew Go.RowKit
set_option linter.unusedVariables false
set_option linter.unusedSimpArgs false
attribute [local irreducible] WL WC SO Code.wp wpList retQ Ret
attribute [local irreducible] bitB hasW inR hasR setR countW countR subR words newR listR orR firstW tab8
set_option maxRecDepth 100000 in
set_option maxHeartbeats 1600000 in
theorem mat_NewR {M : Nat → Prop} {w : World} {n : Int} (hM : ∀ b, M b → b < w.heap.size) (h_n : I64 n) (h0 : 0 ≤ n) (h4 : n ≤ 4096) : Calls Tryd.prog 61 #[.int .i64 n] w (Ret fun v w' => ∃ (a0 : Option Addr) (c0 : Nat) (ss : List SV), v = .tuple #[.agg #[.int .i64 n, .slice a0 n.toNat c0], .int .i64 0] ∧ Ext w w' ∧ OwnsR M 73 77 w ss (List.replicate n.toNat (newR n)) (.slice a0 n.toNat c0) w') := by
  refine enter 29 Tryd.func61 rfl rfl rfl fun f0 ha => ?_
  have H := HI.start (M0 := M) (w := w) hM
  have i0 : f0 0 = .int .i64 n := ha 0 (by simp)
  refine sq (rg (k (al H ty24 ?_)))
  intro bb0 w0 xt0 (H0 : HI M w w0 [box bb0 #[.int .i64 0, .slice none 0 0] 24])
  refine k (asg (v := .int .i64 0) rfl rfl (z (nx (sq (sq (rg (k (mv rfl i0 (k (lss rfl rfl rfl rfl (k (mv (v := .bool (decide (n < 0))) rfl rfl ?_))))))))))))
  have b0 : decide (n < 0) = false := decide_eq_false (by omega)
  refine k (gy rfl rfl rfl b0 (mv rfl i0 (k (gy rfl rfl rfl b0 (gtr rfl rfl rfl rfl (k (pickF rfl rfl rfl rfl b0 rfl (z (nx ?_)))))))))
  refine cd (b := decide (4096 < n)) rfl rfl (fun b1 => ?_) (fun b1 => ?_)
  · exact absurd (of_decide_eq_true b1) (by omega)
  refine sk (nx (sq (rg (k (mv rfl i0 (k ?_))))))
  have n0 : ((n.toNat : Nat) : Int) = n := Int.toNat_of_nonneg (by omega)
  refine mk (m := n.toNat) (zx := (⟨none, 0, 0⟩ : SV)) H0 rfl rfl (by rw [n0]; exact rfl) (by rw [n0]; exact rfl) un22 ty73 (fun _ _ => rfl) (by first | omega | (simp; omega)) (by first | omega | (simp; omega)) ?_
  intro g0 w1 xt1 (H1 : HI M w w1 [own w.heap.size 73 (.slice (some ⟨g0, 0, none⟩) n.toNat n.toNat) (List.replicate n.toNat (⟨none, 0, 0⟩ : SV)), box bb0 #[.int .i64 0, .slice none 0 0] 24])
  refine k (asg (v := .slice (some ⟨g0, 0, none⟩) n.toNat n.toNat) rfl rfl (z (nx (sq (sq (rg (k (mv (v := .slice (some ⟨g0, 0, none⟩) n.toNat n.toNat) rfl rfl (k (lnS rfl rfl un22 (k (mv (v := .int .i64 0) rfl rfl (z (nx (bk ?_)))))))))))))))
  refine lp (fun m f w' => ∃ (j : Nat) (ss : List SV), m = n.toNat - j ∧ f 0 = .int .i64 n ∧ f 2 = .pointer (some ⟨bb0, 0, none⟩) ∧ f 4 = .slice (some ⟨g0, 0, none⟩) n.toNat n.toNat ∧ f 16 = .int .i64 (n.toNat : Int) ∧ f 17 = .int .i64 (j : Int) ∧ HI M w w' ([own w.heap.size 73 (.slice (some ⟨g0, 0, none⟩) n.toNat n.toNat) (ss ++ List.replicate (n.toNat - j) (⟨none, 0, 0⟩ : SV)), box bb0 #[.int .i64 0, .slice none 0 0] 24] ++ rowItems w.heap.size 77 ss (List.replicate j (newR n))) ∧ j ≤ n.toNat ∧ ss.length = j) _ ⟨0, [], rfl, i0, rfl, rfl, rfl, rfl, H1, Nat.zero_le _, rfl⟩ ?_
  rintro _ f0 w2 ⟨j, ss, rfl, s0, s1, s2, s3, s4, H2, hk, hl⟩
  refine sq (rg (k (lss rfl rfl s4 s3 (z (nx (sq ?_))))))
  refine cd (b := decide ((j : Int) < (n.toNat : Int))) rfl rfl (fun b2 => ?_) (fun b2 => ?_)
  ·
    have p2 := of_decide_eq_true b2
    refine sk (nx (sq (bk (sq (rg (k (mv rfl s4 (k (asg (v := .int .i64 (j : Int)) rfl rfl (z (nx (rg (k (mv rfl s2 (k (mv (v := .int .i64 (j : Int)) rfl rfl (k (mv rfl s0 (k ?_)))))))))))))))))))
    have cc0 := row_New (n := n) (w := w2) H2.mb (by unfold I64 at *; omega) (by first | omega | (simp; omega))
    refine ca go78 rfl (ec rfl e0) cc0 ?_
    rintro _ w3 ⟨a0, c0, rfl, xt2, rv0⟩
    have H3 := H2.ownsG rv0
    have hjl : j < (ss ++ List.replicate (n.toNat - j) (⟨none, 0, 0⟩ : SV)).length := by rw [List.length_append, List.length_replicate]; omega
    refine k (iaO (H3.at_ 1 rfl) rfl rfl rfl rfl (by omega) un22 ty73 ?_)
    intro g1 x0 hv0 hx0 hA0
    refine k (stO (yv := (⟨a0, (newR n).length, c0⟩ : SV)) H3 1 rfl hv0 rfl (by omega) ty73 rfl rfl rfl rfl (RV.sv.2 rfl) ?_)
    intro w4 H4
    have H5 : HI M w w4 (own w.heap.size 77 (⟨a0, (newR n).length, c0⟩ : SV).v (newR n) :: ([own w.heap.size 73 (.slice (some ⟨g0, 0, none⟩) n.toNat n.toNat) ((ss ++ List.replicate (n.toNat - j) (⟨none, 0, 0⟩ : SV)).set ((j : Int).toNat) ⟨a0, (newR n).length, c0⟩), box bb0 #[.int .i64 0, .slice none 0 0] 24] ++ rowItems w.heap.size 77 ss (List.replicate j (newR n)))) := H4
    have H6 := H5.rowEnd (by rw [List.length_replicate]; exact hl)
    have es : (ss ++ List.replicate (n.toNat - j) (⟨none, 0, 0⟩ : SV)).set ((j : Int).toNat) ⟨a0, (newR n).length, c0⟩ = (ss ++ [⟨a0, (newR n).length, c0⟩]) ++ List.replicate (n.toNat - (j + 1)) (⟨none, 0, 0⟩ : SV) := by
      rw [Int.toNat_natCast, List.set_append_right _ _ (by omega), hl, Nat.sub_self, show n.toNat - j = n.toNat - (j + 1) + 1 from by omega, List.replicate_succ, List.set_cons_zero]; simp
    rw [es, ← List.replicate_succ'] at H6
    refine z (inb_normal (nx (rg (k (add rfl rfl s4 rfl (by unfold I64 at *; omega) (k (mv (v := .int .i64 ((j : Int) + 1)) rfl rfl (z ?_))))))))
    refine loopN _ ?_ ⟨(j + 1), (ss ++ [⟨a0, (newR n).length, c0⟩]), rfl, s0, s1, s2, s3, (ieq rfl (by first | rfl | omega | (push_cast; omega))), H6, (by omega), (by rw [List.length_append, hl]; rfl)⟩
    omega
  ·
    have p2 := of_decide_eq_false b2
    obtain rfl : j = n.toNat := by omega
    rw [Nat.sub_self, List.replicate_zero, List.append_nil] at H2
    refine ex (then_exit (loop_exit (inb_here (nx (sq (rg (k (mv rfl s0 (k (mv rfl s2 (k (bd (v := .agg #[.int .i64 n, .slice (some ⟨g0, 0, none⟩) n.toNat n.toNat]) rfl (pbc rfl (pbc rfl pb0)) (fun _ => by kernel_rfl) (k (stX H2 1 rfl ty24 rfl rfl s1 rfl rfl rfl rfl ?_))))))))))))))
    intro w3 H3
    have H4 : HI M w w3 ([own w.heap.size 73 (.slice (some ⟨g0, 0, none⟩) n.toNat n.toNat) ss, box bb0 #[.int .i64 n, .slice (some ⟨g0, 0, none⟩) n.toNat n.toNat] 24] ++ rowItems w.heap.size 77 ss (List.replicate n.toNat (newR n))) := H3
    refine k (asg (v := .int .i64 0) rfl rfl (z (nx (rt (rc2 H4 1 rfl ty24 rfl rfl rfl s1 rfl (by decide) ?_)))))
    exact ⟨(some ⟨g0, 0, none⟩), n.toNat, ss, rfl, H4.below, by rw [List.length_replicate]; exact hl, H4.pickT (l' := [own w.heap.size 73 (.slice (some ⟨g0, 0, none⟩) n.toNat n.toNat) ss]) [0] (by decide) rfl rfl⟩
end Go.Proofs.YtmhopljngkgidaaDoor
namespace Go.Proofs.YtmhopljngkgidaaDoor
open Go.Ew Go.RowKit
set_option linter.unusedVariables false
set_option linter.unusedSimpArgs false
attribute [local irreducible] WL WC SO Code.wp wpList retQ Ret
attribute [local irreducible] bitB hasW inR hasR setR countW countR subR words newR listR orR firstW tab8
theorem go16 : GoF Tryd.prog 16 := ⟨_, _, Tryd.func16, rfl, by kernel_rfl⟩
set_option maxRecDepth 100000 in
set_option maxHeartbeats 1600000 in
theorem mat_Turn {M : Nat → Prop} {w : World} {mn : Int} {a_mr : Option Addr} {c_mr : Nat} {mr : List (List (BitVec 64))} (hM : ∀ b, M b → b < w.heap.size) (hT : TabAt 0 w) (h_mn : I64 mn) (h_mr : RV M w (.slice a_mr mr.length c_mr) mr) (rt_m : rightS mn mr = true) : Calls Tryd.prog 17 #[.agg #[.int .i64 mn, .slice a_mr mr.length c_mr]] w (Ret fun v w' => ∃ (a0 : Option Addr) (c0 : Nat), v = .agg #[.int .i64 mn, .slice a0 (turnM mn mr).length c0] ∧ Ext w w' ∧ OwnsG M 73 w (turnM mn mr) (.slice a0 (turnM mn mr).length c0) w') := by
  refine enter 39 Tryd.func17 rfl rfl rfl fun f0 ha => ?_
  have H := HI.start (M0 := M) (w := w) hM
  have H0 := H.put (it := imm (.slice a_mr mr.length c_mr) mr) rfl (by rw [MS_nil]; exact h_mr)
  have ln_mr := rv_len h_mr
  have i0 : f0 0 = .agg #[.int .i64 mn, .slice a_mr mr.length c_mr] := ha 0 (by simp)
  refine sq (rg (k (bx H0 rfl i0 ?_)))
  intro bb0 w0 xt0 (H1 : HI M w w0 [box bb0 #[.int .i64 mn, .slice a_mr mr.length c_mr] 24, imm (.slice a_mr mr.length c_mr) mr])
  refine k (al H1 ty24 ?_)
  intro bb1 w1 xt1 (H2 : HI M w w1 [box bb1 #[.int .i64 0, .slice none 0 0] 24, box bb0 #[.int .i64 mn, .slice a_mr mr.length c_mr] 24, imm (.slice a_mr mr.length c_mr) mr])
  refine z (nx (sq (rg (k (fa fl24_0 rfl rfl (k (ldX H2 1 rfl ty3 rfl rfl (by decide) rfl (k ?_))))))))
  have cc0 := mat_NewR (n := mn) (w := w1) H2.mb (by unfold I64 at *; omega) (by exact right_pos rt_m) (by exact (right_sq rt_m).2.2.1)
  refine ca go61 rfl (ec rfl e0) cc0 ?_
  rintro _ w2 ⟨a0, c0, ss0, rfl, xt2, rv0⟩
  have H3 := H2.ownsR rv0
  have H4 : HI M w w2 ([own w.heap.size 73 (.slice a0 mn.toNat c0) ss0, box bb1 #[.int .i64 0, .slice none 0 0] 24, box bb0 #[.int .i64 mn, .slice a_mr mr.length c_mr] 24, imm (.slice a_mr mr.length c_mr) mr] ++ rowItems w.heap.size 77 ss0 (List.replicate mn.toNat (newR mn))) := H3
  have ssl0 := rv0.1
  refine k (mv (v := .tuple #[.agg #[.int .i64 mn, .slice a0 mn.toNat c0], .int .i64 0]) rfl rfl (k (xt rfl rfl rfl (k (xt rfl rfl rfl (k (al H4 ty24 ?_)))))))
  intro bb2 w3 xt3 (H5 : HI M w w3 ([box bb2 #[.int .i64 0, .slice none 0 0] 24, own w.heap.size 73 (.slice a0 mn.toNat c0) ss0, box bb1 #[.int .i64 0, .slice none 0 0] 24, box bb0 #[.int .i64 mn, .slice a_mr mr.length c_mr] 24, imm (.slice a_mr mr.length c_mr) mr] ++ rowItems w.heap.size 77 ss0 (List.replicate mn.toNat (newR mn))))
  refine k (stX H5 0 rfl ty24 rfl rfl rfl rfl rfl rfl rfl ?_)
  intro w4 (H6 : HI M w w4 ([box bb2 #[.int .i64 mn, .slice a0 mn.toNat c0] 24, own w.heap.size 73 (.slice a0 mn.toNat c0) ss0, box bb1 #[.int .i64 0, .slice none 0 0] 24, box bb0 #[.int .i64 mn, .slice a_mr mr.length c_mr] 24, imm (.slice a_mr mr.length c_mr) mr] ++ rowItems w.heap.size 77 ss0 (List.replicate mn.toNat (newR mn))))
  refine k (asg (v := .int .i64 0) rfl rfl (z (nx (sq (sq (rg (k (ldX H6 3 rfl ty24 rfl rfl (by decide) rfl (k ?_)))))))))
  have cc1 := mat_Pairs (mn := mn) (mr := mr) (w := w4) H6.mb (hT.ext H6.below) (by unfold I64 at *; omega) (H6.rv 4 rfl) (by exact (right_sq rt_m).1) (by exact (right_sq rt_m).2.1) (by exact (right_sq rt_m).2.2.1) (by exact (right_sq rt_m).2.2.2.2)
  refine ca go16 rfl (ec rfl e0) cc1 ?_
  rintro _ w5 ⟨a1, c1, rfl, xt4, rv1⟩
  have H7 := H6.ext xt4
  have H8 := H7.put (it := imm (.slice a1 (pairsM mn mr).length c1) (pairsM mn mr)) rfl rv1
  have H9 : HI M w w5 ([imm (.slice a1 (pairsM mn mr).length c1) (pairsM mn mr), box bb2 #[.int .i64 mn, .slice a0 mn.toNat c0] 24, own w.heap.size 73 (.slice a0 mn.toNat c0) ss0, box bb1 #[.int .i64 0, .slice none 0 0] 24, box bb0 #[.int .i64 mn, .slice a_mr mr.length c_mr] 24, imm (.slice a_mr mr.length c_mr) mr] ++ rowItems w.heap.size 77 ss0 (List.replicate mn.toNat (newR mn))) := H8
  refine k (lnS rfl rfl un31 (k (mv (v := .int .i64 0) rfl rfl (z (nx (bk ?_))))))
  refine lp (fun m f w' => ∃ (j : Nat) (xs : List (List (BitVec 64))), m = (pairsM mn mr).length - j ∧ f 2 = .pointer (some ⟨bb1, 0, none⟩) ∧ f 3 = .pointer (some ⟨bb2, 0, none⟩) ∧ f 14 = .slice a1 (pairsM mn mr).length c1 ∧ f 15 = .int .i64 ((pairsM mn mr).length : Int) ∧ f 16 = .int .i64 (j : Int) ∧  HI M w w' ([imm (.slice a1 (pairsM mn mr).length c1) (pairsM mn mr), box bb2 #[.int .i64 mn, .slice a0 mn.toNat c0] 24, own w.heap.size 73 (.slice a0 mn.toNat c0) ss0, box bb1 #[.int .i64 0, .slice none 0 0] 24, box bb0 #[.int .i64 mn, .slice a_mr mr.length c_mr] 24, imm (.slice a_mr mr.length c_mr) mr] ++ rowItems w.heap.size 77 ss0 xs) ∧ (j ≤ (pairsM mn mr).length) ∧ (ss0.length = xs.length) ∧ (xs = foldM mn (((pairsM mn mr).map swapP).take j))) _ ⟨0, (List.replicate mn.toNat (newR mn)), rfl, rfl, rfl, rfl, rfl, (ieq rfl (by first | rfl | omega | simp)), H9, (by first | assumption | omega | simp | (simp; omega)), (by exact rv0.1), (by exact turn_zero _ _)⟩ ?_
  rintro _ f0 w6 ⟨j, xs, rfl, s0, s1, s2, s3, s4, H10, hk, hl, hs⟩
  refine sq (rg (k (lss rfl rfl s4 s3 (z (nx (sq ?_))))))
  refine cd (b := decide ((j : Int) < ((pairsM mn mr).length : Int))) rfl rfl (fun b0 => ?_) (fun b0 => ?_)
  ·
    have p0 := of_decide_eq_true b0
    refine sk (nx (sq (bk (sq (rg (k (ia (H10.rv 0 rfl) rfl rfl s2 s4 (by first | omega | (simp; omega)) un31 ty76 ?_)))))))
    intro ad0 x0 hx0 hA0
    refine k (ldW hA0.w ty76 rfl rfl ?_)
    intro v0 rv2
    obtain ⟨_, ⟨_, _, rfl, ⟨rfl, rv3⟩, ⟨rfl, rv4⟩⟩, rfl⟩ := rv2
    refine k (al H10 ty76 ?_)
    intro bb3 w7 xt5 (H11 : HI M w w7 ([box bb3 #[.int .i64 0, .int .i64 0] 76, imm (.slice a1 (pairsM mn mr).length c1) (pairsM mn mr), box bb2 #[.int .i64 mn, .slice a0 mn.toNat c0] 24, own w.heap.size 73 (.slice a0 mn.toNat c0) ss0, box bb1 #[.int .i64 0, .slice none 0 0] 24, box bb0 #[.int .i64 mn, .slice a_mr mr.length c_mr] 24, imm (.slice a_mr mr.length c_mr) mr] ++ rowItems w.heap.size 77 ss0 xs))
    refine k (stX H11 0 rfl ty76 rfl rfl rfl rfl rfl rfl rfl ?_)
    intro w8 (H12 : HI M w w8 ([box bb3 #[.int .i64 x0.1, .int .i64 x0.2] 76, imm (.slice a1 (pairsM mn mr).length c1) (pairsM mn mr), box bb2 #[.int .i64 mn, .slice a0 mn.toNat c0] 24, own w.heap.size 73 (.slice a0 mn.toNat c0) ss0, box bb1 #[.int .i64 0, .slice none 0 0] 24, box bb0 #[.int .i64 mn, .slice a_mr mr.length c_mr] 24, imm (.slice a_mr mr.length c_mr) mr] ++ rowItems w.heap.size 77 ss0 xs))
    refine z (nx ?_)
    obtain ⟨g1_, g2_, g3_, g4_⟩ := right_pair rt_m hx0
    have xl_ : xs.length = mn.toNat := by rw [hs, foldM_length]
    obtain ⟨a2, x1, c2, hs0, hr0⟩ := row_get (i := x0.2.toNat) H12 (by first | assumption | (simp only [List.length_set]; assumption) | (simp only [List.length_set, List.length_replicate] at *; omega)) (by omega)
    obtain ⟨x3, hx2⟩ : ∃ x, x1[(x0.1 / 64).toNat]? = some x := ⟨_, List.getElem?_eq_getElem (by obtain ⟨k1_, k2_, k3_, k4_⟩ := turn_row (hs ▸ hr0) g1_ g2_; first | omega | exact ⟨k1_, k2_⟩)⟩
    refine dr 15 [fun (v : Value) (w' : World) => v = .pointer (some ⟨bb2, 1, none⟩), fun (v : Value) (w' : World) => v = .slice a0 mn.toNat c0, fun (v : Value) (w' : World) => v = .pointer (some ⟨bb3, 1, none⟩), fun (v : Value) (w' : World) => v = .int .i64 x0.2 ∧ I64 (x0.2), fun (v : Value) (w' : World) => ∃ (g0 : Nat), v = .pointer (some ⟨g0, x0.2.toNat * 1, none⟩) ∧ (.slice a0 mn.toNat c0 : Value).ownBlock = some g0 ∧ AtW (MS M ([box bb3 #[.int .i64 x0.1, .int .i64 x0.2] 76, imm (.slice a1 (pairsM mn mr).length c1) (pairsM mn mr), box bb2 #[.int .i64 mn, .slice a0 mn.toNat c0] 24, own w.heap.size 73 (.slice a0 mn.toNat c0) ss0, box bb1 #[.int .i64 0, .slice none 0 0] 24, box bb0 #[.int .i64 mn, .slice a_mr mr.length c_mr] 24, imm (.slice a_mr mr.length c_mr) mr] ++ rowItems w.heap.size 77 ss0 xs)) w' ⟨g0, x0.2.toNat * 1, none⟩ (⟨a2, x1.length, c2⟩ : SV), fun (v : Value) (w' : World) => v = .slice a2 x1.length c2, fun (v : Value) (w' : World) => v = .pointer (some ⟨bb3, 0, none⟩), fun (v : Value) (w' : World) => v = .int .i64 x0.1 ∧ I64 (x0.1), fun (v : Value) (w' : World) => v = .int .i64 (x0.1 / 64), fun (v : Value) (w' : World) => ∃ (g1 : Nat), v = .pointer (some ⟨g1, (x0.1 / 64).toNat * 1, none⟩) ∧ (.slice a2 x1.length c2 : Value).ownBlock = some g1 ∧ AtW (MS M ([box bb3 #[.int .i64 x0.1, .int .i64 x0.2] 76, imm (.slice a1 (pairsM mn mr).length c1) (pairsM mn mr), box bb2 #[.int .i64 mn, .slice a0 mn.toNat c0] 24, own w.heap.size 73 (.slice a0 mn.toNat c0) ss0, box bb1 #[.int .i64 0, .slice none 0 0] 24, box bb0 #[.int .i64 mn, .slice a_mr mr.length c_mr] 24, imm (.slice a_mr mr.length c_mr) mr] ++ rowItems w.heap.size 77 ss0 xs)) w' ⟨g1, (x0.1 / 64).toNat * 1, none⟩ x3, fun (v : Value) (w' : World) => v = U x3, fun (v : Value) (w' : World) => v = .pointer (some ⟨bb3, 0, none⟩), fun (v : Value) (w' : World) => v = .int .i64 x0.1 ∧ I64 (x0.1), fun (v : Value) (w' : World) => v = .int .i64 (x0.1 % 64), fun (v : Value) (w' : World) => v = U (bitB (x0.1 % 64))] rfl (by kernel_rfl) ?_ ?_
    ·
      refine ⟨fun _ => ⟨fun f1 w10 hf0 xt7 hp0 => ?_, fun _ _ _ _ h => h⟩, ?_⟩
      ·
        have H14 := H12.ext xt7
        refine fa fl24_1 rfl ((hf0 3 rfl).trans s1) ?_
        exact ⟨_, rfl, Ext.refl _, rfl⟩
      refine ⟨fun _ => ⟨fun f2 w11 hf1 xt8 hp1 => ?_, fun _ _ _ _ h => h⟩, ?_⟩
      ·
        have H15 := H12.ext xt8
        have s5 : f2 20 = .pointer (some ⟨bb2, 1, none⟩) := hp1 0 rfl rfl
        refine ldX H15 2 rfl ty22 rfl s5 (by decide) rfl ?_
        exact ⟨_, rfl, Ext.refl _, rfl⟩
      refine ⟨fun _ => ⟨fun f3 w12 hf2 xt9 hp2 => ?_, fun _ _ _ _ h => h⟩, ?_⟩
      ·
        have H16 := H12.ext xt9
        refine iaA rfl rfl (hf2 6 rfl) rfl (by omega) un76 ty3 ?_
        exact ⟨_, rfl, Ext.refl _, rfl⟩
      refine ⟨fun _ => ⟨fun f4 w13 hf3 xt10 hp3 => ?_, fun _ _ _ _ h => h⟩, ?_⟩
      ·
        have H17 := H12.ext xt10
        have s6 : f4 22 = .pointer (some ⟨bb3, 1, none⟩) := hp3 2 rfl rfl
        refine ldX H17 0 rfl ty3 rfl s6 (by decide) rfl ?_
        exact ⟨_, rfl, Ext.refl _, ⟨rfl, rv4⟩⟩
      refine ⟨fun _ => ⟨fun f5 w14 hf4 xt11 hp4 => ?_, by rintro _ _ _ x_ ⟨g0, e_, hv0, hA1⟩; exact ⟨g0, e_, hv0, hA1.ext x_⟩⟩, ?_⟩
      ·
        have H18 := H12.ext xt11
        have s7 : f5 21 = .slice a0 mn.toNat c0 := hp4 1 rfl rfl
        obtain ⟨s8, rv5⟩ : f5 23 = .int .i64 x0.2 ∧ I64 (x0.2) := hp4 3 rfl rfl
        refine iaO (H18.at_ 3 rfl) rfl rfl s7 s8 (by omega) un22 ty73 ?_
        intro g2 x4 hv2 hx3 hA3
        obtain rfl : (⟨a2, x1.length, c2⟩ : SV) = x4 := Option.some.inj (hs0.symm.trans hx3)
        exact ⟨_, rfl, Ext.refl _, ⟨g2, rfl, hv2, hA3⟩⟩
      refine ⟨fun _ => ⟨fun f6 w15 hf5 xt12 hp5 => ?_, fun _ _ _ _ h => h⟩, ?_⟩
      ·
        have H19 := H12.ext xt12
        obtain ⟨g3, s9, hv3, hA4⟩ : ∃ (g3 : Nat), f6 24 = .pointer (some ⟨g3, x0.2.toNat * 1, none⟩) ∧ (.slice a0 mn.toNat c0 : Value).ownBlock = some g3 ∧ AtW (MS M ([box bb3 #[.int .i64 x0.1, .int .i64 x0.2] 76, imm (.slice a1 (pairsM mn mr).length c1) (pairsM mn mr), box bb2 #[.int .i64 mn, .slice a0 mn.toNat c0] 24, own w.heap.size 73 (.slice a0 mn.toNat c0) ss0, box bb1 #[.int .i64 0, .slice none 0 0] 24, box bb0 #[.int .i64 mn, .slice a_mr mr.length c_mr] 24, imm (.slice a_mr mr.length c_mr) mr] ++ rowItems w.heap.size 77 ss0 xs)) w15 ⟨g3, x0.2.toNat * 1, none⟩ (⟨a2, x1.length, c2⟩ : SV) := hp5 4 rfl rfl
        refine ldV hA4 ty73 rfl s9 ?_
        exact ⟨_, rfl, Ext.refl _, rfl⟩
      refine ⟨fun _ => ⟨fun f7 w16 hf6 xt13 hp6 => ?_, fun _ _ _ _ h => h⟩, ?_⟩
      ·
        have H20 := H12.ext xt13
        refine iaA rfl rfl (hf6 6 rfl) rfl (by omega) un76 ty3 ?_
        exact ⟨_, rfl, Ext.refl _, rfl⟩
      refine ⟨fun _ => ⟨fun f8 w17 hf7 xt14 hp7 => ?_, fun _ _ _ _ h => h⟩, ?_⟩
      ·
        have H21 := H12.ext xt14
        have s10 : f8 26 = .pointer (some ⟨bb3, 0, none⟩) := hp7 6 rfl rfl
        refine ldX H21 0 rfl ty3 rfl s10 (by decide) rfl ?_
        exact ⟨_, rfl, Ext.refl _, ⟨rfl, rv3⟩⟩
      refine ⟨fun _ => ⟨fun f9 w18 hf8 xt15 hp8 => ?_, fun _ _ _ _ h => h⟩, ?_⟩
      ·
        have H22 := H12.ext xt15
        obtain ⟨s11, rv6⟩ : f9 27 = .int .i64 x0.1 ∧ I64 (x0.1) := hp8 7 rfl rfl
        refine shrI rfl rfl s11 rfl ?_
        exact ⟨_, rfl, Ext.refl _, rfl⟩
      refine ⟨fun _ => ⟨fun f10 w19 hf9 xt16 hp9 => ?_, by rintro _ _ _ x_ ⟨g1, e_, hv1, hA2⟩; exact ⟨g1, e_, hv1, hA2.ext x_⟩⟩, ?_⟩
      ·
        have H23 := H12.ext xt16
        have s12 : f10 25 = .slice a2 x1.length c2 := hp9 5 rfl rfl
        have s13 : f10 28 = .int .i64 (x0.1 / 64) := hp9 8 rfl rfl
        refine iaO (H23.at_ _ (row_at hs0 hr0)) rfl rfl s12 s13 (by obtain ⟨k1_, k2_, k3_, k4_⟩ := turn_row (hs ▸ hr0) g1_ g2_; first | omega | exact ⟨k1_, k2_⟩) un73 ty77 ?_
        intro g4 x5 hv4 hx4 hA5
        obtain rfl : x3 = x5 := Option.some.inj (hx2.symm.trans hx4)
        exact ⟨_, rfl, Ext.refl _, ⟨g4, rfl, hv4, hA5⟩⟩
      refine ⟨fun _ => ⟨fun f11 w20 hf10 xt17 hp10 => ?_, fun _ _ _ _ h => h⟩, ?_⟩
      ·
        have H24 := H12.ext xt17
        obtain ⟨g5, s14, hv5, hA6⟩ : ∃ (g5 : Nat), f11 29 = .pointer (some ⟨g5, (x0.1 / 64).toNat * 1, none⟩) ∧ (.slice a2 x1.length c2 : Value).ownBlock = some g5 ∧ AtW (MS M ([box bb3 #[.int .i64 x0.1, .int .i64 x0.2] 76, imm (.slice a1 (pairsM mn mr).length c1) (pairsM mn mr), box bb2 #[.int .i64 mn, .slice a0 mn.toNat c0] 24, own w.heap.size 73 (.slice a0 mn.toNat c0) ss0, box bb1 #[.int .i64 0, .slice none 0 0] 24, box bb0 #[.int .i64 mn, .slice a_mr mr.length c_mr] 24, imm (.slice a_mr mr.length c_mr) mr] ++ rowItems w.heap.size 77 ss0 xs)) w20 ⟨g5, (x0.1 / 64).toNat * 1, none⟩ x3 := hp10 9 rfl rfl
        refine ldU hA6 ty77 rfl s14 ?_
        exact ⟨_, rfl, Ext.refl _, rfl⟩
      refine ⟨fun _ => ⟨fun f12 w21 hf11 xt18 hp11 => ?_, fun _ _ _ _ h => h⟩, ?_⟩
      ·
        have H25 := H12.ext xt18
        refine iaA rfl rfl (hf11 6 rfl) rfl (by omega) un76 ty3 ?_
        exact ⟨_, rfl, Ext.refl _, rfl⟩
      refine ⟨fun _ => ⟨fun f13 w22 hf12 xt19 hp12 => ?_, fun _ _ _ _ h => h⟩, ?_⟩
      ·
        have H26 := H12.ext xt19
        have s15 : f13 31 = .pointer (some ⟨bb3, 0, none⟩) := hp12 11 rfl rfl
        refine ldX H26 0 rfl ty3 rfl s15 (by decide) rfl ?_
        exact ⟨_, rfl, Ext.refl _, ⟨rfl, rv3⟩⟩
      refine ⟨fun _ => ⟨fun f14 w23 hf13 xt20 hp13 => ?_, fun _ _ _ _ h => h⟩, ?_⟩
      ·
        have H27 := H12.ext xt20
        obtain ⟨s16, rv7⟩ : f14 32 = .int .i64 x0.1 ∧ I64 (x0.1) := hp13 12 rfl rfl
        refine and63 rfl rfl s16 rfl ?_
        exact ⟨_, rfl, Ext.refl _, rfl⟩
      refine ⟨fun _ => ⟨fun f15 w24 hf14 xt21 hp14 => ?_, fun _ _ _ _ h => h⟩, ?_⟩
      ·
        have H28 := H12.ext xt21
        have s17 : f15 33 = .int .i64 (x0.1 % 64) := hp14 13 rfl rfl
        have cc3 := word_Bit (i := (x0.1 % 64)) (w := w24) (by unfold I64 at *; omega)
        refine ca go65 rfl (ec s17 e0) cc3 ?_
        rintro _ w25 ⟨rfl, xt22⟩
        have H29 := H28.ext xt22
        exact ⟨_, rfl, xt22, rfl⟩
      exact DSteps.rest rfl _
    · intro f16 w26 hf15 xt23 hp15
      have H30 := H12.ext xt23
      have s18 : f16 2 = .pointer (some ⟨bb1, 0, none⟩) := (hf15 2 rfl).trans s0
      have s19 : f16 3 = .pointer (some ⟨bb2, 0, none⟩) := (hf15 3 rfl).trans s1
      have s20 : f16 14 = .slice a1 (pairsM mn mr).length c1 := (hf15 14 rfl).trans s2
      have s21 : f16 15 = .int .i64 ((pairsM mn mr).length : Int) := (hf15 15 rfl).trans s3
      have s22 : f16 16 = .int .i64 (j : Int) := (hf15 16 rfl).trans s4
      have s23 : f16 25 = .slice a2 x1.length c2 := hp15 5 rfl
      have s24 : f16 28 = .int .i64 (x0.1 / 64) := hp15 8 rfl
      have s25 : f16 30 = U x3 := hp15 10 rfl
      have s26 : f16 34 = U (bitB (x0.1 % 64)) := hp15 14 rfl
      refine k (orU x3 (bitB (x0.1 % 64)) rfl rfl s25 s26 (k (iaO (H30.at_ _ (row_at hs0 hr0)) rfl rfl s23 s24 (by obtain ⟨k1_, k2_, k3_, k4_⟩ := turn_row (hs ▸ hr0) g1_ g2_; first | omega | exact ⟨k1_, k2_⟩) un73 ty77 ?_)))
      intro g6 x6 hv6 hx5 hA7
      refine k (stO H30 _ (row_at hs0 hr0) hv6 rfl (by obtain ⟨k1_, k2_, k3_, k4_⟩ := turn_row (hs ▸ hr0) g1_ g2_; first | omega | exact ⟨k1_, k2_⟩) ty77 rfl rfl rfl rfl (RV.bv.2 rfl) ?_)
      intro w27 H32
      have H31 := HI.rowPut (M := fun _ => False) (it := imm (.int .i64 0) (0 : Int)) H32 hs0
      have H33 : HI M w w27 ([box bb3 #[.int .i64 x0.1, .int .i64 x0.2] 76, imm (.slice a1 (pairsM mn mr).length c1) (pairsM mn mr), box bb2 #[.int .i64 mn, .slice a0 mn.toNat c0] 24, own w.heap.size 73 (.slice a0 mn.toNat c0) ss0, box bb1 #[.int .i64 0, .slice none 0 0] 24, box bb0 #[.int .i64 mn, .slice a_mr mr.length c_mr] 24, imm (.slice a_mr mr.length c_mr) mr] ++ rowItems w.heap.size 77 ss0 (xs.set x0.2.toNat (x1.set ((x0.1 / 64).toNat) (x3 ||| (bitB (x0.1 % 64)))))) := H31
      refine z (inb_normal (nx (rg (k (add rfl rfl s22 rfl (by have h_ := right_pairs rt_m; unfold I64; omega) (k (mv (v := .int .i64 ((j : Int) + 1)) rfl rfl (z ?_))))))))
      have H34 : HI M w w27 ([imm (.slice a1 (pairsM mn mr).length c1) (pairsM mn mr), box bb2 #[.int .i64 mn, .slice a0 mn.toNat c0] 24, own w.heap.size 73 (.slice a0 mn.toNat c0) ss0, box bb1 #[.int .i64 0, .slice none 0 0] 24, box bb0 #[.int .i64 mn, .slice a_mr mr.length c_mr] 24, imm (.slice a_mr mr.length c_mr) mr] ++ rowItems w.heap.size 77 ss0 (xs.set x0.2.toNat (x1.set ((x0.1 / 64).toNat) (x3 ||| (bitB (x0.1 % 64)))))) := HI.pickT (l := [box bb3 #[.int .i64 x0.1, .int .i64 x0.2] 76, imm (.slice a1 (pairsM mn mr).length c1) (pairsM mn mr), box bb2 #[.int .i64 mn, .slice a0 mn.toNat c0] 24, own w.heap.size 73 (.slice a0 mn.toNat c0) ss0, box bb1 #[.int .i64 0, .slice none 0 0] 24, box bb0 #[.int .i64 mn, .slice a_mr mr.length c_mr] 24, imm (.slice a_mr mr.length c_mr) mr]) (l' := [imm (.slice a1 (pairsM mn mr).length c1) (pairsM mn mr), box bb2 #[.int .i64 mn, .slice a0 mn.toNat c0] 24, own w.heap.size 73 (.slice a0 mn.toNat c0) ss0, box bb1 #[.int .i64 0, .slice none 0 0] 24, box bb0 #[.int .i64 mn, .slice a_mr mr.length c_mr] 24, imm (.slice a_mr mr.length c_mr) mr]) (t := rowItems w.heap.size 77 ss0 (xs.set x0.2.toNat (x1.set ((x0.1 / 64).toNat) (x3 ||| (bitB (x0.1 % 64)))))) H33 [1, 2, 3, 4, 5, 6] (by decide) rfl rfl
      refine loopN _ ?_ ⟨(j + 1), (xs.set x0.2.toNat (x1.set ((x0.1 / 64).toNat) (x3 ||| (bitB (x0.1 % 64))))), rfl, s18, s19, s20, s21, (ieq rfl (by first | rfl | omega | (push_cast; omega))), H34, (by first | assumption | omega | simp | (simp; omega)), (by simp only [List.length_set]; exact hl), (by first | exact turn_step hs hx0 hr0 hx1 g1_ g2_ | exact turn_step hs hx0 hr0 hx2 g1_ g2_)⟩
      omega
  ·
    have p0 := of_decide_eq_false b0
    refine ex (then_exit (loop_exit (inb_here (nx (sq ?_)))))
    have H11 : HI M w w6 [own w.heap.size 73 (.slice a0 mn.toNat c0) xs, imm (.slice a1 (pairsM mn mr).length c1) (pairsM mn mr), box bb2 #[.int .i64 mn, .slice a0 mn.toNat c0] 24, box bb1 #[.int .i64 0, .slice none 0 0] 24, box bb0 #[.int .i64 mn, .slice a_mr mr.length c_mr] 24, imm (.slice a_mr mr.length c_mr) mr] := HI.deep (l := [imm (.slice a1 (pairsM mn mr).length c1) (pairsM mn mr), box bb2 #[.int .i64 mn, .slice a0 mn.toNat c0] 24, box bb1 #[.int .i64 0, .slice none 0 0] 24, box bb0 #[.int .i64 mn, .slice a_mr mr.length c_mr] 24, imm (.slice a_mr mr.length c_mr) mr]) (HI.pickT (l := [imm (.slice a1 (pairsM mn mr).length c1) (pairsM mn mr), box bb2 #[.int .i64 mn, .slice a0 mn.toNat c0] 24, own w.heap.size 73 (.slice a0 mn.toNat c0) ss0, box bb1 #[.int .i64 0, .slice none 0 0] 24, box bb0 #[.int .i64 mn, .slice a_mr mr.length c_mr] 24, imm (.slice a_mr mr.length c_mr) mr]) (l' := [own w.heap.size 73 (.slice a0 mn.toNat c0) ss0, imm (.slice a1 (pairsM mn mr).length c1) (pairsM mn mr), box bb2 #[.int .i64 mn, .slice a0 mn.toNat c0] 24, box bb1 #[.int .i64 0, .slice none 0 0] 24, box bb0 #[.int .i64 mn, .slice a_mr mr.length c_mr] 24, imm (.slice a_mr mr.length c_mr) mr]) (t := rowItems w.heap.size 77 ss0 xs) H10 [2, 0, 1, 3, 4, 5] (by decide) rfl rfl) (by first | assumption | (simp only [List.length_set]; assumption) | (simp only [List.length_set, List.length_replicate] at *; omega))
    refine rg (k (ldX H11 2 rfl ty24 rfl s1 (by decide) rfl (k (stX H11 3 rfl ty24 rfl rfl s0 rfl rfl rfl rfl ?_))))
    intro w7 (H12 : HI M w w7 [own w.heap.size 73 (.slice a0 mn.toNat c0) xs, imm (.slice a1 (pairsM mn mr).length c1) (pairsM mn mr), box bb2 #[.int .i64 mn, .slice a0 mn.toNat c0] 24, box bb1 #[.int .i64 mn, .slice a0 mn.toNat c0] 24, box bb0 #[.int .i64 mn, .slice a_mr mr.length c_mr] 24, imm (.slice a_mr mr.length c_mr) mr])
    refine z (nx (rt (rc1 H12 3 rfl ty24 rfl rfl s0 rfl (by decide) ?_)))
    have e1 : (xs : List (List (BitVec 64))) = turnM mn mr := by exact turn_end hs (by omega)
    have l1 : mn.toNat = (turnM mn mr).length := by first | (rw [← e1]; omega) | (rw [turnM_len])
    have ev_ := cg1 (fun (n_1 : Nat) => (.agg #[.int .i64 mn, .slice a0 n_1 c0] : Value)) l1
    exact ⟨a0, c0, ev_, H12.below, (congrArg (fun (n_ : Nat) => OwnsG _ _ _ (turnM mn mr) (.slice a0 n_ c0) _) l1).mp ((congrArg (fun (x_ : List (List (BitVec 64))) => OwnsG _ _ _ x_ (.slice a0 mn.toNat c0) _) e1).mp (H12.ownsG_out 0 rfl))⟩
end Go.Proofs.YtmhopljngkgidaaDoor
namespace Go.Proofs.YtmhopljngkgidaaDoor
open Go.Ew Go.RowKit
set_option linter.unusedVariables false
set_option linter.unusedSimpArgs false
attribute [local irreducible] WL WC SO Code.wp wpList retQ Ret
attribute [local irreducible] bitB hasW inR hasR setR countW countR subR words newR listR orR firstW tab8
theorem go91 : GoF Tryd.prog 91 := ⟨_, _, Tryd.func91, rfl, by kernel_rfl⟩
theorem go92 : GoF Tryd.prog 92 := ⟨_, _, Tryd.func92, rfl, by kernel_rfl⟩
theorem go88 : GoF Tryd.prog 88 := ⟨_, _, Tryd.func88, rfl, by kernel_rfl⟩
set_option maxRecDepth 100000 in
set_option maxHeartbeats 1600000 in
theorem past_Kept {M : Nat → Prop} {w : World} {a_fv : Option Addr} {n_fv c_fv : Nat} {a_fi : Option Addr} {c_fi : Nat} {fi : List (Int × Int × Bool × Int × Int)} {a_fo : Option Addr} {n_fo c_fo : Nat} {o : Int} (hM : ∀ b, M b → b < w.heap.size) (h_fi : RV M w (.slice a_fi fi.length c_fi) fi) (h_o : I64 o) (ho : OrdI fi) (hn_fi : fi.length ≤ 4096) : Calls Tryd.prog 55 #[.agg #[.slice a_fv n_fv c_fv, .slice a_fi fi.length c_fi, .slice a_fo n_fo c_fo], .int .i64 o] w (Ret fun v w' => ∃ (a0 : Option Addr) (c0 : Nat), v = .slice a0 (keepL (wrQ fi) (pastA fi o)).length c0 ∧ Ext w w' ∧ OwnsG M 3 w (keepL (wrQ fi) (pastA fi o)) (.slice a0 (keepL (wrQ fi) (pastA fi o)).length c0) w') := by
  refine enter 10 Tryd.func55 rfl rfl rfl fun f0 ha => ?_
  have H := HI.start (M0 := M) (w := w) hM
  have H0 := H.put (it := imm (.slice a_fi fi.length c_fi) fi) rfl (by rw [MS_nil]; exact h_fi)
  have ln_fi := rv_len h_fi
  have i0 : f0 0 = .agg #[.slice a_fv n_fv c_fv, .slice a_fi fi.length c_fi, .slice a_fo n_fo c_fo] := ha 0 (by simp)
  have i1 : f0 1 = .int .i64 o := ha 1 (by simp)
  refine sq (rg (k (bx H0 rfl i0 ?_)))
  intro bb0 w0 xt0 (H1 : HI M w w0 [box bb0 #[.slice a_fv n_fv c_fv, .slice a_fi fi.length c_fi, .slice a_fo n_fo c_fo] 66, imm (.slice a_fi fi.length c_fi) fi])
  refine k (asg (v := .slice none 0 0) rfl rfl (z (nx (sq (rg (k (ldX H1 0 rfl ty66 rfl rfl (by decide) rfl (k (mv rfl i1 (k ?_))))))))))
  have cc0 := session_Past (fi := fi) (tt := o) (a_fv := a_fv) (n_fv := n_fv) (c_fv := c_fv) (a_fo := a_fo) (n_fo := n_fo) (c_fo := c_fo) (w := w0) H1.mb (H1.rv 1 rfl) (by unfold I64 at *; omega) (by first | omega | (simp; omega)) (by first | omega | (simp; omega))
  refine ca go91 rfl (ec rfl (ec rfl e0)) cc0 ?_
  rintro _ w1 ⟨a0, c0, rfl, xt1, rv0⟩
  have H2 := H1.ownsG rv0
  refine k (mf rfl (k ?_))
  have H3 : HI M w w1 ([own w.heap.size 3 (.slice a0 (pastA fi o).length c0) (pastA fi o)] ++ [box bb0 #[.slice a_fv n_fv c_fv, .slice a_fi fi.length c_fi, .slice a_fo n_fo c_fo] 66, imm (.slice a_fi fi.length c_fi) fi]) := H2.pickN [0, 1, 2] (by decide) rfl
  have cc1 := deleteFunc_int (a_xs := a0) (c_xs := c0) (xs := (pastA fi o)) (g_p := 92) (C_p := [.pointer (some ⟨bb0, 0, none⟩)]) (p := (fun (x_ : Int) => wrQ fi x_)) (w := w) (w_ := w1) (r := [box bb0 #[.slice a_fv n_fv c_fv, .slice a_fi fi.length c_fi, .slice a_fo n_fo c_fo] 66, imm (.slice a_fi fi.length c_fi) fi]) (M := M) ⟨go92, fun w_ ys_ H_ x_ hx_ hr_ => past_Kept1 (fi := fi) (M := fun _ => False) (fun _ h_ => h_.elim) hr_ ((H_.rv 2 rfl).lift (Up.less fun _ _ h_ => h_.elim)) ⟨H_.at_ 1 rfl, fun h_ => h_⟩ (by obtain ⟨j_, hj_⟩ := List.mem_iff_getElem?.1 hx_; exact pastA_mem ho hj_)⟩ H3
  refine ca go88 rfl (ec rfl (ec rfl e0)) cc1 ?_
  rintro _ w2 ⟨rfl, H4⟩
  have H5 : HI M w w2 [own w.heap.size 3 (.slice a0 (keepL (fun (x_ : Int) => wrQ fi x_) (pastA fi o)).length c0) (keepL (fun (x_ : Int) => wrQ fi x_) (pastA fi o)), box bb0 #[.slice a_fv n_fv c_fv, .slice a_fi fi.length c_fi, .slice a_fo n_fo c_fo] 66, imm (.slice a_fi fi.length c_fi) fi] := H4
  refine k (asg (v := .slice a0 (keepL (fun (x_ : Int) => wrQ fi x_) (pastA fi o)).length c0) rfl rfl (z (nx (rt (r1 rfl rfl ?_)))))
  have e0 : ((keepL (fun (x_ : Int) => wrQ fi x_) (pastA fi o)) : List Int) = keepL (wrQ fi) (pastA fi o) := rfl
  have ev_ := cg1 (fun (x_0 : List Int) => (.slice a0 x_0.length c0 : Value)) e0
  exact ⟨a0, c0, ev_, H5.below, (congrArg (fun (x_ : List Int) => OwnsG _ _ _ x_ (.slice a0 x_.length c0) _) e0).mp (H5.ownsG_out 0 rfl)⟩
end Go.Proofs.YtmhopljngkgidaaDoor
namespace Go.Proofs.YtmhopljngkgidaaDoor
open Go.Ew Go.RowKit
set_option linter.unusedVariables false
set_option linter.unusedSimpArgs false
attribute [local irreducible] WL WC SO Code.wp wpList retQ Ret
attribute [local irreducible] bitB hasW inR hasR setR countW countR subR words newR listR orR firstW tab8
theorem go89 : GoF Tryd.prog 89 := ⟨_, _, Tryd.func89, rfl, by kernel_rfl⟩
theorem go90 : GoF Tryd.prog 90 := ⟨_, _, Tryd.func90, rfl, by kernel_rfl⟩
set_option maxRecDepth 100000 in
set_option maxHeartbeats 1600000 in
theorem past_Writes {M : Nat → Prop} {w : World} {a_fv : Option Addr} {n_fv c_fv : Nat} {a_fi : Option Addr} {c_fi : Nat} {fi : List (Int × Int × Bool × Int × Int)} {a_fo : Option Addr} {n_fo c_fo : Nat} {a_l : Option Addr} {c_l : Nat} {l : List Int} {vr : Int} (hM : ∀ b, M b → b < w.heap.size) (h_fi : RV M w (.slice a_fi fi.length c_fi) fi) (h_l : RV M w (.slice a_l l.length c_l) l) (h_vr : I64 vr) (hln_l : l.length ≤ 1000000000) : Calls Tryd.prog 53 #[.agg #[.slice a_fv n_fv c_fv, .slice a_fi fi.length c_fi, .slice a_fo n_fo c_fo], .slice a_l l.length c_l, .int .i64 vr] w (Ret fun v w' => ∃ (a0 : Option Addr) (c0 : Nat), v = .slice a0 (keepL (wrB fi vr) l).length c0 ∧ Ext w w' ∧ OwnsG M 3 w (keepL (wrB fi vr) l) (.slice a0 (keepL (wrB fi vr) l).length c0) w') := by
  refine enter 11 Tryd.func53 rfl rfl rfl fun f0 ha => ?_
  have H := HI.start (M0 := M) (w := w) hM
  have H0 := H.put (it := imm (.slice a_fi fi.length c_fi) fi) rfl (by rw [MS_nil]; exact h_fi)
  have H1 := H0.put (it := imm (.slice a_l l.length c_l) l) rfl (by rw [MS_cons_none rfl, MS_nil]; exact h_l)
  have ln_fi := rv_len h_fi
  have ln_l := rv_len h_l
  have i0 : f0 0 = .agg #[.slice a_fv n_fv c_fv, .slice a_fi fi.length c_fi, .slice a_fo n_fo c_fo] := ha 0 (by simp)
  have i1 : f0 1 = .slice a_l l.length c_l := ha 1 (by simp)
  have i2 : f0 2 = .int .i64 vr := ha 2 (by simp)
  refine sq (rg (k (bx H1 rfl i0 ?_)))
  intro bb0 w0 xt0 (H2 : HI M w w0 [box bb0 #[.slice a_fv n_fv c_fv, .slice a_fi fi.length c_fi, .slice a_fo n_fo c_fo] 66, imm (.slice a_l l.length c_l) l, imm (.slice a_fi fi.length c_fi) fi])
  refine k (bx H2 rfl i2 ?_)
  intro bb1 w1 xt1 (H3 : HI M w w1 [box bb1 #[.int .i64 vr] 3, box bb0 #[.slice a_fv n_fv c_fv, .slice a_fi fi.length c_fi, .slice a_fo n_fo c_fo] 66, imm (.slice a_l l.length c_l) l, imm (.slice a_fi fi.length c_fi) fi])
  refine k (asg (v := .slice none 0 0) rfl rfl (z (nx (sq (rg (k (mv rfl i1 (k ?_))))))))
  have cc0 := clone_int (l := l) (w := w1) H3.mb (H3.rv 2 rfl) (by first | omega | (simp; omega))
  refine ca go89 rfl (ec rfl e0) cc0 ?_
  rintro _ w2 ⟨a0, c0, rfl, xt2, rv0⟩
  have H4 := H3.ownsG rv0
  refine k (mf rfl (k ?_))
  have H5 : HI M w w2 ([own w.heap.size 3 (.slice a0 l.length c0) l] ++ [box bb1 #[.int .i64 vr] 3, box bb0 #[.slice a_fv n_fv c_fv, .slice a_fi fi.length c_fi, .slice a_fo n_fo c_fo] 66, imm (.slice a_l l.length c_l) l, imm (.slice a_fi fi.length c_fi) fi]) := H4.pickN [0, 1, 2, 3, 4] (by decide) rfl
  have cc1 := deleteFunc_int (a_xs := a0) (c_xs := c0) (xs := l) (g_p := 90) (C_p := [.pointer (some ⟨bb0, 0, none⟩), .pointer (some ⟨bb1, 0, none⟩)]) (p := (fun (x_ : Int) => wrB fi vr x_)) (w := w) (w_ := w2) (r := [box bb1 #[.int .i64 vr] 3, box bb0 #[.slice a_fv n_fv c_fv, .slice a_fi fi.length c_fi, .slice a_fo n_fo c_fo] 66, imm (.slice a_l l.length c_l) l, imm (.slice a_fi fi.length c_fi) fi]) (M := M) ⟨go90, fun w_ ys_ H_ x_ hx_ hr_ => past_Writes1 (fi := fi) (vr := vr) (M := fun _ => False) (fun _ h_ => h_.elim) hr_ ((H_.rv 4 rfl).lift (Up.less fun _ _ h_ => h_.elim)) (by unfold I64 at *; omega) ⟨H_.at_ 2 rfl, fun h_ => h_⟩ ⟨H_.at_ 1 rfl, fun h_ => h_⟩⟩ H5
  refine ca go88 rfl (ec rfl (ec rfl e0)) cc1 ?_
  rintro _ w3 ⟨rfl, H6⟩
  have H7 : HI M w w3 [own w.heap.size 3 (.slice a0 (keepL (fun (x_ : Int) => wrB fi vr x_) l).length c0) (keepL (fun (x_ : Int) => wrB fi vr x_) l), box bb1 #[.int .i64 vr] 3, box bb0 #[.slice a_fv n_fv c_fv, .slice a_fi fi.length c_fi, .slice a_fo n_fo c_fo] 66, imm (.slice a_l l.length c_l) l, imm (.slice a_fi fi.length c_fi) fi] := H6
  refine k (asg (v := .slice a0 (keepL (fun (x_ : Int) => wrB fi vr x_) l).length c0) rfl rfl (z (nx (rt (r1 rfl rfl ?_)))))
  have e0 : ((keepL (fun (x_ : Int) => wrB fi vr x_) l) : List Int) = keepL (wrB fi vr) l := rfl
  have ev_ := cg1 (fun (x_0 : List Int) => (.slice a0 x_0.length c0 : Value)) e0
  exact ⟨a0, c0, ev_, H7.below, (congrArg (fun (x_ : List Int) => OwnsG _ _ _ x_ (.slice a0 x_.length c0) _) e0).mp (H7.ownsG_out 0 rfl)⟩
end Go.Proofs.YtmhopljngkgidaaDoor
