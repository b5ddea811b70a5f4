/- PRINTED by my own tool (wip/tool/gen.py): contracts of Go functions of this seat, each with its proof. -/
import Derived.Test.YtmliihgaoaolmaaProg
import Derived.Test.YtmliihgaoaolmaaEngQ
import Derived.Test.YtmliihgaoaolmaaEngR
import Derived.Test.YtmliihgaoaolmaaEwSpecL
namespace Go.Proofs.Ytmliihgaoaolmaa
open Go.Ew Go.RowKit
set_option linter.unusedVariables false
set_option linter.unusedSimpArgs false
attribute [local irreducible] WL WC SO Code.wp wpList retQ Ret
attribute [local irreducible] bitB hasW inR hasR setR countW countR subR words newR listR orR firstW tab8
theorem un9 : Try.prog.underlying 9 = some (.string) := by kernel_rfl
theorem un22 : Try.prog.underlying 22 = some (.slice 58) := by kernel_rfl
theorem ty58 : TyF Try.prog 58 1 false 24 (.slice none 0 0) := ⟨by kernel_rfl, by kernel_rfl⟩
theorem un58 : Try.prog.underlying 58 = some (.slice 66) := by kernel_rfl
theorem ty66 : TyF Try.prog 66 3 true 32 (.agg #[.bool false, .string ⟨#[]⟩, .int .i64 0]) := ⟨by kernel_rfl, by kernel_rfl⟩
theorem go43 : GoF Try.prog 43 := ⟨_, _, Try.func43, rfl, by kernel_rfl⟩
theorem fl66_1 : FldF Try.prog 66 1 1 := ⟨_, _, Try.underlying66, rfl, rfl, by kernel_rfl⟩
theorem ty9 : TyF Try.prog 9 1 false 16 (.string ⟨#[]⟩) := ⟨by kernel_rfl, by kernel_rfl⟩
theorem go44 : GoF Try.prog 44 := ⟨_, _, Try.func44, rfl, by kernel_rfl⟩
theorem go42 : GoF Try.prog 42 := ⟨_, _, Try.func42, rfl, by kernel_rfl⟩
theorem un26 : Try.prog.underlying 26 = some (.slice 9) := by kernel_rfl
theorem ty30 : TyF Try.prog 30 3 true 72 (.agg #[.slice none 0 0, .slice none 0 0, .slice none 0 0]) := ⟨by kernel_rfl, by kernel_rfl⟩
theorem go13 : GoF Try.prog 13 := ⟨_, _, Try.func13, rfl, by kernel_rfl⟩
theorem fl30_0 : FldF Try.prog 30 0 0 := ⟨_, _, Try.underlying30, rfl, rfl, by kernel_rfl⟩
theorem ty26 : TyF Try.prog 26 1 false 24 (.slice none 0 0) := ⟨by kernel_rfl, by kernel_rfl⟩
theorem go45 : GoF Try.prog 45 := ⟨_, _, Try.func45, rfl, by kernel_rfl⟩
theorem fl30_1 : FldF Try.prog 30 1 1 := ⟨_, _, Try.underlying30, rfl, rfl, by kernel_rfl⟩
theorem ty27 : TyF Try.prog 27 1 false 24 (.slice none 0 0) := ⟨by kernel_rfl, by kernel_rfl⟩
theorem fl66_0 : FldF Try.prog 66 0 0 := ⟨_, _, Try.underlying66, rfl, rfl, by kernel_rfl⟩
theorem ty4 : TyF Try.prog 4 1 false 1 (.bool false) := ⟨by kernel_rfl, by kernel_rfl⟩
theorem fl66_2 : FldF Try.prog 66 2 2 := ⟨_, _, Try.underlying66, rfl, rfl, by kernel_rfl⟩
theorem ty3 : TyF Try.prog 3 1 false 8 (.int .i64 0) := ⟨by kernel_rfl, by kernel_rfl⟩
theorem un27 : Try.prog.underlying 27 = some (.slice 40) := by kernel_rfl
theorem ty40 : TyF Try.prog 40 5 true 40 (.agg #[.int .i64 0, .int .i64 0, .bool false, .int .i64 0, .int .i64 0]) := ⟨by kernel_rfl, by kernel_rfl⟩
theorem fl40_2 : FldF Try.prog 40 2 2 := ⟨_, _, Try.underlying40, rfl, rfl, by kernel_rfl⟩
theorem fl40_3 : FldF Try.prog 40 3 3 := ⟨_, _, Try.underlying40, rfl, rfl, by kernel_rfl⟩
theorem fl40_4 : FldF Try.prog 40 4 4 := ⟨_, _, Try.underlying40, rfl, rfl, by kernel_rfl⟩
theorem go19 : GoF Try.prog 19 := ⟨_, _, Try.func19, rfl, by kernel_rfl⟩
theorem ty71 : TyF Try.prog 71 2 true 16 (.agg #[.int .i64 0, .int .i64 0]) := ⟨by kernel_rfl, by kernel_rfl⟩
theorem st71 : StF Try.prog 71 [some (0, 0), some (1, 0)] := ⟨by kernel_rfl, by kernel_rfl, by kernel_rfl, by kernel_rfl⟩
theorem mp69 : MapF Try.prog 69 := mapF (by kernel_rfl : Try.prog.underlying 69 = some (.map 71 3)) (key2_struct st71) ty3
theorem go47 : GoF Try.prog 47 := ⟨_, _, Try.func47, rfl, by kernel_rfl⟩
theorem go46 : GoF Try.prog 46 := ⟨_, _, Try.func46, rfl, by kernel_rfl⟩
/- eyewitness/eyewitnessref06.Name -/
set_option maxRecDepth 100000 in
set_option maxHeartbeats 200000 in
theorem ref06_Name {w : World} {s : ByteArray} (h_s : s.size ≤ maxLen) : Calls Try.prog 44 #[.string s] w (Ret fun v w' =>  v = .bool (nameS s) ∧ Ext w w') := by
  refine enter 28 Try.func44 rfl rfl rfl fun f0 ha => ?_
  have H := HI.start (M0 := (fun _ => False)) (w := w) (fun _ h => h.elim)
  have i0 : f0 0 = .string s := ha 0 (by simp)
  have hS_ : s.size ≤ 9223372036854775807 := by have h_ := h_s; simp only [maxLen] at h_; exact h_
  refine sq (rg (k (asg rfl rfl (z (nx (sq (sq (rg (k (asg rfl rfl (z (nx (bk ?_)))))))))))))
  refine lp (fun m f w' => ∃ (j : Nat), m = s.size - j ∧ f 0 = .string s ∧ f 3 = .int .i64 (j : Int) ∧  HI (fun _ => False) w w' [] ∧ (j ≤ s.size) ∧ ((s.data.toList.take j).all okC = true)) _ ⟨0, rfl, i0, (ieq rfl (by first | rfl | omega | simp)), H, (by first | assumption | omega | simp | (simp; omega)), (by rfl)⟩ ?_
  rintro _ f0 w0 ⟨j, rfl, s0, s1, H0, hk, hs⟩
  refine sq (sq (rg (k (mv rfl s1 (k (mv rfl s0 (k (lnT rfl rfl un9 (k (lss rfl rfl rfl rfl (z (nx ?_))))))))))))
  refine cd (b := decide ((j : Int) < (s.size : Int))) rfl rfl (fun b0 => ?_) (fun b0 => ?_)
  ·
    have p0 := of_decide_eq_true b0
    refine sk (nx (sq (bk (sq (rg (k (mv rfl s0 (k (mv rfl s1 (k (ixS rfl rfl rfl rfl (by first | omega | (simp; omega)) un9 ?_)))))))))))
    intro c0 hc0
    refine k (lss rfl rfl rfl rfl (k (mv rfl rfl ?_)))
    rcases Bool.eq_false_or_eq_true (decide ((c0.toNat : Int) < 97)) with b1 | b1
    · -- decide ((c0.toNat : Int) < 97) is True
      have p1 := of_decide_eq_true b1
      refine k (gn rfl rfl rfl b1 (k (gn rfl rfl rfl b1 (k (gn rfl rfl rfl b1 (k (gn rfl rfl rfl b1 (k (pickT rfl rfl rfl rfl b1 rfl (z (nx (cdT rfl rfl rfl (sq (rg (k (asg rfl rfl (z (nx (rt (inb_ret (then_ret (loop_ret (inb_ret (then_ret (r1 rfl rfl ?_)))))))))))))))))))))))))
      have e0 : (false : Bool) = nameS s := by first | exact name_no hc0 (okC_lo b1) | exact name_no hc0 (by have e_ := Option.some.inj (hc1.symm.trans hc0); subst e_; exact okC_hi b2) | (unfold nameS; rw [name_end hs (by omega)]; first | (rw [show decide (1 ≤ s.size) = true from decide_eq_true (by omega), Bool.true_and, Bool.true_and, decide_eq_decide]; omega) | (rw [show decide (1 ≤ s.size) = false from decide_eq_false (by omega)]; rfl))
      have ev_ := cg1 (fun (x_0 : Bool) => (.bool x_0 : Value)) e0
      exact ⟨ev_, H0.below⟩
    · -- decide ((c0.toNat : Int) < 97) is False
      have p1 := of_decide_eq_false b1
      refine k (gy rfl rfl rfl b1 (mv rfl s0 (k (gy rfl rfl rfl b1 (mv rfl s1 (k (gy rfl rfl rfl b1 (ixS rfl rfl rfl rfl (by first | omega | (simp; omega)) un9 ?_))))))))
      intro c1 hc1
      refine k (gy rfl rfl rfl b1 (gtr rfl rfl rfl rfl (k (pickF rfl rfl rfl rfl b1 rfl (z (nx ?_))))))
      refine cd (b := decide (122 < (c1.toNat : Int))) rfl rfl (fun b2 => ?_) (fun b2 => ?_)
      ·
        have p2 := of_decide_eq_true b2
        refine sq (rg (k (asg rfl rfl (z (nx (rt (inb_ret (then_ret (loop_ret (inb_ret (then_ret (r1 rfl rfl ?_))))))))))))
        have e0 : (false : Bool) = nameS s := by first | exact name_no hc0 (okC_lo b1) | exact name_no hc0 (by have e_ := Option.some.inj (hc1.symm.trans hc0); subst e_; exact okC_hi b2) | (unfold nameS; rw [name_end hs (by omega)]; first | (rw [show decide (1 ≤ s.size) = true from decide_eq_true (by omega), Bool.true_and, Bool.true_and, decide_eq_decide]; omega) | (rw [show decide (1 ≤ s.size) = false from decide_eq_false (by omega)]; rfl))
        have ev_ := cg1 (fun (x_0 : Bool) => (.bool x_0 : Value)) e0
        exact ⟨ev_, H0.below⟩
      ·
        have p2 := of_decide_eq_false b2
        refine sk (inb_normal (nx (rg (k (mv rfl s1 (k (add rfl rfl rfl rfl (by unfold I64 at *; omega) (k (asg rfl rfl (z ?_))))))))))
        refine loopN _ ?_ ⟨(j + 1), rfl, s0, (ieq rfl (by first | rfl | omega | (push_cast; omega))), H0, (by first | assumption | omega | simp | (simp; omega)), (by exact all_take (byte_at hc0) hs (by have e_ := Option.some.inj (hc1.symm.trans hc0); subst e_; exact okC_yes b1 b2))⟩
        omega
  ·
    have p0 := of_decide_eq_false b0
    refine ex (then_exit (loop_exit (inb_here (nx (sq (rg (k (mv rfl s0 (k (lnT rfl rfl un9 (k (geq rfl rfl rfl rfl (k (mv rfl rfl ?_))))))))))))))
    rcases Bool.eq_false_or_eq_true (decide (1 ≤ (s.size : Int))) with b1 | b1
    · -- decide (1 ≤ (s.size : Int)) is True
      have p1 := of_decide_eq_true b1
      refine k (gy rfl rfl rfl b1 (mv rfl s0 (k (gy rfl rfl rfl b1 (lnT rfl rfl un9 (k (gy rfl rfl rfl b1 (leq rfl rfl rfl rfl (k (pickT rfl rfl rfl rfl b1 rfl (k (asg rfl rfl (z (nx (rt (r1 rfl rfl ?_))))))))))))))))
      have e0 : (decide ((s.size : Int) ≤ 8) : Bool) = nameS s := by first | exact name_no hc0 (okC_lo b1) | exact name_no hc0 (by have e_ := Option.some.inj (hc1.symm.trans hc0); subst e_; exact okC_hi b2) | (unfold nameS; rw [name_end hs (by omega)]; first | (rw [show decide (1 ≤ s.size) = true from decide_eq_true (by omega), Bool.true_and, Bool.true_and, decide_eq_decide]; omega) | (rw [show decide (1 ≤ s.size) = false from decide_eq_false (by omega)]; rfl))
      have ev_ := cg1 (fun (x_0 : Bool) => (.bool x_0 : Value)) e0
      exact ⟨ev_, H0.below⟩
    · -- decide (1 ≤ (s.size : Int)) is False
      have p1 := of_decide_eq_false b1
      refine k (gn rfl rfl rfl b1 (k (gn rfl rfl rfl b1 (k (gn rfl rfl rfl b1 (k (pickF rfl rfl rfl rfl b1 rfl (k (asg rfl rfl (z (nx (rt (r1 rfl rfl ?_)))))))))))))
      have e0 : (false : Bool) = nameS s := by first | exact name_no hc0 (okC_lo b1) | exact name_no hc0 (by have e_ := Option.some.inj (hc1.symm.trans hc0); subst e_; exact okC_hi b2) | (unfold nameS; rw [name_end hs (by omega)]; first | (rw [show decide (1 ≤ s.size) = true from decide_eq_true (by omega), Bool.true_and, Bool.true_and, decide_eq_decide]; omega) | (rw [show decide (1 ≤ s.size) = false from decide_eq_false (by omega)]; rfl))
      have ev_ := cg1 (fun (x_0 : Bool) => (.bool x_0 : Value)) e0
      exact ⟨ev_, H0.below⟩
/- eyewitness/eyewitnessref06.Flat -/
set_option maxRecDepth 100000 in
set_option maxHeartbeats 200000 in
theorem ref06_Flat {M : Nat → Prop} {w : World} {a_h : Option Addr} {c_h : Nat} {h : List (List (Bool × ByteArray × Int))} (hM : ∀ b, M b → b < w.heap.size) (h_h : RV M w (.slice a_h h.length c_h) h) (hb_h : h.flatten.length ≤ 1048576) : Calls Try.prog 43 #[.slice a_h h.length c_h] w (Ret fun v w' => ∃ (a0 : Option Addr) (c0 : Nat), v = .slice a0 h.flatten.length c0 ∧ Ext w w' ∧ RV M w' (.slice a0 h.flatten.length c0) h.flatten) := by
  refine enter 18 Try.func43 rfl rfl rfl fun f0 ha => ?_
  have H := HI.start (M0 := M) (w := w) hM
  have H0 := H.put (it := imm (.slice a_h h.length c_h) h) rfl (by rw [MS_nil]; exact h_h)
  have ln_h := rv_len h_h
  have i0 : f0 0 = .slice a_h h.length c_h := ha 0 (by simp)
  refine sq (rg (k (asg rfl rfl (z (nx (sq (rg (k (asg rfl rfl (z (nx (sq (sq (rg (k (asg rfl rfl (z (nx (bk ?_)))))))))))))))))))
  have H1 := H0.nil_ (Bool × ByteArray × Int) 66
  refine lp (fun m f w' => ∃ (j : Nat) (xs : List (Bool × ByteArray × Int)) (a0 : Option Addr) (c0 : Nat), m = h.length - j ∧ f 0 = .slice a_h h.length c_h ∧ f 3 = .slice a0 xs.length c0 ∧ f 4 = .int .i64 (j : Int) ∧  HI M w w' [own w.heap.size 66 (.slice a0 xs.length c0) xs, imm (.slice a_h h.length c_h) h] ∧ (j ≤ h.length) ∧ (xs = (h.take j).flatten)) _ ⟨0, ([] : List (Bool × ByteArray × Int)), none, 0, rfl, i0, rfl, (ieq rfl (by first | rfl | omega | simp)), H1, (by first | assumption | omega | simp | (simp; omega)), (by rfl)⟩ ?_
  rintro _ f0 w0 ⟨j, xs, a0, c0, rfl, s0, s1, s2, H2, hk, hs⟩
  refine sq (sq (rg (k (mv rfl s2 (k (mv rfl s0 (k (lnS rfl rfl un22 (k (lss rfl rfl rfl rfl (z (nx ?_))))))))))))
  refine cd (b := decide ((j : Int) < (h.length : Int))) rfl rfl (fun b0 => ?_) (fun b0 => ?_)
  ·
    have p0 := of_decide_eq_true b0
    refine sk (nx (sq (bk (rg (k (mv rfl s1 (k (mv rfl s0 (k (mv rfl s2 (k (ia (H2.rv 1 rfl) rfl rfl rfl rfl (by first | omega | (simp; omega)) un22 ty58 ?_))))))))))))
    intro ad0 x0 hx0 hA0
    refine k (ldL hA0.w ty58 rfl rfl ?_)
    intro a1 c1 rv0
    have ln0 := rv_len rv0
    have H3 := H2.put (it := imm (.slice a1 x0.length c1) x0) rfl rv0
    refine k (ap H3 1 rfl rfl rfl rfl rfl rfl (H3.rv 0 rfl).src un58 ty66 rfl (by have h_ := flat_len hx0; rw [hs]; omega) (by have h_ := flat_len hx0; rw [hs]; omega) ?_)
    intro a2 c2 w1 (H4 : HI M w w1 [imm (.slice a1 x0.length c1) x0, own w.heap.size 66 (.slice a2 (xs ++ x0).length c2) (xs ++ x0), imm (.slice a_h h.length c_h) h])
    refine k (asg rfl rfl (z (inb_normal (nx (rg (k (mv rfl s2 (k (add rfl rfl rfl rfl (by unfold I64 at *; omega) (k (asg rfl rfl (z ?_))))))))))))
    have H5 : HI M w w1 [own w.heap.size 66 (.slice a2 (xs ++ x0).length c2) (xs ++ x0), imm (.slice a_h h.length c_h) h] := H4.pickN [1, 2] (by decide) rfl
    refine loopN _ ?_ ⟨(j + 1), (xs ++ x0), a2, c2, rfl, s0, rfl, (ieq rfl (by first | rfl | omega | (push_cast; omega))), H5, (by first | assumption | omega | simp | (simp; omega)), (by rw [hs, flat_step hx0])⟩
    omega
  ·
    have p0 := of_decide_eq_false b0
    refine ex (then_exit (loop_exit (inb_here (nx (sq (rg (k (mv rfl s1 (k (asg rfl rfl (z (nx (rt (r1 rfl rfl ?_))))))))))))))
    have e0 : (xs : List (Bool × ByteArray × Int)) = h.flatten := by rw [hs, take_end (by omega)]
    have ev_ := cg1 (fun (x_0 : List (Bool × ByteArray × Int)) => (.slice a0 x_0.length c0 : Value)) e0
    exact ⟨a0, c0, ev_, H2.below, (congrArg (fun (x_ : List (Bool × ByteArray × Int)) => RV _ _ (.slice a0 x_.length c0) x_) e0).mp (H2.outO 0 rfl)⟩
/- eyewitness/eyewitnessref06.Count -/
set_option maxRecDepth 100000 in
set_option maxHeartbeats 200000 in
theorem ref06_Count {M : Nat → Prop} {w : World} {a_h : Option Addr} {c_h : Nat} {h : List (List (Bool × ByteArray × Int))} (hM : ∀ b, M b → b < w.heap.size) (h_h : RV M w (.slice a_h h.length c_h) h) (hb_h : h.flatten.length ≤ 1048576) : Calls Try.prog 42 #[.slice a_h h.length c_h] w (Ret fun v w' =>  v = .int .i64 (h.flatten.length : Int) ∧ Ext w w') := by
  refine enter 6 Try.func42 rfl rfl rfl fun f0 ha => ?_
  have H := HI.start (M0 := M) (w := w) hM
  have H0 := H.put (it := imm (.slice a_h h.length c_h) h) rfl (by rw [MS_nil]; exact h_h)
  have ln_h := rv_len h_h
  have i0 : f0 0 = .slice a_h h.length c_h := ha 0 (by simp)
  refine sq (rg (k (asg rfl rfl (z (nx (sq (rg (k (mv rfl i0 (k ?_))))))))))
  have cc0 := ref06_Flat (h := h) (w := w) H0.mb (H0.rv 0 rfl) (by exact hb_h)
  refine ca go43 rfl (ec rfl e0) cc0 ?_
  rintro _ w0 ⟨a0, c0, rfl, xt0, rv0⟩
  have H1 := H0.ext xt0
  have H2 := H1.put (it := imm (.slice a0 h.flatten.length c0) h.flatten) rfl rv0
  refine k (lnS rfl rfl un58 (k (asg rfl rfl (z (nx (rt (r1 rfl rfl ?_)))))))
  exact ⟨rfl, H2.below⟩
/- eyewitness/eyewitnessref06.Right -/
set_option maxRecDepth 100000 in
set_option maxHeartbeats 200000 in
theorem ref06_Right {M : Nat → Prop} {w : World} {a_h : Option Addr} {c_h : Nat} {h : List (List (Bool × ByteArray × Int))} (hM : ∀ b, M b → b < w.heap.size) (h_h : RV M w (.slice a_h h.length c_h) h) (hb_h : h.flatten.length ≤ 1048576) : Calls Try.prog 13 #[.slice a_h h.length c_h] w (Ret fun v w' =>  v = .bool (rightH h) ∧ Ext w w') := by
  refine enter 23 Try.func13 rfl rfl rfl fun f0 ha => ?_
  have H := HI.start (M0 := M) (w := w) hM
  have H0 := H.put (it := imm (.slice a_h h.length c_h) h) rfl (by rw [MS_nil]; exact h_h)
  have ln_h := rv_len h_h
  have i0 : f0 0 = .slice a_h h.length c_h := ha 0 (by simp)
  refine sq (rg (k (asg rfl rfl (z (nx (sq (rg (k (mv rfl i0 (k ?_))))))))))
  have cc0 := ref06_Flat (h := h) (w := w) H0.mb (H0.rv 0 rfl) (by exact hb_h)
  refine ca go43 rfl (ec rfl e0) cc0 ?_
  rintro _ w0 ⟨a0, c0, rfl, xt0, rv0⟩
  have H1 := H0.ext xt0
  have H2 := H1.put (it := imm (.slice a0 h.flatten.length c0) h.flatten) rfl rv0
  refine k (asg rfl rfl (z (nx (sq (sq (rg (k (asg rfl rfl (z (nx (bk ?_)))))))))))
  refine lp (fun m f w' => ∃ (j : Nat), m = h.flatten.length - j ∧ f 3 = .slice a0 h.flatten.length c0 ∧ f 4 = .int .i64 (j : Int) ∧  HI M w w' [imm (.slice a0 h.flatten.length c0) h.flatten, imm (.slice a_h h.length c_h) h] ∧ (j ≤ h.flatten.length) ∧ ((h.flatten.take j).all opName = true)) _ ⟨0, rfl, rfl, (ieq rfl (by first | rfl | omega | simp)), H2, (by first | assumption | omega | simp | (simp; omega)), (by rfl)⟩ ?_
  rintro _ f0 w1 ⟨j, rfl, s0, s1, H3, hk, hs⟩
  refine sq (sq (rg (k (mv rfl s1 (k (mv rfl s0 (k (lnS rfl rfl un58 (k (lss rfl rfl rfl rfl (z (nx ?_))))))))))))
  refine cd (b := decide ((j : Int) < (h.flatten.length : Int))) rfl rfl (fun b0 => ?_) (fun b0 => ?_)
  ·
    have p0 := of_decide_eq_true b0
    refine sk (nx (sq (bk (sq (rg (k (mv rfl s0 (k (mv rfl s1 (k (ia (H3.rv 0 rfl) rfl rfl rfl rfl (by first | omega | (simp; omega)) un58 ty66 ?_)))))))))))
    intro ad0 x0 hx0 hA0
    refine k (fa fl66_1 rfl rfl (k (ldS ((hA0).s1).fst.w ty9 rfl rfl ?_)))
    intro rv1
    refine k ?_
    have cc1 := ref06_Name (s := x0.2.1) (w := w1) (by assumption)
    refine ca go44 rfl (ec rfl e0) cc1 ?_
    rintro _ w2 ⟨rfl, xt1⟩
    have H4 := H3.ext xt1
    refine k (not_ rfl rfl (z (nx ?_)))
    refine cd (b := !(nameS x0.2.1)) rfl rfl (fun b1 => ?_) (fun b1 => ?_)
    ·
      refine sq (rg (k (asg rfl rfl (z (nx (rt (inb_ret (then_ret (loop_ret (inb_ret (then_ret (r1 rfl rfl ?_))))))))))))
      have e0 : (false : Bool) = rightH h := by first | exact right_no hx0 (by simpa using b1) | exact right_end hs (by omega)
      have ev_ := cg1 (fun (x_0 : Bool) => (.bool x_0 : Value)) e0
      exact ⟨ev_, H4.below⟩
    ·
      refine sk (inb_normal (nx (rg (k (mv rfl s1 (k (add rfl rfl rfl rfl (by unfold I64 at *; omega) (k (asg rfl rfl (z ?_))))))))))
      refine loopN _ ?_ ⟨(j + 1), rfl, s0, (ieq rfl (by first | rfl | omega | (push_cast; omega))), H4, (by first | assumption | omega | simp | (simp; omega)), (by exact all_take hx0 hs (by simpa [opName] using b1))⟩
      omega
  ·
    have p0 := of_decide_eq_false b0
    refine ex (then_exit (loop_exit (inb_here (nx (sq (rg (k (mv rfl s0 (k (lnS rfl rfl un58 (k (leq rfl rfl rfl rfl (k (asg rfl rfl (z (nx (rt (r1 rfl rfl ?_))))))))))))))))))
    have e0 : (decide ((h.flatten.length : Int) ≤ 4096) : Bool) = rightH h := by first | exact right_no hx0 (by simpa using b1) | exact right_end hs (by omega)
    have ev_ := cg1 (fun (x_0 : Bool) => (.bool x_0 : Value)) e0
    exact ⟨ev_, H3.below⟩
/- eyewitness/eyewitnessref06.Small -/
set_option maxRecDepth 100000 in
set_option maxHeartbeats 200000 in
theorem ref06_Small {M : Nat → Prop} {w : World} {a_h : Option Addr} {c_h : Nat} {h : List (List (Bool × ByteArray × Int))} {m : Int} (hM : ∀ b, M b → b < w.heap.size) (h_h : RV M w (.slice a_h h.length c_h) h) (h_m : I64 m) (hb_h : h.flatten.length ≤ 1048576) : Calls Try.prog 12 #[.slice a_h h.length c_h, .int .i64 m] w (Ret fun v w' =>  v = .bool (smallH h m) ∧ Ext w w') := by
  refine enter 32 Try.func12 rfl rfl rfl fun f0 ha => ?_
  have H := HI.start (M0 := M) (w := w) hM
  have H0 := H.put (it := imm (.slice a_h h.length c_h) h) rfl (by rw [MS_nil]; exact h_h)
  have ln_h := rv_len h_h
  have i0 : f0 0 = .slice a_h h.length c_h := ha 0 (by simp)
  have i1 : f0 1 = .int .i64 m := ha 1 (by simp)
  refine sq (rg (k (asg rfl rfl (z (nx (sq (sq (rg (k (mv rfl i0 (k (lnS rfl rfl un22 (k (mv rfl i1 (k (gtr rfl rfl rfl rfl (k (mv rfl rfl ?_))))))))))))))))))
  rcases Bool.eq_false_or_eq_true (decide (m < (h.length : Int))) with b0 | b0
  · -- decide (m < (h.length : Int)) is True
    have p0 := of_decide_eq_true b0
    refine k (gn rfl rfl rfl b0 (k (gn rfl rfl rfl b0 (k (gn rfl rfl rfl b0 (k (gn rfl rfl rfl b0 (k (pickT rfl rfl rfl rfl b0 rfl (z (nx (cdT rfl rfl rfl (sq (rg (k (asg rfl rfl (z (nx (rt (then_ret (r1 rfl rfl ?_)))))))))))))))))))))
    have e0 : (false : Bool) = smallH h m := by first | exact small_no1 p0 | exact small_no2 p1 | exact small_no3 hx0 (by simpa using b3) | exact small_end p0 p1 hs (by omega)
    have ev_ := cg1 (fun (x_0 : Bool) => (.bool x_0 : Value)) e0
    exact ⟨ev_, H0.below⟩
  · -- decide (m < (h.length : Int)) is False
    have p0 := of_decide_eq_false b0
    refine k (gy rfl rfl rfl b0 (mv rfl i0 (k (gy rfl rfl rfl b0 ?_))))
    have cc0 := ref06_Count (h := h) (w := w) H0.mb (H0.rv 0 rfl) (by exact hb_h)
    refine ca go42 rfl (ec rfl e0) cc0 ?_
    rintro _ w0 ⟨rfl, xt0⟩
    have H1 := H0.ext xt0
    refine k (gy rfl rfl rfl b0 (mv rfl i1 (k (gy rfl rfl rfl b0 (gtr rfl rfl rfl rfl (k (pickF rfl rfl rfl rfl b0 rfl (z (nx ?_)))))))))
    refine cd (b := decide (m < (h.flatten.length : Int))) rfl rfl (fun b1 => ?_) (fun b1 => ?_)
    ·
      have p1 := of_decide_eq_true b1
      refine sq (rg (k (asg rfl rfl (z (nx (rt (then_ret (r1 rfl rfl ?_))))))))
      have e0 : (false : Bool) = smallH h m := by first | exact small_no1 p0 | exact small_no2 p1 | exact small_no3 hx0 (by simpa using b3) | exact small_end p0 p1 hs (by omega)
      have ev_ := cg1 (fun (x_0 : Bool) => (.bool x_0 : Value)) e0
      exact ⟨ev_, H1.below⟩
    ·
      have p1 := of_decide_eq_false b1
      refine sk (nx (sq (rg (k (mv rfl i0 (k ?_))))))
      have cc1 := ref06_Flat (h := h) (w := w0) H1.mb (H1.rv 0 rfl) (by exact hb_h)
      refine ca go43 rfl (ec rfl e0) cc1 ?_
      rintro _ w1 ⟨a0, c0, rfl, xt1, rv0⟩
      have H2 := H1.ext xt1
      have H3 := H2.put (it := imm (.slice a0 h.flatten.length c0) h.flatten) rfl rv0
      refine k (asg rfl rfl (z (nx (sq (sq (rg (k (asg rfl rfl (z (nx (bk ?_)))))))))))
      refine lp (fun m f w' => ∃ (j : Nat), m = h.flatten.length - j ∧ f 5 = .slice a0 h.flatten.length c0 ∧ f 6 = .int .i64 (j : Int) ∧  HI M w w' [imm (.slice a0 h.flatten.length c0) h.flatten, imm (.slice a_h h.length c_h) h] ∧ (j ≤ h.flatten.length) ∧ ((h.flatten.take j).all opShort = true)) _ ⟨0, rfl, rfl, (ieq rfl (by first | rfl | omega | simp)), H3, (by first | assumption | omega | simp | (simp; omega)), (by rfl)⟩ ?_
      rintro _ f0 w2 ⟨j, rfl, s0, s1, H4, hk, hs⟩
      refine sq (sq (rg (k (mv rfl s1 (k (mv rfl s0 (k (lnS rfl rfl un58 (k (lss rfl rfl rfl rfl (z (nx ?_))))))))))))
      refine cd (b := decide ((j : Int) < (h.flatten.length : Int))) rfl rfl (fun b2 => ?_) (fun b2 => ?_)
      ·
        have p2 := of_decide_eq_true b2
        refine sk (nx (sq (bk (sq (rg (k (mv rfl s0 (k (mv rfl s1 (k (ia (H4.rv 0 rfl) rfl rfl rfl rfl (by first | omega | (simp; omega)) un58 ty66 ?_)))))))))))
        intro ad0 x0 hx0 hA0
        refine k (fa fl66_1 rfl rfl (k (ldS ((hA0).s1).fst.w ty9 rfl rfl ?_)))
        intro rv1
        refine k (lnT rfl rfl un9 (k (gtr rfl rfl rfl rfl (z (nx ?_)))))
        refine cd (b := decide (20 < (x0.2.1.size : Int))) rfl rfl (fun b3 => ?_) (fun b3 => ?_)
        ·
          have p3 := of_decide_eq_true b3
          refine sq (rg (k (asg rfl rfl (z (nx (rt (inb_ret (then_ret (loop_ret (inb_ret (then_ret (r1 rfl rfl ?_))))))))))))
          have e0 : (false : Bool) = smallH h m := by first | exact small_no1 p0 | exact small_no2 p1 | exact small_no3 hx0 (by simpa using b3) | exact small_end p0 p1 hs (by omega)
          have ev_ := cg1 (fun (x_0 : Bool) => (.bool x_0 : Value)) e0
          exact ⟨ev_, H4.below⟩
        ·
          have p3 := of_decide_eq_false b3
          refine sk (inb_normal (nx (rg (k (mv rfl s1 (k (add rfl rfl rfl rfl (by unfold I64 at *; omega) (k (asg rfl rfl (z ?_))))))))))
          refine loopN _ ?_ ⟨(j + 1), rfl, s0, (ieq rfl (by first | rfl | omega | (push_cast; omega))), H4, (by first | assumption | omega | simp | (simp; omega)), (by exact all_take hx0 hs (decide_eq_true (by omega)))⟩
          omega
      ·
        have p2 := of_decide_eq_false b2
        refine ex (then_exit (loop_exit (inb_here (nx (sq (rg (k (asg rfl rfl (z (nx (rt (r1 rfl rfl ?_))))))))))))
        have e0 : (true : Bool) = smallH h m := by first | exact small_no1 p0 | exact small_no2 p1 | exact small_no3 hx0 (by simpa using b3) | exact small_end p0 p1 hs (by omega)
        have ev_ := cg1 (fun (x_0 : Bool) => (.bool x_0 : Value)) e0
        exact ⟨ev_, H4.below⟩
/- eyewitness/eyewitnessref09.find -/
set_option maxRecDepth 100000 in
set_option maxHeartbeats 200000 in
theorem ref09_find {M : Nat → Prop} {w : World} {a_l : Option Addr} {c_l : Nat} {l : List ByteArray} {s : ByteArray} (hM : ∀ b, M b → b < w.heap.size) (h_l : RV M w (.slice a_l l.length c_l) l) (h_s : s.size ≤ maxLen) : Calls Try.prog 45 #[.slice a_l l.length c_l, .string s] w (Ret fun v w' =>  v = .int .i64 (findS l s) ∧ Ext w w') := by
  refine enter 19 Try.func45 rfl rfl rfl fun f0 ha => ?_
  have H := HI.start (M0 := M) (w := w) hM
  have H0 := H.put (it := imm (.slice a_l l.length c_l) l) rfl (by rw [MS_nil]; exact h_l)
  have ln_l := rv_len h_l
  have i0 : f0 0 = .slice a_l l.length c_l := ha 0 (by simp)
  have i1 : f0 1 = .string s := ha 1 (by simp)
  refine sq (rg (k (asg rfl rfl (z (nx (sq (sq (rg (k (asg rfl rfl (z (nx (bk ?_)))))))))))))
  refine lp (fun m f w' => ∃ (j : Nat), m = l.length - j ∧ f 0 = .slice a_l l.length c_l ∧ f 1 = .string s ∧ f 5 = .int .i64 (j : Int) ∧  HI M w w' [imm (.slice a_l l.length c_l) l] ∧ (j ≤ l.length) ∧ ((l.take j).any (isS s) = false)) _ ⟨0, rfl, i0, i1, (ieq rfl (by first | rfl | omega | simp)), H0, (by first | assumption | omega | simp | (simp; omega)), (by simp)⟩ ?_
  rintro _ f0 w0 ⟨j, rfl, s0, s1, s2, H1, hk, hs⟩
  refine sq (sq (rg (k (mv rfl s2 (k (mv rfl s0 (k (lnS rfl rfl un26 (k (lss rfl rfl rfl rfl (z (nx ?_))))))))))))
  refine cd (b := decide ((j : Int) < (l.length : Int))) rfl rfl (fun b0 => ?_) (fun b0 => ?_)
  ·
    have p0 := of_decide_eq_true b0
    refine sk (nx (sq (bk (sq (rg (k (mv rfl s0 (k (mv rfl s2 (k (ia (H1.rv 0 rfl) rfl rfl rfl rfl (by first | omega | (simp; omega)) un26 ty9 ?_)))))))))))
    intro ad0 x0 hx0 hA0
    refine k (ldS hA0.w ty9 rfl rfl ?_)
    intro rv0
    refine k (mv rfl s1 (k (eqS rfl rfl rfl rfl (z (nx ?_)))))
    refine cd (b := decide (x0 = s)) rfl rfl (fun b1 => ?_) (fun b1 => ?_)
    ·
      have p1 := of_decide_eq_true b1
      refine sq (rg (k (mv rfl s2 (k (asg rfl rfl (z (nx (rt (inb_ret (then_ret (loop_ret (inb_ret (then_ret (r1 rfl rfl ?_))))))))))))))
      have e0 : ((j : Int) : Int) = findS l s := by first | exact idxF_hit hx0 hs b1 | exact idxF_miss hs (by omega)
      have ev_ := cg1 (fun (x_0 : Int) => (.int .i64 x_0 : Value)) e0
      exact ⟨ev_, H1.below⟩
    ·
      have p1 := of_decide_eq_false b1
      refine sk (inb_normal (nx (rg (k (mv rfl s2 (k (add rfl rfl rfl rfl (by unfold I64 at *; omega) (k (asg rfl rfl (z ?_))))))))))
      refine loopN _ ?_ ⟨(j + 1), rfl, s0, s1, (ieq rfl (by first | rfl | omega | (push_cast; omega))), H1, (by first | assumption | omega | simp | (simp; omega)), (by exact any_step hx0 hs b1)⟩
      omega
  ·
    have p0 := of_decide_eq_false b0
    refine ex (then_exit (loop_exit (inb_here (nx (sq (rg (k (asg rfl rfl (z (nx (rt (r1 rfl rfl ?_))))))))))))
    have e0 : ((-1) : Int) = findS l s := by first | exact idxF_hit hx0 hs b1 | exact idxF_miss hs (by omega)
    have ev_ := cg1 (fun (x_0 : Int) => (.int .i64 x_0 : Value)) e0
    exact ⟨ev_, H1.below⟩
/- eyewitness/eyewitnessref09.Of -/
set_option maxRecDepth 100000 in
set_option maxHeartbeats 200000 in
theorem ref09_Of {M : Nat → Prop} {w : World} {a_h : Option Addr} {c_h : Nat} {h : List (List (Bool × ByteArray × Int))} (hM : ∀ b, M b → b < w.heap.size) (h_h : RV M w (.slice a_h h.length c_h) h) (hb_h : h.flatten.length ≤ 1048576) : Calls Try.prog 15 #[.slice a_h h.length c_h] w (Ret fun v w' => ∃ (a0 : Option Addr) (c0 : Nat) (a1 : Option Addr) (c1 : Nat) (a2 : Option Addr) (c2 : Nat), v = .tuple #[.agg #[.slice a0 (ofV h).length c0, .slice a1 (ofI h).length c1, .slice a2 ([] : List Int).length c2], .int .i64 (ofE h)] ∧ Ext w w' ∧ RV M w' (.slice a0 (ofV h).length c0) (ofV h) ∧ RV M w' (.slice a1 (ofI h).length c1) (ofI h) ∧ RV M w' (.slice a2 ([] : List Int).length c2) ([] : List Int)) := by
  refine enter 66 Try.func15 rfl rfl rfl fun f0 ha => ?_
  have H := HI.start (M0 := M) (w := w) hM
  have H0 := H.put (it := imm (.slice a_h h.length c_h) h) rfl (by rw [MS_nil]; exact h_h)
  have ln_h := rv_len h_h
  have i0 : f0 0 = .slice a_h h.length c_h := ha 0 (by simp)
  refine sq (rg (k (al H0 ty30 ?_)))
  intro bb0 w0 xt0 (H1 : HI M w w0 [box bb0 #[.slice none 0 0, .slice none 0 0, .slice none 0 0] 30, imm (.slice a_h h.length c_h) h])
  refine k (asg rfl rfl (z (nx (sq (sq (rg (k (mv rfl i0 (k ?_)))))))))
  have cc0 := ref06_Right (h := h) (w := w0) H1.mb (H1.rv 1 rfl) (by exact hb_h)
  refine ca go13 rfl (ec rfl e0) cc0 ?_
  rintro _ w1 ⟨rfl, xt1⟩
  have H2 := H1.ext xt1
  refine k (not_ rfl rfl (z (nx ?_)))
  refine cd (b := !(rightH h)) rfl rfl (fun b0 => ?_) (fun b0 => ?_)
  ·
    refine sq ?_
    have hq : rightH h = false := by simpa using b0
    refine rg (k (bd (v := .agg #[.slice none 0 0, .slice none 0 0, .slice none 0 0]) rfl pb0 (fun _ => by kernel_rfl) (k (stX H2 0 rfl ty30 rfl rfl rfl rfl rfl rfl rfl ?_))))
    intro w2 (H3 : HI M w w2 [box bb0 #[.slice none 0 0, .slice none 0 0, .slice none 0 0] 30, imm (.slice a_h h.length c_h) h])
    refine k (asg rfl rfl (z (nx (rt (then_ret (rc2 H3 0 rfl ty30 rfl rfl rfl rfl rfl (by decide) ?_))))))
    have e0 : ([] : List ByteArray) = ofV h := by first | exact (of_bad hq).1.symm | (rw [(of_ok hq).1, h1]; unfold factV; rw [show i = h.length from by omega])
    have e1 : ([] : List (Int × Int × Bool × Int × Int)) = ofI h := by first | exact (of_bad hq).2.1.symm | (rw [(of_ok hq).2.1, h2]; unfold factI; rw [show i = h.length from by omega])
    have e2 : ([] : List Int) = ([] : List Int) := rfl
    have e3 : (1 : Int) = ofE h := by first | exact (of_bad hq).2.2.symm | exact (of_ok hq).2.2.symm
    have ev_ := cg4 (fun (x_0 : List ByteArray) (x_1 : List (Int × Int × Bool × Int × Int)) (x_2 : List Int) (x_3 : Int) => (.tuple #[.agg #[.slice none x_0.length 0, .slice none x_1.length 0, .slice none x_2.length 0], .int .i64 x_3] : Value)) e0 e1 e2 e3
    exact ⟨none, 0, none, 0, none, 0, ev_, H3.below, (congrArg (fun (x_ : List ByteArray) => RV _ _ (.slice none x_.length 0) x_) e0).mp (rv_nil _ _), (congrArg (fun (x_ : List (Int × Int × Bool × Int × Int)) => RV _ _ (.slice none x_.length 0) x_) e1).mp (rv_nil _ _), (congrArg (fun (x_ : List Int) => RV _ _ (.slice none x_.length 0) x_) e2).mp (rv_nil _ _)⟩
  ·
    refine sk (nx (sq ?_))
    have hq : rightH h = true := by simpa using b0
    refine rg (k (al H2 ty30 ?_))
    intro bb1 w2 xt2 (H3 : HI M w w2 [box bb1 #[.slice none 0 0, .slice none 0 0, .slice none 0 0] 30, box bb0 #[.slice none 0 0, .slice none 0 0, .slice none 0 0] 30, imm (.slice a_h h.length c_h) h])
    refine z (nx (sq (sq (rg (k (asg rfl rfl (z (nx (bk ?_)))))))))
    have H4 := H3.nil_ ByteArray 9
    have H5 := H4.nil_ (Int × Int × Bool × Int × Int) 40
    refine lp (fun m f w' => ∃ (i : Nat) (vs : List ByteArray) (its : List (Int × Int × Bool × Int × Int)) (a0 : Option Addr) (c0 : Nat) (a1 : Option Addr) (c1 : Nat), m = h.length - i ∧ f 0 = .slice a_h h.length c_h ∧ f 2 = .pointer (some ⟨bb0, 0, none⟩) ∧ f 4 = .pointer (some ⟨bb1, 0, none⟩) ∧ f 5 = .int .i64 (i : Int) ∧  HI M w w' [own w.heap.size 40 (.slice a1 its.length c1) its, own w.heap.size 9 (.slice a0 vs.length c0) vs, box bb1 #[.slice a0 vs.length c0, .slice a1 its.length c1, .slice none 0 0] 30, box bb0 #[.slice none 0 0, .slice none 0 0, .slice none 0 0] 30, imm (.slice a_h h.length c_h) h] ∧ (i ≤ h.length) ∧ (vs = (allO h i).1) ∧ (its = (allO h i).2)) _ ⟨0, ([] : List ByteArray), ([] : List (Int × Int × Bool × Int × Int)), none, 0, none, 0, rfl, i0, rfl, rfl, (ieq rfl (by first | rfl | omega | simp)), H5, (by first | assumption | omega | simp | (simp; omega)), (by rfl), (by rfl)⟩ ?_
    rintro _ f0 w3 ⟨i, vs, its, a0, c0, a1, c1, rfl, s0, s1, s2, s3, H6, hi_, h1, h2⟩
    refine sq (sq (rg (k (mv rfl s3 (k (mv rfl s0 (k (lnS rfl rfl un22 (k (lss rfl rfl rfl rfl (z (nx ?_))))))))))))
    refine cd (b := decide ((i : Int) < (h.length : Int))) rfl rfl (fun b1 => ?_) (fun b1 => ?_)
    ·
      have p1 := of_decide_eq_true b1
      refine sk (nx (sq (bk (sq (rg (k (asg rfl rfl (z (nx (bk ?_))))))))))
      refine lp (fun m f w' => ∃ (q : Nat) (vs : List ByteArray) (its : List (Int × Int × Bool × Int × Int)) (a2 : Option Addr) (c2 : Nat) (a3 : Option Addr) (c3 : Nat), m = (h.getD i []).length - q ∧ f 0 = .slice a_h h.length c_h ∧ f 2 = .pointer (some ⟨bb0, 0, none⟩) ∧ f 4 = .pointer (some ⟨bb1, 0, none⟩) ∧ f 5 = .int .i64 (i : Int) ∧ f 6 = .int .i64 (q : Int) ∧  HI M w w' [own w.heap.size 40 (.slice a3 its.length c3) its, own w.heap.size 9 (.slice a2 vs.length c2) vs, box bb1 #[.slice a2 vs.length c2, .slice a3 its.length c3, .slice none 0 0] 30, box bb0 #[.slice none 0 0, .slice none 0 0, .slice none 0 0] 30, imm (.slice a_h h.length c_h) h] ∧ (q ≤ (h.getD i []).length) ∧ (vs = (toO i (allO h i) (h.getD i []) q).1) ∧ (its = (toO i (allO h i) (h.getD i []) q).2)) _ ⟨0, vs, its, a0, c0, a1, c1, rfl, s0, s1, s2, s3, (ieq rfl (by first | rfl | omega | simp)), H6, (by first | assumption | omega | simp | (simp; omega)), (by exact h1), (by exact h2)⟩ ?_
      rintro _ f1 w4 ⟨q, vs, its, a2, c2, a3, c3, rfl, s4, s5, s6, s7, s8, H7, hk, h1, h2⟩
      refine sq (sq (rg (k (mv rfl s8 (k (mv rfl s4 (k (mv rfl s7 (k (ia (H7.rv 4 rfl) rfl rfl rfl rfl (by first | omega | (simp; omega)) un22 ty58 ?_))))))))))
      intro ad0 x0 hx0 hA0
      refine k (ldL hA0.w ty58 rfl rfl ?_)
      intro a4 c4 rv0
      have ln0 := rv_len rv0
      have H8 := H7.put (it := imm (.slice a4 x0.length c4) x0) rfl rv0
      refine k (lnS rfl rfl un58 (k (lss rfl rfl rfl rfl (z (nx ?_)))))
      refine cd (b := decide ((q : Int) < (x0.length : Int))) rfl rfl (fun b2 => ?_) (fun b2 => ?_)
      ·
        have p2 := of_decide_eq_true b2
        refine sk (nx (sq (bk (sq (rg (k (mv rfl s4 (k (mv rfl s7 (k (ia (H8.rv 5 rfl) rfl rfl rfl rfl (by first | omega | (simp; omega)) un22 ty58 ?_)))))))))))
        intro ad1 x1 hx1 hA1
        refine k (ldL hA1.w ty58 rfl rfl ?_)
        intro a5 c5 rv1
        have ln1 := rv_len rv1
        have H9 := H8.put (it := imm (.slice a5 x1.length c5) x1) rfl rv1
        refine k (mv rfl s8 (k (ia (H9.rv 0 rfl) rfl rfl rfl rfl (by have e_ := at_is hx1 hx0; subst e_; omega) un58 ty66 ?_)))
        intro ad2 x2 hx2 hA2
        refine k (ldW hA2.w ty66 rfl rfl ?_)
        intro v0 rv2
        obtain ⟨_, ⟨_, _, rfl, rfl, ⟨_, _, rfl, ⟨rfl, rv3⟩, ⟨rfl, rv4⟩⟩⟩, rfl⟩ := rv2
        refine k (al H9 ty66 ?_)
        intro bb2 w5 xt3 (H10 : HI M w w5 [box bb2 #[.bool false, .string ⟨#[]⟩, .int .i64 0] 66, imm (.slice a5 x1.length c5) x1, imm (.slice a4 x0.length c4) x0, own w.heap.size 40 (.slice a3 its.length c3) its, own w.heap.size 9 (.slice a2 vs.length c2) vs, box bb1 #[.slice a2 vs.length c2, .slice a3 its.length c3, .slice none 0 0] 30, box bb0 #[.slice none 0 0, .slice none 0 0, .slice none 0 0] 30, imm (.slice a_h h.length c_h) h])
        refine k (stX H10 0 rfl ty66 rfl rfl rfl rfl rfl rfl rfl ?_)
        intro w6 (H11 : HI M w w6 [box bb2 #[.bool x2.1, .string x2.2.1, .int .i64 x2.2.2] 66, imm (.slice a5 x1.length c5) x1, imm (.slice a4 x0.length c4) x0, own w.heap.size 40 (.slice a3 its.length c3) its, own w.heap.size 9 (.slice a2 vs.length c2) vs, box bb1 #[.slice a2 vs.length c2, .slice a3 its.length c3, .slice none 0 0] 30, box bb0 #[.slice none 0 0, .slice none 0 0, .slice none 0 0] 30, imm (.slice a_h h.length c_h) h])
        refine z (nx (sq (rg (k (fa fl30_0 rfl s6 (k (ldX H11 5 rfl ty26 rfl rfl (by decide) rfl (k (fa fl66_1 rfl rfl (k (ldX H11 0 rfl ty9 rfl rfl (by decide) rfl (k ?_))))))))))))
        have H12 := H11.freeze 4 rfl
        have cc1 := ref09_find (l := vs) (s := x2.2.1) (w := w6) H12.mb (H12.rv 4 rfl) (by assumption)
        refine ca go45 rfl (ec rfl (ec rfl e0)) cc1 ?_
        rintro _ w7 ⟨rfl, xt4⟩
        have H13 := H11.ext xt4
        refine k (asg rfl rfl (z (nx (sq (sq (rg (k (mv rfl rfl (k (lss rfl rfl rfl rfl (z (nx ?_))))))))))))
        refine cd (b := decide ((findS vs x2.2.1) < 0)) rfl rfl (fun b3 => ?_) (fun b3 => ?_)
        ·
          have p3 := of_decide_eq_true b3
          refine sq (rg (k (fa fl30_0 rfl s6 (k (ldX H13 5 rfl ty26 rfl rfl (by decide) rfl (k (lnS rfl rfl un26 (k (asg rfl rfl (z (nx (rg (k (fa fl30_0 rfl s6 (k (ldX H13 5 rfl ty26 rfl rfl (by decide) rfl (k (fa fl66_1 rfl rfl (k (ldX H13 0 rfl ty9 rfl rfl (by decide) rfl (k (bs (xs := ([x2.2.1] : List ByteArray)) (cells := #[.string x2.2.1]) (e := 9) H13 rfl (pbc rfl pb0) (fun _ => by kernel_rfl) ⟨[.string x2.2.1], [], rfl, ⟨rfl, (by assumption)⟩, rfl⟩ rfl (by unfold maxLen; omega) ?_))))))))))))))))))))))
          intro g0 w8 xt5 (H14 : HI M w w8 [own w.heap.size 9 (.slice (some ⟨g0, 0, none⟩) 1 1) ([x2.2.1] : List ByteArray), box bb2 #[.bool x2.1, .string x2.2.1, .int .i64 x2.2.2] 66, imm (.slice a5 x1.length c5) x1, imm (.slice a4 x0.length c4) x0, own w.heap.size 40 (.slice a3 its.length c3) its, own w.heap.size 9 (.slice a2 vs.length c2) vs, box bb1 #[.slice a2 vs.length c2, .slice a3 its.length c3, .slice none 0 0] 30, box bb0 #[.slice none 0 0, .slice none 0 0, .slice none 0 0] 30, imm (.slice a_h h.length c_h) h])
          refine k (ap H14 5 rfl rfl rfl rfl rfl rfl (own_src (H14.at_ 0 rfl)) un26 ty9 rfl (by have e_ := at_is hx1 hx0; have h_ := of_room (k := q) hx0 (by omega); rw [← getD_row hx0, ← h1, ← h2] at h_; simp only [List.length_cons, List.length_nil]; omega) (by have e_ := at_is hx1 hx0; have h_ := of_room (k := q) hx0 (by omega); rw [← getD_row hx0, ← h1, ← h2] at h_; simp only [List.length_cons, List.length_nil]; omega) ?_)
          intro a6 c6 w9 (H15 : HI M w w9 [own w.heap.size 9 (.slice (some ⟨g0, 0, none⟩) 1 1) ([x2.2.1] : List ByteArray), box bb2 #[.bool x2.1, .string x2.2.1, .int .i64 x2.2.2] 66, imm (.slice a5 x1.length c5) x1, imm (.slice a4 x0.length c4) x0, own w.heap.size 40 (.slice a3 its.length c3) its, own w.heap.size 9 (.slice a6 (vs ++ ([x2.2.1] : List ByteArray)).length c6) (vs ++ ([x2.2.1] : List ByteArray)), box bb1 #[.slice a2 vs.length c2, .slice a3 its.length c3, .slice none 0 0] 30, box bb0 #[.slice none 0 0, .slice none 0 0, .slice none 0 0] 30, imm (.slice a_h h.length c_h) h])
          refine k (fa fl30_0 rfl s6 (k (stX H15 6 rfl ty26 rfl rfl rfl rfl rfl rfl rfl ?_)))
          intro w10 (H16 : HI M w w10 [own w.heap.size 9 (.slice (some ⟨g0, 0, none⟩) 1 1) ([x2.2.1] : List ByteArray), box bb2 #[.bool x2.1, .string x2.2.1, .int .i64 x2.2.2] 66, imm (.slice a5 x1.length c5) x1, imm (.slice a4 x0.length c4) x0, own w.heap.size 40 (.slice a3 its.length c3) its, own w.heap.size 9 (.slice a6 (vs ++ ([x2.2.1] : List ByteArray)).length c6) (vs ++ ([x2.2.1] : List ByteArray)), box bb1 #[.slice a6 (vs ++ ([x2.2.1] : List ByteArray)).length c6, .slice a3 its.length c3, .slice none 0 0] 30, box bb0 #[.slice none 0 0, .slice none 0 0, .slice none 0 0] 30, imm (.slice a_h h.length c_h) h])
          refine z (nx (rg (k (fa fl30_1 rfl s6 (k (ldX H16 6 rfl ty27 rfl rfl (by decide) rfl (k (mv rfl s7 (k (mv rfl s8 (k (fa fl66_0 rfl rfl (k (ldX H16 1 rfl ty4 rfl rfl (by decide) rfl (k (mv rfl rfl (k (fa fl66_2 rfl rfl (k (ldX H16 1 rfl ty3 rfl rfl (by decide) rfl (k (bd (v := .agg #[.int .i64 (i : Int), .int .i64 (q : Int), .bool x2.1, .int .i64 (vs.length : Int), .int .i64 x2.2.2]) rfl (pbc rfl (pbc rfl (pbc rfl (pbc rfl (pbc rfl pb0))))) (fun _ => by kernel_rfl) (k (bs (xs := ([((i : Int), (q : Int), x2.1, (vs.length : Int), x2.2.2)] : List (Int × Int × Bool × Int × Int))) (cells := #[.int .i64 (i : Int), .int .i64 (q : Int), .bool x2.1, .int .i64 (vs.length : Int), .int .i64 x2.2.2]) (e := 40) H16 rfl (pbc rfl pb0) (fun _ => by kernel_rfl) ⟨[.int .i64 (i : Int), .int .i64 (q : Int), .bool x2.1, .int .i64 (vs.length : Int), .int .i64 x2.2.2], [], rfl, ⟨_, _, rfl, ⟨rfl, (show I64 ((i : Int)) from (by unfold I64 at *; omega))⟩, ⟨_, _, rfl, ⟨rfl, (show I64 ((q : Int)) from (by unfold I64 at *; omega))⟩, ⟨_, _, rfl, rfl, ⟨_, _, rfl, ⟨rfl, (show I64 ((vs.length : Int)) from (by have e_ := at_is hx1 hx0; have h3 := of_room (k := q) hx0 (by omega); rw [← getD_row hx0, ← h1, ← h2] at h3; unfold I64; omega))⟩, ⟨rfl, (show I64 (x2.2.2) from (by unfold I64 at *; omega))⟩⟩⟩⟩⟩, rfl⟩ rfl (by unfold maxLen; omega) ?_))))))))))))))))))))))))
          intro g1 w11 xt6 (H17 : HI M w w11 [own w.heap.size 40 (.slice (some ⟨g1, 0, none⟩) 1 1) ([((i : Int), (q : Int), x2.1, (vs.length : Int), x2.2.2)] : List (Int × Int × Bool × Int × Int)), own w.heap.size 9 (.slice (some ⟨g0, 0, none⟩) 1 1) ([x2.2.1] : List ByteArray), box bb2 #[.bool x2.1, .string x2.2.1, .int .i64 x2.2.2] 66, imm (.slice a5 x1.length c5) x1, imm (.slice a4 x0.length c4) x0, own w.heap.size 40 (.slice a3 its.length c3) its, own w.heap.size 9 (.slice a6 (vs ++ ([x2.2.1] : List ByteArray)).length c6) (vs ++ ([x2.2.1] : List ByteArray)), box bb1 #[.slice a6 (vs ++ ([x2.2.1] : List ByteArray)).length c6, .slice a3 its.length c3, .slice none 0 0] 30, box bb0 #[.slice none 0 0, .slice none 0 0, .slice none 0 0] 30, imm (.slice a_h h.length c_h) h])
          refine k (ap H17 5 rfl rfl rfl rfl rfl rfl (own_src (H17.at_ 0 rfl)) un27 ty40 rfl (by have e_ := at_is hx1 hx0; have h_ := of_room (k := q) hx0 (by omega); rw [← getD_row hx0, ← h1, ← h2] at h_; simp only [List.length_cons, List.length_nil]; omega) (by have e_ := at_is hx1 hx0; have h_ := of_room (k := q) hx0 (by omega); rw [← getD_row hx0, ← h1, ← h2] at h_; simp only [List.length_cons, List.length_nil]; omega) ?_)
          intro a7 c7 w12 (H18 : HI M w w12 [own w.heap.size 40 (.slice (some ⟨g1, 0, none⟩) 1 1) ([((i : Int), (q : Int), x2.1, (vs.length : Int), x2.2.2)] : List (Int × Int × Bool × Int × Int)), own w.heap.size 9 (.slice (some ⟨g0, 0, none⟩) 1 1) ([x2.2.1] : List ByteArray), box bb2 #[.bool x2.1, .string x2.2.1, .int .i64 x2.2.2] 66, imm (.slice a5 x1.length c5) x1, imm (.slice a4 x0.length c4) x0, own w.heap.size 40 (.slice a7 (its ++ ([((i : Int), (q : Int), x2.1, (vs.length : Int), x2.2.2)] : List (Int × Int × Bool × Int × Int))).length c7) (its ++ ([((i : Int), (q : Int), x2.1, (vs.length : Int), x2.2.2)] : List (Int × Int × Bool × Int × Int))), own w.heap.size 9 (.slice a6 (vs ++ ([x2.2.1] : List ByteArray)).length c6) (vs ++ ([x2.2.1] : List ByteArray)), box bb1 #[.slice a6 (vs ++ ([x2.2.1] : List ByteArray)).length c6, .slice a3 its.length c3, .slice none 0 0] 30, box bb0 #[.slice none 0 0, .slice none 0 0, .slice none 0 0] 30, imm (.slice a_h h.length c_h) h])
          refine k (fa fl30_1 rfl s6 (k (stX H18 7 rfl ty27 rfl rfl rfl rfl rfl rfl rfl ?_)))
          intro w13 (H19 : HI M w w13 [own w.heap.size 40 (.slice (some ⟨g1, 0, none⟩) 1 1) ([((i : Int), (q : Int), x2.1, (vs.length : Int), x2.2.2)] : List (Int × Int × Bool × Int × Int)), own w.heap.size 9 (.slice (some ⟨g0, 0, none⟩) 1 1) ([x2.2.1] : List ByteArray), box bb2 #[.bool x2.1, .string x2.2.1, .int .i64 x2.2.2] 66, imm (.slice a5 x1.length c5) x1, imm (.slice a4 x0.length c4) x0, own w.heap.size 40 (.slice a7 (its ++ ([((i : Int), (q : Int), x2.1, (vs.length : Int), x2.2.2)] : List (Int × Int × Bool × Int × Int))).length c7) (its ++ ([((i : Int), (q : Int), x2.1, (vs.length : Int), x2.2.2)] : List (Int × Int × Bool × Int × Int))), own w.heap.size 9 (.slice a6 (vs ++ ([x2.2.1] : List ByteArray)).length c6) (vs ++ ([x2.2.1] : List ByteArray)), box bb1 #[.slice a6 (vs ++ ([x2.2.1] : List ByteArray)).length c6, .slice a7 (its ++ ([((i : Int), (q : Int), x2.1, (vs.length : Int), x2.2.2)] : List (Int × Int × Bool × Int × Int))).length c7, .slice none 0 0] 30, box bb0 #[.slice none 0 0, .slice none 0 0, .slice none 0 0] 30, imm (.slice a_h h.length c_h) h])
          refine z (inb_normal (nx (rg (k (mv rfl s8 (k (add rfl rfl rfl rfl (by unfold I64 at *; omega) (k (asg rfl rfl (z ?_))))))))))
          have H20 : HI M w w13 [own w.heap.size 40 (.slice a7 (its ++ ([((i : Int), (q : Int), x2.1, (vs.length : Int), x2.2.2)] : List (Int × Int × Bool × Int × Int))).length c7) (its ++ ([((i : Int), (q : Int), x2.1, (vs.length : Int), x2.2.2)] : List (Int × Int × Bool × Int × Int))), own w.heap.size 9 (.slice a6 (vs ++ ([x2.2.1] : List ByteArray)).length c6) (vs ++ ([x2.2.1] : List ByteArray)), box bb1 #[.slice a6 (vs ++ ([x2.2.1] : List ByteArray)).length c6, .slice a7 (its ++ ([((i : Int), (q : Int), x2.1, (vs.length : Int), x2.2.2)] : List (Int × Int × Bool × Int × Int))).length c7, .slice none 0 0] 30, box bb0 #[.slice none 0 0, .slice none 0 0, .slice none 0 0] 30, imm (.slice a_h h.length c_h) h] := H19.pickN [5, 6, 7, 8, 9] (by decide) rfl
          refine loopN _ ?_ ⟨(q + 1), (vs ++ ([x2.2.1] : List ByteArray)), (its ++ ([((i : Int), (q : Int), x2.1, (vs.length : Int), x2.2.2)] : List (Int × Int × Bool × Int × Int))), a6, c6, a7, c7, rfl, s4, s5, s6, s7, (ieq rfl (by first | rfl | omega | (push_cast; omega))), H20, (by rw [getD_row hx0]; omega), (by rw [h1] at *; have e_ := at_is hx1 hx0; subst e_; rw [getD_row hx0] at *; first | exact (step_new hx2 p3).1 | exact (step_old hx2 p3).1), (by rw [h1, h2] at *; have e_ := at_is hx1 hx0; subst e_; rw [getD_row hx0] at *; first | exact (step_new hx2 p3).2 | exact (step_old hx2 p3).2)⟩
          rw [getD_row hx0]; omega
        ·
          have p3 := of_decide_eq_false b3
          refine sk (nx (rg (k (fa fl30_1 rfl s6 (k (ldX H13 5 rfl ty27 rfl rfl (by decide) rfl (k (mv rfl s7 (k (mv rfl s8 (k (fa fl66_0 rfl rfl (k (ldX H13 0 rfl ty4 rfl rfl (by decide) rfl (k (mv rfl rfl (k (fa fl66_2 rfl rfl (k (ldX H13 0 rfl ty3 rfl rfl (by decide) rfl (k (bd (v := .agg #[.int .i64 (i : Int), .int .i64 (q : Int), .bool x2.1, .int .i64 (findS vs x2.2.1), .int .i64 x2.2.2]) rfl (pbc rfl (pbc rfl (pbc rfl (pbc rfl (pbc rfl pb0))))) (fun _ => by kernel_rfl) (k (bs (xs := ([((i : Int), (q : Int), x2.1, findS vs x2.2.1, x2.2.2)] : List (Int × Int × Bool × Int × Int))) (cells := #[.int .i64 (i : Int), .int .i64 (q : Int), .bool x2.1, .int .i64 (findS vs x2.2.1), .int .i64 x2.2.2]) (e := 40) H13 rfl (pbc rfl pb0) (fun _ => by kernel_rfl) ⟨[.int .i64 (i : Int), .int .i64 (q : Int), .bool x2.1, .int .i64 (findS vs x2.2.1), .int .i64 x2.2.2], [], rfl, ⟨_, _, rfl, ⟨rfl, (show I64 ((i : Int)) from (by unfold I64 at *; omega))⟩, ⟨_, _, rfl, ⟨rfl, (show I64 ((q : Int)) from (by unfold I64 at *; omega))⟩, ⟨_, _, rfl, rfl, ⟨_, _, rfl, ⟨rfl, (show I64 (findS vs x2.2.1) from (by have h_ := idxF_range (p := isS x2.2.1) (r := vs); have e_ := at_is hx1 hx0; have h3 := of_room (k := q) hx0 (by omega); rw [← getD_row hx0, ← h1, ← h2] at h3; unfold findS; unfold I64; omega))⟩, ⟨rfl, (show I64 (x2.2.2) from (by unfold I64 at *; omega))⟩⟩⟩⟩⟩, rfl⟩ rfl (by unfold maxLen; omega) ?_))))))))))))))))))))))))
          intro g0 w8 xt5 (H14 : HI M w w8 [own w.heap.size 40 (.slice (some ⟨g0, 0, none⟩) 1 1) ([((i : Int), (q : Int), x2.1, findS vs x2.2.1, x2.2.2)] : List (Int × Int × Bool × Int × Int)), box bb2 #[.bool x2.1, .string x2.2.1, .int .i64 x2.2.2] 66, imm (.slice a5 x1.length c5) x1, imm (.slice a4 x0.length c4) x0, own w.heap.size 40 (.slice a3 its.length c3) its, own w.heap.size 9 (.slice a2 vs.length c2) vs, box bb1 #[.slice a2 vs.length c2, .slice a3 its.length c3, .slice none 0 0] 30, box bb0 #[.slice none 0 0, .slice none 0 0, .slice none 0 0] 30, imm (.slice a_h h.length c_h) h])
          refine k (ap H14 4 rfl rfl rfl rfl rfl rfl (own_src (H14.at_ 0 rfl)) un27 ty40 rfl (by have e_ := at_is hx1 hx0; have h_ := of_room (k := q) hx0 (by omega); rw [← getD_row hx0, ← h1, ← h2] at h_; simp only [List.length_cons, List.length_nil]; omega) (by have e_ := at_is hx1 hx0; have h_ := of_room (k := q) hx0 (by omega); rw [← getD_row hx0, ← h1, ← h2] at h_; simp only [List.length_cons, List.length_nil]; omega) ?_)
          intro a6 c6 w9 (H15 : HI M w w9 [own w.heap.size 40 (.slice (some ⟨g0, 0, none⟩) 1 1) ([((i : Int), (q : Int), x2.1, findS vs x2.2.1, x2.2.2)] : List (Int × Int × Bool × Int × Int)), box bb2 #[.bool x2.1, .string x2.2.1, .int .i64 x2.2.2] 66, imm (.slice a5 x1.length c5) x1, imm (.slice a4 x0.length c4) x0, own w.heap.size 40 (.slice a6 (its ++ ([((i : Int), (q : Int), x2.1, findS vs x2.2.1, x2.2.2)] : List (Int × Int × Bool × Int × Int))).length c6) (its ++ ([((i : Int), (q : Int), x2.1, findS vs x2.2.1, x2.2.2)] : List (Int × Int × Bool × Int × Int))), own w.heap.size 9 (.slice a2 vs.length c2) vs, box bb1 #[.slice a2 vs.length c2, .slice a3 its.length c3, .slice none 0 0] 30, box bb0 #[.slice none 0 0, .slice none 0 0, .slice none 0 0] 30, imm (.slice a_h h.length c_h) h])
          refine k (fa fl30_1 rfl s6 (k (stX H15 6 rfl ty27 rfl rfl rfl rfl rfl rfl rfl ?_)))
          intro w10 (H16 : HI M w w10 [own w.heap.size 40 (.slice (some ⟨g0, 0, none⟩) 1 1) ([((i : Int), (q : Int), x2.1, findS vs x2.2.1, x2.2.2)] : List (Int × Int × Bool × Int × Int)), box bb2 #[.bool x2.1, .string x2.2.1, .int .i64 x2.2.2] 66, imm (.slice a5 x1.length c5) x1, imm (.slice a4 x0.length c4) x0, own w.heap.size 40 (.slice a6 (its ++ ([((i : Int), (q : Int), x2.1, findS vs x2.2.1, x2.2.2)] : List (Int × Int × Bool × Int × Int))).length c6) (its ++ ([((i : Int), (q : Int), x2.1, findS vs x2.2.1, x2.2.2)] : List (Int × Int × Bool × Int × Int))), own w.heap.size 9 (.slice a2 vs.length c2) vs, box bb1 #[.slice a2 vs.length c2, .slice a6 (its ++ ([((i : Int), (q : Int), x2.1, findS vs x2.2.1, x2.2.2)] : List (Int × Int × Bool × Int × Int))).length c6, .slice none 0 0] 30, box bb0 #[.slice none 0 0, .slice none 0 0, .slice none 0 0] 30, imm (.slice a_h h.length c_h) h])
          refine z (inb_normal (nx (rg (k (mv rfl s8 (k (add rfl rfl rfl rfl (by unfold I64 at *; omega) (k (asg rfl rfl (z ?_))))))))))
          have H17 : HI M w w10 [own w.heap.size 40 (.slice a6 (its ++ ([((i : Int), (q : Int), x2.1, findS vs x2.2.1, x2.2.2)] : List (Int × Int × Bool × Int × Int))).length c6) (its ++ ([((i : Int), (q : Int), x2.1, findS vs x2.2.1, x2.2.2)] : List (Int × Int × Bool × Int × Int))), own w.heap.size 9 (.slice a2 vs.length c2) vs, box bb1 #[.slice a2 vs.length c2, .slice a6 (its ++ ([((i : Int), (q : Int), x2.1, findS vs x2.2.1, x2.2.2)] : List (Int × Int × Bool × Int × Int))).length c6, .slice none 0 0] 30, box bb0 #[.slice none 0 0, .slice none 0 0, .slice none 0 0] 30, imm (.slice a_h h.length c_h) h] := H16.pickN [4, 5, 6, 7, 8] (by decide) rfl
          refine loopN _ ?_ ⟨(q + 1), vs, (its ++ ([((i : Int), (q : Int), x2.1, findS vs x2.2.1, x2.2.2)] : List (Int × Int × Bool × Int × Int))), a2, c2, a6, c6, rfl, s4, s5, s6, s7, (ieq rfl (by first | rfl | omega | (push_cast; omega))), H17, (by rw [getD_row hx0]; omega), (by rw [h1] at *; have e_ := at_is hx1 hx0; subst e_; rw [getD_row hx0] at *; first | exact (step_new hx2 p3).1 | exact (step_old hx2 p3).1), (by rw [h1, h2] at *; have e_ := at_is hx1 hx0; subst e_; rw [getD_row hx0] at *; first | exact (step_new hx2 p3).2 | exact (step_old hx2 p3).2)⟩
          rw [getD_row hx0]; omega
      ·
        have p2 := of_decide_eq_false b2
        refine ex (then_exit (loop_exit (inb_here (inb_normal (nx (rg (k (mv rfl s7 (k (add rfl rfl rfl rfl (by unfold I64 at *; omega) (k (asg rfl rfl (z ?_)))))))))))))
        have H9 : HI M w w4 [own w.heap.size 40 (.slice a3 its.length c3) its, own w.heap.size 9 (.slice a2 vs.length c2) vs, box bb1 #[.slice a2 vs.length c2, .slice a3 its.length c3, .slice none 0 0] 30, box bb0 #[.slice none 0 0, .slice none 0 0, .slice none 0 0] 30, imm (.slice a_h h.length c_h) h] := H8.pickN [1, 2, 3, 4, 5] (by decide) rfl
        refine loopN _ ?_ ⟨(i + 1), vs, its, a2, c2, a3, c3, rfl, s4, s5, s6, (ieq rfl (by first | rfl | omega | (push_cast; omega))), H9, (by first | assumption | omega | simp | (simp; omega)), (by rw [h1, allO_end (by omega) (by rw [getD_row hx0]; omega)]), (by rw [h2, allO_end (by omega) (by rw [getD_row hx0]; omega)])⟩
        omega
    ·
      have p1 := of_decide_eq_false b1
      refine ex (then_exit (loop_exit (inb_here (nx (sq (rg (k (ldX H6 2 rfl ty30 rfl s2 (by decide) rfl (k (stX H6 3 rfl ty30 rfl rfl s1 rfl rfl rfl rfl ?_))))))))))
      intro w4 (H7 : HI M w w4 [own w.heap.size 40 (.slice a1 its.length c1) its, own w.heap.size 9 (.slice a0 vs.length c0) vs, box bb1 #[.slice a0 vs.length c0, .slice a1 its.length c1, .slice none 0 0] 30, box bb0 #[.slice a0 vs.length c0, .slice a1 its.length c1, .slice none 0 0] 30, imm (.slice a_h h.length c_h) h])
      refine k (asg rfl rfl (z (nx (rt (rc2 H7 3 rfl ty30 rfl rfl rfl s1 rfl (by decide) ?_)))))
      have e0 : (vs : List ByteArray) = ofV h := by first | exact (of_bad hq).1.symm | (rw [(of_ok hq).1, h1]; unfold factV; rw [show i = h.length from by omega])
      have e1 : (its : List (Int × Int × Bool × Int × Int)) = ofI h := by first | exact (of_bad hq).2.1.symm | (rw [(of_ok hq).2.1, h2]; unfold factI; rw [show i = h.length from by omega])
      have e2 : ([] : List Int) = ([] : List Int) := rfl
      have e3 : (0 : Int) = ofE h := by first | exact (of_bad hq).2.2.symm | exact (of_ok hq).2.2.symm
      have ev_ := cg4 (fun (x_0 : List ByteArray) (x_1 : List (Int × Int × Bool × Int × Int)) (x_2 : List Int) (x_3 : Int) => (.tuple #[.agg #[.slice a0 x_0.length c0, .slice a1 x_1.length c1, .slice none x_2.length 0], .int .i64 x_3] : Value)) e0 e1 e2 e3
      exact ⟨a0, c0, a1, c1, none, 0, ev_, H7.below, (congrArg (fun (x_ : List ByteArray) => RV _ _ (.slice a0 x_.length c0) x_) e0).mp (H7.outO 1 rfl), (congrArg (fun (x_ : List (Int × Int × Bool × Int × Int)) => RV _ _ (.slice a1 x_.length c1) x_) e1).mp (H7.outO 0 rfl), (congrArg (fun (x_ : List Int) => RV _ _ (.slice none x_.length 0) x_) e2).mp (rv_nil _ _)⟩
/- eyewitness/eyewitnessref10.Write -/
set_option maxRecDepth 100000 in
set_option maxHeartbeats 200000 in
theorem ref10_Write {M : Nat → Prop} {w : World} {a_fv : Option Addr} {n_fv c_fv : Nat} {a_fi : Option Addr} {c_fi : Nat} {fi : List (Int × Int × Bool × Int × Int)} {a_fo : Option Addr} {n_fo c_fo : Nat} {vr : Int} {val : Int} (hM : ∀ b, M b → b < w.heap.size) (h_fi : RV M w (.slice a_fi fi.length c_fi) fi) (h_vr : I64 vr) (h_val : I64 val) : Calls Try.prog 19 #[.agg #[.slice a_fv n_fv c_fv, .slice a_fi fi.length c_fi, .slice a_fo n_fo c_fo], .int .i64 vr, .int .i64 val] w (Ret fun v w' =>  v = .tuple #[.int .i64 (max (wrI fi vr val) 0), .bool (decide (0 ≤ wrI fi vr val))] ∧ Ext w w') := by
  refine enter 43 Try.func19 rfl rfl rfl fun f0 ha => ?_
  have H := HI.start (M0 := M) (w := w) hM
  have H0 := H.put (it := imm (.slice a_fi fi.length c_fi) fi) rfl (by rw [MS_nil]; exact h_fi)
  have ln_fi := rv_len h_fi
  have i0 : f0 0 = .agg #[.slice a_fv n_fv c_fv, .slice a_fi fi.length c_fi, .slice a_fo n_fo c_fo] := ha 0 (by simp)
  have i1 : f0 1 = .int .i64 vr := ha 1 (by simp)
  have i2 : f0 2 = .int .i64 val := ha 2 (by simp)
  refine sq (rg (k (bx H0 rfl i0 ?_)))
  intro bb0 w0 xt0 (H1 : HI M w w0 [box bb0 #[.slice a_fv n_fv c_fv, .slice a_fi fi.length c_fi, .slice a_fo n_fo c_fo] 30, imm (.slice a_fi fi.length c_fi) fi])
  refine k (asg rfl rfl (k (asg rfl rfl (z (nx (sq (sq (rg (k (asg rfl rfl (z (nx (bk ?_)))))))))))))
  refine lp (fun m f w' => ∃ (j : Nat), m = fi.length - j ∧ f 1 = .int .i64 vr ∧ f 2 = .int .i64 val ∧ f 3 = .pointer (some ⟨bb0, 0, none⟩) ∧ f 8 = .int .i64 (j : Int) ∧  HI M w w' [box bb0 #[.slice a_fv n_fv c_fv, .slice a_fi fi.length c_fi, .slice a_fo n_fo c_fo] 30, imm (.slice a_fi fi.length c_fi) fi] ∧ (j ≤ fi.length) ∧ ((fi.take j).any (isW vr val) = false)) _ ⟨0, rfl, i1, i2, rfl, (ieq rfl (by first | rfl | omega | simp)), H1, (by first | assumption | omega | simp | (simp; omega)), (by simp)⟩ ?_
  rintro _ f0 w1 ⟨j, rfl, s0, s1, s2, s3, H2, hk, hs⟩
  refine sq (sq (rg (k (mv rfl s3 (k (fa fl30_1 rfl s2 (k (ldX H2 0 rfl ty27 rfl rfl (by decide) rfl (k (lnS rfl rfl un27 (k (lss rfl rfl rfl rfl (z (nx ?_))))))))))))))
  refine cd (b := decide ((j : Int) < (fi.length : Int))) rfl rfl (fun b0 => ?_) (fun b0 => ?_)
  ·
    have p0 := of_decide_eq_true b0
    refine sk (nx (sq (bk (sq (rg (k (fa fl30_1 rfl s2 (k (ldX H2 0 rfl ty27 rfl rfl (by decide) rfl (k (mv rfl s3 (k (ia (H2.rv 1 rfl) rfl rfl rfl rfl (by first | omega | (simp; omega)) un27 ty40 ?_)))))))))))))
    intro ad0 x0 hx0 hA0
    refine k (fa fl40_2 rfl rfl (k (ldB ((hA0).s2).fst.w ty4 rfl rfl (k (mv rfl rfl ?_)))))
    rcases Bool.eq_false_or_eq_true (x0.2.2.1) with b1 | b1
    · -- x0.2.2.1 is True
      refine k (gy rfl rfl rfl b1 (fa fl30_1 rfl s2 (k (gy rfl rfl rfl b1 (ldX H2 0 rfl ty27 rfl rfl (by decide) rfl (k (gy rfl rfl rfl b1 (mv rfl s3 (k (gy rfl rfl rfl b1 (ia (H2.rv 1 rfl) rfl rfl rfl rfl (by first | omega | (simp; omega)) un27 ty40 ?_)))))))))))
      intro ad1 x1 hx1 hA1
      refine k (gy rfl rfl rfl b1 (fa fl40_3 rfl rfl (k (gy rfl rfl rfl b1 (ldI ((hA1).s3).fst.w ty3 rfl rfl ?_)))))
      intro rv0
      refine k (gy rfl rfl rfl b1 (mv rfl s0 (k (gy rfl rfl rfl b1 (eql rfl rfl rfl rfl (k (pickT rfl rfl rfl rfl b1 rfl (k (mv rfl rfl ?_)))))))))
      rcases Bool.eq_false_or_eq_true (decide (x1.2.2.2.1 = vr)) with b2 | b2
      · -- decide (x1.2.2.2.1 = vr) is True
        have p2 := of_decide_eq_true b2
        refine k (gy rfl rfl rfl b2 (fa fl30_1 rfl s2 (k (gy rfl rfl rfl b2 (ldX H2 0 rfl ty27 rfl rfl (by decide) rfl (k (gy rfl rfl rfl b2 (mv rfl s3 (k (gy rfl rfl rfl b2 (ia (H2.rv 1 rfl) rfl rfl rfl rfl (by first | omega | (simp; omega)) un27 ty40 ?_)))))))))))
        intro ad2 x2 hx2 hA2
        refine k (gy rfl rfl rfl b2 (fa fl40_4 rfl rfl (k (gy rfl rfl rfl b2 (ldI (hA2).s4.w ty3 rfl rfl ?_)))))
        intro rv1
        refine k (gy rfl rfl rfl b2 (mv rfl s1 (k (gy rfl rfl rfl b2 (eql rfl rfl rfl rfl (k (pickT rfl rfl rfl rfl b2 rfl (z (nx ?_)))))))))
        refine cd (b := decide (x2.2.2.2.2 = val)) rfl rfl (fun b3 => ?_) (fun b3 => ?_)
        ·
          have p3 := of_decide_eq_true b3
          refine sq (rg (k (mv rfl s3 (k (asg rfl rfl (k (asg rfl rfl (z (nx (rt (inb_ret (then_ret (loop_ret (inb_ret (then_ret (r2 rfl rfl rfl ?_))))))))))))))))
          have e0 : ((j : Int) : Int) = (max (wrI fi vr val) 0) := by first | (have e1 := at_is hx1 hx0; subst e1; have e2 := at_is hx2 hx0; subst e2; have h_ := wr_hit hx0 b1 b2 b3 hs; omega) | (have h_ := wr_miss hs (by omega); omega)
          have e1 : (true : Bool) = decide (0 ≤ wrI fi vr val) := by first | (have e1 := at_is hx1 hx0; subst e1; have e2 := at_is hx2 hx0; subst e2; have h_ := wr_hit hx0 b1 b2 b3 hs; symm; rw [decide_eq_true_eq]; omega) | (have h_ := wr_miss hs (by omega); symm; rw [decide_eq_false_iff_not]; omega)
          have ev_ := cg2 (fun (x_0 : Int) (x_1 : Bool) => (.tuple #[.int .i64 x_0, .bool x_1] : Value)) e0 e1
          exact ⟨ev_, H2.below⟩
        ·
          have p3 := of_decide_eq_false b3
          refine sk (inb_normal (nx (rg (k (mv rfl s3 (k (add rfl rfl rfl rfl (by unfold I64 at *; omega) (k (asg rfl rfl (z ?_))))))))))
          refine loopN _ ?_ ⟨(j + 1), rfl, s0, s1, s2, (ieq rfl (by first | rfl | omega | (push_cast; omega))), H2, (by first | assumption | omega | simp | (simp; omega)), (by first | exact any_step hx0 hs (isW_no1 b1) | (have e1 := at_is hx1 hx0; subst e1; first | exact any_step hx0 hs (isW_no2 b2) | (have e2 := at_is hx2 hx0; subst e2; exact any_step hx0 hs (isW_no3 b3))))⟩
          omega
      · -- decide (x1.2.2.2.1 = vr) is False
        have p2 := of_decide_eq_false b2
        refine k (gn rfl rfl rfl b2 (k (gn rfl rfl rfl b2 (k (gn rfl rfl rfl b2 (k (gn rfl rfl rfl b2 (k (gn rfl rfl rfl b2 (k (gn rfl rfl rfl b2 (k (gn rfl rfl rfl b2 (k (gn rfl rfl rfl b2 (k (pickF rfl rfl rfl rfl b2 rfl (z (nx (cdF rfl rfl rfl (sk (inb_normal (nx (rg (k (mv rfl s3 (k (add rfl rfl rfl rfl (by unfold I64 at *; omega) (k (asg rfl rfl (z ?_)))))))))))))))))))))))))))))))
        refine loopN _ ?_ ⟨(j + 1), rfl, s0, s1, s2, (ieq rfl (by first | rfl | omega | (push_cast; omega))), H2, (by first | assumption | omega | simp | (simp; omega)), (by first | exact any_step hx0 hs (isW_no1 b1) | (have e1 := at_is hx1 hx0; subst e1; first | exact any_step hx0 hs (isW_no2 b2) | (have e2 := at_is hx2 hx0; subst e2; exact any_step hx0 hs (isW_no3 b3))))⟩
        omega
    · -- x0.2.2.1 is False
      refine k (gn rfl rfl rfl b1 (k (gn rfl rfl rfl b1 (k (gn rfl rfl rfl b1 (k (gn rfl rfl rfl b1 (k (gn rfl rfl rfl b1 (k (gn rfl rfl rfl b1 (k (gn rfl rfl rfl b1 (k (gn rfl rfl rfl b1 (k (pickF rfl rfl rfl rfl b1 rfl (k (mv rfl rfl (k (gn rfl rfl rfl rfl (k (gn rfl rfl rfl rfl (k (gn rfl rfl rfl rfl (k (gn rfl rfl rfl rfl (k (gn rfl rfl rfl rfl (k (gn rfl rfl rfl rfl (k (gn rfl rfl rfl rfl (k (gn rfl rfl rfl rfl (k (pickF rfl rfl rfl rfl rfl rfl (z (nx (cdF rfl rfl rfl (sk (inb_normal (nx (rg (k (mv rfl s3 (k (add rfl rfl rfl rfl (by unfold I64 at *; omega) (k (asg rfl rfl (z ?_)))))))))))))))))))))))))))))))))))))))))))))))))))
      refine loopN _ ?_ ⟨(j + 1), rfl, s0, s1, s2, (ieq rfl (by first | rfl | omega | (push_cast; omega))), H2, (by first | assumption | omega | simp | (simp; omega)), (by first | exact any_step hx0 hs (isW_no1 b1) | (have e1 := at_is hx1 hx0; subst e1; first | exact any_step hx0 hs (isW_no2 b2) | (have e2 := at_is hx2 hx0; subst e2; exact any_step hx0 hs (isW_no3 b3))))⟩
      omega
  ·
    have p0 := of_decide_eq_false b0
    refine ex (then_exit (loop_exit (inb_here (nx (sq (rg (k (asg rfl rfl (k (asg rfl rfl (z (nx (rt (r2 rfl rfl rfl ?_))))))))))))))
    have e0 : (0 : Int) = (max (wrI fi vr val) 0) := by first | (have e1 := at_is hx1 hx0; subst e1; have e2 := at_is hx2 hx0; subst e2; have h_ := wr_hit hx0 b1 b2 b3 hs; omega) | (have h_ := wr_miss hs (by omega); omega)
    have e1 : (false : Bool) = decide (0 ≤ wrI fi vr val) := by first | (have e1 := at_is hx1 hx0; subst e1; have e2 := at_is hx2 hx0; subst e2; have h_ := wr_hit hx0 b1 b2 b3 hs; symm; rw [decide_eq_true_eq]; omega) | (have h_ := wr_miss hs (by omega); symm; rw [decide_eq_false_iff_not]; omega)
    have ev_ := cg2 (fun (x_0 : Int) (x_1 : Bool) => (.tuple #[.int .i64 x_0, .bool x_1] : Value)) e0 e1
    exact ⟨ev_, H2.below⟩
/- eyewitness/eyewitnessref10.Check -/
set_option maxRecDepth 100000 in
set_option maxHeartbeats 200000 in
theorem ref10_Check {M : Nat → Prop} {w : World} {a_fv : Option Addr} {n_fv c_fv : Nat} {a_fi : Option Addr} {c_fi : Nat} {fi : List (Int × Int × Bool × Int × Int)} {a_fo : Option Addr} {n_fo c_fo : Nat} (hM : ∀ b, M b → b < w.heap.size) (h_fi : RV M w (.slice a_fi fi.length c_fi) fi) : Calls Try.prog 17 #[.agg #[.slice a_fv n_fv c_fv, .slice a_fi fi.length c_fi, .slice a_fo n_fo c_fo]] w (Ret fun v w' =>  v = .tuple #[.int .i64 ((chkA fi).1), .int .i64 ((chkA fi).2.1), .int .i64 ((chkA fi).2.2)] ∧ Ext w w') := by
  refine enter 43 Try.func17 rfl rfl rfl fun f0 ha => ?_
  have H := HI.start (M0 := M) (w := w) hM
  have H0 := H.put (it := imm (.slice a_fi fi.length c_fi) fi) rfl (by rw [MS_nil]; exact h_fi)
  have ln_fi := rv_len h_fi
  have i0 : f0 0 = .agg #[.slice a_fv n_fv c_fv, .slice a_fi fi.length c_fi, .slice a_fo n_fo c_fo] := ha 0 (by simp)
  refine sq (rg (k (bx H0 rfl i0 ?_)))
  intro bb0 w0 xt0 (H1 : HI M w w0 [box bb0 #[.slice a_fv n_fv c_fv, .slice a_fi fi.length c_fi, .slice a_fo n_fo c_fo] 30, imm (.slice a_fi fi.length c_fi) fi])
  refine k (asg rfl rfl (k (asg rfl rfl (k (asg rfl rfl (z (nx (sq (sq (rg (k (asg rfl rfl (z (nx (bk ?_)))))))))))))))
  refine lp (fun m f w' => ∃ (j : Nat), m = fi.length - j ∧ f 1 = .pointer (some ⟨bb0, 0, none⟩) ∧ f 5 = .int .i64 (j : Int) ∧  HI M w w' [box bb0 #[.slice a_fv n_fv c_fv, .slice a_fi fi.length c_fi, .slice a_fo n_fo c_fo] 30, imm (.slice a_fi fi.length c_fi) fi] ∧ (j ≤ fi.length) ∧ (∀ k, k < j → badI fi k = false)) _ ⟨0, rfl, rfl, (ieq rfl (by first | rfl | omega | simp)), H1, (by first | assumption | omega | simp | (simp; omega)), (by intro k hk; omega)⟩ ?_
  rintro _ f0 w1 ⟨j, rfl, s0, s1, H2, hk, hs⟩
  refine sq (sq (rg (k (mv rfl s1 (k (fa fl30_1 rfl s0 (k (ldX H2 0 rfl ty27 rfl rfl (by decide) rfl (k (lnS rfl rfl un27 (k (lss rfl rfl rfl rfl (z (nx ?_))))))))))))))
  refine cd (b := decide ((j : Int) < (fi.length : Int))) rfl rfl (fun b0 => ?_) (fun b0 => ?_)
  ·
    have p0 := of_decide_eq_true b0
    refine sk (nx (sq (bk (sq (rg (k (fa fl30_1 rfl s0 (k (ldX H2 0 rfl ty27 rfl rfl (by decide) rfl (k (mv rfl s1 (k (ia (H2.rv 1 rfl) rfl rfl rfl rfl (by first | omega | (simp; omega)) un27 ty40 ?_)))))))))))))
    intro ad0 x0 hx0 hA0
    refine k (ldW hA0.w ty40 rfl rfl ?_)
    intro v0 rv0
    obtain ⟨_, ⟨_, _, rfl, ⟨rfl, rv1⟩, ⟨_, _, rfl, ⟨rfl, rv2⟩, ⟨_, _, rfl, rfl, ⟨_, _, rfl, ⟨rfl, rv3⟩, ⟨rfl, rv4⟩⟩⟩⟩⟩, rfl⟩ := rv0
    refine k (al H2 ty40 ?_)
    intro bb1 w2 xt1 (H3 : HI M w w2 [box bb1 #[.int .i64 0, .int .i64 0, .bool false, .int .i64 0, .int .i64 0] 40, box bb0 #[.slice a_fv n_fv c_fv, .slice a_fi fi.length c_fi, .slice a_fo n_fo c_fo] 30, imm (.slice a_fi fi.length c_fi) fi])
    refine k (stX H3 0 rfl ty40 rfl rfl rfl rfl rfl rfl rfl ?_)
    intro w3 (H4 : HI M w w3 [box bb1 #[.int .i64 x0.1, .int .i64 x0.2.1, .bool x0.2.2.1, .int .i64 x0.2.2.2.1, .int .i64 x0.2.2.2.2] 40, box bb0 #[.slice a_fv n_fv c_fv, .slice a_fi fi.length c_fi, .slice a_fo n_fo c_fo] 30, imm (.slice a_fi fi.length c_fi) fi])
    refine z (nx (sq (sq (rg (k (fa fl40_2 rfl rfl (k (ldX H4 0 rfl ty4 rfl rfl (by decide) rfl (k (not_ rfl rfl (z (nx ?_))))))))))))
    refine cd (b := !x0.2.2.1) rfl rfl (fun b1 => ?_) (fun b1 => ?_)
    ·
      refine ex (then_exit (inb_here (nx (rg (k (mv rfl s1 (k (add rfl rfl rfl rfl (by unfold I64 at *; omega) (k (asg rfl rfl (z ?_)))))))))))
      have H5 : HI M w w3 [box bb0 #[.slice a_fv n_fv c_fv, .slice a_fi fi.length c_fi, .slice a_fo n_fo c_fo] 30, imm (.slice a_fi fi.length c_fi) fi] := H4.pickN [1, 2] (by decide) rfl
      refine loopN _ ?_ ⟨(j + 1), rfl, s0, (ieq rfl (by first | rfl | omega | (push_cast; omega))), H5, (by first | assumption | omega | simp | (simp; omega)), (by first | exact bad_next hs hx0 (bad_read (by simpa using b1)) | exact bad_next hs hx0 (bad_good p2 p3))⟩
      omega
    ·
      refine sk (nx (sq (sq (rg (k (fa fl40_4 rfl rfl (k (ldX H4 0 rfl ty3 rfl rfl (by decide) rfl (k (eql rfl rfl rfl rfl (z (nx ?_))))))))))))
      refine cd (b := decide (x0.2.2.2.2 = 0)) rfl rfl (fun b2 => ?_) (fun b2 => ?_)
      ·
        have p2 := of_decide_eq_true b2
        refine sq (rg (k (mv rfl s1 (k (mv rfl s1 (k (asg rfl rfl (k (asg rfl rfl (k (asg rfl rfl (z (nx (rt (then_ret (inb_ret (then_ret (loop_ret (inb_ret (then_ret (r3 rfl rfl rfl rfl ?_)))))))))))))))))))))
        have e0 : ((j : Int) : Int) = (chkA fi).1 := by first | exact (congrArg (fun z_ : Int × Int × Int => z_.1) (chk_zero hs hx0 (by simpa using b1) p2)).symm | exact (congrArg (fun z_ : Int × Int × Int => z_.1) (chk_twice hs hx0 (by simpa using b1) p2 p3)).symm | exact (congrArg (fun z_ : Int × Int × Int => z_.1) (chk_end hs (by omega))).symm
        have e1 : ((j : Int) : Int) = (chkA fi).2.1 := by first | exact (congrArg (fun z_ : Int × Int × Int => z_.2.1) (chk_zero hs hx0 (by simpa using b1) p2)).symm | exact (congrArg (fun z_ : Int × Int × Int => z_.2.1) (chk_twice hs hx0 (by simpa using b1) p2 p3)).symm | exact (congrArg (fun z_ : Int × Int × Int => z_.2.1) (chk_end hs (by omega))).symm
        have e2 : (5 : Int) = (chkA fi).2.2 := by first | exact (congrArg (fun z_ : Int × Int × Int => z_.2.2) (chk_zero hs hx0 (by simpa using b1) p2)).symm | exact (congrArg (fun z_ : Int × Int × Int => z_.2.2) (chk_twice hs hx0 (by simpa using b1) p2 p3)).symm | exact (congrArg (fun z_ : Int × Int × Int => z_.2.2) (chk_end hs (by omega))).symm
        have ev_ := cg3 (fun (x_0 : Int) (x_1 : Int) (x_2 : Int) => (.tuple #[.int .i64 x_0, .int .i64 x_1, .int .i64 x_2] : Value)) e0 e1 e2
        exact ⟨ev_, H4.below⟩
      ·
        have p2 := of_decide_eq_false b2
        refine sk (nx (sq (rg (k (ldX H4 1 rfl ty30 rfl s0 (by decide) rfl (k (fa fl40_3 rfl rfl (k (ldX H4 0 rfl ty3 rfl rfl (by decide) rfl (k (fa fl40_4 rfl rfl (k (ldX H4 0 rfl ty3 rfl rfl (by decide) rfl (k ?_))))))))))))))
        have cc0 := ref10_Write (fi := fi) (vr := x0.2.2.2.1) (val := x0.2.2.2.2) (a_fv := a_fv) (n_fv := n_fv) (c_fv := c_fv) (a_fo := a_fo) (n_fo := n_fo) (c_fo := c_fo) (w := w3) H4.mb (H4.rv 2 rfl) (by unfold I64 at *; omega) (by unfold I64 at *; omega)
        refine ca go19 rfl (ec rfl (ec rfl (ec rfl e0))) cc0 ?_
        rintro _ w4 ⟨rfl, xt2⟩
        have H5 := H4.ext xt2
        refine k (mv rfl rfl (k (xt rfl rfl rfl (k (xt rfl rfl rfl (k (asg rfl rfl (k (asg rfl rfl (z (nx (sq (rg (k (mv rfl rfl (k (mv rfl s1 (k (lss rfl rfl rfl rfl (z (nx ?_)))))))))))))))))))))
        refine cd (b := decide ((max (wrI fi x0.2.2.2.1 x0.2.2.2.2) 0) < (j : Int))) rfl rfl (fun b3 => ?_) (fun b3 => ?_)
        ·
          have p3 := of_decide_eq_true b3
          refine sq (rg (k (mv rfl rfl (k (mv rfl s1 (k (asg rfl rfl (k (asg rfl rfl (k (asg rfl rfl (z (nx (rt (inb_ret (then_ret (loop_ret (inb_ret (then_ret (r3 rfl rfl rfl rfl ?_))))))))))))))))))))
          have e0 : ((max (wrI fi x0.2.2.2.1 x0.2.2.2.2) 0) : Int) = (chkA fi).1 := by first | exact (congrArg (fun z_ : Int × Int × Int => z_.1) (chk_zero hs hx0 (by simpa using b1) p2)).symm | exact (congrArg (fun z_ : Int × Int × Int => z_.1) (chk_twice hs hx0 (by simpa using b1) p2 p3)).symm | exact (congrArg (fun z_ : Int × Int × Int => z_.1) (chk_end hs (by omega))).symm
          have e1 : ((j : Int) : Int) = (chkA fi).2.1 := by first | exact (congrArg (fun z_ : Int × Int × Int => z_.2.1) (chk_zero hs hx0 (by simpa using b1) p2)).symm | exact (congrArg (fun z_ : Int × Int × Int => z_.2.1) (chk_twice hs hx0 (by simpa using b1) p2 p3)).symm | exact (congrArg (fun z_ : Int × Int × Int => z_.2.1) (chk_end hs (by omega))).symm
          have e2 : (4 : Int) = (chkA fi).2.2 := by first | exact (congrArg (fun z_ : Int × Int × Int => z_.2.2) (chk_zero hs hx0 (by simpa using b1) p2)).symm | exact (congrArg (fun z_ : Int × Int × Int => z_.2.2) (chk_twice hs hx0 (by simpa using b1) p2 p3)).symm | exact (congrArg (fun z_ : Int × Int × Int => z_.2.2) (chk_end hs (by omega))).symm
          have ev_ := cg3 (fun (x_0 : Int) (x_1 : Int) (x_2 : Int) => (.tuple #[.int .i64 x_0, .int .i64 x_1, .int .i64 x_2] : Value)) e0 e1 e2
          exact ⟨ev_, H5.below⟩
        ·
          have p3 := of_decide_eq_false b3
          refine sk (inb_normal (nx (rg (k (mv rfl s1 (k (add rfl rfl rfl rfl (by unfold I64 at *; omega) (k (asg rfl rfl (z ?_))))))))))
          have H6 : HI M w w4 [box bb0 #[.slice a_fv n_fv c_fv, .slice a_fi fi.length c_fi, .slice a_fo n_fo c_fo] 30, imm (.slice a_fi fi.length c_fi) fi] := H5.pickN [1, 2] (by decide) rfl
          refine loopN _ ?_ ⟨(j + 1), rfl, s0, (ieq rfl (by first | rfl | omega | (push_cast; omega))), H6, (by first | assumption | omega | simp | (simp; omega)), (by first | exact bad_next hs hx0 (bad_read (by simpa using b1)) | exact bad_next hs hx0 (bad_good p2 p3))⟩
          omega
  ·
    have p0 := of_decide_eq_false b0
    refine ex (then_exit (loop_exit (inb_here (nx (sq (rg (k (asg rfl rfl (k (asg rfl rfl (k (asg rfl rfl (z (nx (rt (r3 rfl rfl rfl rfl ?_))))))))))))))))
    have e0 : (0 : Int) = (chkA fi).1 := by first | exact (congrArg (fun z_ : Int × Int × Int => z_.1) (chk_zero hs hx0 (by simpa using b1) p2)).symm | exact (congrArg (fun z_ : Int × Int × Int => z_.1) (chk_twice hs hx0 (by simpa using b1) p2 p3)).symm | exact (congrArg (fun z_ : Int × Int × Int => z_.1) (chk_end hs (by omega))).symm
    have e1 : (0 : Int) = (chkA fi).2.1 := by first | exact (congrArg (fun z_ : Int × Int × Int => z_.2.1) (chk_zero hs hx0 (by simpa using b1) p2)).symm | exact (congrArg (fun z_ : Int × Int × Int => z_.2.1) (chk_twice hs hx0 (by simpa using b1) p2 p3)).symm | exact (congrArg (fun z_ : Int × Int × Int => z_.2.1) (chk_end hs (by omega))).symm
    have e2 : (0 : Int) = (chkA fi).2.2 := by first | exact (congrArg (fun z_ : Int × Int × Int => z_.2.2) (chk_zero hs hx0 (by simpa using b1) p2)).symm | exact (congrArg (fun z_ : Int × Int × Int => z_.2.2) (chk_twice hs hx0 (by simpa using b1) p2 p3)).symm | exact (congrArg (fun z_ : Int × Int × Int => z_.2.2) (chk_end hs (by omega))).symm
    have ev_ := cg3 (fun (x_0 : Int) (x_1 : Int) (x_2 : Int) => (.tuple #[.int .i64 x_0, .int .i64 x_1, .int .i64 x_2] : Value)) e0 e1 e2
    exact ⟨ev_, H2.below⟩
/- eyewitness/differ.Check -/
set_option maxRecDepth 100000 in
set_option maxHeartbeats 200000 in
theorem differ_Check {M : Nat → Prop} {w : World} {a_fv : Option Addr} {n_fv c_fv : Nat} {a_fi : Option Addr} {c_fi : Nat} {fi : List (Int × Int × Bool × Int × Int)} {a_fo : Option Addr} {n_fo c_fo : Nat} (hM : ∀ b, M b → b < w.heap.size) (h_fi : RV M w (.slice a_fi fi.length c_fi) fi) : Calls Try.prog 16 #[.agg #[.slice a_fv n_fv c_fv, .slice a_fi fi.length c_fi, .slice a_fo n_fo c_fo]] w (Ret fun v w' =>  v = .tuple #[.int .i64 ((chkA fi).1), .int .i64 ((chkA fi).2.1), .int .i64 ((chkA fi).2.2)] ∧ Ext w w') := by
  refine enter 46 Try.func16 rfl rfl rfl fun f0 ha => ?_
  have H := HI.start (M0 := M) (w := w) hM
  have H0 := H.put (it := imm (.slice a_fi fi.length c_fi) fi) rfl (by rw [MS_nil]; exact h_fi)
  have ln_fi := rv_len h_fi
  have i0 : f0 0 = .agg #[.slice a_fv n_fv c_fv, .slice a_fi fi.length c_fi, .slice a_fo n_fo c_fo] := ha 0 (by simp)
  refine sq (rg (k (bx H0 rfl i0 ?_)))
  intro bb0 w0 xt0 (H1 : HI M w w0 [box bb0 #[.slice a_fv n_fv c_fv, .slice a_fi fi.length c_fi, .slice a_fo n_fo c_fo] 30, imm (.slice a_fi fi.length c_fi) fi])
  refine k (asg rfl rfl (k (asg rfl rfl (k (asg rfl rfl (z (nx (sq (rg (k (mm H1 ?_)))))))))))
  intro bm0 w1 xt1 (H2 : HI M w w1 [mapI bm0 ([] : KV), box bb0 #[.slice a_fv n_fv c_fv, .slice a_fi fi.length c_fi, .slice a_fo n_fo c_fo] 30, imm (.slice a_fi fi.length c_fi) fi])
  refine k (asg rfl rfl (z (nx (sq (sq (rg (k (fa fl30_1 rfl rfl (k (ldX H2 1 rfl ty27 rfl rfl (by decide) rfl (k (lnS rfl rfl un27 (k (mv rfl rfl (z (nx (bk ?_)))))))))))))))))
  refine lp (fun m f w' => ∃ (j : Nat) (mk_ : KV), m = fi.length - j ∧ f 5 = .map (some bm0) ∧ f 13 = .slice a_fi fi.length c_fi ∧ f 14 = .int .i64 (fi.length : Int) ∧ f 15 = .int .i64 (j : Int) ∧  HI M w w' [mapI bm0 mk_, box bb0 #[.slice a_fv n_fv c_fv, .slice a_fi fi.length c_fi, .slice a_fo n_fo c_fo] 30, imm (.slice a_fi fi.length c_fi) fi] ∧ (j ≤ fi.length) ∧ (∀ k, k < j → badI fi k = false) ∧ (FirstM fi j mk_)) _ ⟨0, ([] : KV), rfl, rfl, rfl, rfl, (ieq rfl (by first | rfl | omega | simp)), H2, (by first | assumption | omega | simp | (simp; omega)), (by intro k hk; omega), (by exact firstM_nil _)⟩ ?_
  rintro _ f0 w2 ⟨j, mk_, rfl, s0, s1, s2, s3, H3, hk, hs, hm⟩
  refine sq (rg (k (lss rfl rfl s3 s2 (z (nx (sq ?_))))))
  refine cd (b := decide ((j : Int) < (fi.length : Int))) rfl rfl (fun b0 => ?_) (fun b0 => ?_)
  ·
    have p0 := of_decide_eq_true b0
    refine sk (nx (sq (bk (sq (rg (k (mv rfl s3 (k (ia (H3.rv 2 rfl) rfl rfl s1 s3 (by first | omega | (simp; omega)) un27 ty40 ?_)))))))))
    intro ad0 x0 hx0 hA0
    refine k (ldW hA0.w ty40 rfl rfl ?_)
    intro v0 rv0
    obtain ⟨_, ⟨_, _, rfl, ⟨rfl, rv1⟩, ⟨_, _, rfl, ⟨rfl, rv2⟩, ⟨_, _, rfl, rfl, ⟨_, _, rfl, ⟨rfl, rv3⟩, ⟨rfl, rv4⟩⟩⟩⟩⟩, rfl⟩ := rv0
    refine k (al H3 ty40 ?_)
    intro bb1 w3 xt2 (H4 : HI M w w3 [box bb1 #[.int .i64 0, .int .i64 0, .bool false, .int .i64 0, .int .i64 0] 40, mapI bm0 mk_, box bb0 #[.slice a_fv n_fv c_fv, .slice a_fi fi.length c_fi, .slice a_fo n_fo c_fo] 30, imm (.slice a_fi fi.length c_fi) fi])
    refine k (asg rfl rfl (k (stX H4 0 rfl ty40 rfl rfl rfl rfl rfl rfl rfl ?_)))
    intro w4 (H5 : HI M w w4 [box bb1 #[.int .i64 x0.1, .int .i64 x0.2.1, .bool x0.2.2.1, .int .i64 x0.2.2.2.1, .int .i64 x0.2.2.2.2] 40, mapI bm0 mk_, box bb0 #[.slice a_fv n_fv c_fv, .slice a_fi fi.length c_fi, .slice a_fo n_fo c_fo] 30, imm (.slice a_fi fi.length c_fi) fi])
    refine z (nx (sq (sq (rg (k (fa fl40_2 rfl rfl (k (ldX H5 0 rfl ty4 rfl rfl (by decide) rfl (k (not_ rfl rfl (z (nx ?_))))))))))))
    refine cd (b := !x0.2.2.1) rfl rfl (fun b1 => ?_) (fun b1 => ?_)
    ·
      refine ex (then_exit (inb_here (nx (rg (k (add rfl rfl s3 rfl (by unfold I64 at *; omega) (k (mv rfl rfl (z ?_)))))))))
      have H6 : HI M w w4 [mapI bm0 mk_, box bb0 #[.slice a_fv n_fv c_fv, .slice a_fi fi.length c_fi, .slice a_fo n_fo c_fo] 30, imm (.slice a_fi fi.length c_fi) fi] := H5.pickN [1, 2, 3] (by decide) rfl
      refine loopN _ ?_ ⟨(j + 1), mk_, rfl, s0, s1, s2, (ieq rfl (by first | rfl | omega | (push_cast; omega))), H6, (by first | assumption | omega | simp | (simp; omega)), (by first | exact bad_next hs hx0 (bad_read (by simpa using b1)) | exact bad_next hs hx0 (bad_good p2 (by rw [(seen_no hm hx0 (by simpa using b1) b3).2]; omega))), (by first | exact firstM_read hm hx0 (by simpa using b1) | exact firstM_put hm hx0 (by simpa using b1) (seen_no hm hx0 (by simpa using b1) b3).1)⟩
      omega
    ·
      refine sk (nx (sq (sq (rg (k (fa fl40_4 rfl rfl (k (ldX H5 0 rfl ty3 rfl rfl (by decide) rfl (k (eql rfl rfl rfl rfl (z (nx ?_))))))))))))
      refine cd (b := decide (x0.2.2.2.2 = 0)) rfl rfl (fun b2 => ?_) (fun b2 => ?_)
      ·
        have p2 := of_decide_eq_true b2
        refine sq (rg (k (mv rfl rfl (k (mv rfl rfl (k (asg rfl rfl (k (asg rfl rfl (k (asg rfl rfl (z (nx (rt (then_ret (inb_ret (then_ret (loop_ret (inb_ret (then_ret (r3 rfl rfl rfl rfl ?_)))))))))))))))))))))
        have e0 : ((j : Int) : Int) = (chkA fi).1 := by first | exact (congrArg (fun z_ : Int × Int × Int => z_.1) (chk_zero hs hx0 (by simpa using b1) p2)).symm | exact (seen_yes hm hx0 b3).1.trans (congrArg (fun z_ : Int × Int × Int => z_.1) (chk_twice hs hx0 (by simpa using b1) p2 (seen_yes hm hx0 b3).2)).symm | exact (congrArg (fun z_ : Int × Int × Int => z_.1) (chk_end hs (by omega))).symm
        have e1 : ((j : Int) : Int) = (chkA fi).2.1 := by first | exact (congrArg (fun z_ : Int × Int × Int => z_.2.1) (chk_zero hs hx0 (by simpa using b1) p2)).symm | exact (congrArg (fun z_ : Int × Int × Int => z_.2.1) (chk_twice hs hx0 (by simpa using b1) p2 (seen_yes hm hx0 b3).2)).symm | exact (congrArg (fun z_ : Int × Int × Int => z_.2.1) (chk_end hs (by omega))).symm
        have e2 : (5 : Int) = (chkA fi).2.2 := by first | exact (congrArg (fun z_ : Int × Int × Int => z_.2.2) (chk_zero hs hx0 (by simpa using b1) p2)).symm | exact (congrArg (fun z_ : Int × Int × Int => z_.2.2) (chk_twice hs hx0 (by simpa using b1) p2 (seen_yes hm hx0 b3).2)).symm | exact (congrArg (fun z_ : Int × Int × Int => z_.2.2) (chk_end hs (by omega))).symm
        have ev_ := cg3 (fun (x_0 : Int) (x_1 : Int) (x_2 : Int) => (.tuple #[.int .i64 x_0, .int .i64 x_1, .int .i64 x_2] : Value)) e0 e1 e2
        exact ⟨ev_, H5.below⟩
      ·
        have p2 := of_decide_eq_false b2
        refine sk (nx (sq (rg (k (fa fl40_3 rfl rfl (k (ldX H5 0 rfl ty3 rfl rfl (by decide) rfl (k (fa fl40_4 rfl rfl (k (ldX H5 0 rfl ty3 rfl rfl (by decide) rfl (k (bd (v := .agg #[.int .i64 x0.2.2.2.1, .int .i64 x0.2.2.2.2]) rfl (pbc rfl (pbc rfl pb0)) (fun _ => by kernel_rfl) (k (al H5 ty71 ?_)))))))))))))))
        intro bb2 w5 xt3 (H6 : HI M w w5 [box bb2 #[.int .i64 0, .int .i64 0] 71, box bb1 #[.int .i64 x0.1, .int .i64 x0.2.1, .bool x0.2.2.1, .int .i64 x0.2.2.2.1, .int .i64 x0.2.2.2.2] 40, mapI bm0 mk_, box bb0 #[.slice a_fv n_fv c_fv, .slice a_fi fi.length c_fi, .slice a_fo n_fo c_fo] 30, imm (.slice a_fi fi.length c_fi) fi])
        refine k (stX H6 0 rfl ty71 rfl rfl rfl rfl rfl rfl rfl ?_)
        intro w6 (H7 : HI M w w6 [box bb2 #[.int .i64 x0.2.2.2.1, .int .i64 x0.2.2.2.2] 71, box bb1 #[.int .i64 x0.1, .int .i64 x0.2.1, .bool x0.2.2.1, .int .i64 x0.2.2.2.1, .int .i64 x0.2.2.2.2] 40, mapI bm0 mk_, box bb0 #[.slice a_fv n_fv c_fv, .slice a_fi fi.length c_fi, .slice a_fo n_fo c_fo] 30, imm (.slice a_fi fi.length c_fi) fi])
        refine z (nx (sq (sq (rg (k (mv rfl s0 (k (ldX H7 0 rfl ty71 rfl rfl (by decide) rfl (k (mlk (k := (x0.2.2.2.1, x0.2.2.2.2)) mp69 H7 2 rfl rfl rfl rfl rfl ?_))))))))))
        intro rv5
        refine k (mv rfl rfl (k (xt rfl rfl rfl (k (xt rfl rfl rfl (k (asg rfl rfl (k (asg rfl rfl (z (nx (sq (rg (k (mv rfl rfl (z (nx ?_)))))))))))))))))
        refine cd (b := (getM mk_ (x0.2.2.2.1, x0.2.2.2.2)).isSome) rfl rfl (fun b3 => ?_) (fun b3 => ?_)
        ·
          refine sq (rg (k (mv rfl rfl (k (mv rfl rfl (k (asg rfl rfl (k (asg rfl rfl (k (asg rfl rfl (z (nx (rt (then_ret (inb_ret (then_ret (loop_ret (inb_ret (then_ret (r3 rfl rfl rfl rfl ?_)))))))))))))))))))))
          have e0 : ((getM mk_ (x0.2.2.2.1, x0.2.2.2.2)).getD 0 : Int) = (chkA fi).1 := by first | exact (congrArg (fun z_ : Int × Int × Int => z_.1) (chk_zero hs hx0 (by simpa using b1) p2)).symm | exact (seen_yes hm hx0 b3).1.trans (congrArg (fun z_ : Int × Int × Int => z_.1) (chk_twice hs hx0 (by simpa using b1) p2 (seen_yes hm hx0 b3).2)).symm | exact (congrArg (fun z_ : Int × Int × Int => z_.1) (chk_end hs (by omega))).symm
          have e1 : ((j : Int) : Int) = (chkA fi).2.1 := by first | exact (congrArg (fun z_ : Int × Int × Int => z_.2.1) (chk_zero hs hx0 (by simpa using b1) p2)).symm | exact (congrArg (fun z_ : Int × Int × Int => z_.2.1) (chk_twice hs hx0 (by simpa using b1) p2 (seen_yes hm hx0 b3).2)).symm | exact (congrArg (fun z_ : Int × Int × Int => z_.2.1) (chk_end hs (by omega))).symm
          have e2 : (4 : Int) = (chkA fi).2.2 := by first | exact (congrArg (fun z_ : Int × Int × Int => z_.2.2) (chk_zero hs hx0 (by simpa using b1) p2)).symm | exact (congrArg (fun z_ : Int × Int × Int => z_.2.2) (chk_twice hs hx0 (by simpa using b1) p2 (seen_yes hm hx0 b3).2)).symm | exact (congrArg (fun z_ : Int × Int × Int => z_.2.2) (chk_end hs (by omega))).symm
          have ev_ := cg3 (fun (x_0 : Int) (x_1 : Int) (x_2 : Int) => (.tuple #[.int .i64 x_0, .int .i64 x_1, .int .i64 x_2] : Value)) e0 e1 e2
          exact ⟨ev_, H7.below⟩
        ·
          refine sk (nx (rg (k (mv rfl s0 (k (ldX H7 0 rfl ty71 rfl rfl (by decide) rfl (k (mv rfl rfl (k (mup (k := (x0.2.2.2.1, x0.2.2.2.2)) mp69 H7 2 rfl rfl rfl rfl rfl rfl rfl (by unfold I64 at *; omega) ?_))))))))))
          intro w7 (H8 : HI M w w7 [box bb2 #[.int .i64 x0.2.2.2.1, .int .i64 x0.2.2.2.2] 71, box bb1 #[.int .i64 x0.1, .int .i64 x0.2.1, .bool x0.2.2.1, .int .i64 x0.2.2.2.1, .int .i64 x0.2.2.2.2] 40, mapI bm0 (putM mk_ (x0.2.2.2.1, x0.2.2.2.2) (j : Int)), box bb0 #[.slice a_fv n_fv c_fv, .slice a_fi fi.length c_fi, .slice a_fo n_fo c_fo] 30, imm (.slice a_fi fi.length c_fi) fi])
          refine z (inb_normal (nx (rg (k (add rfl rfl s3 rfl (by unfold I64 at *; omega) (k (mv rfl rfl (z ?_))))))))
          have H9 : HI M w w7 [mapI bm0 (putM mk_ (x0.2.2.2.1, x0.2.2.2.2) (j : Int)), box bb0 #[.slice a_fv n_fv c_fv, .slice a_fi fi.length c_fi, .slice a_fo n_fo c_fo] 30, imm (.slice a_fi fi.length c_fi) fi] := H8.pickN [2, 3, 4] (by decide) rfl
          refine loopN _ ?_ ⟨(j + 1), (putM mk_ (x0.2.2.2.1, x0.2.2.2.2) (j : Int)), rfl, s0, s1, s2, (ieq rfl (by first | rfl | omega | (push_cast; omega))), H9, (by first | assumption | omega | simp | (simp; omega)), (by first | exact bad_next hs hx0 (bad_read (by simpa using b1)) | exact bad_next hs hx0 (bad_good p2 (by rw [(seen_no hm hx0 (by simpa using b1) b3).2]; omega))), (by first | exact firstM_read hm hx0 (by simpa using b1) | exact firstM_put hm hx0 (by simpa using b1) (seen_no hm hx0 (by simpa using b1) b3).1)⟩
          omega
  ·
    have p0 := of_decide_eq_false b0
    refine ex (then_exit (loop_exit (inb_here (nx (sq (rg (k (asg rfl rfl (k (asg rfl rfl (k (asg rfl rfl (z (nx (rt (r3 rfl rfl rfl rfl ?_))))))))))))))))
    have e0 : (0 : Int) = (chkA fi).1 := by first | exact (congrArg (fun z_ : Int × Int × Int => z_.1) (chk_zero hs hx0 (by simpa using b1) p2)).symm | exact (seen_yes hm hx0 b3).1.trans (congrArg (fun z_ : Int × Int × Int => z_.1) (chk_twice hs hx0 (by simpa using b1) p2 (seen_yes hm hx0 b3).2)).symm | exact (congrArg (fun z_ : Int × Int × Int => z_.1) (chk_end hs (by omega))).symm
    have e1 : (0 : Int) = (chkA fi).2.1 := by first | exact (congrArg (fun z_ : Int × Int × Int => z_.2.1) (chk_zero hs hx0 (by simpa using b1) p2)).symm | exact (congrArg (fun z_ : Int × Int × Int => z_.2.1) (chk_twice hs hx0 (by simpa using b1) p2 (seen_yes hm hx0 b3).2)).symm | exact (congrArg (fun z_ : Int × Int × Int => z_.2.1) (chk_end hs (by omega))).symm
    have e2 : (0 : Int) = (chkA fi).2.2 := by first | exact (congrArg (fun z_ : Int × Int × Int => z_.2.2) (chk_zero hs hx0 (by simpa using b1) p2)).symm | exact (congrArg (fun z_ : Int × Int × Int => z_.2.2) (chk_twice hs hx0 (by simpa using b1) p2 (seen_yes hm hx0 b3).2)).symm | exact (congrArg (fun z_ : Int × Int × Int => z_.2.2) (chk_end hs (by omega))).symm
    have ev_ := cg3 (fun (x_0 : Int) (x_1 : Int) (x_2 : Int) => (.tuple #[.int .i64 x_0, .int .i64 x_1, .int .i64 x_2] : Value)) e0 e1 e2
    exact ⟨ev_, H3.below⟩
/- slices.IndexFunc[[]eyewitness/api.Item,eyewitness/api.Item] -/
set_option maxRecDepth 100000 in
set_option maxHeartbeats 200000 in
theorem indexFunc_item {M : Nat → Prop} {w : World} {a_r : Option Addr} {c_r : Nat} {r : List (Int × Int × Bool × Int × Int)} {g_p : Nat} {C_p : List Value} {p : (Int × Int × Bool × Int × Int) → Bool} (hM : ∀ b, M b → b < w.heap.size) (h_r : RV M w (.slice a_r r.length c_r) r) (h_p : FP Try.prog g_p C_p M w r p) : Calls Try.prog 46 #[.slice a_r r.length c_r, .func (.func g_p) #[] C_p.toArray] w (Ret fun v w' =>  v = .int .i64 (idxF p r) ∧ Ext w w') := by
  refine enter 19 Try.func46 rfl rfl rfl fun f0 ha => ?_
  have H := HI.start (M0 := M) (w := w) hM
  have H0 := H.put (it := imm (.slice a_r r.length c_r) r) rfl (by rw [MS_nil]; exact h_r)
  have ln_r := rv_len h_r
  have i0 : f0 0 = .slice a_r r.length c_r := ha 0 (by simp)
  have i1 : f0 1 = .func (.func g_p) #[] C_p.toArray := ha 1 (by simp)
  refine sq (rg (k (asg rfl rfl (z (nx (sq (sq (rg (k (mv rfl i0 (k (lnS rfl rfl un27 (k (mv rfl rfl (z (nx (bk ?_)))))))))))))))))
  refine lp (fun m f w' => ∃ (j : Nat), m = r.length - j ∧ f 0 = .slice a_r r.length c_r ∧ f 1 = .func (.func g_p) #[] C_p.toArray ∧ f 7 = .int .i64 (r.length : Int) ∧ f 8 = .int .i64 (j : Int) ∧  HI M w w' [imm (.slice a_r r.length c_r) r] ∧ (j ≤ r.length) ∧ ((r.take j).any p = false)) _ ⟨0, rfl, i0, i1, rfl, (ieq rfl (by first | rfl | omega | simp)), H0, (by first | assumption | omega | simp | (simp; omega)), (by simp)⟩ ?_
  rintro _ f0 w0 ⟨j, rfl, s0, s1, s2, s3, H1, hk, hs⟩
  refine sq (rg (k (lss rfl rfl s3 s2 (z (nx (sq ?_))))))
  refine cd (b := decide ((j : Int) < (r.length : Int))) rfl rfl (fun b0 => ?_) (fun b0 => ?_)
  ·
    have p0 := of_decide_eq_true b0
    refine sk (nx (sq (bk (sq (rg (k (mv rfl s3 (k (asg rfl rfl (z (nx (sq (rg (k (mv rfl s1 (k (mv rfl s0 (k (mv rfl rfl (k (ia (H1.rv 0 rfl) rfl rfl rfl rfl (by first | omega | (simp; omega)) un27 ty40 ?_)))))))))))))))))))))
    intro ad0 x0 hx0 hA0
    refine k (ldW hA0.w ty40 rfl rfl ?_)
    intro v0 rv0
    obtain ⟨_, ⟨_, _, rfl, ⟨rfl, rv1⟩, ⟨_, _, rfl, ⟨rfl, rv2⟩, ⟨_, _, rfl, rfl, ⟨_, _, rfl, ⟨rfl, rv3⟩, ⟨rfl, rv4⟩⟩⟩⟩⟩, rfl⟩ := rv0
    refine k (cf h_p.1 rfl rfl rfl (ec rfl e0) (h_p.2 _ _ _ (by exact List.mem_of_getElem? ‹_›) H1.below (RV.lift (v := .agg #[.int .i64 x0.1, .int .i64 x0.2.1, .bool x0.2.2.1, .int .i64 x0.2.2.2.1, .int .i64 x0.2.2.2.2]) (x := ((x0.1, x0.2.1, x0.2.2.1, x0.2.2.2.1, x0.2.2.2.2) : (Int × Int × Bool × Int × Int))) ⟨_, ⟨_, _, rfl, ⟨rfl, (show I64 (x0.1) from (by unfold I64 at *; omega))⟩, ⟨_, _, rfl, ⟨rfl, (show I64 (x0.2.1) from (by unfold I64 at *; omega))⟩, ⟨_, _, rfl, rfl, ⟨_, _, rfl, ⟨rfl, (show I64 (x0.2.2.2.1) from (by unfold I64 at *; omega))⟩, ⟨rfl, (show I64 (x0.2.2.2.2) from (by unfold I64 at *; omega))⟩⟩⟩⟩⟩, rfl⟩ H1.out)) ?_)
    rintro _ w1 ⟨rfl, xt0⟩
    have H2 := H1.ext xt0
    refine z (nx ?_)
    refine cd (b := p (x0.1, x0.2.1, x0.2.2.1, x0.2.2.2.1, x0.2.2.2.2)) rfl rfl (fun b1 => ?_) (fun b1 => ?_)
    ·
      refine sq (rg (k (mv rfl rfl (k (asg rfl rfl (z (nx (rt (inb_ret (then_ret (loop_ret (inb_ret (then_ret (r1 rfl rfl ?_))))))))))))))
      have e0 : ((j : Int) : Int) = idxF p r := by exact idxF_hit hx0 hs b1
      have ev_ := cg1 (fun (x_0 : Int) => (.int .i64 x_0 : Value)) e0
      exact ⟨ev_, H2.below⟩
    ·
      refine sk (inb_normal (nx (rg (k (add rfl rfl s3 rfl (by unfold I64 at *; omega) (k (mv rfl rfl (z ?_))))))))
      refine loopN _ ?_ ⟨(j + 1), rfl, s0, s1, s2, (ieq rfl (by first | rfl | omega | (push_cast; omega))), H2, (by first | assumption | omega | simp | (simp; omega)), (by exact any_step hx0 hs b1)⟩
      omega
  ·
    have p0 := of_decide_eq_false b0
    refine ex (then_exit (loop_exit (inb_here (nx (sq (rg (k (asg rfl rfl (z (nx (rt (r1 rfl rfl ?_))))))))))))
    have e0 : ((-1) : Int) = idxF p r := by exact idxF_miss hs (by omega)
    have ev_ := cg1 (fun (x_0 : Int) => (.int .i64 x_0 : Value)) e0
    exact ⟨ev_, H1.below⟩
/- eyewitness/differ.Write$1 -/
set_option maxRecDepth 100000 in
set_option maxHeartbeats 200000 in
theorem differ_Write1 {M : Nat → Prop} {w : World} {xa : Int} {xb : Int} {xw : Bool} {xv : Int} {xn : Int} {b_b : Nat} {ty_b : TypeId} {vr : Int} {b_c : Nat} {ty_c : TypeId} {val : Int} (hM : ∀ b, M b → b < w.heap.size) (h_xa : I64 xa) (h_xb : I64 xb) (h_xv : I64 xv) (h_xn : I64 xn) (h_vr : I64 vr) (h_val : I64 val) (h_b : w.heap[b_b]? = some (.cells #[.int .i64 vr] ty_b (0, 0)) ∧ ¬ M b_b) (h_c : w.heap[b_c]? = some (.cells #[.int .i64 val] ty_c (0, 0)) ∧ ¬ M b_c) : Calls Try.prog 47 #[.agg #[.int .i64 xa, .int .i64 xb, .bool xw, .int .i64 xv, .int .i64 xn], .pointer (some ⟨b_b, 0, none⟩), .pointer (some ⟨b_c, 0, none⟩)] w (Ret fun v w' =>  v = .bool (isW vr val (xa, xb, xw, xv, xn)) ∧ Ext w w') := by
  refine enter 19 Try.func47 rfl rfl rfl fun f0 ha => ?_
  have H := HI.start (M0 := M) (w := w) hM
  have i0 : f0 0 = .agg #[.int .i64 xa, .int .i64 xb, .bool xw, .int .i64 xv, .int .i64 xn] := ha 0 (by simp)
  have H0 := H.put (it := ro b_b #[.int .i64 vr] ty_b) rfl (by rw [MS_nil]; exact h_b)
  have i1 : f0 1 = .pointer (some ⟨b_b, 0, none⟩) := ha 1 (by simp)
  have H1 := H0.put (it := ro b_c #[.int .i64 val] ty_c) rfl (by rw [MS_cons_none rfl, MS_nil]; exact h_c)
  have i2 : f0 2 = .pointer (some ⟨b_c, 0, none⟩) := ha 2 (by simp)
  refine sq (rg (k (bx H1 rfl i0 ?_)))
  intro bb0 w0 xt0 (H2 : HI M w w0 [box bb0 #[.int .i64 xa, .int .i64 xb, .bool xw, .int .i64 xv, .int .i64 xn] 40, ro b_c #[.int .i64 val] ty_c, ro b_b #[.int .i64 vr] ty_b])
  refine k (asg rfl rfl (z (nx (sq (rg (k (fa fl40_2 rfl rfl (k (ldX H2 0 rfl ty4 rfl rfl (by decide) rfl (k (mv rfl rfl ?_)))))))))))
  rcases Bool.eq_false_or_eq_true (xw) with b0 | b0
  · -- xw is True
    refine k (gy rfl rfl rfl b0 (fa fl40_3 rfl rfl (k (gy rfl rfl rfl b0 (ldX H2 0 rfl ty3 rfl rfl (by decide) rfl (k (gy rfl rfl rfl b0 (ldR H2 2 rfl ty3 rfl i1 (by decide) rfl (k (gy rfl rfl rfl b0 (eql rfl rfl rfl rfl (k (pickT rfl rfl rfl rfl b0 rfl (k (mv rfl rfl ?_)))))))))))))))
    rcases Bool.eq_false_or_eq_true (decide (xv = vr)) with b1 | b1
    · -- decide (xv = vr) is True
      have p1 := of_decide_eq_true b1
      refine k (gy rfl rfl rfl b1 (fa fl40_4 rfl rfl (k (gy rfl rfl rfl b1 (ldX H2 0 rfl ty3 rfl rfl (by decide) rfl (k (gy rfl rfl rfl b1 (ldR H2 1 rfl ty3 rfl i2 (by decide) rfl (k (gy rfl rfl rfl b1 (eql rfl rfl rfl rfl (k (pickT rfl rfl rfl rfl b1 rfl (k (asg rfl rfl (z (nx (rt (r1 rfl rfl ?_)))))))))))))))))))
      have e0 : (decide (xn = val) : Bool) = isW vr val (xa, xb, xw, xv, xn) := by unfold isW; simp_all
      have ev_ := cg1 (fun (x_0 : Bool) => (.bool x_0 : Value)) e0
      exact ⟨ev_, H2.below⟩
    · -- decide (xv = vr) is False
      have p1 := of_decide_eq_false b1
      refine k (gn rfl rfl rfl b1 (k (gn rfl rfl rfl b1 (k (gn rfl rfl rfl b1 (k (gn rfl rfl rfl b1 (k (pickF rfl rfl rfl rfl b1 rfl (k (asg rfl rfl (z (nx (rt (r1 rfl rfl ?_)))))))))))))))
      have e0 : (false : Bool) = isW vr val (xa, xb, xw, xv, xn) := by unfold isW; simp_all
      have ev_ := cg1 (fun (x_0 : Bool) => (.bool x_0 : Value)) e0
      exact ⟨ev_, H2.below⟩
  · -- xw is False
    refine k (gn rfl rfl rfl b0 (k (gn rfl rfl rfl b0 (k (gn rfl rfl rfl b0 (k (gn rfl rfl rfl b0 (k (pickF rfl rfl rfl rfl b0 rfl (k (mv rfl rfl (k (gn rfl rfl rfl rfl (k (gn rfl rfl rfl rfl (k (gn rfl rfl rfl rfl (k (gn rfl rfl rfl rfl (k (pickF rfl rfl rfl rfl rfl rfl (k (asg rfl rfl (z (nx (rt (r1 rfl rfl ?_)))))))))))))))))))))))))))
    have e0 : (false : Bool) = isW vr val (xa, xb, xw, xv, xn) := by unfold isW; simp_all
    have ev_ := cg1 (fun (x_0 : Bool) => (.bool x_0 : Value)) e0
    exact ⟨ev_, H2.below⟩
/- eyewitness/differ.Write -/
set_option maxRecDepth 100000 in
set_option maxHeartbeats 200000 in
theorem differ_Write {M : Nat → Prop} {w : World} {a_fv : Option Addr} {n_fv c_fv : Nat} {a_fi : Option Addr} {c_fi : Nat} {fi : List (Int × Int × Bool × Int × Int)} {a_fo : Option Addr} {n_fo c_fo : Nat} {vr : Int} {val : Int} (hM : ∀ b, M b → b < w.heap.size) (h_fi : RV M w (.slice a_fi fi.length c_fi) fi) (h_vr : I64 vr) (h_val : I64 val) : Calls Try.prog 18 #[.agg #[.slice a_fv n_fv c_fv, .slice a_fi fi.length c_fi, .slice a_fo n_fo c_fo], .int .i64 vr, .int .i64 val] w (Ret fun v w' =>  v = .tuple #[.int .i64 (max (wrI fi vr val) 0), .bool (decide (0 ≤ wrI fi vr val))] ∧ Ext w w') := by
  refine enter 17 Try.func18 rfl rfl rfl fun f0 ha => ?_
  have H := HI.start (M0 := M) (w := w) hM
  have H0 := H.put (it := imm (.slice a_fi fi.length c_fi) fi) rfl (by rw [MS_nil]; exact h_fi)
  have ln_fi := rv_len h_fi
  have i0 : f0 0 = .agg #[.slice a_fv n_fv c_fv, .slice a_fi fi.length c_fi, .slice a_fo n_fo c_fo] := ha 0 (by simp)
  have i1 : f0 1 = .int .i64 vr := ha 1 (by simp)
  have i2 : f0 2 = .int .i64 val := ha 2 (by simp)
  refine sq (rg (k (bx H0 rfl i0 ?_)))
  intro bb0 w0 xt0 (H1 : HI M w w0 [box bb0 #[.slice a_fv n_fv c_fv, .slice a_fi fi.length c_fi, .slice a_fo n_fo c_fo] 30, imm (.slice a_fi fi.length c_fi) fi])
  refine k (bx H1 rfl i1 ?_)
  intro bb1 w1 xt1 (H2 : HI M w w1 [box bb1 #[.int .i64 vr] 3, box bb0 #[.slice a_fv n_fv c_fv, .slice a_fi fi.length c_fi, .slice a_fo n_fo c_fo] 30, imm (.slice a_fi fi.length c_fi) fi])
  refine k (bx H2 rfl i2 ?_)
  intro bb2 w2 xt2 (H3 : HI M w w2 [box bb2 #[.int .i64 val] 3, box bb1 #[.int .i64 vr] 3, box bb0 #[.slice a_fv n_fv c_fv, .slice a_fi fi.length c_fi, .slice a_fo n_fo c_fo] 30, imm (.slice a_fi fi.length c_fi) fi])
  refine k (asg rfl rfl (k (asg rfl rfl (z (nx (sq (rg (k (fa fl30_1 rfl rfl (k (ldX H3 2 rfl ty27 rfl rfl (by decide) rfl (k (mf rfl (k ?_))))))))))))))
  have cc0 := indexFunc_item (r := fi) (p := (fun (x_ : (Int × Int × Bool × Int × Int)) => isW vr val (x_.1, x_.2.1, x_.2.2.1, x_.2.2.2.1, x_.2.2.2.2))) (w := w2) H3.mb (H3.rv 3 rfl) ⟨go47, fun w_ v_ x_ hx_ e_ hv_ => by have H_ := H3.ext e_; obtain ⟨_, ⟨_, _, rfl, ⟨rfl, rv0⟩, ⟨_, _, rfl, ⟨rfl, rv1⟩, ⟨_, _, rfl, rfl, ⟨_, _, rfl, ⟨rfl, rv2⟩, ⟨rfl, rv3⟩⟩⟩⟩⟩, rfl⟩ := hv_; exact differ_Write1 (vr := vr) (val := val) (M := fun _ => False) (fun _ h_ => h_.elim) rv0 rv1 rv2 rv3 (by unfold I64 at *; omega) (by unfold I64 at *; omega) ⟨H_.at_ 1 rfl, fun h_ => h_⟩ ⟨H_.at_ 0 rfl, fun h_ => h_⟩⟩
  refine ca go46 rfl (ec rfl (ec rfl e0)) cc0 ?_
  rintro _ w3 ⟨rfl, xt3⟩
  have H4 := H3.ext xt3
  refine k (asg rfl rfl (z (nx (sq (rg (k (mv rfl rfl (k (max2 rfl rfl rfl rfl (k (mv rfl rfl (k (geq rfl rfl rfl rfl (k (asg rfl rfl (k (asg rfl rfl (z (nx (rt (r2 rfl rfl rfl ?_)))))))))))))))))))))
  have e0 : (max (idxF (fun (x_ : (Int × Int × Bool × Int × Int)) => isW vr val (x_.1, x_.2.1, x_.2.2.1, x_.2.2.2.1, x_.2.2.2.2)) fi) 0 : Int) = (max (wrI fi vr val) 0) := rfl
  have e1 : (decide (0 ≤ (idxF (fun (x_ : (Int × Int × Bool × Int × Int)) => isW vr val (x_.1, x_.2.1, x_.2.2.1, x_.2.2.2.1, x_.2.2.2.2)) fi)) : Bool) = decide (0 ≤ wrI fi vr val) := rfl
  have ev_ := cg2 (fun (x_0 : Int) (x_1 : Bool) => (.tuple #[.int .i64 x_0, .bool x_1] : Value)) e0 e1
  exact ⟨ev_, H4.below⟩
end Go.Proofs.Ytmliihgaoaolmaa
