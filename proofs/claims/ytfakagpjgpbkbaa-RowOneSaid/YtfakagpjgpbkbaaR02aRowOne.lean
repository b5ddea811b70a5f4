/- PRINTED by my own tool (wip/tool/gen.py): contracts of Go functions of this seat, each with its proof. -/
import Derived.Test.YtfakagpjgpbkbaaProg
import Derived.Test.YtfakagpjgpbkbaaEwSpecC
import Derived.Test.YtfakagpjgpbkbaaR02aFns
namespace Go.Proofs.Ytfakagpjgpbkbaa
open Go.Ew Go.RowKit
set_option linter.unusedVariables false
set_option linter.unusedSimpArgs false
attribute [local irreducible] WL WC SO Code.wp wpList retQ Ret
attribute [local irreducible] bitB hasW inR hasR setR countW countR subR words newR
theorem go17 : GoF Try.prog 17 := ⟨_, _, Try.func17, rfl, by kernel_rfl⟩
theorem go6 : GoF Try.prog 6 := ⟨_, _, Try.func6, rfl, by kernel_rfl⟩
theorem go9 : GoF Try.prog 9 := ⟨_, _, Try.func9, rfl, by kernel_rfl⟩
theorem go7 : GoF Try.prog 7 := ⟨_, _, Try.func7, rfl, by kernel_rfl⟩
theorem go8 : GoF Try.prog 8 := ⟨_, _, Try.func8, rfl, by kernel_rfl⟩
theorem go5 : GoF Try.prog 5 := ⟨_, _, Try.func5, rfl, by kernel_rfl⟩
theorem un23 : Try.prog.underlying 23 = some (.int .u16) := by kernel_rfl
theorem un4 : Try.prog.underlying 4 = some (.bool) := by kernel_rfl
theorem go10 : GoF Try.prog 10 := ⟨_, _, Try.func10, rfl, by kernel_rfl⟩
/- eyewitness/eyewitnesslaw02.awake -/
set_option maxRecDepth 100000 in
set_option maxHeartbeats 200000 in
theorem awake02 {w : World}  : Calls Try.prog 5 #[] w (Ret fun v w' =>  v = .bool true ∧ Ext w w') := by
  refine enter 22 Try.func5 rfl rfl rfl fun f0 ha => ?_
  have H := HI.start (M0 := (fun _ => False)) (w := w) (fun _ h => h.elim)
  refine sq (rg (k (asg rfl rfl (z (nx (sq (rg (k ?_))))))))
  have cc0 := row_New (n := 66) (w := w) H.mb (by unfold I64 at *; omega) (by first | omega | (simp; omega))
  refine ca go17 rfl (ec rfl e0) cc0 ?_
  rintro _ w0 ⟨a0, c0, rfl, xt0, rv0⟩
  have H0 := H.owns rv0
  refine k ?_
  have H1 := H0.freeze 0 rfl
  have cc1 := row_Set (r := (newR 66)) (i := 0) (w := w0) H1.mb (H1.rv 0 rfl) (by unfold I64 at *; omega) (by decide +kernel)
  refine ca go6 rfl (ec rfl (ec rfl e0)) cc1 ?_
  rintro _ w1 ⟨a1, c1, rfl, xt1, rv1⟩
  have H2 := H1.owns rv1
  refine k ?_
  have H3 := H2.freeze 0 rfl
  have cc2 := row_Set (r := (setR (newR 66) 0)) (i := 65) (w := w1) H3.mb (H3.rv 0 rfl) (by unfold I64 at *; omega) (by decide +kernel)
  refine ca go6 rfl (ec rfl (ec rfl e0)) cc2 ?_
  rintro _ w2 ⟨a2, c2, rfl, xt2, rv2⟩
  have H4 := H3.owns rv2
  refine k (asg rfl rfl (z (nx (sq (rg (k (mv rfl rfl (k (bs (xs := ([1#64, 2#64] : List (BitVec 64))) (cells := #[U (1#64), U (2#64)]) (e := 41) H4 rfl (fun _ => by kernel_rfl) ⟨[U (1#64)], [U (2#64)], rfl, rfl, ⟨[U (2#64)], [], rfl, rfl, rfl⟩⟩ rfl (by unfold maxLen; omega) ?_)))))))))
  intro g0 w3 H5
  refine k ?_
  have H6 := H5.freeze 1 rfl
  have H7 := H6.freeze 0 rfl
  have cc3 := row_Same (a := (setR (setR (newR 66) 0) 65)) (b := ([1#64, 2#64] : List (BitVec 64))) (w := w3) H7.mb (H7.rv 1 rfl) (H7.rv 0 rfl)
  refine ca go9 rfl (ec rfl (ec rfl e0)) cc3 ?_
  rintro _ w4 ⟨rfl, xt3⟩
  have H8 := H7.ext xt3
  refine k (mv rfl rfl (k (gy rfl rfl rfl (by decide +kernel) (mv rfl rfl (k (gy rfl rfl rfl (by decide +kernel) ?_))))))
  have cc4 := row_Count (r := (setR (setR (newR 66) 0) 65)) (w := w4) H8.mb (H8.rv 1 rfl) (by decide +kernel)
  refine ca go7 rfl (ec rfl e0) cc4 ?_
  rintro _ w5 ⟨rfl, xt4⟩
  have H9 := H8.ext xt4
  refine k (gy rfl rfl rfl (by decide +kernel) (eql rfl rfl rfl rfl (k (pickT rfl rfl rfl rfl (by decide +kernel) rfl (k (mv rfl rfl (k (gy rfl rfl rfl (by decide +kernel) (mv rfl rfl (k (gy rfl rfl rfl (by decide +kernel) ?_)))))))))))
  have cc5 := row_Has (r := (setR (setR (newR 66) 0) 65)) (i := 65) (w := w5) H9.mb (H9.rv 1 rfl) (by unfold I64 at *; omega)
  refine ca go8 rfl (ec rfl (ec rfl e0)) cc5 ?_
  rintro _ w6 ⟨rfl, xt5⟩
  have H10 := H9.ext xt5
  refine k (pickT rfl rfl rfl rfl (by decide +kernel) rfl (k (mv rfl rfl (k (gy rfl rfl rfl (by decide +kernel) (mv rfl rfl (k (gy rfl rfl rfl (by decide +kernel) ?_))))))))
  have cc6 := row_Has (r := (setR (setR (newR 66) 0) 65)) (i := 64) (w := w6) H10.mb (H10.rv 1 rfl) (by unfold I64 at *; omega)
  refine ca go8 rfl (ec rfl (ec rfl e0)) cc6 ?_
  rintro _ w7 ⟨rfl, xt6⟩
  have H11 := H10.ext xt6
  refine k (gy rfl rfl rfl (by decide +kernel) (not_ rfl rfl (k (pickT rfl rfl rfl rfl (by decide +kernel) rfl (k (asg rfl rfl (z (nx (rt (r1 rfl rfl ?_))))))))))
  have e0 : (!(hasR (setR (setR (newR 66) 0) 65) 64) : Bool) = true := by exact (by rw [show hasR (setR (setR (newR 66) 0) 65) 64 = false from (by decide +kernel)]; rfl)
  exact ⟨congrArg (fun (x_0 : Bool) => (.bool x_0 : Value)) e0, H11.below⟩
/- eyewitness/eyewitnesslaw02.RowOne -/
set_option maxRecDepth 100000 in
set_option maxHeartbeats 200000 in
theorem law_RowOne {M : Nat → Prop} {w : World} {a_a : Option Addr} {c_a : Nat} {a : List (BitVec 64)} {i : Int} (hM : ∀ b, M b → b < w.heap.size) (h_a : RV M w (.slice a_a a.length c_a) a) (h_i : 0 ≤ i ∧ i ≤ 65535) : Calls Try.prog 3 #[.slice a_a a.length c_a, .int .u16 i] w (Ret fun v w' =>  v = .bool true ∧ Ext w w') := by
  refine enter 70 Try.func3 rfl rfl rfl fun f0 ha => ?_
  have H := HI.start (M0 := M) (w := w) hM
  have H0 := H.put (it := imm (.slice a_a a.length c_a) a) rfl (by rw [MS_nil]; exact h_a)
  have ln_a := rv_len h_a
  have i0 : f0 0 = .slice a_a a.length c_a := ha 0 (by simp)
  have i1 : f0 1 = .int .u16 i := ha 1 (by simp)
  refine sq (rg (k (asg rfl rfl (z (nx (sq (sq (rg (k (mv rfl i0 (k (lnS rfl rfl un22 (k (gtr rfl rfl rfl rfl (z (nx ?_))))))))))))))))
  refine cd (b := decide (10 < (a.length : Int))) rfl rfl (fun b0 => ?_) (fun b0 => ?_)
  ·
    have p0 := of_decide_eq_true b0
    refine sq (rg (k ?_))
    have cc0 := awake02 (w := w)
    refine ca go5 rfl e0 cc0 ?_
    rintro _ w0 ⟨rfl, xt0⟩
    have H1 := H0.ext xt0
    refine k (asg rfl rfl (z (nx (rt (then_ret (r1 rfl rfl ?_))))))
    exact ⟨rfl, H1.below⟩
  ·
    have p0 := of_decide_eq_false b0
    refine sk (nx (sq (rg (k (mv rfl i1 (k (cvI rfl rfl (by unfold I64 at *; omega) un23 un3 (k (rem rfl rfl rfl rfl (by first | omega | (simp; omega)) (k (asg rfl rfl (z (nx (sq (rg (k (mv rfl i0 (k (mv rfl rfl (k ?_))))))))))))))))))))
    have cc1 := row_Set (r := a) (i := (i % 700)) (w := w) H0.mb (H0.rv 0 rfl) (by unfold I64 at *; omega) (by first | omega | (rw [setR_length]; omega))
    refine ca go6 rfl (ec rfl (ec rfl e0)) cc1 ?_
    rintro _ w1 ⟨a0, c0, rfl, xt1, rv0⟩
    have H2 := H0.owns rv0
    refine k (asg rfl rfl (z (nx (sq (rg (k (mv rfl i0 (k ?_))))))))
    have cc2 := row_Count (r := a) (w := w1) H2.mb (H2.rv 1 rfl) (by first | omega | (rw [setR_length]; omega))
    refine ca go7 rfl (ec rfl e0) cc2 ?_
    rintro _ w2 ⟨rfl, xt2⟩
    have H3 := H2.ext xt2
    refine k (asg rfl rfl (z (nx (sq (sq (rg (k (mv rfl rfl (k (mv rfl i0 (k (lnS rfl rfl un22 (k (mul rfl rfl rfl rfl (by unfold I64 at *; omega) (k (lss rfl rfl rfl rfl (k (mv rfl rfl ?_))))))))))))))))))
    rcases Bool.eq_false_or_eq_true (decide ((i % 700) < (64 * (a.length : Int)))) with b1 | b1
    · -- decide ((i % 700) < (64 * (a.length : Int))) is True
      have p1 := of_decide_eq_true b1
      refine k (gy rfl rfl rfl b1 (mv rfl i0 (k (gy rfl rfl rfl b1 (mv rfl rfl (k (gy rfl rfl rfl b1 ?_)))))))
      have cc3 := row_Has (r := a) (i := (i % 700)) (w := w2) H3.mb (H3.rv 1 rfl) (by unfold I64 at *; omega)
      refine ca go8 rfl (ec rfl (ec rfl e0)) cc3 ?_
      rintro _ w3 ⟨rfl, xt3⟩
      have H4 := H3.ext xt3
      refine k (gy rfl rfl rfl b1 (not_ rfl rfl (k (pickT rfl rfl rfl rfl b1 rfl (z (nx ?_))))))
      refine cd (b := !(hasR a (i % 700))) rfl rfl (fun b2 => ?_) (fun b2 => ?_)
      ·
        refine rg (k (mv rfl rfl (k (add rfl rfl rfl rfl (by have hb := countR_le a; unfold I64; omega) (k (asg rfl rfl (z (nx (sq (rg (k ?_)))))))))))
        have cc4 := awake02 (w := w3)
        refine ca go5 rfl e0 cc4 ?_
        rintro _ w4 ⟨rfl, xt4⟩
        have H5 := H4.ext xt4
        refine k (mv rfl rfl (k (gy rfl rfl rfl rfl (mv rfl rfl (k (gy rfl rfl rfl rfl (lnS rfl rfl un22 (k (gy rfl rfl rfl rfl (mv rfl i0 (k (gy rfl rfl rfl rfl (lnS rfl rfl un22 (k (gy rfl rfl rfl rfl (eql rfl rfl rfl rfl (k (pickT rfl rfl rfl rfl rfl rfl (k (mv rfl rfl (k (gy rfl rfl rfl (by simp [setR_length]) (mv rfl rfl (k (gy rfl rfl rfl (by simp [setR_length]) ?_)))))))))))))))))))))))))
        have H6 := H5.freeze 0 rfl
        have cc5 := row_Count (r := (setR a (i % 700))) (w := w4) H6.mb (H6.rv 0 rfl) (by first | omega | (rw [setR_length]; omega))
        refine ca go7 rfl (ec rfl e0) cc5 ?_
        rintro _ w5 ⟨rfl, xt5⟩
        have H7 := H6.ext xt5
        refine k (gy rfl rfl rfl (by simp [setR_length]) (mv rfl rfl (k (gy rfl rfl rfl (by simp [setR_length]) (eql rfl rfl rfl rfl (k (pickT rfl rfl rfl rfl (by simp [setR_length]) rfl (k (mv rfl rfl (k (gy rfl rfl rfl (by rw [decide_eq_true_eq, rowOne_count (by omega)]; first | rw [if_pos ⟨by omega, by simpa using b2⟩] | rw [if_neg (by rintro ⟨h1, h2⟩; first | omega | (rw [h2] at b2; exact absurd b2 (by decide)))]) (mv rfl rfl (k (gy rfl rfl rfl (by rw [decide_eq_true_eq, rowOne_count (by omega)]; first | rw [if_pos ⟨by omega, by simpa using b2⟩] | rw [if_neg (by rintro ⟨h1, h2⟩; first | omega | (rw [h2] at b2; exact absurd b2 (by decide)))]) (mv rfl rfl (k (gy rfl rfl rfl (by rw [decide_eq_true_eq, rowOne_count (by omega)]; first | rw [if_pos ⟨by omega, by simpa using b2⟩] | rw [if_neg (by rintro ⟨h1, h2⟩; first | omega | (rw [h2] at b2; exact absurd b2 (by decide)))]) ?_)))))))))))))))))
        have cc6 := row_Has (r := (setR a (i % 700))) (i := (i % 700)) (w := w5) H7.mb (H7.rv 0 rfl) (by unfold I64 at *; omega)
        refine ca go8 rfl (ec rfl (ec rfl e0)) cc6 ?_
        rintro _ w6 ⟨rfl, xt6⟩
        have H8 := H7.ext xt6
        refine k (gy rfl rfl rfl (by rw [decide_eq_true_eq, rowOne_count (by omega)]; first | rw [if_pos ⟨by omega, by simpa using b2⟩] | rw [if_neg (by rintro ⟨h1, h2⟩; first | omega | (rw [h2] at b2; exact absurd b2 (by decide)))]) (mv rfl rfl (k (gy rfl rfl rfl (by rw [decide_eq_true_eq, rowOne_count (by omega)]; first | rw [if_pos ⟨by omega, by simpa using b2⟩] | rw [if_neg (by rintro ⟨h1, h2⟩; first | omega | (rw [h2] at b2; exact absurd b2 (by decide)))]) (mv rfl i0 (k (gy rfl rfl rfl (by rw [decide_eq_true_eq, rowOne_count (by omega)]; first | rw [if_pos ⟨by omega, by simpa using b2⟩] | rw [if_neg (by rintro ⟨h1, h2⟩; first | omega | (rw [h2] at b2; exact absurd b2 (by decide)))]) (lnS rfl rfl un22 (k (gy rfl rfl rfl (by rw [decide_eq_true_eq, rowOne_count (by omega)]; first | rw [if_pos ⟨by omega, by simpa using b2⟩] | rw [if_neg (by rintro ⟨h1, h2⟩; first | omega | (rw [h2] at b2; exact absurd b2 (by decide)))]) (mul rfl rfl rfl rfl (by unfold I64 at *; omega) (k (gy rfl rfl rfl (by rw [decide_eq_true_eq, rowOne_count (by omega)]; first | rw [if_pos ⟨by omega, by simpa using b2⟩] | rw [if_neg (by rintro ⟨h1, h2⟩; first | omega | (rw [h2] at b2; exact absurd b2 (by decide)))]) (lss rfl rfl rfl rfl (k (gy rfl rfl rfl (by rw [decide_eq_true_eq, rowOne_count (by omega)]; first | rw [if_pos ⟨by omega, by simpa using b2⟩] | rw [if_neg (by rintro ⟨h1, h2⟩; first | omega | (rw [h2] at b2; exact absurd b2 (by decide)))]) (eqB rfl rfl rfl rfl un4 (k (pickT rfl rfl rfl rfl (by rw [decide_eq_true_eq, rowOne_count (by omega)]; first | rw [if_pos ⟨by omega, by simpa using b2⟩] | rw [if_neg (by rintro ⟨h1, h2⟩; first | omega | (rw [h2] at b2; exact absurd b2 (by decide)))]) rfl (k (mv rfl rfl (k (gy rfl rfl rfl (by rw [hasR_set_self]; unfold inR; simp; omega) (mv rfl rfl (k (gy rfl rfl rfl (by rw [hasR_set_self]; unfold inR; simp; omega) (mv rfl rfl (k (gy rfl rfl rfl (by rw [hasR_set_self]; unfold inR; simp; omega) ?_)))))))))))))))))))))))))))))
        have cc7 := row_Set (r := (setR a (i % 700))) (i := (i % 700)) (w := w6) H8.mb (H8.rv 0 rfl) (by unfold I64 at *; omega) (by first | omega | (rw [setR_length]; omega))
        refine ca go6 rfl (ec rfl (ec rfl e0)) cc7 ?_
        rintro _ w7 ⟨a1, c1, rfl, xt7, rv1⟩
        have H9 := H8.owns rv1
        refine k (gy rfl rfl rfl (by rw [hasR_set_self]; unfold inR; simp; omega) (mv rfl rfl (k (gy rfl rfl rfl (by rw [hasR_set_self]; unfold inR; simp; omega) ?_))))
        have H10 := H9.freeze 0 rfl
        have cc8 := row_Same (a := (setR (setR a (i % 700)) (i % 700))) (b := (setR a (i % 700))) (w := w7) H10.mb (H10.rv 0 rfl) (H10.rv 1 rfl)
        refine ca go9 rfl (ec rfl (ec rfl e0)) cc8 ?_
        rintro _ w8 ⟨rfl, xt8⟩
        have H11 := H10.ext xt8
        refine k (pickT rfl rfl rfl rfl (by rw [hasR_set_self]; unfold inR; simp; omega) rfl (k (mv rfl rfl (k (gy rfl rfl rfl (by rw [setR_twice]; simp) (mv rfl i0 (k (gy rfl rfl rfl (by rw [setR_twice]; simp) (mv rfl rfl (k (gy rfl rfl rfl (by rw [setR_twice]; simp) ?_)))))))))))
        have cc9 := row_Sub (a := a) (b := (setR a (i % 700))) (w := w8) H11.mb (H11.rv 2 rfl) (H11.rv 1 rfl)
        refine ca go10 rfl (ec rfl (ec rfl e0)) cc9 ?_
        rintro _ w9 ⟨rfl, xt9⟩
        have H12 := H11.ext xt9
        refine k (pickT rfl rfl rfl rfl (by rw [setR_twice]; simp) rfl (k (asg rfl rfl (z (nx (rt (r1 rfl rfl ?_)))))))
        have e0 : (subR a (setR a (i % 700)) : Bool) = true := by exact (subR_set _ _)
        exact ⟨congrArg (fun (x_0 : Bool) => (.bool x_0 : Value)) e0, H12.below⟩
      ·
        refine sk (nx (sq (rg (k ?_))))
        have cc10 := awake02 (w := w3)
        refine ca go5 rfl e0 cc10 ?_
        rintro _ w10 ⟨rfl, xt10⟩
        have H13 := H4.ext xt10
        refine k (mv rfl rfl (k (gy rfl rfl rfl rfl (mv rfl rfl (k (gy rfl rfl rfl rfl (lnS rfl rfl un22 (k (gy rfl rfl rfl rfl (mv rfl i0 (k (gy rfl rfl rfl rfl (lnS rfl rfl un22 (k (gy rfl rfl rfl rfl (eql rfl rfl rfl rfl (k (pickT rfl rfl rfl rfl rfl rfl (k (mv rfl rfl (k (gy rfl rfl rfl (by simp [setR_length]) (mv rfl rfl (k (gy rfl rfl rfl (by simp [setR_length]) ?_)))))))))))))))))))))))))
        have H14 := H13.freeze 0 rfl
        have cc11 := row_Count (r := (setR a (i % 700))) (w := w10) H14.mb (H14.rv 0 rfl) (by first | omega | (rw [setR_length]; omega))
        refine ca go7 rfl (ec rfl e0) cc11 ?_
        rintro _ w11 ⟨rfl, xt11⟩
        have H15 := H14.ext xt11
        refine k (gy rfl rfl rfl (by simp [setR_length]) (mv rfl rfl (k (gy rfl rfl rfl (by simp [setR_length]) (eql rfl rfl rfl rfl (k (pickT rfl rfl rfl rfl (by simp [setR_length]) rfl (k (mv rfl rfl (k (gy rfl rfl rfl (by rw [decide_eq_true_eq, rowOne_count (by omega)]; first | rw [if_pos ⟨by omega, by simpa using b2⟩] | rw [if_neg (by rintro ⟨h1, h2⟩; first | omega | (rw [h2] at b2; exact absurd b2 (by decide)))]) (mv rfl rfl (k (gy rfl rfl rfl (by rw [decide_eq_true_eq, rowOne_count (by omega)]; first | rw [if_pos ⟨by omega, by simpa using b2⟩] | rw [if_neg (by rintro ⟨h1, h2⟩; first | omega | (rw [h2] at b2; exact absurd b2 (by decide)))]) (mv rfl rfl (k (gy rfl rfl rfl (by rw [decide_eq_true_eq, rowOne_count (by omega)]; first | rw [if_pos ⟨by omega, by simpa using b2⟩] | rw [if_neg (by rintro ⟨h1, h2⟩; first | omega | (rw [h2] at b2; exact absurd b2 (by decide)))]) ?_)))))))))))))))))
        have cc12 := row_Has (r := (setR a (i % 700))) (i := (i % 700)) (w := w11) H15.mb (H15.rv 0 rfl) (by unfold I64 at *; omega)
        refine ca go8 rfl (ec rfl (ec rfl e0)) cc12 ?_
        rintro _ w12 ⟨rfl, xt12⟩
        have H16 := H15.ext xt12
        refine k (gy rfl rfl rfl (by rw [decide_eq_true_eq, rowOne_count (by omega)]; first | rw [if_pos ⟨by omega, by simpa using b2⟩] | rw [if_neg (by rintro ⟨h1, h2⟩; first | omega | (rw [h2] at b2; exact absurd b2 (by decide)))]) (mv rfl rfl (k (gy rfl rfl rfl (by rw [decide_eq_true_eq, rowOne_count (by omega)]; first | rw [if_pos ⟨by omega, by simpa using b2⟩] | rw [if_neg (by rintro ⟨h1, h2⟩; first | omega | (rw [h2] at b2; exact absurd b2 (by decide)))]) (mv rfl i0 (k (gy rfl rfl rfl (by rw [decide_eq_true_eq, rowOne_count (by omega)]; first | rw [if_pos ⟨by omega, by simpa using b2⟩] | rw [if_neg (by rintro ⟨h1, h2⟩; first | omega | (rw [h2] at b2; exact absurd b2 (by decide)))]) (lnS rfl rfl un22 (k (gy rfl rfl rfl (by rw [decide_eq_true_eq, rowOne_count (by omega)]; first | rw [if_pos ⟨by omega, by simpa using b2⟩] | rw [if_neg (by rintro ⟨h1, h2⟩; first | omega | (rw [h2] at b2; exact absurd b2 (by decide)))]) (mul rfl rfl rfl rfl (by unfold I64 at *; omega) (k (gy rfl rfl rfl (by rw [decide_eq_true_eq, rowOne_count (by omega)]; first | rw [if_pos ⟨by omega, by simpa using b2⟩] | rw [if_neg (by rintro ⟨h1, h2⟩; first | omega | (rw [h2] at b2; exact absurd b2 (by decide)))]) (lss rfl rfl rfl rfl (k (gy rfl rfl rfl (by rw [decide_eq_true_eq, rowOne_count (by omega)]; first | rw [if_pos ⟨by omega, by simpa using b2⟩] | rw [if_neg (by rintro ⟨h1, h2⟩; first | omega | (rw [h2] at b2; exact absurd b2 (by decide)))]) (eqB rfl rfl rfl rfl un4 (k (pickT rfl rfl rfl rfl (by rw [decide_eq_true_eq, rowOne_count (by omega)]; first | rw [if_pos ⟨by omega, by simpa using b2⟩] | rw [if_neg (by rintro ⟨h1, h2⟩; first | omega | (rw [h2] at b2; exact absurd b2 (by decide)))]) rfl (k (mv rfl rfl (k (gy rfl rfl rfl (by rw [hasR_set_self]; unfold inR; simp; omega) (mv rfl rfl (k (gy rfl rfl rfl (by rw [hasR_set_self]; unfold inR; simp; omega) (mv rfl rfl (k (gy rfl rfl rfl (by rw [hasR_set_self]; unfold inR; simp; omega) ?_)))))))))))))))))))))))))))))
        have cc13 := row_Set (r := (setR a (i % 700))) (i := (i % 700)) (w := w12) H16.mb (H16.rv 0 rfl) (by unfold I64 at *; omega) (by first | omega | (rw [setR_length]; omega))
        refine ca go6 rfl (ec rfl (ec rfl e0)) cc13 ?_
        rintro _ w13 ⟨a2, c2, rfl, xt13, rv2⟩
        have H17 := H16.owns rv2
        refine k (gy rfl rfl rfl (by rw [hasR_set_self]; unfold inR; simp; omega) (mv rfl rfl (k (gy rfl rfl rfl (by rw [hasR_set_self]; unfold inR; simp; omega) ?_))))
        have H18 := H17.freeze 0 rfl
        have cc14 := row_Same (a := (setR (setR a (i % 700)) (i % 700))) (b := (setR a (i % 700))) (w := w13) H18.mb (H18.rv 0 rfl) (H18.rv 1 rfl)
        refine ca go9 rfl (ec rfl (ec rfl e0)) cc14 ?_
        rintro _ w14 ⟨rfl, xt14⟩
        have H19 := H18.ext xt14
        refine k (pickT rfl rfl rfl rfl (by rw [hasR_set_self]; unfold inR; simp; omega) rfl (k (mv rfl rfl (k (gy rfl rfl rfl (by rw [setR_twice]; simp) (mv rfl i0 (k (gy rfl rfl rfl (by rw [setR_twice]; simp) (mv rfl rfl (k (gy rfl rfl rfl (by rw [setR_twice]; simp) ?_)))))))))))
        have cc15 := row_Sub (a := a) (b := (setR a (i % 700))) (w := w14) H19.mb (H19.rv 2 rfl) (H19.rv 1 rfl)
        refine ca go10 rfl (ec rfl (ec rfl e0)) cc15 ?_
        rintro _ w15 ⟨rfl, xt15⟩
        have H20 := H19.ext xt15
        refine k (pickT rfl rfl rfl rfl (by rw [setR_twice]; simp) rfl (k (asg rfl rfl (z (nx (rt (r1 rfl rfl ?_)))))))
        have e0 : (subR a (setR a (i % 700)) : Bool) = true := by exact (subR_set _ _)
        exact ⟨congrArg (fun (x_0 : Bool) => (.bool x_0 : Value)) e0, H20.below⟩
    · -- decide ((i % 700) < (64 * (a.length : Int))) is False
      have p1 := of_decide_eq_false b1
      refine k (gn rfl rfl rfl b1 (k (gn rfl rfl rfl b1 (k (gn rfl rfl rfl b1 (k (gn rfl rfl rfl b1 (k (pickF rfl rfl rfl rfl b1 rfl (z (nx (cdF rfl rfl rfl (sk (nx (sq (rg (k ?_)))))))))))))))))
      have cc16 := awake02 (w := w2)
      refine ca go5 rfl e0 cc16 ?_
      rintro _ w16 ⟨rfl, xt16⟩
      have H21 := H3.ext xt16
      refine k (mv rfl rfl (k (gy rfl rfl rfl rfl (mv rfl rfl (k (gy rfl rfl rfl rfl (lnS rfl rfl un22 (k (gy rfl rfl rfl rfl (mv rfl i0 (k (gy rfl rfl rfl rfl (lnS rfl rfl un22 (k (gy rfl rfl rfl rfl (eql rfl rfl rfl rfl (k (pickT rfl rfl rfl rfl rfl rfl (k (mv rfl rfl (k (gy rfl rfl rfl (by simp [setR_length]) (mv rfl rfl (k (gy rfl rfl rfl (by simp [setR_length]) ?_)))))))))))))))))))))))))
      have H22 := H21.freeze 0 rfl
      have cc17 := row_Count (r := (setR a (i % 700))) (w := w16) H22.mb (H22.rv 0 rfl) (by first | omega | (rw [setR_length]; omega))
      refine ca go7 rfl (ec rfl e0) cc17 ?_
      rintro _ w17 ⟨rfl, xt17⟩
      have H23 := H22.ext xt17
      refine k (gy rfl rfl rfl (by simp [setR_length]) (mv rfl rfl (k (gy rfl rfl rfl (by simp [setR_length]) (eql rfl rfl rfl rfl (k (pickT rfl rfl rfl rfl (by simp [setR_length]) rfl (k (mv rfl rfl (k (gy rfl rfl rfl (by rw [decide_eq_true_eq, rowOne_count (by omega)]; first | rw [if_pos ⟨by omega, by simpa using b2⟩] | rw [if_neg (by rintro ⟨h1, h2⟩; first | omega | (rw [h2] at b2; exact absurd b2 (by decide)))]) (mv rfl rfl (k (gy rfl rfl rfl (by rw [decide_eq_true_eq, rowOne_count (by omega)]; first | rw [if_pos ⟨by omega, by simpa using b2⟩] | rw [if_neg (by rintro ⟨h1, h2⟩; first | omega | (rw [h2] at b2; exact absurd b2 (by decide)))]) (mv rfl rfl (k (gy rfl rfl rfl (by rw [decide_eq_true_eq, rowOne_count (by omega)]; first | rw [if_pos ⟨by omega, by simpa using b2⟩] | rw [if_neg (by rintro ⟨h1, h2⟩; first | omega | (rw [h2] at b2; exact absurd b2 (by decide)))]) ?_)))))))))))))))))
      have cc18 := row_Has (r := (setR a (i % 700))) (i := (i % 700)) (w := w17) H23.mb (H23.rv 0 rfl) (by unfold I64 at *; omega)
      refine ca go8 rfl (ec rfl (ec rfl e0)) cc18 ?_
      rintro _ w18 ⟨rfl, xt18⟩
      have H24 := H23.ext xt18
      refine k (gy rfl rfl rfl (by rw [decide_eq_true_eq, rowOne_count (by omega)]; first | rw [if_pos ⟨by omega, by simpa using b2⟩] | rw [if_neg (by rintro ⟨h1, h2⟩; first | omega | (rw [h2] at b2; exact absurd b2 (by decide)))]) (mv rfl rfl (k (gy rfl rfl rfl (by rw [decide_eq_true_eq, rowOne_count (by omega)]; first | rw [if_pos ⟨by omega, by simpa using b2⟩] | rw [if_neg (by rintro ⟨h1, h2⟩; first | omega | (rw [h2] at b2; exact absurd b2 (by decide)))]) (mv rfl i0 (k (gy rfl rfl rfl (by rw [decide_eq_true_eq, rowOne_count (by omega)]; first | rw [if_pos ⟨by omega, by simpa using b2⟩] | rw [if_neg (by rintro ⟨h1, h2⟩; first | omega | (rw [h2] at b2; exact absurd b2 (by decide)))]) (lnS rfl rfl un22 (k (gy rfl rfl rfl (by rw [decide_eq_true_eq, rowOne_count (by omega)]; first | rw [if_pos ⟨by omega, by simpa using b2⟩] | rw [if_neg (by rintro ⟨h1, h2⟩; first | omega | (rw [h2] at b2; exact absurd b2 (by decide)))]) (mul rfl rfl rfl rfl (by unfold I64 at *; omega) (k (gy rfl rfl rfl (by rw [decide_eq_true_eq, rowOne_count (by omega)]; first | rw [if_pos ⟨by omega, by simpa using b2⟩] | rw [if_neg (by rintro ⟨h1, h2⟩; first | omega | (rw [h2] at b2; exact absurd b2 (by decide)))]) (lss rfl rfl rfl rfl (k (gy rfl rfl rfl (by rw [decide_eq_true_eq, rowOne_count (by omega)]; first | rw [if_pos ⟨by omega, by simpa using b2⟩] | rw [if_neg (by rintro ⟨h1, h2⟩; first | omega | (rw [h2] at b2; exact absurd b2 (by decide)))]) (eqB rfl rfl rfl rfl un4 (k (pickT rfl rfl rfl rfl (by rw [decide_eq_true_eq, rowOne_count (by omega)]; first | rw [if_pos ⟨by omega, by simpa using b2⟩] | rw [if_neg (by rintro ⟨h1, h2⟩; first | omega | (rw [h2] at b2; exact absurd b2 (by decide)))]) rfl (k (mv rfl rfl (k (gy rfl rfl rfl (by rw [hasR_set_self]; unfold inR; simp; omega) (mv rfl rfl (k (gy rfl rfl rfl (by rw [hasR_set_self]; unfold inR; simp; omega) (mv rfl rfl (k (gy rfl rfl rfl (by rw [hasR_set_self]; unfold inR; simp; omega) ?_)))))))))))))))))))))))))))))
      have cc19 := row_Set (r := (setR a (i % 700))) (i := (i % 700)) (w := w18) H24.mb (H24.rv 0 rfl) (by unfold I64 at *; omega) (by first | omega | (rw [setR_length]; omega))
      refine ca go6 rfl (ec rfl (ec rfl e0)) cc19 ?_
      rintro _ w19 ⟨a3, c3, rfl, xt19, rv3⟩
      have H25 := H24.owns rv3
      refine k (gy rfl rfl rfl (by rw [hasR_set_self]; unfold inR; simp; omega) (mv rfl rfl (k (gy rfl rfl rfl (by rw [hasR_set_self]; unfold inR; simp; omega) ?_))))
      have H26 := H25.freeze 0 rfl
      have cc20 := row_Same (a := (setR (setR a (i % 700)) (i % 700))) (b := (setR a (i % 700))) (w := w19) H26.mb (H26.rv 0 rfl) (H26.rv 1 rfl)
      refine ca go9 rfl (ec rfl (ec rfl e0)) cc20 ?_
      rintro _ w20 ⟨rfl, xt20⟩
      have H27 := H26.ext xt20
      refine k (pickT rfl rfl rfl rfl (by rw [hasR_set_self]; unfold inR; simp; omega) rfl (k (mv rfl rfl (k (gy rfl rfl rfl (by rw [setR_twice]; simp) (mv rfl i0 (k (gy rfl rfl rfl (by rw [setR_twice]; simp) (mv rfl rfl (k (gy rfl rfl rfl (by rw [setR_twice]; simp) ?_)))))))))))
      have cc21 := row_Sub (a := a) (b := (setR a (i % 700))) (w := w20) H27.mb (H27.rv 2 rfl) (H27.rv 1 rfl)
      refine ca go10 rfl (ec rfl (ec rfl e0)) cc21 ?_
      rintro _ w21 ⟨rfl, xt21⟩
      have H28 := H27.ext xt21
      refine k (pickT rfl rfl rfl rfl (by rw [setR_twice]; simp) rfl (k (asg rfl rfl (z (nx (rt (r1 rfl rfl ?_)))))))
      have e0 : (subR a (setR a (i % 700)) : Bool) = true := by exact (subR_set _ _)
      exact ⟨congrArg (fun (x_0 : Bool) => (.bool x_0 : Value)) e0, H28.below⟩
end Go.Proofs.Ytfakagpjgpbkbaa
