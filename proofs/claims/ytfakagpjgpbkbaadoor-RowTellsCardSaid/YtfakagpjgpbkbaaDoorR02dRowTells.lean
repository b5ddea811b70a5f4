/- PRINTED by my own tool (wip/tool/gen.py): contracts of Go functions of this seat, each with its proof. -/
import Derived.Test.YtfakagpjgpbkbaaDoorProg
import Derived.Test.YtfakagpjgpbkbaaDoorEwSpecJ
import Derived.Test.YtfakagpjgpbkbaaDoorR02dFns
import Derived.Test.YtfakagpjgpbkbaaDoorR02dRows
import Derived.Test.YtfakagpjgpbkbaaDoorR02dOr
namespace Go.Proofs.YtfakagpjgpbkbaaDoor
open Go.Ew Go.RowKit
set_option linter.unusedVariables false
set_option linter.unusedSimpArgs false
attribute [local irreducible] WL WC SO Code.wp wpList retQ Ret
attribute [local irreducible] bitB hasW inR hasR setR countW countR subR words newR listR orR firstW tab8
theorem go22 : GoF Tryd.prog 22 := ⟨_, _, Tryd.func22, rfl, by kernel_rfl⟩
theorem go24 : GoF Tryd.prog 24 := ⟨_, _, Tryd.func24, rfl, by kernel_rfl⟩
theorem go26 : GoF Tryd.prog 26 := ⟨_, _, Tryd.func26, rfl, by kernel_rfl⟩
theorem go28 : GoF Tryd.prog 28 := ⟨_, _, Tryd.func28, rfl, by kernel_rfl⟩
theorem go29 : GoF Tryd.prog 29 := ⟨_, _, Tryd.func29, rfl, by kernel_rfl⟩
theorem go30 : GoF Tryd.prog 30 := ⟨_, _, Tryd.func30, rfl, by kernel_rfl⟩
/- eyewitness/eyewitnesslaw02.RowTells -/
set_option maxRecDepth 100000 in
set_option maxHeartbeats 200000 in
theorem law_RowTells {M : Nat → Prop} {w : World} {a_a : Option Addr} {c_a : Nat} {a : List (BitVec 64)} {a_b : Option Addr} {c_b : Nat} {b : List (BitVec 64)} {i : Int} (hM : ∀ b, M b → b < w.heap.size) (hT : TabAt 0 w) (h_a : RV M w (.slice a_a a.length c_a) a) (h_b : RV M w (.slice a_b b.length c_b) b) (h_i : I64 i) : Calls Tryd.prog 4 #[.slice a_a a.length c_a, .slice a_b b.length c_b, .int .i64 i] w (Ret fun v w' =>  v = .bool true ∧ Ext w w') := by
  refine enter 97 Tryd.func4 rfl rfl rfl fun f0 ha => ?_
  have H := HI.start (M0 := M) (w := w) hM
  have H0 := H.put (it := imm (.slice a_a a.length c_a) a) rfl (by rw [MS_nil]; exact h_a)
  have H1 := H0.put (it := imm (.slice a_b b.length c_b) b) rfl (by rw [MS_cons_none rfl, MS_nil]; exact h_b)
  have ln_a := rv_len h_a
  have ln_b := rv_len h_b
  have i0 : f0 0 = .slice a_a a.length c_a := ha 0 (by simp)
  have i1 : f0 1 = .slice a_b b.length c_b := ha 1 (by simp)
  have i2 : f0 2 = .int .i64 i := ha 2 (by simp)
  refine sq (rg (k (asg rfl rfl (z (nx (sq (sq (rg (k (mv rfl i0 (k (lnS rfl rfl un22 (k (gtr rfl rfl rfl rfl (k (mv rfl rfl ?_))))))))))))))))
  rcases Bool.eq_false_or_eq_true (decide (10 < (a.length : Int))) with b0 | b0
  · -- decide (10 < (a.length : Int)) is True
    have p0 := of_decide_eq_true b0
    refine k (gn rfl rfl rfl b0 (k (gn rfl rfl rfl b0 (k (gn rfl rfl rfl b0 (k (pickT rfl rfl rfl rfl b0 rfl (z (nx (cdT rfl rfl rfl (sq (rg (k ?_)))))))))))))
    have cc0 := awake02 (w := w)
    refine ca go13 rfl e0 cc0 ?_
    rintro _ w0 ⟨rfl, xt0⟩
    have H2 := H1.ext xt0
    refine k (asg rfl rfl (z (nx (rt (then_ret (r1 rfl rfl ?_))))))
    exact ⟨rfl, H2.below⟩
  · -- decide (10 < (a.length : Int)) is False
    have p0 := of_decide_eq_false b0
    refine k (gy rfl rfl rfl b0 (mv rfl i1 (k (gy rfl rfl rfl b0 (lnS rfl rfl un22 (k (gy rfl rfl rfl b0 (gtr rfl rfl rfl rfl (k (pickF rfl rfl rfl rfl b0 rfl (z (nx ?_))))))))))))
    refine cd (b := decide (10 < (b.length : Int))) rfl rfl (fun b1 => ?_) (fun b1 => ?_)
    ·
      have p1 := of_decide_eq_true b1
      refine sq (rg (k ?_))
      have cc0 := awake02 (w := w)
      refine ca go13 rfl e0 cc0 ?_
      rintro _ w0 ⟨rfl, xt0⟩
      have H2 := H1.ext xt0
      refine k (asg rfl rfl (z (nx (rt (then_ret (r1 rfl rfl ?_))))))
      exact ⟨rfl, H2.below⟩
    ·
      have p1 := of_decide_eq_false b1
      refine sk (nx (sq (sq (rg (k (mv rfl i2 (k (leq rfl rfl rfl rfl (k (mv rfl rfl ?_))))))))))
      rcases Bool.eq_false_or_eq_true (decide (i ≤ 1099511627776)) with b2 | b2
      · -- decide (i ≤ 1099511627776) is True
        have p2 := of_decide_eq_true b2
        refine k (gy rfl rfl rfl b2 (mv rfl i2 (k (gy rfl rfl rfl b2 ?_))))
        have cc0 := row_Words (n := i) (w := w) (by unfold I64 at *; omega) (by first | omega | (simp; omega))
        refine ca go20 rfl (ec rfl e0) cc0 ?_
        rintro _ w0 ⟨rfl, xt0⟩
        have H2 := H1.ext xt0
        refine k (gy rfl rfl rfl b2 (mv rfl i2 (k (gy rfl rfl rfl b2 ?_))))
        have cc1 := ref02_Words (n := i) (w := w0) (by unfold I64 at *; omega) (by first | omega | (simp; omega))
        refine ca go21 rfl (ec rfl e0) cc1 ?_
        rintro _ w1 ⟨rfl, xt1⟩
        have H3 := H2.ext xt1
        refine k (gy rfl rfl rfl b2 (neq rfl rfl rfl rfl (k (pickT rfl rfl rfl rfl b2 rfl (k (mv rfl rfl (k (gy rfl rfl rfl (by rw [show decide (((words i : Nat) : Int) = ((words i : Nat) : Int)) = true from (by simp)]; rfl) (mv rfl i2 (k (gy rfl rfl rfl (by rw [show decide (((words i : Nat) : Int) = ((words i : Nat) : Int)) = true from (by simp)]; rfl) (leq rfl rfl rfl rfl (k (gy rfl rfl rfl (by rw [show decide (((words i : Nat) : Int) = ((words i : Nat) : Int)) = true from (by simp)]; rfl) (mv rfl rfl ?_)))))))))))))))
        rcases Bool.eq_false_or_eq_true (decide (i ≤ 1000)) with b3 | b3
        · -- decide (i ≤ 1000) is True
          have p3 := of_decide_eq_true b3
          refine k (gy rfl rfl rfl b3 (mv rfl i2 (k (gy rfl rfl rfl b3 ?_))))
          have cc2 := row_New (n := i) (w := w1) H3.mb (by unfold I64 at *; omega) (by first | omega | (simp; omega))
          refine ca go15 rfl (ec rfl e0) cc2 ?_
          rintro _ w2 ⟨a0, c0, rfl, xt2, rv0⟩
          have H4 := H3.ownsG rv0
          refine k (gy rfl rfl rfl b3 (mv rfl i2 (k (gy rfl rfl rfl b3 ?_))))
          have cc3 := ref02_New (n := i) (w := w2) H4.mb (by unfold I64 at *; omega) (by first | omega | (simp; omega))
          refine ca go22 rfl (ec rfl e0) cc3 ?_
          rintro _ w3 ⟨a1, c1, rfl, xt3, rv1⟩
          have H5 := H4.ownsG rv1
          refine k (gy rfl rfl rfl b3 ?_)
          have H6 := H5.freeze 1 rfl
          have H7 := H6.freeze 0 rfl
          have cc4 := ref02_Same (a := (newR i)) (b := (newR i)) (w := w3) H7.mb (H7.rv 1 rfl) (H7.rv 0 rfl)
          refine ca go18 rfl (ec rfl (ec rfl e0)) cc4 ?_
          rintro _ w4 ⟨rfl, xt4⟩
          have H8 := H7.ext xt4
          refine k (gy rfl rfl rfl b3 (not_ rfl rfl (k (gy rfl rfl rfl (by rw [show decide (((words i : Nat) : Int) = ((words i : Nat) : Int)) = true from (by simp)]; rfl) (pickT rfl rfl rfl rfl b3 rfl (k (pickF rfl rfl rfl rfl (by rw [show decide (((words i : Nat) : Int) = ((words i : Nat) : Int)) = true from (by simp)]; rfl) rfl (z (nx (cdF rfl rfl (by rw [show decide ((newR i) = (newR i)) = true from (by simp)]; rfl) (sk (nx (sq (rg (k ?_)))))))))))))))
          have cc5 := awake02 (w := w4)
          refine ca go13 rfl e0 cc5 ?_
          rintro _ w5 ⟨rfl, xt5⟩
          have H9 := H8.ext xt5
          refine k (mv rfl rfl (k (gy rfl rfl rfl rfl (mv rfl i0 (k (gy rfl rfl rfl rfl (mv rfl i2 (k (gy rfl rfl rfl rfl ?_)))))))))
          have cc6 := row_Has (r := a) (i := i) (w := w5) H9.mb (H9.rv 3 rfl) (by unfold I64 at *; omega)
          refine ca go16 rfl (ec rfl (ec rfl e0)) cc6 ?_
          rintro _ w6 ⟨rfl, xt6⟩
          have H10 := H9.ext xt6
          refine k (gy rfl rfl rfl rfl (mv rfl i0 (k (gy rfl rfl rfl rfl (mv rfl i2 (k (gy rfl rfl rfl rfl ?_)))))))
          have cc7 := ref02_Has (r := a) (i := i) (w := w6) H10.mb (H10.rv 3 rfl) (by unfold I64 at *; omega) (by first | omega | (simp; omega))
          refine ca go23 rfl (ec rfl (ec rfl e0)) cc7 ?_
          rintro _ w7 ⟨rfl, xt7⟩
          have H11 := H10.ext xt7
          refine k (gy rfl rfl rfl rfl (eqB rfl rfl rfl rfl un4 (k (pickT rfl rfl rfl rfl rfl rfl (k (mv rfl rfl (k (gy rfl rfl rfl (by simp) (mv rfl i0 (k (gy rfl rfl rfl (by simp) (mv rfl i2 (k (gy rfl rfl rfl (by simp) ?_))))))))))))))
          have cc8 := row_Set (r := a) (i := i) (w := w7) H11.mb (H11.rv 3 rfl) (by unfold I64 at *; omega) (by first | omega | (simp; omega))
          refine ca go17 rfl (ec rfl (ec rfl e0)) cc8 ?_
          rintro _ w8 ⟨a2, c2, rfl, xt8, rv2⟩
          have H12 := H11.ownsG rv2
          refine k (gy rfl rfl rfl (by simp) (mv rfl i0 (k (gy rfl rfl rfl (by simp) (mv rfl i2 (k (gy rfl rfl rfl (by simp) ?_)))))))
          have cc9 := ref02_Set (r := a) (i := i) (w := w8) H12.mb (H12.rv 4 rfl) (by unfold I64 at *; omega) (by first | omega | (simp; omega))
          refine ca go24 rfl (ec rfl (ec rfl e0)) cc9 ?_
          rintro _ w9 ⟨a3, c3, rfl, xt9, rv3⟩
          have H13 := H12.ownsG rv3
          refine k (gy rfl rfl rfl (by simp) ?_)
          have H14 := H13.freeze 1 rfl
          have H15 := H14.freeze 0 rfl
          have cc10 := ref02_Same (a := (setR a i)) (b := (setR a i)) (w := w9) H15.mb (H15.rv 1 rfl) (H15.rv 0 rfl)
          refine ca go18 rfl (ec rfl (ec rfl e0)) cc10 ?_
          rintro _ w10 ⟨rfl, xt10⟩
          have H16 := H15.ext xt10
          refine k (pickT rfl rfl rfl rfl (by simp) rfl (k (mv rfl rfl (k (gy rfl rfl rfl (by simp) (mv rfl i0 (k (gy rfl rfl rfl (by simp) (mv rfl i1 (k (gy rfl rfl rfl (by simp) ?_)))))))))))
          have cc11 := row_Or (a := a) (b := b) (w := w10) H16.mb (H16.rv 5 rfl) (H16.rv 4 rfl) (by first | omega | (simp; omega)) (by first | omega | (simp; omega))
          refine ca go25 rfl (ec rfl (ec rfl e0)) cc11 ?_
          rintro _ w11 ⟨a4, c4, rfl, xt11, rv4⟩
          have H17 := H16.ownsG rv4
          refine k (gy rfl rfl rfl (by simp) (mv rfl i0 (k (gy rfl rfl rfl (by simp) (mv rfl i1 (k (gy rfl rfl rfl (by simp) ?_)))))))
          have cc12 := ref02_Or (a := a) (b := b) (w := w11) H17.mb (H17.rv 6 rfl) (H17.rv 5 rfl) (by first | omega | (simp; omega)) (by first | omega | (simp; omega))
          refine ca go26 rfl (ec rfl (ec rfl e0)) cc12 ?_
          rintro _ w12 ⟨a5, c5, rfl, xt12, rv5⟩
          have H18 := H17.ownsG rv5
          refine k (gy rfl rfl rfl (by simp) ?_)
          have H19 := H18.freeze 1 rfl
          have H20 := H19.freeze 0 rfl
          have cc13 := ref02_Same (a := (orR a b)) (b := (orR a b)) (w := w12) H20.mb (H20.rv 1 rfl) (H20.rv 0 rfl)
          refine ca go18 rfl (ec rfl (ec rfl e0)) cc13 ?_
          rintro _ w13 ⟨rfl, xt13⟩
          have H21 := H20.ext xt13
          refine k (pickT rfl rfl rfl rfl (by simp) rfl (k (mv rfl rfl (k (gy rfl rfl rfl (by simp) (mv rfl i0 (k (gy rfl rfl rfl (by simp) (mv rfl i1 (k (gy rfl rfl rfl (by simp) ?_)))))))))))
          have cc14 := row_Sub (a := a) (b := b) (w := w13) H21.mb (H21.rv 7 rfl) (H21.rv 6 rfl)
          refine ca go27 rfl (ec rfl (ec rfl e0)) cc14 ?_
          rintro _ w14 ⟨rfl, xt14⟩
          have H22 := H21.ext xt14
          refine k (gy rfl rfl rfl (by simp) (mv rfl i0 (k (gy rfl rfl rfl (by simp) (mv rfl i1 (k (gy rfl rfl rfl (by simp) ?_)))))))
          have cc15 := ref02_Sub (a := a) (b := b) (w := w14) H22.mb (H22.rv 7 rfl) (H22.rv 6 rfl) (by first | omega | (simp; omega)) (by first | omega | (simp; omega))
          refine ca go28 rfl (ec rfl (ec rfl e0)) cc15 ?_
          rintro _ w15 ⟨rfl, xt15⟩
          have H23 := H22.ext xt15
          refine k (gy rfl rfl rfl (by simp) (eqB rfl rfl rfl rfl un4 (k (pickT rfl rfl rfl rfl (by simp) rfl (k (mv rfl rfl (k (gy rfl rfl rfl (by simp) (mv rfl i0 (k (gy rfl rfl rfl (by simp) ?_)))))))))))
          have cc16 := row_Count (r := a) (w := w15) H23.mb (H23.rv 7 rfl) (by first | omega | (simp; omega))
          refine ca go19 rfl (ec rfl e0) cc16 ?_
          rintro _ w16 ⟨rfl, xt16⟩
          have H24 := H23.ext xt16
          refine k (gy rfl rfl rfl (by simp) (mv rfl i0 (k (gy rfl rfl rfl (by simp) ?_))))
          have cc17 := ref02_Count (r := a) (w := w16) H24.mb (H24.rv 7 rfl) (by first | omega | (simp; omega))
          refine ca go29 rfl (ec rfl e0) cc17 ?_
          rintro _ w17 ⟨rfl, xt17⟩
          have H25 := H24.ext xt17
          refine k (gy rfl rfl rfl (by simp) (eql rfl rfl rfl rfl (k (pickT rfl rfl rfl rfl (by simp) rfl (k (mv rfl rfl (k (gy rfl rfl rfl (by simp) (mv rfl i0 (k (gy rfl rfl rfl (by simp) ?_)))))))))))
          have cc18 := row_List (r := a) (w := w17) H25.mb (hT.ext H25.below) (H25.rv 7 rfl) (by first | omega | (simp; omega))
          refine ca go14 rfl (ec rfl e0) cc18 ?_
          rintro _ w18 ⟨a6, c6, rfl, xt18, rv6⟩
          have H26 := H25.ownsG rv6
          refine k (gy rfl rfl rfl (by simp) (mv rfl i0 (k (gy rfl rfl rfl (by simp) ?_))))
          have cc19 := ref02_List (r := a) (w := w18) H26.mb (H26.rv 8 rfl) (by first | omega | (simp; omega))
          refine ca go31 rfl (ec rfl e0) cc19 ?_
          rintro _ w19 ⟨a7, c7, rfl, xt19, rv7⟩
          have H27 := H26.ownsG rv7
          refine k (gy rfl rfl rfl (by simp) ?_)
          have H28 := H27.freeze 1 rfl
          have H29 := H28.freeze 0 rfl
          have cc20 := ref02_Ints (a := (listR a)) (b := (listR a)) (w := w19) H29.mb (H29.rv 1 rfl) (H29.rv 0 rfl)
          refine ca go30 rfl (ec rfl (ec rfl e0)) cc20 ?_
          rintro _ w20 ⟨rfl, xt20⟩
          have H30 := H29.ext xt20
          refine k (pickT rfl rfl rfl rfl (by simp) rfl (k (mv rfl rfl (k (gy rfl rfl rfl (by simp) (mv rfl i0 (k (gy rfl rfl rfl (by simp) (mv rfl i1 (k (gy rfl rfl rfl (by simp) ?_)))))))))))
          have cc21 := row_Same (a := a) (b := b) (w := w20) H30.mb (H30.rv 9 rfl) (H30.rv 8 rfl)
          refine ca go32 rfl (ec rfl (ec rfl e0)) cc21 ?_
          rintro _ w21 ⟨rfl, xt21⟩
          have H31 := H30.ext xt21
          refine k (gy rfl rfl rfl (by simp) (mv rfl i0 (k (gy rfl rfl rfl (by simp) (mv rfl i1 (k (gy rfl rfl rfl (by simp) ?_)))))))
          have cc22 := ref02_Same (a := a) (b := b) (w := w21) H31.mb (H31.rv 9 rfl) (H31.rv 8 rfl)
          refine ca go18 rfl (ec rfl (ec rfl e0)) cc22 ?_
          rintro _ w22 ⟨rfl, xt22⟩
          have H32 := H31.ext xt22
          refine k (gy rfl rfl rfl (by simp) (eqB rfl rfl rfl rfl un4 (k (pickT rfl rfl rfl rfl (by simp) rfl (k (asg rfl rfl (z (nx (rt (r1 rfl rfl ?_))))))))))
          have e0 : ((decide (a = b)) == (decide (a = b)) : Bool) = true := by exact (by simp)
          have ev_ := cg1 (fun (x_0 : Bool) => (.bool x_0 : Value)) e0
          exact ⟨ev_, H32.below⟩
        · -- decide (i ≤ 1000) is False
          have p3 := of_decide_eq_false b3
          refine k (gn rfl rfl rfl b3 (k (gn rfl rfl rfl b3 (k (gn rfl rfl rfl b3 (k (gn rfl rfl rfl b3 (k (gn rfl rfl rfl b3 (k (gn rfl rfl rfl b3 (k (gy rfl rfl rfl (by rw [show decide (((words i : Nat) : Int) = ((words i : Nat) : Int)) = true from (by simp)]; rfl) (pickF rfl rfl rfl rfl b3 rfl (k (pickF rfl rfl rfl rfl (by rw [show decide (((words i : Nat) : Int) = ((words i : Nat) : Int)) = true from (by simp)]; rfl) rfl (z (nx (cdF rfl rfl rfl (sk (nx (sq (rg (k ?_))))))))))))))))))))))))
          have cc2 := awake02 (w := w1)
          refine ca go13 rfl e0 cc2 ?_
          rintro _ w2 ⟨rfl, xt2⟩
          have H4 := H3.ext xt2
          refine k (mv rfl rfl (k (gy rfl rfl rfl rfl (mv rfl i0 (k (gy rfl rfl rfl rfl (mv rfl i2 (k (gy rfl rfl rfl rfl ?_)))))))))
          have cc3 := row_Has (r := a) (i := i) (w := w2) H4.mb (H4.rv 1 rfl) (by unfold I64 at *; omega)
          refine ca go16 rfl (ec rfl (ec rfl e0)) cc3 ?_
          rintro _ w3 ⟨rfl, xt3⟩
          have H5 := H4.ext xt3
          refine k (gy rfl rfl rfl rfl (mv rfl i0 (k (gy rfl rfl rfl rfl (mv rfl i2 (k (gy rfl rfl rfl rfl ?_)))))))
          have cc4 := ref02_Has (r := a) (i := i) (w := w3) H5.mb (H5.rv 1 rfl) (by unfold I64 at *; omega) (by first | omega | (simp; omega))
          refine ca go23 rfl (ec rfl (ec rfl e0)) cc4 ?_
          rintro _ w4 ⟨rfl, xt4⟩
          have H6 := H5.ext xt4
          refine k (gy rfl rfl rfl rfl (eqB rfl rfl rfl rfl un4 (k (pickT rfl rfl rfl rfl rfl rfl (k (mv rfl rfl (k (gy rfl rfl rfl (by simp) (mv rfl i0 (k (gy rfl rfl rfl (by simp) (mv rfl i2 (k (gy rfl rfl rfl (by simp) ?_))))))))))))))
          have cc5 := row_Set (r := a) (i := i) (w := w4) H6.mb (H6.rv 1 rfl) (by unfold I64 at *; omega) (by first | omega | (simp; omega))
          refine ca go17 rfl (ec rfl (ec rfl e0)) cc5 ?_
          rintro _ w5 ⟨a0, c0, rfl, xt5, rv0⟩
          have H7 := H6.ownsG rv0
          refine k (gy rfl rfl rfl (by simp) (mv rfl i0 (k (gy rfl rfl rfl (by simp) (mv rfl i2 (k (gy rfl rfl rfl (by simp) ?_)))))))
          have cc6 := ref02_Set (r := a) (i := i) (w := w5) H7.mb (H7.rv 2 rfl) (by unfold I64 at *; omega) (by first | omega | (simp; omega))
          refine ca go24 rfl (ec rfl (ec rfl e0)) cc6 ?_
          rintro _ w6 ⟨a1, c1, rfl, xt6, rv1⟩
          have H8 := H7.ownsG rv1
          refine k (gy rfl rfl rfl (by simp) ?_)
          have H9 := H8.freeze 1 rfl
          have H10 := H9.freeze 0 rfl
          have cc7 := ref02_Same (a := (setR a i)) (b := (setR a i)) (w := w6) H10.mb (H10.rv 1 rfl) (H10.rv 0 rfl)
          refine ca go18 rfl (ec rfl (ec rfl e0)) cc7 ?_
          rintro _ w7 ⟨rfl, xt7⟩
          have H11 := H10.ext xt7
          refine k (pickT rfl rfl rfl rfl (by simp) rfl (k (mv rfl rfl (k (gy rfl rfl rfl (by simp) (mv rfl i0 (k (gy rfl rfl rfl (by simp) (mv rfl i1 (k (gy rfl rfl rfl (by simp) ?_)))))))))))
          have cc8 := row_Or (a := a) (b := b) (w := w7) H11.mb (H11.rv 3 rfl) (H11.rv 2 rfl) (by first | omega | (simp; omega)) (by first | omega | (simp; omega))
          refine ca go25 rfl (ec rfl (ec rfl e0)) cc8 ?_
          rintro _ w8 ⟨a2, c2, rfl, xt8, rv2⟩
          have H12 := H11.ownsG rv2
          refine k (gy rfl rfl rfl (by simp) (mv rfl i0 (k (gy rfl rfl rfl (by simp) (mv rfl i1 (k (gy rfl rfl rfl (by simp) ?_)))))))
          have cc9 := ref02_Or (a := a) (b := b) (w := w8) H12.mb (H12.rv 4 rfl) (H12.rv 3 rfl) (by first | omega | (simp; omega)) (by first | omega | (simp; omega))
          refine ca go26 rfl (ec rfl (ec rfl e0)) cc9 ?_
          rintro _ w9 ⟨a3, c3, rfl, xt9, rv3⟩
          have H13 := H12.ownsG rv3
          refine k (gy rfl rfl rfl (by simp) ?_)
          have H14 := H13.freeze 1 rfl
          have H15 := H14.freeze 0 rfl
          have cc10 := ref02_Same (a := (orR a b)) (b := (orR a b)) (w := w9) H15.mb (H15.rv 1 rfl) (H15.rv 0 rfl)
          refine ca go18 rfl (ec rfl (ec rfl e0)) cc10 ?_
          rintro _ w10 ⟨rfl, xt10⟩
          have H16 := H15.ext xt10
          refine k (pickT rfl rfl rfl rfl (by simp) rfl (k (mv rfl rfl (k (gy rfl rfl rfl (by simp) (mv rfl i0 (k (gy rfl rfl rfl (by simp) (mv rfl i1 (k (gy rfl rfl rfl (by simp) ?_)))))))))))
          have cc11 := row_Sub (a := a) (b := b) (w := w10) H16.mb (H16.rv 5 rfl) (H16.rv 4 rfl)
          refine ca go27 rfl (ec rfl (ec rfl e0)) cc11 ?_
          rintro _ w11 ⟨rfl, xt11⟩
          have H17 := H16.ext xt11
          refine k (gy rfl rfl rfl (by simp) (mv rfl i0 (k (gy rfl rfl rfl (by simp) (mv rfl i1 (k (gy rfl rfl rfl (by simp) ?_)))))))
          have cc12 := ref02_Sub (a := a) (b := b) (w := w11) H17.mb (H17.rv 5 rfl) (H17.rv 4 rfl) (by first | omega | (simp; omega)) (by first | omega | (simp; omega))
          refine ca go28 rfl (ec rfl (ec rfl e0)) cc12 ?_
          rintro _ w12 ⟨rfl, xt12⟩
          have H18 := H17.ext xt12
          refine k (gy rfl rfl rfl (by simp) (eqB rfl rfl rfl rfl un4 (k (pickT rfl rfl rfl rfl (by simp) rfl (k (mv rfl rfl (k (gy rfl rfl rfl (by simp) (mv rfl i0 (k (gy rfl rfl rfl (by simp) ?_)))))))))))
          have cc13 := row_Count (r := a) (w := w12) H18.mb (H18.rv 5 rfl) (by first | omega | (simp; omega))
          refine ca go19 rfl (ec rfl e0) cc13 ?_
          rintro _ w13 ⟨rfl, xt13⟩
          have H19 := H18.ext xt13
          refine k (gy rfl rfl rfl (by simp) (mv rfl i0 (k (gy rfl rfl rfl (by simp) ?_))))
          have cc14 := ref02_Count (r := a) (w := w13) H19.mb (H19.rv 5 rfl) (by first | omega | (simp; omega))
          refine ca go29 rfl (ec rfl e0) cc14 ?_
          rintro _ w14 ⟨rfl, xt14⟩
          have H20 := H19.ext xt14
          refine k (gy rfl rfl rfl (by simp) (eql rfl rfl rfl rfl (k (pickT rfl rfl rfl rfl (by simp) rfl (k (mv rfl rfl (k (gy rfl rfl rfl (by simp) (mv rfl i0 (k (gy rfl rfl rfl (by simp) ?_)))))))))))
          have cc15 := row_List (r := a) (w := w14) H20.mb (hT.ext H20.below) (H20.rv 5 rfl) (by first | omega | (simp; omega))
          refine ca go14 rfl (ec rfl e0) cc15 ?_
          rintro _ w15 ⟨a4, c4, rfl, xt15, rv4⟩
          have H21 := H20.ownsG rv4
          refine k (gy rfl rfl rfl (by simp) (mv rfl i0 (k (gy rfl rfl rfl (by simp) ?_))))
          have cc16 := ref02_List (r := a) (w := w15) H21.mb (H21.rv 6 rfl) (by first | omega | (simp; omega))
          refine ca go31 rfl (ec rfl e0) cc16 ?_
          rintro _ w16 ⟨a5, c5, rfl, xt16, rv5⟩
          have H22 := H21.ownsG rv5
          refine k (gy rfl rfl rfl (by simp) ?_)
          have H23 := H22.freeze 1 rfl
          have H24 := H23.freeze 0 rfl
          have cc17 := ref02_Ints (a := (listR a)) (b := (listR a)) (w := w16) H24.mb (H24.rv 1 rfl) (H24.rv 0 rfl)
          refine ca go30 rfl (ec rfl (ec rfl e0)) cc17 ?_
          rintro _ w17 ⟨rfl, xt17⟩
          have H25 := H24.ext xt17
          refine k (pickT rfl rfl rfl rfl (by simp) rfl (k (mv rfl rfl (k (gy rfl rfl rfl (by simp) (mv rfl i0 (k (gy rfl rfl rfl (by simp) (mv rfl i1 (k (gy rfl rfl rfl (by simp) ?_)))))))))))
          have cc18 := row_Same (a := a) (b := b) (w := w17) H25.mb (H25.rv 7 rfl) (H25.rv 6 rfl)
          refine ca go32 rfl (ec rfl (ec rfl e0)) cc18 ?_
          rintro _ w18 ⟨rfl, xt18⟩
          have H26 := H25.ext xt18
          refine k (gy rfl rfl rfl (by simp) (mv rfl i0 (k (gy rfl rfl rfl (by simp) (mv rfl i1 (k (gy rfl rfl rfl (by simp) ?_)))))))
          have cc19 := ref02_Same (a := a) (b := b) (w := w18) H26.mb (H26.rv 7 rfl) (H26.rv 6 rfl)
          refine ca go18 rfl (ec rfl (ec rfl e0)) cc19 ?_
          rintro _ w19 ⟨rfl, xt19⟩
          have H27 := H26.ext xt19
          refine k (gy rfl rfl rfl (by simp) (eqB rfl rfl rfl rfl un4 (k (pickT rfl rfl rfl rfl (by simp) rfl (k (asg rfl rfl (z (nx (rt (r1 rfl rfl ?_))))))))))
          have e0 : ((decide (a = b)) == (decide (a = b)) : Bool) = true := by exact (by simp)
          have ev_ := cg1 (fun (x_0 : Bool) => (.bool x_0 : Value)) e0
          exact ⟨ev_, H27.below⟩
      · -- decide (i ≤ 1099511627776) is False
        have p2 := of_decide_eq_false b2
        refine k (gn rfl rfl rfl b2 (k (gn rfl rfl rfl b2 (k (gn rfl rfl rfl b2 (k (gn rfl rfl rfl b2 (k (gn rfl rfl rfl b2 (k (pickF rfl rfl rfl rfl b2 rfl (k (mv rfl rfl (k (gy rfl rfl rfl rfl (mv rfl i2 (k (gy rfl rfl rfl rfl (leq rfl rfl rfl rfl (k (gy rfl rfl rfl rfl (mv rfl rfl ?_))))))))))))))))))))))
        rcases Bool.eq_false_or_eq_true (decide (i ≤ 1000)) with b3 | b3
        · -- decide (i ≤ 1000) is True
          have p3 := of_decide_eq_true b3
          refine k (gy rfl rfl rfl b3 (mv rfl i2 (k (gy rfl rfl rfl b3 ?_))))
          have cc0 := row_New (n := i) (w := w) H1.mb (by unfold I64 at *; omega) (by first | omega | (simp; omega))
          refine ca go15 rfl (ec rfl e0) cc0 ?_
          rintro _ w0 ⟨a0, c0, rfl, xt0, rv0⟩
          have H2 := H1.ownsG rv0
          refine k (gy rfl rfl rfl b3 (mv rfl i2 (k (gy rfl rfl rfl b3 ?_))))
          have cc1 := ref02_New (n := i) (w := w0) H2.mb (by unfold I64 at *; omega) (by first | omega | (simp; omega))
          refine ca go22 rfl (ec rfl e0) cc1 ?_
          rintro _ w1 ⟨a1, c1, rfl, xt1, rv1⟩
          have H3 := H2.ownsG rv1
          refine k (gy rfl rfl rfl b3 ?_)
          have H4 := H3.freeze 1 rfl
          have H5 := H4.freeze 0 rfl
          have cc2 := ref02_Same (a := (newR i)) (b := (newR i)) (w := w1) H5.mb (H5.rv 1 rfl) (H5.rv 0 rfl)
          refine ca go18 rfl (ec rfl (ec rfl e0)) cc2 ?_
          rintro _ w2 ⟨rfl, xt2⟩
          have H6 := H5.ext xt2
          refine k (gy rfl rfl rfl b3 (not_ rfl rfl (k (gy rfl rfl rfl rfl (pickT rfl rfl rfl rfl b3 rfl (k (pickF rfl rfl rfl rfl rfl rfl (z (nx (cdF rfl rfl (by rw [show decide ((newR i) = (newR i)) = true from (by simp)]; rfl) (sk (nx (sq (rg (k ?_)))))))))))))))
          have cc3 := awake02 (w := w2)
          refine ca go13 rfl e0 cc3 ?_
          rintro _ w3 ⟨rfl, xt3⟩
          have H7 := H6.ext xt3
          refine k (mv rfl rfl (k (gy rfl rfl rfl rfl (mv rfl i0 (k (gy rfl rfl rfl rfl (mv rfl i2 (k (gy rfl rfl rfl rfl ?_)))))))))
          have cc4 := row_Has (r := a) (i := i) (w := w3) H7.mb (H7.rv 3 rfl) (by unfold I64 at *; omega)
          refine ca go16 rfl (ec rfl (ec rfl e0)) cc4 ?_
          rintro _ w4 ⟨rfl, xt4⟩
          have H8 := H7.ext xt4
          refine k (gy rfl rfl rfl rfl (mv rfl i0 (k (gy rfl rfl rfl rfl (mv rfl i2 (k (gy rfl rfl rfl rfl ?_)))))))
          have cc5 := ref02_Has (r := a) (i := i) (w := w4) H8.mb (H8.rv 3 rfl) (by unfold I64 at *; omega) (by first | omega | (simp; omega))
          refine ca go23 rfl (ec rfl (ec rfl e0)) cc5 ?_
          rintro _ w5 ⟨rfl, xt5⟩
          have H9 := H8.ext xt5
          refine k (gy rfl rfl rfl rfl (eqB rfl rfl rfl rfl un4 (k (pickT rfl rfl rfl rfl rfl rfl (k (mv rfl rfl (k (gy rfl rfl rfl (by simp) (mv rfl i0 (k (gy rfl rfl rfl (by simp) (mv rfl i2 (k (gy rfl rfl rfl (by simp) ?_))))))))))))))
          have cc6 := row_Set (r := a) (i := i) (w := w5) H9.mb (H9.rv 3 rfl) (by unfold I64 at *; omega) (by first | omega | (simp; omega))
          refine ca go17 rfl (ec rfl (ec rfl e0)) cc6 ?_
          rintro _ w6 ⟨a2, c2, rfl, xt6, rv2⟩
          have H10 := H9.ownsG rv2
          refine k (gy rfl rfl rfl (by simp) (mv rfl i0 (k (gy rfl rfl rfl (by simp) (mv rfl i2 (k (gy rfl rfl rfl (by simp) ?_)))))))
          have cc7 := ref02_Set (r := a) (i := i) (w := w6) H10.mb (H10.rv 4 rfl) (by unfold I64 at *; omega) (by first | omega | (simp; omega))
          refine ca go24 rfl (ec rfl (ec rfl e0)) cc7 ?_
          rintro _ w7 ⟨a3, c3, rfl, xt7, rv3⟩
          have H11 := H10.ownsG rv3
          refine k (gy rfl rfl rfl (by simp) ?_)
          have H12 := H11.freeze 1 rfl
          have H13 := H12.freeze 0 rfl
          have cc8 := ref02_Same (a := (setR a i)) (b := (setR a i)) (w := w7) H13.mb (H13.rv 1 rfl) (H13.rv 0 rfl)
          refine ca go18 rfl (ec rfl (ec rfl e0)) cc8 ?_
          rintro _ w8 ⟨rfl, xt8⟩
          have H14 := H13.ext xt8
          refine k (pickT rfl rfl rfl rfl (by simp) rfl (k (mv rfl rfl (k (gy rfl rfl rfl (by simp) (mv rfl i0 (k (gy rfl rfl rfl (by simp) (mv rfl i1 (k (gy rfl rfl rfl (by simp) ?_)))))))))))
          have cc9 := row_Or (a := a) (b := b) (w := w8) H14.mb (H14.rv 5 rfl) (H14.rv 4 rfl) (by first | omega | (simp; omega)) (by first | omega | (simp; omega))
          refine ca go25 rfl (ec rfl (ec rfl e0)) cc9 ?_
          rintro _ w9 ⟨a4, c4, rfl, xt9, rv4⟩
          have H15 := H14.ownsG rv4
          refine k (gy rfl rfl rfl (by simp) (mv rfl i0 (k (gy rfl rfl rfl (by simp) (mv rfl i1 (k (gy rfl rfl rfl (by simp) ?_)))))))
          have cc10 := ref02_Or (a := a) (b := b) (w := w9) H15.mb (H15.rv 6 rfl) (H15.rv 5 rfl) (by first | omega | (simp; omega)) (by first | omega | (simp; omega))
          refine ca go26 rfl (ec rfl (ec rfl e0)) cc10 ?_
          rintro _ w10 ⟨a5, c5, rfl, xt10, rv5⟩
          have H16 := H15.ownsG rv5
          refine k (gy rfl rfl rfl (by simp) ?_)
          have H17 := H16.freeze 1 rfl
          have H18 := H17.freeze 0 rfl
          have cc11 := ref02_Same (a := (orR a b)) (b := (orR a b)) (w := w10) H18.mb (H18.rv 1 rfl) (H18.rv 0 rfl)
          refine ca go18 rfl (ec rfl (ec rfl e0)) cc11 ?_
          rintro _ w11 ⟨rfl, xt11⟩
          have H19 := H18.ext xt11
          refine k (pickT rfl rfl rfl rfl (by simp) rfl (k (mv rfl rfl (k (gy rfl rfl rfl (by simp) (mv rfl i0 (k (gy rfl rfl rfl (by simp) (mv rfl i1 (k (gy rfl rfl rfl (by simp) ?_)))))))))))
          have cc12 := row_Sub (a := a) (b := b) (w := w11) H19.mb (H19.rv 7 rfl) (H19.rv 6 rfl)
          refine ca go27 rfl (ec rfl (ec rfl e0)) cc12 ?_
          rintro _ w12 ⟨rfl, xt12⟩
          have H20 := H19.ext xt12
          refine k (gy rfl rfl rfl (by simp) (mv rfl i0 (k (gy rfl rfl rfl (by simp) (mv rfl i1 (k (gy rfl rfl rfl (by simp) ?_)))))))
          have cc13 := ref02_Sub (a := a) (b := b) (w := w12) H20.mb (H20.rv 7 rfl) (H20.rv 6 rfl) (by first | omega | (simp; omega)) (by first | omega | (simp; omega))
          refine ca go28 rfl (ec rfl (ec rfl e0)) cc13 ?_
          rintro _ w13 ⟨rfl, xt13⟩
          have H21 := H20.ext xt13
          refine k (gy rfl rfl rfl (by simp) (eqB rfl rfl rfl rfl un4 (k (pickT rfl rfl rfl rfl (by simp) rfl (k (mv rfl rfl (k (gy rfl rfl rfl (by simp) (mv rfl i0 (k (gy rfl rfl rfl (by simp) ?_)))))))))))
          have cc14 := row_Count (r := a) (w := w13) H21.mb (H21.rv 7 rfl) (by first | omega | (simp; omega))
          refine ca go19 rfl (ec rfl e0) cc14 ?_
          rintro _ w14 ⟨rfl, xt14⟩
          have H22 := H21.ext xt14
          refine k (gy rfl rfl rfl (by simp) (mv rfl i0 (k (gy rfl rfl rfl (by simp) ?_))))
          have cc15 := ref02_Count (r := a) (w := w14) H22.mb (H22.rv 7 rfl) (by first | omega | (simp; omega))
          refine ca go29 rfl (ec rfl e0) cc15 ?_
          rintro _ w15 ⟨rfl, xt15⟩
          have H23 := H22.ext xt15
          refine k (gy rfl rfl rfl (by simp) (eql rfl rfl rfl rfl (k (pickT rfl rfl rfl rfl (by simp) rfl (k (mv rfl rfl (k (gy rfl rfl rfl (by simp) (mv rfl i0 (k (gy rfl rfl rfl (by simp) ?_)))))))))))
          have cc16 := row_List (r := a) (w := w15) H23.mb (hT.ext H23.below) (H23.rv 7 rfl) (by first | omega | (simp; omega))
          refine ca go14 rfl (ec rfl e0) cc16 ?_
          rintro _ w16 ⟨a6, c6, rfl, xt16, rv6⟩
          have H24 := H23.ownsG rv6
          refine k (gy rfl rfl rfl (by simp) (mv rfl i0 (k (gy rfl rfl rfl (by simp) ?_))))
          have cc17 := ref02_List (r := a) (w := w16) H24.mb (H24.rv 8 rfl) (by first | omega | (simp; omega))
          refine ca go31 rfl (ec rfl e0) cc17 ?_
          rintro _ w17 ⟨a7, c7, rfl, xt17, rv7⟩
          have H25 := H24.ownsG rv7
          refine k (gy rfl rfl rfl (by simp) ?_)
          have H26 := H25.freeze 1 rfl
          have H27 := H26.freeze 0 rfl
          have cc18 := ref02_Ints (a := (listR a)) (b := (listR a)) (w := w17) H27.mb (H27.rv 1 rfl) (H27.rv 0 rfl)
          refine ca go30 rfl (ec rfl (ec rfl e0)) cc18 ?_
          rintro _ w18 ⟨rfl, xt18⟩
          have H28 := H27.ext xt18
          refine k (pickT rfl rfl rfl rfl (by simp) rfl (k (mv rfl rfl (k (gy rfl rfl rfl (by simp) (mv rfl i0 (k (gy rfl rfl rfl (by simp) (mv rfl i1 (k (gy rfl rfl rfl (by simp) ?_)))))))))))
          have cc19 := row_Same (a := a) (b := b) (w := w18) H28.mb (H28.rv 9 rfl) (H28.rv 8 rfl)
          refine ca go32 rfl (ec rfl (ec rfl e0)) cc19 ?_
          rintro _ w19 ⟨rfl, xt19⟩
          have H29 := H28.ext xt19
          refine k (gy rfl rfl rfl (by simp) (mv rfl i0 (k (gy rfl rfl rfl (by simp) (mv rfl i1 (k (gy rfl rfl rfl (by simp) ?_)))))))
          have cc20 := ref02_Same (a := a) (b := b) (w := w19) H29.mb (H29.rv 9 rfl) (H29.rv 8 rfl)
          refine ca go18 rfl (ec rfl (ec rfl e0)) cc20 ?_
          rintro _ w20 ⟨rfl, xt20⟩
          have H30 := H29.ext xt20
          refine k (gy rfl rfl rfl (by simp) (eqB rfl rfl rfl rfl un4 (k (pickT rfl rfl rfl rfl (by simp) rfl (k (asg rfl rfl (z (nx (rt (r1 rfl rfl ?_))))))))))
          have e0 : ((decide (a = b)) == (decide (a = b)) : Bool) = true := by exact (by simp)
          have ev_ := cg1 (fun (x_0 : Bool) => (.bool x_0 : Value)) e0
          exact ⟨ev_, H30.below⟩
        · -- decide (i ≤ 1000) is False
          have p3 := of_decide_eq_false b3
          refine k (gn rfl rfl rfl b3 (k (gn rfl rfl rfl b3 (k (gn rfl rfl rfl b3 (k (gn rfl rfl rfl b3 (k (gn rfl rfl rfl b3 (k (gn rfl rfl rfl b3 (k (gy rfl rfl rfl rfl (pickF rfl rfl rfl rfl b3 rfl (k (pickF rfl rfl rfl rfl rfl rfl (z (nx (cdF rfl rfl rfl (sk (nx (sq (rg (k ?_))))))))))))))))))))))))
          have cc0 := awake02 (w := w)
          refine ca go13 rfl e0 cc0 ?_
          rintro _ w0 ⟨rfl, xt0⟩
          have H2 := H1.ext xt0
          refine k (mv rfl rfl (k (gy rfl rfl rfl rfl (mv rfl i0 (k (gy rfl rfl rfl rfl (mv rfl i2 (k (gy rfl rfl rfl rfl ?_)))))))))
          have cc1 := row_Has (r := a) (i := i) (w := w0) H2.mb (H2.rv 1 rfl) (by unfold I64 at *; omega)
          refine ca go16 rfl (ec rfl (ec rfl e0)) cc1 ?_
          rintro _ w1 ⟨rfl, xt1⟩
          have H3 := H2.ext xt1
          refine k (gy rfl rfl rfl rfl (mv rfl i0 (k (gy rfl rfl rfl rfl (mv rfl i2 (k (gy rfl rfl rfl rfl ?_)))))))
          have cc2 := ref02_Has (r := a) (i := i) (w := w1) H3.mb (H3.rv 1 rfl) (by unfold I64 at *; omega) (by first | omega | (simp; omega))
          refine ca go23 rfl (ec rfl (ec rfl e0)) cc2 ?_
          rintro _ w2 ⟨rfl, xt2⟩
          have H4 := H3.ext xt2
          refine k (gy rfl rfl rfl rfl (eqB rfl rfl rfl rfl un4 (k (pickT rfl rfl rfl rfl rfl rfl (k (mv rfl rfl (k (gy rfl rfl rfl (by simp) (mv rfl i0 (k (gy rfl rfl rfl (by simp) (mv rfl i2 (k (gy rfl rfl rfl (by simp) ?_))))))))))))))
          have cc3 := row_Set (r := a) (i := i) (w := w2) H4.mb (H4.rv 1 rfl) (by unfold I64 at *; omega) (by first | omega | (simp; omega))
          refine ca go17 rfl (ec rfl (ec rfl e0)) cc3 ?_
          rintro _ w3 ⟨a0, c0, rfl, xt3, rv0⟩
          have H5 := H4.ownsG rv0
          refine k (gy rfl rfl rfl (by simp) (mv rfl i0 (k (gy rfl rfl rfl (by simp) (mv rfl i2 (k (gy rfl rfl rfl (by simp) ?_)))))))
          have cc4 := ref02_Set (r := a) (i := i) (w := w3) H5.mb (H5.rv 2 rfl) (by unfold I64 at *; omega) (by first | omega | (simp; omega))
          refine ca go24 rfl (ec rfl (ec rfl e0)) cc4 ?_
          rintro _ w4 ⟨a1, c1, rfl, xt4, rv1⟩
          have H6 := H5.ownsG rv1
          refine k (gy rfl rfl rfl (by simp) ?_)
          have H7 := H6.freeze 1 rfl
          have H8 := H7.freeze 0 rfl
          have cc5 := ref02_Same (a := (setR a i)) (b := (setR a i)) (w := w4) H8.mb (H8.rv 1 rfl) (H8.rv 0 rfl)
          refine ca go18 rfl (ec rfl (ec rfl e0)) cc5 ?_
          rintro _ w5 ⟨rfl, xt5⟩
          have H9 := H8.ext xt5
          refine k (pickT rfl rfl rfl rfl (by simp) rfl (k (mv rfl rfl (k (gy rfl rfl rfl (by simp) (mv rfl i0 (k (gy rfl rfl rfl (by simp) (mv rfl i1 (k (gy rfl rfl rfl (by simp) ?_)))))))))))
          have cc6 := row_Or (a := a) (b := b) (w := w5) H9.mb (H9.rv 3 rfl) (H9.rv 2 rfl) (by first | omega | (simp; omega)) (by first | omega | (simp; omega))
          refine ca go25 rfl (ec rfl (ec rfl e0)) cc6 ?_
          rintro _ w6 ⟨a2, c2, rfl, xt6, rv2⟩
          have H10 := H9.ownsG rv2
          refine k (gy rfl rfl rfl (by simp) (mv rfl i0 (k (gy rfl rfl rfl (by simp) (mv rfl i1 (k (gy rfl rfl rfl (by simp) ?_)))))))
          have cc7 := ref02_Or (a := a) (b := b) (w := w6) H10.mb (H10.rv 4 rfl) (H10.rv 3 rfl) (by first | omega | (simp; omega)) (by first | omega | (simp; omega))
          refine ca go26 rfl (ec rfl (ec rfl e0)) cc7 ?_
          rintro _ w7 ⟨a3, c3, rfl, xt7, rv3⟩
          have H11 := H10.ownsG rv3
          refine k (gy rfl rfl rfl (by simp) ?_)
          have H12 := H11.freeze 1 rfl
          have H13 := H12.freeze 0 rfl
          have cc8 := ref02_Same (a := (orR a b)) (b := (orR a b)) (w := w7) H13.mb (H13.rv 1 rfl) (H13.rv 0 rfl)
          refine ca go18 rfl (ec rfl (ec rfl e0)) cc8 ?_
          rintro _ w8 ⟨rfl, xt8⟩
          have H14 := H13.ext xt8
          refine k (pickT rfl rfl rfl rfl (by simp) rfl (k (mv rfl rfl (k (gy rfl rfl rfl (by simp) (mv rfl i0 (k (gy rfl rfl rfl (by simp) (mv rfl i1 (k (gy rfl rfl rfl (by simp) ?_)))))))))))
          have cc9 := row_Sub (a := a) (b := b) (w := w8) H14.mb (H14.rv 5 rfl) (H14.rv 4 rfl)
          refine ca go27 rfl (ec rfl (ec rfl e0)) cc9 ?_
          rintro _ w9 ⟨rfl, xt9⟩
          have H15 := H14.ext xt9
          refine k (gy rfl rfl rfl (by simp) (mv rfl i0 (k (gy rfl rfl rfl (by simp) (mv rfl i1 (k (gy rfl rfl rfl (by simp) ?_)))))))
          have cc10 := ref02_Sub (a := a) (b := b) (w := w9) H15.mb (H15.rv 5 rfl) (H15.rv 4 rfl) (by first | omega | (simp; omega)) (by first | omega | (simp; omega))
          refine ca go28 rfl (ec rfl (ec rfl e0)) cc10 ?_
          rintro _ w10 ⟨rfl, xt10⟩
          have H16 := H15.ext xt10
          refine k (gy rfl rfl rfl (by simp) (eqB rfl rfl rfl rfl un4 (k (pickT rfl rfl rfl rfl (by simp) rfl (k (mv rfl rfl (k (gy rfl rfl rfl (by simp) (mv rfl i0 (k (gy rfl rfl rfl (by simp) ?_)))))))))))
          have cc11 := row_Count (r := a) (w := w10) H16.mb (H16.rv 5 rfl) (by first | omega | (simp; omega))
          refine ca go19 rfl (ec rfl e0) cc11 ?_
          rintro _ w11 ⟨rfl, xt11⟩
          have H17 := H16.ext xt11
          refine k (gy rfl rfl rfl (by simp) (mv rfl i0 (k (gy rfl rfl rfl (by simp) ?_))))
          have cc12 := ref02_Count (r := a) (w := w11) H17.mb (H17.rv 5 rfl) (by first | omega | (simp; omega))
          refine ca go29 rfl (ec rfl e0) cc12 ?_
          rintro _ w12 ⟨rfl, xt12⟩
          have H18 := H17.ext xt12
          refine k (gy rfl rfl rfl (by simp) (eql rfl rfl rfl rfl (k (pickT rfl rfl rfl rfl (by simp) rfl (k (mv rfl rfl (k (gy rfl rfl rfl (by simp) (mv rfl i0 (k (gy rfl rfl rfl (by simp) ?_)))))))))))
          have cc13 := row_List (r := a) (w := w12) H18.mb (hT.ext H18.below) (H18.rv 5 rfl) (by first | omega | (simp; omega))
          refine ca go14 rfl (ec rfl e0) cc13 ?_
          rintro _ w13 ⟨a4, c4, rfl, xt13, rv4⟩
          have H19 := H18.ownsG rv4
          refine k (gy rfl rfl rfl (by simp) (mv rfl i0 (k (gy rfl rfl rfl (by simp) ?_))))
          have cc14 := ref02_List (r := a) (w := w13) H19.mb (H19.rv 6 rfl) (by first | omega | (simp; omega))
          refine ca go31 rfl (ec rfl e0) cc14 ?_
          rintro _ w14 ⟨a5, c5, rfl, xt14, rv5⟩
          have H20 := H19.ownsG rv5
          refine k (gy rfl rfl rfl (by simp) ?_)
          have H21 := H20.freeze 1 rfl
          have H22 := H21.freeze 0 rfl
          have cc15 := ref02_Ints (a := (listR a)) (b := (listR a)) (w := w14) H22.mb (H22.rv 1 rfl) (H22.rv 0 rfl)
          refine ca go30 rfl (ec rfl (ec rfl e0)) cc15 ?_
          rintro _ w15 ⟨rfl, xt15⟩
          have H23 := H22.ext xt15
          refine k (pickT rfl rfl rfl rfl (by simp) rfl (k (mv rfl rfl (k (gy rfl rfl rfl (by simp) (mv rfl i0 (k (gy rfl rfl rfl (by simp) (mv rfl i1 (k (gy rfl rfl rfl (by simp) ?_)))))))))))
          have cc16 := row_Same (a := a) (b := b) (w := w15) H23.mb (H23.rv 7 rfl) (H23.rv 6 rfl)
          refine ca go32 rfl (ec rfl (ec rfl e0)) cc16 ?_
          rintro _ w16 ⟨rfl, xt16⟩
          have H24 := H23.ext xt16
          refine k (gy rfl rfl rfl (by simp) (mv rfl i0 (k (gy rfl rfl rfl (by simp) (mv rfl i1 (k (gy rfl rfl rfl (by simp) ?_)))))))
          have cc17 := ref02_Same (a := a) (b := b) (w := w16) H24.mb (H24.rv 7 rfl) (H24.rv 6 rfl)
          refine ca go18 rfl (ec rfl (ec rfl e0)) cc17 ?_
          rintro _ w17 ⟨rfl, xt17⟩
          have H25 := H24.ext xt17
          refine k (gy rfl rfl rfl (by simp) (eqB rfl rfl rfl rfl un4 (k (pickT rfl rfl rfl rfl (by simp) rfl (k (asg rfl rfl (z (nx (rt (r1 rfl rfl ?_))))))))))
          have e0 : ((decide (a = b)) == (decide (a = b)) : Bool) = true := by exact (by simp)
          have ev_ := cg1 (fun (x_0 : Bool) => (.bool x_0 : Value)) e0
          exact ⟨ev_, H25.below⟩
end Go.Proofs.YtfakagpjgpbkbaaDoor
