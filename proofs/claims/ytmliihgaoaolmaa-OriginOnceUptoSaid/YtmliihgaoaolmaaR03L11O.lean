/- PRINTED by my own tool (wip/tool/gen.py): contracts of Go functions of this seat, each with its proof. -/
import Derived.Test.YtmliihgaoaolmaaR03L11A
import Derived.Test.YtmliihgaoaolmaaR03Orig
import Derived.Test.YtmliihgaoaolmaaR03Fns
import Derived.Test.YtmliihgaoaolmaaEngV
import Derived.Test.YtmliihgaoaolmaaEwSpecO
namespace Go.Proofs.Ytmliihgaoaolmaa
open Go.Ew Go.RowKit
set_option linter.unusedVariables false
set_option linter.unusedSimpArgs false
attribute [local irreducible] WL WC SO Code.wp wpList retQ Ret
attribute [local irreducible] bitB hasW inR hasR setR countW countR subR words newR listR orR firstW tab8
theorem go20 : GoF Try.prog 20 := ⟨_, _, Try.func20, rfl, by kernel_rfl⟩
theorem go21 : GoF Try.prog 21 := ⟨_, _, Try.func21, rfl, by kernel_rfl⟩
/- eyewitness/eyewitnesslaw11.OriginOnce -/
set_option maxRecDepth 100000 in
set_option maxHeartbeats 1600000 in
theorem law_OriginOnce {M : Nat → Prop} {w : World} {a_h : Option Addr} {c_h : Nat} {h : List (List (Bool × ByteArray × Int))} (hM : ∀ b, M b → b < w.heap.size) (h_h : RV M w (.slice a_h h.length c_h) h) (hb_h : h.flatten.length ≤ 1048576) : Calls Try.prog 8 #[.slice a_h h.length c_h] w (Ret fun v w' =>  v = .bool true ∧ Ext w w') := by
  refine enter 104 Try.func8 rfl rfl rfl fun f0 ha => ?_
  have H := HI.start (M0 := M) (w := w) hM
  have H0 := H.put (it := imm (.slice a_h h.length c_h) h) rfl (by rw [MS_nil]; exact h_h)
  have ln_h := rv_len h_h
  have i0 : f0 0 = .slice a_h h.length c_h := ha 0 (by simp)
  refine sq (rg (k (asg (v := .bool false) rfl rfl (z (nx (sq (rg (k (mv rfl i0 (k ?_))))))))))
  have cc0 := law11_facts (h := h) (w := w) H0.mb (H0.rv 0 rfl) (by first | assumption | decide +kernel)
  refine ca go20 rfl (ec rfl e0) cc0 ?_
  rintro _ w0 ⟨a0, c0, a1, c1, a2, c2, rfl, xt0, rv0, rv1, rv2⟩
  have H1 := H0.ext xt0
  have H2 := H1.put (it := imm (.slice a0 (fxV h).length c0) (fxV h)) rfl rv0
  have H3 := H2.put (it := imm (.slice a1 (fxI h).length c1) (fxI h)) rfl (by rw [MS_cons_none rfl]; exact rv1)
  have H4 := H3.put (it := imm (.slice a2 ([] : List Int).length c2) ([] : List Int)) rfl (by rw [MS_cons_none rfl, MS_cons_none rfl]; exact rv2)
  refine k (mv (v := .tuple #[.agg #[.slice a0 (fxV h).length c0, .slice a1 (fxI h).length c1, .slice a2 ([] : List Int).length c2], .bool (fOk h)]) rfl rfl (k (xt rfl rfl rfl (k (xt rfl rfl rfl (k (al H4 ty30 ?_)))))))
  intro bb0 w1 xt1 (H5 : HI M w w1 [box bb0 #[.slice none 0 0, .slice none 0 0, .slice none 0 0] 30, imm (.slice a2 ([] : List Int).length c2) ([] : List Int), imm (.slice a1 (fxI h).length c1) (fxI h), imm (.slice a0 (fxV h).length c0) (fxV h), imm (.slice a_h h.length c_h) h])
  refine k (stX H5 0 rfl ty30 rfl rfl rfl rfl rfl rfl rfl ?_)
  intro w2 (H6 : HI M w w2 [box bb0 #[.slice a0 (fxV h).length c0, .slice a1 (fxI h).length c1, .slice a2 ([] : List Int).length c2] 30, imm (.slice a2 ([] : List Int).length c2) ([] : List Int), imm (.slice a1 (fxI h).length c1) (fxI h), imm (.slice a0 (fxV h).length c0) (fxV h), imm (.slice a_h h.length c_h) h])
  refine k (asg (v := .bool (fOk h)) rfl rfl (z (nx (sq (sq (rg (k (mv (v := .bool (fOk h)) rfl rfl (k (not_ rfl rfl (z (nx ?_))))))))))))
  refine cd (b := !(fOk h)) rfl rfl (fun b0 => ?_) (fun b0 => ?_)
  ·
    refine sq (rg (k ?_))
    have cc1 := awake11 (w := w2)
    refine ca go21 rfl e0 cc1 ?_
    rintro _ w3 ⟨rfl, xt2⟩
    have H7 := H6.ext xt2
    refine k (asg (v := .bool true) rfl rfl (z (nx (rt (then_ret (r1 rfl rfl ?_))))))
    exact ⟨rfl, H7.below⟩
  ·
    refine sk (nx (sq ?_))
    have hk_ : fOk h = true := by simpa using ‹(!fOk h) = false›
    have hl_ := fxI_len h
    have hm_ := fromM_len (fxI h)
    refine rg (k (ldX H6 0 rfl ty30 rfl rfl (by decide) rfl (k ?_)))
    have cc1 := origin_Fill (fv := (fxV h)) (fi := (fxI h)) (fo := ([] : List Int)) (w := w2) H6.mb (H6.rv 3 rfl) (H6.rv 2 rfl) (H6.rv 1 rfl) (by omega)
    refine ca go22 rfl (ec rfl e0) cc1 ?_
    rintro _ w3 ⟨a3, c3, a4, c4, a5, c5, rfl, xt2, rv3, rv4, rv5⟩
    have H7 := H6.ext xt2
    have H8 := H7.put (it := imm (.slice a3 (fxV h).length c3) (fxV h)) rfl rv3
    have H9 := H8.put (it := imm (.slice a4 (fxI h).length c4) (fxI h)) rfl (by rw [MS_cons_none rfl]; exact rv4)
    have H10 := H9.put (it := imm (.slice a5 (fromM (fxI h)).length c5) (fromM (fxI h))) rfl (by rw [MS_cons_none rfl, MS_cons_none rfl]; exact rv5)
    refine k (al H10 ty30 ?_)
    intro bb1 w4 xt3 (H11 : HI M w w4 [box bb1 #[.slice none 0 0, .slice none 0 0, .slice none 0 0] 30, imm (.slice a5 (fromM (fxI h)).length c5) (fromM (fxI h)), imm (.slice a4 (fxI h).length c4) (fxI h), imm (.slice a3 (fxV h).length c3) (fxV h), box bb0 #[.slice a0 (fxV h).length c0, .slice a1 (fxI h).length c1, .slice a2 ([] : List Int).length c2] 30, imm (.slice a2 ([] : List Int).length c2) ([] : List Int), imm (.slice a1 (fxI h).length c1) (fxI h), imm (.slice a0 (fxV h).length c0) (fxV h), imm (.slice a_h h.length c_h) h])
    refine k (stX H11 0 rfl ty30 rfl rfl rfl rfl rfl rfl rfl ?_)
    intro w5 (H12 : HI M w w5 [box bb1 #[.slice a3 (fxV h).length c3, .slice a4 (fxI h).length c4, .slice a5 (fromM (fxI h)).length c5] 30, imm (.slice a5 (fromM (fxI h)).length c5) (fromM (fxI h)), imm (.slice a4 (fxI h).length c4) (fxI h), imm (.slice a3 (fxV h).length c3) (fxV h), box bb0 #[.slice a0 (fxV h).length c0, .slice a1 (fxI h).length c1, .slice a2 ([] : List Int).length c2] 30, imm (.slice a2 ([] : List Int).length c2) ([] : List Int), imm (.slice a1 (fxI h).length c1) (fxI h), imm (.slice a0 (fxV h).length c0) (fxV h), imm (.slice a_h h.length c_h) h])
    refine z (nx (sq (rg (k (asg (v := .int .i64 0) rfl rfl (z (nx (sq (sq (rg (k (asg (v := .int .i64 (-3)) rfl rfl (z (nx (bk ?_)))))))))))))))
    refine lp (fun m f w' => ∃ (j : Nat), m = (fxI h).length + 4 - j ∧ f 3 = .pointer (some ⟨bb0, 0, none⟩) ∧ f 5 = .pointer (some ⟨bb1, 0, none⟩) ∧ f 6 = .int .i64 ((cntB (fromM (fxI h)) ((j : Int) - 3) : Nat) : Int) ∧ f 7 = .int .i64 ((j : Int) - 3) ∧  HI M w w' [box bb1 #[.slice a3 (fxV h).length c3, .slice a4 (fxI h).length c4, .slice a5 (fromM (fxI h)).length c5] 30, imm (.slice a5 (fromM (fxI h)).length c5) (fromM (fxI h)), imm (.slice a4 (fxI h).length c4) (fxI h), imm (.slice a3 (fxV h).length c3) (fxV h), box bb0 #[.slice a0 (fxV h).length c0, .slice a1 (fxI h).length c1, .slice a2 ([] : List Int).length c2] 30, imm (.slice a2 ([] : List Int).length c2) ([] : List Int), imm (.slice a1 (fxI h).length c1) (fxI h), imm (.slice a0 (fxV h).length c0) (fxV h), imm (.slice a_h h.length c_h) h] ∧ (j ≤ (fxI h).length + 4)) _ ⟨0, rfl, rfl, rfl, (ieq rfl (by first | omega | (rw [show ((0 : Nat) : Int) - 3 = -3 from rfl, cntB_low]; rfl))), (ieq rfl (by first | omega | (rw [show ((0 : Nat) : Int) - 3 = -3 from rfl, cntB_low]; rfl))), H12, (by first | assumption | omega | simp | (simp; omega))⟩ ?_
    rintro _ f0 w6 ⟨j, rfl, s0, s1, s2, s3, H13, hj_⟩
    refine sq (sq (rg (k (mv rfl s3 (k (fa fl30_1 rfl s0 (k (ldX H13 4 rfl ty27 rfl rfl (by decide) rfl (k (lnS rfl rfl un27 (k (leq rfl rfl rfl rfl (z (nx ?_))))))))))))))
    refine cd (b := decide (((j : Int) - 3) ≤ ((fxI h).length : Int))) rfl rfl (fun b1 => ?_) (fun b1 => ?_)
    ·
      have p1 := of_decide_eq_true b1
      refine sk (nx (sq (bk (sq ?_))))
      have hro_ := readsO_len (fromM (fxI h)) ((j : Int) - 3) (fromM (fxI h)).length
      refine rg (k (ldX H13 0 rfl ty30 rfl s1 (by decide) rfl (k (mv rfl s3 (k ?_)))))
      have cc2 := origin_Readers (fo := (fromM (fxI h))) (tr := ((j : Int) - 3)) (a_fv := a3) (n_fv := (fxV h).length) (c_fv := c3) (a_fi := a4) (n_fi := (fxI h).length) (c_fi := c4) (w := w6) H13.mb (H13.rv 1 rfl) (by unfold I64 at *; omega) (by omega)
      refine ca go28 rfl (ec rfl (ec rfl e0)) cc2 ?_
      rintro _ w7 ⟨a6, c6, rfl, xt4, rv6⟩
      have H14 := H13.ownsG rv6
      refine k (asg (v := .slice a6 (readsO (fromM (fxI h)) ((j : Int) - 3) (fromM (fxI h)).length).length c6) rfl rfl (z (nx (sq (sq (rg (k (asg (v := .int .i64 0) rfl rfl (z (nx (bk ?_)))))))))))
      refine lp (fun m f w' => ∃ (q : Nat), m = (readsO (fromM (fxI h)) ((j : Int) - 3) (fromM (fxI h)).length).length - q ∧ f 3 = .pointer (some ⟨bb0, 0, none⟩) ∧ f 5 = .pointer (some ⟨bb1, 0, none⟩) ∧ f 6 = .int .i64 ((cntB (fromM (fxI h)) ((j : Int) - 3) : Nat) : Int) ∧ f 7 = .int .i64 ((j : Int) - 3) ∧ f 8 = .slice a6 (readsO (fromM (fxI h)) ((j : Int) - 3) (fromM (fxI h)).length).length c6 ∧ f 9 = .int .i64 (q : Int) ∧  HI M w w' [own w.heap.size 3 (.slice a6 (readsO (fromM (fxI h)) ((j : Int) - 3) (fromM (fxI h)).length).length c6) (readsO (fromM (fxI h)) ((j : Int) - 3) (fromM (fxI h)).length), box bb1 #[.slice a3 (fxV h).length c3, .slice a4 (fxI h).length c4, .slice a5 (fromM (fxI h)).length c5] 30, imm (.slice a5 (fromM (fxI h)).length c5) (fromM (fxI h)), imm (.slice a4 (fxI h).length c4) (fxI h), imm (.slice a3 (fxV h).length c3) (fxV h), box bb0 #[.slice a0 (fxV h).length c0, .slice a1 (fxI h).length c1, .slice a2 ([] : List Int).length c2] 30, imm (.slice a2 ([] : List Int).length c2) ([] : List Int), imm (.slice a1 (fxI h).length c1) (fxI h), imm (.slice a0 (fxV h).length c0) (fxV h), imm (.slice a_h h.length c_h) h] ∧ (q ≤ (readsO (fromM (fxI h)) ((j : Int) - 3) (fromM (fxI h)).length).length)) _ ⟨0, rfl, s0, s1, s2, s3, rfl, (ieq rfl (by first | rfl | omega | simp)), H14, (by first | assumption | omega | simp | (simp; omega))⟩ ?_
      rintro _ f1 w8 ⟨q, rfl, s4, s5, s6, s7, s8, s9, H15, hq_⟩
      refine sq (sq (rg (k (mv rfl s9 (k (mv rfl s8 (k (lnS rfl rfl un28 (k (lss rfl rfl rfl rfl (z (nx ?_))))))))))))
      refine cd (b := decide ((q : Int) < ((readsO (fromM (fxI h)) ((j : Int) - 3) (fromM (fxI h)).length).length : Int))) rfl rfl (fun b2 => ?_) (fun b2 => ?_)
      ·
        have p2 := of_decide_eq_true b2
        refine sk (nx (sq (bk (sq ?_))))
        obtain ⟨x0, hx0⟩ : ∃ x, (readsO (fromM (fxI h)) ((j : Int) - 3) (fromM (fxI h)).length)[(q : Int).toNat]? = some x := ⟨_, List.getElem?_eq_getElem (by first | omega | (simp; omega))⟩
        obtain ⟨x3, hx3⟩ : ∃ x, (fromM (fxI h))[x0.toNat]? = some x := ⟨_, List.getElem?_eq_getElem (by first | (obtain ⟨a1_, a2_, a3_⟩ := readsO_at hx0; omega) | (obtain ⟨a1_, a2_, a3_⟩ := readsO_at hx1; omega) | (obtain ⟨a1_, a2_, a3_⟩ := readsO_at hx2; omega) | (obtain ⟨a1_, a2_, a3_⟩ := readsO_at hx3; omega))⟩
        rcases Bool.eq_false_or_eq_true (decide (0 < (q : Int))) with b3 | b3
        · -- decide (0 < (q : Int)) is True
          have p3 := of_decide_eq_true b3
          obtain ⟨x9, hx9⟩ : ∃ x, (readsO (fromM (fxI h)) ((j : Int) - 3) (fromM (fxI h)).length)[((q : Int) - 1).toNat]? = some x := ⟨_, List.getElem?_eq_getElem (by first | omega | (simp; omega))⟩
          refine dr 40 [fun (v : Value) (w' : World) => v = .slice a6 (readsO (fromM (fxI h)) ((j : Int) - 3) (fromM (fxI h)).length).length c6, fun (v : Value) (w' : World) => v = .int .i64 (q : Int), fun (v : Value) (w' : World) => ∃ (g3 : Nat), v = .pointer (some ⟨g3, (q : Int).toNat * 1, none⟩) ∧ (.slice a6 (readsO (fromM (fxI h)) ((j : Int) - 3) (fromM (fxI h)).length).length c6 : Value).ownBlock = some g3 ∧ AtW (MS M [own w.heap.size 3 (.slice a6 (readsO (fromM (fxI h)) ((j : Int) - 3) (fromM (fxI h)).length).length c6) (readsO (fromM (fxI h)) ((j : Int) - 3) (fromM (fxI h)).length), box bb1 #[.slice a3 (fxV h).length c3, .slice a4 (fxI h).length c4, .slice a5 (fromM (fxI h)).length c5] 30, imm (.slice a5 (fromM (fxI h)).length c5) (fromM (fxI h)), imm (.slice a4 (fxI h).length c4) (fxI h), imm (.slice a3 (fxV h).length c3) (fxV h), box bb0 #[.slice a0 (fxV h).length c0, .slice a1 (fxI h).length c1, .slice a2 ([] : List Int).length c2] 30, imm (.slice a2 ([] : List Int).length c2) ([] : List Int), imm (.slice a1 (fxI h).length c1) (fxI h), imm (.slice a0 (fxV h).length c0) (fxV h), imm (.slice a_h h.length c_h) h]) w' ⟨g3, (q : Int).toNat * 1, none⟩ x0, fun (v : Value) (w' : World) => v = .int .i64 x0 ∧ I64 (x0), fun (v : Value) (w' : World) => v = .bool (decide (x0 < 0)), fun (v : Value) (w' : World) => v = .bool (decide (x0 < 0)), fun (v : Value) (w' : World) => v = .slice a6 (readsO (fromM (fxI h)) ((j : Int) - 3) (fromM (fxI h)).length).length c6, fun (v : Value) (w' : World) => v = .int .i64 (q : Int), fun (v : Value) (w' : World) => ∃ (g4 : Nat), v = .pointer (some ⟨g4, (q : Int).toNat * 1, none⟩) ∧ (.slice a6 (readsO (fromM (fxI h)) ((j : Int) - 3) (fromM (fxI h)).length).length c6 : Value).ownBlock = some g4 ∧ AtW (MS M [own w.heap.size 3 (.slice a6 (readsO (fromM (fxI h)) ((j : Int) - 3) (fromM (fxI h)).length).length c6) (readsO (fromM (fxI h)) ((j : Int) - 3) (fromM (fxI h)).length), box bb1 #[.slice a3 (fxV h).length c3, .slice a4 (fxI h).length c4, .slice a5 (fromM (fxI h)).length c5] 30, imm (.slice a5 (fromM (fxI h)).length c5) (fromM (fxI h)), imm (.slice a4 (fxI h).length c4) (fxI h), imm (.slice a3 (fxV h).length c3) (fxV h), box bb0 #[.slice a0 (fxV h).length c0, .slice a1 (fxI h).length c1, .slice a2 ([] : List Int).length c2] 30, imm (.slice a2 ([] : List Int).length c2) ([] : List Int), imm (.slice a1 (fxI h).length c1) (fxI h), imm (.slice a0 (fxV h).length c0) (fxV h), imm (.slice a_h h.length c_h) h]) w' ⟨g4, (q : Int).toNat * 1, none⟩ x0, fun (v : Value) (w' : World) => v = .int .i64 x0 ∧ I64 (x0), fun (v : Value) (w' : World) => v = .pointer (some ⟨bb1, 2, none⟩), fun (v : Value) (w' : World) => v = .slice a5 (fromM (fxI h)).length c5, fun (v : Value) (w' : World) => v = .int .i64 ((fromM (fxI h)).length : Int), fun (v : Value) (w' : World) => v = .bool (decide (((fromM (fxI h)).length : Int) ≤ x0)), fun (v : Value) (w' : World) => v = .bool (decide (((fromM (fxI h)).length : Int) ≤ x0)), fun (v : Value) (w' : World) => v = .bool (decide (((fromM (fxI h)).length : Int) ≤ x0)), fun (v : Value) (w' : World) => v = .pointer (some ⟨bb1, 2, none⟩), fun (v : Value) (w' : World) => v = .slice a5 (fromM (fxI h)).length c5, fun (v : Value) (w' : World) => v = .slice a6 (readsO (fromM (fxI h)) ((j : Int) - 3) (fromM (fxI h)).length).length c6, fun (v : Value) (w' : World) => v = .int .i64 (q : Int), fun (v : Value) (w' : World) => ∃ (g5 : Nat), v = .pointer (some ⟨g5, (q : Int).toNat * 1, none⟩) ∧ (.slice a6 (readsO (fromM (fxI h)) ((j : Int) - 3) (fromM (fxI h)).length).length c6 : Value).ownBlock = some g5 ∧ AtW (MS M [own w.heap.size 3 (.slice a6 (readsO (fromM (fxI h)) ((j : Int) - 3) (fromM (fxI h)).length).length c6) (readsO (fromM (fxI h)) ((j : Int) - 3) (fromM (fxI h)).length), box bb1 #[.slice a3 (fxV h).length c3, .slice a4 (fxI h).length c4, .slice a5 (fromM (fxI h)).length c5] 30, imm (.slice a5 (fromM (fxI h)).length c5) (fromM (fxI h)), imm (.slice a4 (fxI h).length c4) (fxI h), imm (.slice a3 (fxV h).length c3) (fxV h), box bb0 #[.slice a0 (fxV h).length c0, .slice a1 (fxI h).length c1, .slice a2 ([] : List Int).length c2] 30, imm (.slice a2 ([] : List Int).length c2) ([] : List Int), imm (.slice a1 (fxI h).length c1) (fxI h), imm (.slice a0 (fxV h).length c0) (fxV h), imm (.slice a_h h.length c_h) h]) w' ⟨g5, (q : Int).toNat * 1, none⟩ x0, fun (v : Value) (w' : World) => v = .int .i64 x0 ∧ I64 (x0), fun (v : Value) (w' : World) => ∃ (ad1 : Addr), v = .pointer (some ad1) ∧ At (MS M [own w.heap.size 3 (.slice a6 (readsO (fromM (fxI h)) ((j : Int) - 3) (fromM (fxI h)).length).length c6) (readsO (fromM (fxI h)) ((j : Int) - 3) (fromM (fxI h)).length), box bb1 #[.slice a3 (fxV h).length c3, .slice a4 (fxI h).length c4, .slice a5 (fromM (fxI h)).length c5] 30, imm (.slice a5 (fromM (fxI h)).length c5) (fromM (fxI h)), imm (.slice a4 (fxI h).length c4) (fxI h), imm (.slice a3 (fxV h).length c3) (fxV h), box bb0 #[.slice a0 (fxV h).length c0, .slice a1 (fxI h).length c1, .slice a2 ([] : List Int).length c2] 30, imm (.slice a2 ([] : List Int).length c2) ([] : List Int), imm (.slice a1 (fxI h).length c1) (fxI h), imm (.slice a0 (fxV h).length c0) (fxV h), imm (.slice a_h h.length c_h) h]) w' ad1 x3, fun (v : Value) (w' : World) => v = .int .i64 x3 ∧ I64 (x3), fun (v : Value) (w' : World) => v = .int .i64 ((j : Int) - 3), fun (v : Value) (w' : World) => v = .bool (!decide (x3 = ((j : Int) - 3))), fun (v : Value) (w' : World) => v = .bool (!decide (x3 = ((j : Int) - 3))), fun (v : Value) (w' : World) => v = .bool (!decide (x3 = ((j : Int) - 3))), fun (v : Value) (w' : World) => v = .int .i64 (q : Int), fun (v : Value) (w' : World) => v = .bool (decide (0 < (q : Int))), fun (v : Value) (w' : World) => v = .bool (decide (0 < (q : Int))), fun (v : Value) (w' : World) => v = .slice a6 (readsO (fromM (fxI h)) ((j : Int) - 3) (fromM (fxI h)).length).length c6, fun (v : Value) (w' : World) => v = .int .i64 (q : Int), fun (v : Value) (w' : World) => ∃ (g6 : Nat), v = .pointer (some ⟨g6, (q : Int).toNat * 1, none⟩) ∧ (.slice a6 (readsO (fromM (fxI h)) ((j : Int) - 3) (fromM (fxI h)).length).length c6 : Value).ownBlock = some g6 ∧ AtW (MS M [own w.heap.size 3 (.slice a6 (readsO (fromM (fxI h)) ((j : Int) - 3) (fromM (fxI h)).length).length c6) (readsO (fromM (fxI h)) ((j : Int) - 3) (fromM (fxI h)).length), box bb1 #[.slice a3 (fxV h).length c3, .slice a4 (fxI h).length c4, .slice a5 (fromM (fxI h)).length c5] 30, imm (.slice a5 (fromM (fxI h)).length c5) (fromM (fxI h)), imm (.slice a4 (fxI h).length c4) (fxI h), imm (.slice a3 (fxV h).length c3) (fxV h), box bb0 #[.slice a0 (fxV h).length c0, .slice a1 (fxI h).length c1, .slice a2 ([] : List Int).length c2] 30, imm (.slice a2 ([] : List Int).length c2) ([] : List Int), imm (.slice a1 (fxI h).length c1) (fxI h), imm (.slice a0 (fxV h).length c0) (fxV h), imm (.slice a_h h.length c_h) h]) w' ⟨g6, (q : Int).toNat * 1, none⟩ x0, fun (v : Value) (w' : World) => v = .int .i64 x0 ∧ I64 (x0), fun (v : Value) (w' : World) => v = .slice a6 (readsO (fromM (fxI h)) ((j : Int) - 3) (fromM (fxI h)).length).length c6, fun (v : Value) (w' : World) => v = .int .i64 (q : Int), fun (v : Value) (w' : World) => v = .int .i64 ((q : Int) - 1), fun (v : Value) (w' : World) => ∃ (g7 : Nat), v = .pointer (some ⟨g7, ((q : Int) - 1).toNat * 1, none⟩) ∧ (.slice a6 (readsO (fromM (fxI h)) ((j : Int) - 3) (fromM (fxI h)).length).length c6 : Value).ownBlock = some g7 ∧ AtW (MS M [own w.heap.size 3 (.slice a6 (readsO (fromM (fxI h)) ((j : Int) - 3) (fromM (fxI h)).length).length c6) (readsO (fromM (fxI h)) ((j : Int) - 3) (fromM (fxI h)).length), box bb1 #[.slice a3 (fxV h).length c3, .slice a4 (fxI h).length c4, .slice a5 (fromM (fxI h)).length c5] 30, imm (.slice a5 (fromM (fxI h)).length c5) (fromM (fxI h)), imm (.slice a4 (fxI h).length c4) (fxI h), imm (.slice a3 (fxV h).length c3) (fxV h), box bb0 #[.slice a0 (fxV h).length c0, .slice a1 (fxI h).length c1, .slice a2 ([] : List Int).length c2] 30, imm (.slice a2 ([] : List Int).length c2) ([] : List Int), imm (.slice a1 (fxI h).length c1) (fxI h), imm (.slice a0 (fxV h).length c0) (fxV h), imm (.slice a_h h.length c_h) h]) w' ⟨g7, ((q : Int) - 1).toNat * 1, none⟩ x9, fun (v : Value) (w' : World) => v = .int .i64 x9 ∧ I64 (x9)] rfl (by kernel_rfl) ?_ ?_
          ·
            refine ⟨fun _ => ⟨fun f2 w9 hf0 xt5 hp0 => ?_, fun _ _ _ _ h => h⟩, ?_⟩
            ·
              have H16 := H15.ext xt5
              refine mv rfl ((hf0 8 rfl).trans s8) ?_
              exact ⟨_, rfl, Ext.refl _, rfl⟩
            refine ⟨fun _ => ⟨fun f3 w10 hf1 xt6 hp1 => ?_, fun _ _ _ _ h => h⟩, ?_⟩
            ·
              have H17 := H15.ext xt6
              refine mv rfl ((hf1 9 rfl).trans s9) ?_
              exact ⟨_, rfl, Ext.refl _, rfl⟩
            refine ⟨fun _ => ⟨fun f4 w11 hf2 xt7 hp2 => ?_, by rintro _ _ _ x_ ⟨g3, e_, hv3, hA4⟩; exact ⟨g3, e_, hv3, hA4.ext x_⟩⟩, ?_⟩
            ·
              have H18 := H15.ext xt7
              have s10 : f4 37 = .slice a6 (readsO (fromM (fxI h)) ((j : Int) - 3) (fromM (fxI h)).length).length c6 := hp2 0 rfl rfl
              have s11 : f4 38 = .int .i64 (q : Int) := hp2 1 rfl rfl
              refine iaO (H18.at_ 0 rfl) rfl rfl s10 s11 (by first | omega | (simp; omega)) un28 ty3 ?_
              intro g8 x10 hv8 hx10 hA10
              obtain rfl : x0 = x10 := Option.some.inj (hx0.symm.trans hx10)
              exact ⟨_, rfl, Ext.refl _, ⟨g8, rfl, hv8, hA10⟩⟩
            refine ⟨fun _ => ⟨fun f5 w12 hf3 xt8 hp3 => ?_, fun _ _ _ _ h => h⟩, ?_⟩
            ·
              have H19 := H15.ext xt8
              obtain ⟨g9, s12, hv9, hA11⟩ : ∃ (g9 : Nat), f5 39 = .pointer (some ⟨g9, (q : Int).toNat * 1, none⟩) ∧ (.slice a6 (readsO (fromM (fxI h)) ((j : Int) - 3) (fromM (fxI h)).length).length c6 : Value).ownBlock = some g9 ∧ AtW (MS M [own w.heap.size 3 (.slice a6 (readsO (fromM (fxI h)) ((j : Int) - 3) (fromM (fxI h)).length).length c6) (readsO (fromM (fxI h)) ((j : Int) - 3) (fromM (fxI h)).length), box bb1 #[.slice a3 (fxV h).length c3, .slice a4 (fxI h).length c4, .slice a5 (fromM (fxI h)).length c5] 30, imm (.slice a5 (fromM (fxI h)).length c5) (fromM (fxI h)), imm (.slice a4 (fxI h).length c4) (fxI h), imm (.slice a3 (fxV h).length c3) (fxV h), box bb0 #[.slice a0 (fxV h).length c0, .slice a1 (fxI h).length c1, .slice a2 ([] : List Int).length c2] 30, imm (.slice a2 ([] : List Int).length c2) ([] : List Int), imm (.slice a1 (fxI h).length c1) (fxI h), imm (.slice a0 (fxV h).length c0) (fxV h), imm (.slice a_h h.length c_h) h]) w12 ⟨g9, (q : Int).toNat * 1, none⟩ x0 := hp3 2 rfl rfl
              refine ldI hA11 ty3 rfl s12 ?_
              intro rv17
              exact ⟨_, rfl, Ext.refl _, ⟨rfl, rv17⟩⟩
            refine ⟨fun _ => ⟨fun f6 w13 hf4 xt9 hp4 => ?_, fun _ _ _ _ h => h⟩, ?_⟩
            ·
              have H20 := H15.ext xt9
              obtain ⟨s13, rv18⟩ : f6 40 = .int .i64 x0 ∧ I64 (x0) := hp4 3 rfl rfl
              refine lss rfl rfl s13 rfl ?_
              exact ⟨_, rfl, Ext.refl _, rfl⟩
            refine ⟨fun _ => ⟨fun f7 w14 hf5 xt10 hp5 => ?_, fun _ _ _ _ h => h⟩, ?_⟩
            ·
              have H21 := H15.ext xt10
              have s14 : f7 41 = .bool (decide (x0 < 0)) := hp5 4 rfl rfl
              refine mv rfl s14 ?_
              exact ⟨_, rfl, Ext.refl _, rfl⟩
            refine ⟨fun _ => ⟨fun f8 w15 hf6 xt11 hp6 => ?_, fun _ _ _ _ h => h⟩, ?_⟩
            ·
              have H22 := H15.ext xt11
              have s15 : f8 42 = .bool (decide (x0 < 0)) := hp6 5 rfl rfl
              have tr6 : (decide (x0 < 0)) = false := (by obtain ⟨a1_, a2_, a3_⟩ := readsO_at hx0; exact decide_eq_false (by omega))
              refine gy rfl rfl s15 tr6 (mv rfl ((hf6 8 rfl).trans s8) ?_)
              exact ⟨_, rfl, Ext.refl _, rfl⟩
            refine ⟨fun _ => ⟨fun f9 w16 hf7 xt12 hp7 => ?_, fun _ _ _ _ h => h⟩, ?_⟩
            ·
              have H23 := H15.ext xt12
              have s16 : f9 42 = .bool (decide (x0 < 0)) := hp7 5 rfl rfl
              have tr7 : (decide (x0 < 0)) = false := (by obtain ⟨a1_, a2_, a3_⟩ := readsO_at hx0; exact decide_eq_false (by omega))
              refine gy rfl rfl s16 tr7 (mv rfl ((hf7 9 rfl).trans s9) ?_)
              exact ⟨_, rfl, Ext.refl _, rfl⟩
            refine ⟨fun _ => ⟨fun f10 w17 hf8 xt13 hp8 => ?_, by rintro _ _ _ x_ ⟨g4, e_, hv4, hA5⟩; exact ⟨g4, e_, hv4, hA5.ext x_⟩⟩, ?_⟩
            ·
              have H24 := H15.ext xt13
              have s17 : f10 42 = .bool (decide (x0 < 0)) := hp8 5 rfl rfl
              have s18 : f10 43 = .slice a6 (readsO (fromM (fxI h)) ((j : Int) - 3) (fromM (fxI h)).length).length c6 := hp8 6 rfl rfl
              have s19 : f10 44 = .int .i64 (q : Int) := hp8 7 rfl rfl
              have tr8 : (decide (x0 < 0)) = false := (by obtain ⟨a1_, a2_, a3_⟩ := readsO_at hx0; exact decide_eq_false (by omega))
              refine gy rfl rfl s17 tr8 (iaO (H24.at_ 0 rfl) rfl rfl s18 s19 (by first | omega | (simp; omega)) un28 ty3 ?_)
              intro g10 x11 hv10 hx11 hA12
              obtain rfl : x0 = x11 := Option.some.inj (hx0.symm.trans hx11)
              exact ⟨_, rfl, Ext.refl _, ⟨g10, rfl, hv10, hA12⟩⟩
            refine ⟨fun _ => ⟨fun f11 w18 hf9 xt14 hp9 => ?_, fun _ _ _ _ h => h⟩, ?_⟩
            ·
              have H25 := H15.ext xt14
              have s20 : f11 42 = .bool (decide (x0 < 0)) := hp9 5 rfl rfl
              obtain ⟨g11, s21, hv11, hA13⟩ : ∃ (g11 : Nat), f11 45 = .pointer (some ⟨g11, (q : Int).toNat * 1, none⟩) ∧ (.slice a6 (readsO (fromM (fxI h)) ((j : Int) - 3) (fromM (fxI h)).length).length c6 : Value).ownBlock = some g11 ∧ AtW (MS M [own w.heap.size 3 (.slice a6 (readsO (fromM (fxI h)) ((j : Int) - 3) (fromM (fxI h)).length).length c6) (readsO (fromM (fxI h)) ((j : Int) - 3) (fromM (fxI h)).length), box bb1 #[.slice a3 (fxV h).length c3, .slice a4 (fxI h).length c4, .slice a5 (fromM (fxI h)).length c5] 30, imm (.slice a5 (fromM (fxI h)).length c5) (fromM (fxI h)), imm (.slice a4 (fxI h).length c4) (fxI h), imm (.slice a3 (fxV h).length c3) (fxV h), box bb0 #[.slice a0 (fxV h).length c0, .slice a1 (fxI h).length c1, .slice a2 ([] : List Int).length c2] 30, imm (.slice a2 ([] : List Int).length c2) ([] : List Int), imm (.slice a1 (fxI h).length c1) (fxI h), imm (.slice a0 (fxV h).length c0) (fxV h), imm (.slice a_h h.length c_h) h]) w18 ⟨g11, (q : Int).toNat * 1, none⟩ x0 := hp9 8 rfl rfl
              have tr9 : (decide (x0 < 0)) = false := (by obtain ⟨a1_, a2_, a3_⟩ := readsO_at hx0; exact decide_eq_false (by omega))
              refine gy rfl rfl s20 tr9 (ldI hA13 ty3 rfl s21 ?_)
              intro rv19
              exact ⟨_, rfl, Ext.refl _, ⟨rfl, rv19⟩⟩
            refine ⟨fun _ => ⟨fun f12 w19 hf10 xt15 hp10 => ?_, fun _ _ _ _ h => h⟩, ?_⟩
            ·
              have H26 := H15.ext xt15
              have s22 : f12 42 = .bool (decide (x0 < 0)) := hp10 5 rfl rfl
              have tr10 : (decide (x0 < 0)) = false := (by obtain ⟨a1_, a2_, a3_⟩ := readsO_at hx0; exact decide_eq_false (by omega))
              refine gy rfl rfl s22 tr10 (fa fl30_2 rfl ((hf10 5 rfl).trans s5) ?_)
              exact ⟨_, rfl, Ext.refl _, rfl⟩
            refine ⟨fun _ => ⟨fun f13 w20 hf11 xt16 hp11 => ?_, fun _ _ _ _ h => h⟩, ?_⟩
            ·
              have H27 := H15.ext xt16
              have s23 : f13 42 = .bool (decide (x0 < 0)) := hp11 5 rfl rfl
              have s24 : f13 47 = .pointer (some ⟨bb1, 2, none⟩) := hp11 10 rfl rfl
              have tr11 : (decide (x0 < 0)) = false := (by obtain ⟨a1_, a2_, a3_⟩ := readsO_at hx0; exact decide_eq_false (by omega))
              refine gy rfl rfl s23 tr11 (ldX H27 1 rfl ty28 rfl s24 (by decide) rfl ?_)
              exact ⟨_, rfl, Ext.refl _, rfl⟩
            refine ⟨fun _ => ⟨fun f14 w21 hf12 xt17 hp12 => ?_, fun _ _ _ _ h => h⟩, ?_⟩
            ·
              have H28 := H15.ext xt17
              have s25 : f14 42 = .bool (decide (x0 < 0)) := hp12 5 rfl rfl
              have s26 : f14 48 = .slice a5 (fromM (fxI h)).length c5 := hp12 11 rfl rfl
              have tr12 : (decide (x0 < 0)) = false := (by obtain ⟨a1_, a2_, a3_⟩ := readsO_at hx0; exact decide_eq_false (by omega))
              refine gy rfl rfl s25 tr12 (lnS rfl s26 un28 ?_)
              exact ⟨_, rfl, Ext.refl _, rfl⟩
            refine ⟨fun _ => ⟨fun f15 w22 hf13 xt18 hp13 => ?_, fun _ _ _ _ h => h⟩, ?_⟩
            ·
              have H29 := H15.ext xt18
              have s27 : f15 42 = .bool (decide (x0 < 0)) := hp13 5 rfl rfl
              obtain ⟨s28, rv20⟩ : f15 46 = .int .i64 x0 ∧ I64 (x0) := hp13 9 rfl rfl
              have s29 : f15 49 = .int .i64 ((fromM (fxI h)).length : Int) := hp13 12 rfl rfl
              have tr13 : (decide (x0 < 0)) = false := (by obtain ⟨a1_, a2_, a3_⟩ := readsO_at hx0; exact decide_eq_false (by omega))
              refine gy rfl rfl s27 tr13 (geq rfl rfl s28 s29 ?_)
              exact ⟨_, rfl, Ext.refl _, rfl⟩
            refine ⟨fun _ => ⟨fun f16 w23 hf14 xt19 hp14 => ?_, fun _ _ _ _ h => h⟩, ?_⟩
            ·
              have H30 := H15.ext xt19
              have s30 : f16 42 = .bool (decide (x0 < 0)) := hp14 5 rfl rfl
              have s31 : f16 50 = .bool (decide (((fromM (fxI h)).length : Int) ≤ x0)) := hp14 13 rfl rfl
              have tr14 : (decide (x0 < 0)) = false := (by obtain ⟨a1_, a2_, a3_⟩ := readsO_at hx0; exact decide_eq_false (by omega))
              refine pickF rfl rfl rfl s30 tr14 s31 ?_
              exact ⟨_, rfl, Ext.refl _, rfl⟩
            refine ⟨fun _ => ⟨fun f17 w24 hf15 xt20 hp15 => ?_, fun _ _ _ _ h => h⟩, ?_⟩
            ·
              have H31 := H15.ext xt20
              have s32 : f17 51 = .bool (decide (((fromM (fxI h)).length : Int) ≤ x0)) := hp15 14 rfl rfl
              refine mv rfl s32 ?_
              exact ⟨_, rfl, Ext.refl _, rfl⟩
            refine ⟨fun _ => ⟨fun f18 w25 hf16 xt21 hp16 => ?_, fun _ _ _ _ h => h⟩, ?_⟩
            ·
              have H32 := H15.ext xt21
              have s33 : f18 52 = .bool (decide (((fromM (fxI h)).length : Int) ≤ x0)) := hp16 15 rfl rfl
              have tr15 : (decide (((fromM (fxI h)).length : Int) ≤ x0)) = false := (by obtain ⟨a1_, a2_, a3_⟩ := readsO_at hx0; exact decide_eq_false (by omega))
              refine gy rfl rfl s33 tr15 (fa fl30_2 rfl ((hf16 5 rfl).trans s5) ?_)
              exact ⟨_, rfl, Ext.refl _, rfl⟩
            refine ⟨fun _ => ⟨fun f19 w26 hf17 xt22 hp17 => ?_, fun _ _ _ _ h => h⟩, ?_⟩
            ·
              have H33 := H15.ext xt22
              have s34 : f19 52 = .bool (decide (((fromM (fxI h)).length : Int) ≤ x0)) := hp17 15 rfl rfl
              have s35 : f19 53 = .pointer (some ⟨bb1, 2, none⟩) := hp17 16 rfl rfl
              have tr16 : (decide (((fromM (fxI h)).length : Int) ≤ x0)) = false := (by obtain ⟨a1_, a2_, a3_⟩ := readsO_at hx0; exact decide_eq_false (by omega))
              refine gy rfl rfl s34 tr16 (ldX H33 1 rfl ty28 rfl s35 (by decide) rfl ?_)
              exact ⟨_, rfl, Ext.refl _, rfl⟩
            refine ⟨fun _ => ⟨fun f20 w27 hf18 xt23 hp18 => ?_, fun _ _ _ _ h => h⟩, ?_⟩
            ·
              have H34 := H15.ext xt23
              have s36 : f20 52 = .bool (decide (((fromM (fxI h)).length : Int) ≤ x0)) := hp18 15 rfl rfl
              have tr17 : (decide (((fromM (fxI h)).length : Int) ≤ x0)) = false := (by obtain ⟨a1_, a2_, a3_⟩ := readsO_at hx0; exact decide_eq_false (by omega))
              refine gy rfl rfl s36 tr17 (mv rfl ((hf18 8 rfl).trans s8) ?_)
              exact ⟨_, rfl, Ext.refl _, rfl⟩
            refine ⟨fun _ => ⟨fun f21 w28 hf19 xt24 hp19 => ?_, fun _ _ _ _ h => h⟩, ?_⟩
            ·
              have H35 := H15.ext xt24
              have s37 : f21 52 = .bool (decide (((fromM (fxI h)).length : Int) ≤ x0)) := hp19 15 rfl rfl
              have tr18 : (decide (((fromM (fxI h)).length : Int) ≤ x0)) = false := (by obtain ⟨a1_, a2_, a3_⟩ := readsO_at hx0; exact decide_eq_false (by omega))
              refine gy rfl rfl s37 tr18 (mv rfl ((hf19 9 rfl).trans s9) ?_)
              exact ⟨_, rfl, Ext.refl _, rfl⟩
            refine ⟨fun _ => ⟨fun f22 w29 hf20 xt25 hp20 => ?_, by rintro _ _ _ x_ ⟨g5, e_, hv5, hA6⟩; exact ⟨g5, e_, hv5, hA6.ext x_⟩⟩, ?_⟩
            ·
              have H36 := H15.ext xt25
              have s38 : f22 52 = .bool (decide (((fromM (fxI h)).length : Int) ≤ x0)) := hp20 15 rfl rfl
              have s39 : f22 55 = .slice a6 (readsO (fromM (fxI h)) ((j : Int) - 3) (fromM (fxI h)).length).length c6 := hp20 18 rfl rfl
              have s40 : f22 56 = .int .i64 (q : Int) := hp20 19 rfl rfl
              have tr19 : (decide (((fromM (fxI h)).length : Int) ≤ x0)) = false := (by obtain ⟨a1_, a2_, a3_⟩ := readsO_at hx0; exact decide_eq_false (by omega))
              refine gy rfl rfl s38 tr19 (iaO (H36.at_ 0 rfl) rfl rfl s39 s40 (by first | omega | (simp; omega)) un28 ty3 ?_)
              intro g12 x12 hv12 hx12 hA14
              obtain rfl : x0 = x12 := Option.some.inj (hx0.symm.trans hx12)
              exact ⟨_, rfl, Ext.refl _, ⟨g12, rfl, hv12, hA14⟩⟩
            refine ⟨fun _ => ⟨fun f23 w30 hf21 xt26 hp21 => ?_, fun _ _ _ _ h => h⟩, ?_⟩
            ·
              have H37 := H15.ext xt26
              have s41 : f23 52 = .bool (decide (((fromM (fxI h)).length : Int) ≤ x0)) := hp21 15 rfl rfl
              obtain ⟨g13, s42, hv13, hA15⟩ : ∃ (g13 : Nat), f23 57 = .pointer (some ⟨g13, (q : Int).toNat * 1, none⟩) ∧ (.slice a6 (readsO (fromM (fxI h)) ((j : Int) - 3) (fromM (fxI h)).length).length c6 : Value).ownBlock = some g13 ∧ AtW (MS M [own w.heap.size 3 (.slice a6 (readsO (fromM (fxI h)) ((j : Int) - 3) (fromM (fxI h)).length).length c6) (readsO (fromM (fxI h)) ((j : Int) - 3) (fromM (fxI h)).length), box bb1 #[.slice a3 (fxV h).length c3, .slice a4 (fxI h).length c4, .slice a5 (fromM (fxI h)).length c5] 30, imm (.slice a5 (fromM (fxI h)).length c5) (fromM (fxI h)), imm (.slice a4 (fxI h).length c4) (fxI h), imm (.slice a3 (fxV h).length c3) (fxV h), box bb0 #[.slice a0 (fxV h).length c0, .slice a1 (fxI h).length c1, .slice a2 ([] : List Int).length c2] 30, imm (.slice a2 ([] : List Int).length c2) ([] : List Int), imm (.slice a1 (fxI h).length c1) (fxI h), imm (.slice a0 (fxV h).length c0) (fxV h), imm (.slice a_h h.length c_h) h]) w30 ⟨g13, (q : Int).toNat * 1, none⟩ x0 := hp21 20 rfl rfl
              have tr20 : (decide (((fromM (fxI h)).length : Int) ≤ x0)) = false := (by obtain ⟨a1_, a2_, a3_⟩ := readsO_at hx0; exact decide_eq_false (by omega))
              refine gy rfl rfl s41 tr20 (ldI hA15 ty3 rfl s42 ?_)
              intro rv21
              exact ⟨_, rfl, Ext.refl _, ⟨rfl, rv21⟩⟩
            refine ⟨fun _ => ⟨fun f24 w31 hf22 xt27 hp22 => ?_, by rintro _ _ _ x_ ⟨ad1, e_, hA7⟩; exact ⟨ad1, e_, hA7.lift (Up.ext x_)⟩⟩, ?_⟩
            ·
              have H38 := H15.ext xt27
              have s43 : f24 52 = .bool (decide (((fromM (fxI h)).length : Int) ≤ x0)) := hp22 15 rfl rfl
              have s44 : f24 54 = .slice a5 (fromM (fxI h)).length c5 := hp22 17 rfl rfl
              obtain ⟨s45, rv22⟩ : f24 58 = .int .i64 x0 ∧ I64 (x0) := hp22 21 rfl rfl
              have tr21 : (decide (((fromM (fxI h)).length : Int) ≤ x0)) = false := (by obtain ⟨a1_, a2_, a3_⟩ := readsO_at hx0; exact decide_eq_false (by omega))
              refine gy rfl rfl s43 tr21 (ia (H38.rv 2 rfl) rfl rfl s44 s45 (by first | (obtain ⟨a1_, a2_, a3_⟩ := readsO_at hx0; omega) | (obtain ⟨a1_, a2_, a3_⟩ := readsO_at hx1; omega) | (obtain ⟨a1_, a2_, a3_⟩ := readsO_at hx2; omega) | (obtain ⟨a1_, a2_, a3_⟩ := readsO_at hx3; omega)) un28 ty3 ?_)
              intro ad2 x13 hx13 hA16
              obtain rfl : x3 = x13 := Option.some.inj (hx3.symm.trans hx13)
              exact ⟨_, rfl, Ext.refl _, ⟨ad2, rfl, hA16⟩⟩
            refine ⟨fun _ => ⟨fun f25 w32 hf23 xt28 hp23 => ?_, fun _ _ _ _ h => h⟩, ?_⟩
            ·
              have H39 := H15.ext xt28
              have s46 : f25 52 = .bool (decide (((fromM (fxI h)).length : Int) ≤ x0)) := hp23 15 rfl rfl
              obtain ⟨ad3, s47, hA17⟩ : ∃ (ad3 : Addr), f25 59 = .pointer (some ad3) ∧ At (MS M [own w.heap.size 3 (.slice a6 (readsO (fromM (fxI h)) ((j : Int) - 3) (fromM (fxI h)).length).length c6) (readsO (fromM (fxI h)) ((j : Int) - 3) (fromM (fxI h)).length), box bb1 #[.slice a3 (fxV h).length c3, .slice a4 (fxI h).length c4, .slice a5 (fromM (fxI h)).length c5] 30, imm (.slice a5 (fromM (fxI h)).length c5) (fromM (fxI h)), imm (.slice a4 (fxI h).length c4) (fxI h), imm (.slice a3 (fxV h).length c3) (fxV h), box bb0 #[.slice a0 (fxV h).length c0, .slice a1 (fxI h).length c1, .slice a2 ([] : List Int).length c2] 30, imm (.slice a2 ([] : List Int).length c2) ([] : List Int), imm (.slice a1 (fxI h).length c1) (fxI h), imm (.slice a0 (fxV h).length c0) (fxV h), imm (.slice a_h h.length c_h) h]) w32 ad3 x3 := hp23 22 rfl rfl
              have H40 := H39.put (it := atI ad3 x3) rfl hA17
              have tr22 : (decide (((fromM (fxI h)).length : Int) ≤ x0)) = false := (by obtain ⟨a1_, a2_, a3_⟩ := readsO_at hx0; exact decide_eq_false (by omega))
              refine gy rfl rfl s46 tr22 (ldI (H40.atv 0 rfl).w ty3 rfl s47 ?_)
              intro rv23
              exact ⟨_, rfl, Ext.refl _, ⟨rfl, rv23⟩⟩
            refine ⟨fun _ => ⟨fun f26 w33 hf24 xt29 hp24 => ?_, fun _ _ _ _ h => h⟩, ?_⟩
            ·
              have H41 := H15.ext xt29
              have s48 : f26 52 = .bool (decide (((fromM (fxI h)).length : Int) ≤ x0)) := hp24 15 rfl rfl
              have tr23 : (decide (((fromM (fxI h)).length : Int) ≤ x0)) = false := (by obtain ⟨a1_, a2_, a3_⟩ := readsO_at hx0; exact decide_eq_false (by omega))
              refine gy rfl rfl s48 tr23 (mv rfl ((hf24 7 rfl).trans s7) ?_)
              exact ⟨_, rfl, Ext.refl _, rfl⟩
            refine ⟨fun _ => ⟨fun f27 w34 hf25 xt30 hp25 => ?_, fun _ _ _ _ h => h⟩, ?_⟩
            ·
              have H42 := H15.ext xt30
              have s49 : f27 52 = .bool (decide (((fromM (fxI h)).length : Int) ≤ x0)) := hp25 15 rfl rfl
              obtain ⟨s50, rv24⟩ : f27 60 = .int .i64 x3 ∧ I64 (x3) := hp25 23 rfl rfl
              have s51 : f27 61 = .int .i64 ((j : Int) - 3) := hp25 24 rfl rfl
              have tr24 : (decide (((fromM (fxI h)).length : Int) ≤ x0)) = false := (by obtain ⟨a1_, a2_, a3_⟩ := readsO_at hx0; exact decide_eq_false (by omega))
              refine gy rfl rfl s49 tr24 (neq rfl rfl s50 s51 ?_)
              exact ⟨_, rfl, Ext.refl _, rfl⟩
            refine ⟨fun _ => ⟨fun f28 w35 hf26 xt31 hp26 => ?_, fun _ _ _ _ h => h⟩, ?_⟩
            ·
              have H43 := H15.ext xt31
              have s52 : f28 52 = .bool (decide (((fromM (fxI h)).length : Int) ≤ x0)) := hp26 15 rfl rfl
              have s53 : f28 62 = .bool (!decide (x3 = ((j : Int) - 3))) := hp26 25 rfl rfl
              have tr25 : (decide (((fromM (fxI h)).length : Int) ≤ x0)) = false := (by obtain ⟨a1_, a2_, a3_⟩ := readsO_at hx0; exact decide_eq_false (by omega))
              refine pickF rfl rfl rfl s52 tr25 s53 ?_
              exact ⟨_, rfl, Ext.refl _, rfl⟩
            refine ⟨fun _ => ⟨fun f29 w36 hf27 xt32 hp27 => ?_, fun _ _ _ _ h => h⟩, ?_⟩
            ·
              have H44 := H15.ext xt32
              have s54 : f29 63 = .bool (!decide (x3 = ((j : Int) - 3))) := hp27 26 rfl rfl
              refine mv rfl s54 ?_
              exact ⟨_, rfl, Ext.refl _, rfl⟩
            refine ⟨fun _ => ⟨fun f30 w37 hf28 xt33 hp28 => ?_, fun _ _ _ _ h => h⟩, ?_⟩
            ·
              have H45 := H15.ext xt33
              have s55 : f30 64 = .bool (!decide (x3 = ((j : Int) - 3))) := hp28 27 rfl rfl
              have tr26 : (decide (x3 = ((j : Int) - 3))) = true := (by obtain ⟨a1_, a2_, a3_⟩ := readsO_at hx0; have e_ := at_is hx3 a3_; exact decide_eq_true e_)
              refine gy rfl rfl s55 (by rw [show (decide (x3 = ((j : Int) - 3))) = true from tr26]; rfl) (mv rfl ((hf28 9 rfl).trans s9) ?_)
              exact ⟨_, rfl, Ext.refl _, rfl⟩
            refine ⟨fun _ => ⟨fun f31 w38 hf29 xt34 hp29 => ?_, fun _ _ _ _ h => h⟩, ?_⟩
            ·
              have H46 := H15.ext xt34
              have s56 : f31 64 = .bool (!decide (x3 = ((j : Int) - 3))) := hp29 27 rfl rfl
              have s57 : f31 65 = .int .i64 (q : Int) := hp29 28 rfl rfl
              have tr27 : (decide (x3 = ((j : Int) - 3))) = true := (by obtain ⟨a1_, a2_, a3_⟩ := readsO_at hx0; have e_ := at_is hx3 a3_; exact decide_eq_true e_)
              refine gy rfl rfl s56 (by rw [show (decide (x3 = ((j : Int) - 3))) = true from tr27]; rfl) (gtr rfl rfl s57 rfl ?_)
              exact ⟨_, rfl, Ext.refl _, rfl⟩
            refine ⟨fun _ => ⟨fun f32 w39 hf30 xt35 hp30 => ?_, fun _ _ _ _ h => h⟩, ?_⟩
            ·
              have H47 := H15.ext xt35
              have s58 : f32 64 = .bool (!decide (x3 = ((j : Int) - 3))) := hp30 27 rfl rfl
              have s59 : f32 66 = .bool (decide (0 < (q : Int))) := hp30 29 rfl rfl
              have tr28 : (decide (x3 = ((j : Int) - 3))) = true := (by obtain ⟨a1_, a2_, a3_⟩ := readsO_at hx0; have e_ := at_is hx3 a3_; exact decide_eq_true e_)
              refine gy rfl rfl s58 (by rw [show (decide (x3 = ((j : Int) - 3))) = true from tr28]; rfl) (mv rfl s59 ?_)
              exact ⟨_, rfl, Ext.refl _, rfl⟩
            refine ⟨fun _ => ⟨fun f33 w40 hf31 xt36 hp31 => ?_, fun _ _ _ _ h => h⟩, ?_⟩
            ·
              have H48 := H15.ext xt36
              have s60 : f33 67 = .bool (decide (0 < (q : Int))) := hp31 30 rfl rfl
              refine gy rfl rfl s60 b3 (mv rfl ((hf31 8 rfl).trans s8) ?_)
              exact ⟨_, rfl, Ext.refl _, rfl⟩
            refine ⟨fun _ => ⟨fun f34 w41 hf32 xt37 hp32 => ?_, fun _ _ _ _ h => h⟩, ?_⟩
            ·
              have H49 := H15.ext xt37
              have s61 : f34 67 = .bool (decide (0 < (q : Int))) := hp32 30 rfl rfl
              refine gy rfl rfl s61 b3 (mv rfl ((hf32 9 rfl).trans s9) ?_)
              exact ⟨_, rfl, Ext.refl _, rfl⟩
            refine ⟨fun _ => ⟨fun f35 w42 hf33 xt38 hp33 => ?_, by rintro _ _ _ x_ ⟨g6, e_, hv6, hA8⟩; exact ⟨g6, e_, hv6, hA8.ext x_⟩⟩, ?_⟩
            ·
              have H50 := H15.ext xt38
              have s62 : f35 67 = .bool (decide (0 < (q : Int))) := hp33 30 rfl rfl
              have s63 : f35 68 = .slice a6 (readsO (fromM (fxI h)) ((j : Int) - 3) (fromM (fxI h)).length).length c6 := hp33 31 rfl rfl
              have s64 : f35 69 = .int .i64 (q : Int) := hp33 32 rfl rfl
              refine gy rfl rfl s62 b3 (iaO (H50.at_ 0 rfl) rfl rfl s63 s64 (by first | omega | (simp; omega)) un28 ty3 ?_)
              intro g14 x14 hv14 hx14 hA18
              obtain rfl : x0 = x14 := Option.some.inj (hx0.symm.trans hx14)
              exact ⟨_, rfl, Ext.refl _, ⟨g14, rfl, hv14, hA18⟩⟩
            refine ⟨fun _ => ⟨fun f36 w43 hf34 xt39 hp34 => ?_, fun _ _ _ _ h => h⟩, ?_⟩
            ·
              have H51 := H15.ext xt39
              have s65 : f36 67 = .bool (decide (0 < (q : Int))) := hp34 30 rfl rfl
              obtain ⟨g15, s66, hv15, hA19⟩ : ∃ (g15 : Nat), f36 70 = .pointer (some ⟨g15, (q : Int).toNat * 1, none⟩) ∧ (.slice a6 (readsO (fromM (fxI h)) ((j : Int) - 3) (fromM (fxI h)).length).length c6 : Value).ownBlock = some g15 ∧ AtW (MS M [own w.heap.size 3 (.slice a6 (readsO (fromM (fxI h)) ((j : Int) - 3) (fromM (fxI h)).length).length c6) (readsO (fromM (fxI h)) ((j : Int) - 3) (fromM (fxI h)).length), box bb1 #[.slice a3 (fxV h).length c3, .slice a4 (fxI h).length c4, .slice a5 (fromM (fxI h)).length c5] 30, imm (.slice a5 (fromM (fxI h)).length c5) (fromM (fxI h)), imm (.slice a4 (fxI h).length c4) (fxI h), imm (.slice a3 (fxV h).length c3) (fxV h), box bb0 #[.slice a0 (fxV h).length c0, .slice a1 (fxI h).length c1, .slice a2 ([] : List Int).length c2] 30, imm (.slice a2 ([] : List Int).length c2) ([] : List Int), imm (.slice a1 (fxI h).length c1) (fxI h), imm (.slice a0 (fxV h).length c0) (fxV h), imm (.slice a_h h.length c_h) h]) w43 ⟨g15, (q : Int).toNat * 1, none⟩ x0 := hp34 33 rfl rfl
              refine gy rfl rfl s65 b3 (ldI hA19 ty3 rfl s66 ?_)
              intro rv25
              exact ⟨_, rfl, Ext.refl _, ⟨rfl, rv25⟩⟩
            refine ⟨fun _ => ⟨fun f37 w44 hf35 xt40 hp35 => ?_, fun _ _ _ _ h => h⟩, ?_⟩
            ·
              have H52 := H15.ext xt40
              have s67 : f37 67 = .bool (decide (0 < (q : Int))) := hp35 30 rfl rfl
              refine gy rfl rfl s67 b3 (mv rfl ((hf35 8 rfl).trans s8) ?_)
              exact ⟨_, rfl, Ext.refl _, rfl⟩
            refine ⟨fun _ => ⟨fun f38 w45 hf36 xt41 hp36 => ?_, fun _ _ _ _ h => h⟩, ?_⟩
            ·
              have H53 := H15.ext xt41
              have s68 : f38 67 = .bool (decide (0 < (q : Int))) := hp36 30 rfl rfl
              refine gy rfl rfl s68 b3 (mv rfl ((hf36 9 rfl).trans s9) ?_)
              exact ⟨_, rfl, Ext.refl _, rfl⟩
            refine ⟨fun _ => ⟨fun f39 w46 hf37 xt42 hp37 => ?_, fun _ _ _ _ h => h⟩, ?_⟩
            ·
              have H54 := H15.ext xt42
              have s69 : f39 67 = .bool (decide (0 < (q : Int))) := hp37 30 rfl rfl
              have s70 : f39 73 = .int .i64 (q : Int) := hp37 36 rfl rfl
              refine gy rfl rfl s69 b3 (sub rfl rfl s70 rfl (by unfold I64 at *; omega) ?_)
              exact ⟨_, rfl, Ext.refl _, rfl⟩
            refine ⟨fun _ => ⟨fun f40 w47 hf38 xt43 hp38 => ?_, by rintro _ _ _ x_ ⟨g7, e_, hv7, hA9⟩; exact ⟨g7, e_, hv7, hA9.ext x_⟩⟩, ?_⟩
            ·
              have H55 := H15.ext xt43
              have s71 : f40 67 = .bool (decide (0 < (q : Int))) := hp38 30 rfl rfl
              have s72 : f40 72 = .slice a6 (readsO (fromM (fxI h)) ((j : Int) - 3) (fromM (fxI h)).length).length c6 := hp38 35 rfl rfl
              have s73 : f40 74 = .int .i64 ((q : Int) - 1) := hp38 37 rfl rfl
              refine gy rfl rfl s71 b3 (iaO (H55.at_ 0 rfl) rfl rfl s72 s73 (by first | omega | (simp; omega)) un28 ty3 ?_)
              intro g16 x15 hv16 hx15 hA20
              obtain rfl : x9 = x15 := Option.some.inj (hx9.symm.trans hx15)
              exact ⟨_, rfl, Ext.refl _, ⟨g16, rfl, hv16, hA20⟩⟩
            refine ⟨fun _ => ⟨fun f41 w48 hf39 xt44 hp39 => ?_, fun _ _ _ _ h => h⟩, ?_⟩
            ·
              have H56 := H15.ext xt44
              have s74 : f41 67 = .bool (decide (0 < (q : Int))) := hp39 30 rfl rfl
              obtain ⟨g17, s75, hv17, hA21⟩ : ∃ (g17 : Nat), f41 75 = .pointer (some ⟨g17, ((q : Int) - 1).toNat * 1, none⟩) ∧ (.slice a6 (readsO (fromM (fxI h)) ((j : Int) - 3) (fromM (fxI h)).length).length c6 : Value).ownBlock = some g17 ∧ AtW (MS M [own w.heap.size 3 (.slice a6 (readsO (fromM (fxI h)) ((j : Int) - 3) (fromM (fxI h)).length).length c6) (readsO (fromM (fxI h)) ((j : Int) - 3) (fromM (fxI h)).length), box bb1 #[.slice a3 (fxV h).length c3, .slice a4 (fxI h).length c4, .slice a5 (fromM (fxI h)).length c5] 30, imm (.slice a5 (fromM (fxI h)).length c5) (fromM (fxI h)), imm (.slice a4 (fxI h).length c4) (fxI h), imm (.slice a3 (fxV h).length c3) (fxV h), box bb0 #[.slice a0 (fxV h).length c0, .slice a1 (fxI h).length c1, .slice a2 ([] : List Int).length c2] 30, imm (.slice a2 ([] : List Int).length c2) ([] : List Int), imm (.slice a1 (fxI h).length c1) (fxI h), imm (.slice a0 (fxV h).length c0) (fxV h), imm (.slice a_h h.length c_h) h]) w48 ⟨g17, ((q : Int) - 1).toNat * 1, none⟩ x9 := hp39 38 rfl rfl
              refine gy rfl rfl s74 b3 (ldI hA21 ty3 rfl s75 ?_)
              intro rv26
              exact ⟨_, rfl, Ext.refl _, ⟨rfl, rv26⟩⟩
            exact DSteps.rest rfl _
          · intro f42 w49 hf40 xt45 hp40
            have H57 := H15.ext xt45
            have s76 : f42 3 = .pointer (some ⟨bb0, 0, none⟩) := (hf40 3 rfl).trans s4
            have s77 : f42 5 = .pointer (some ⟨bb1, 0, none⟩) := (hf40 5 rfl).trans s5
            have s78 : f42 6 = .int .i64 ((cntB (fromM (fxI h)) ((j : Int) - 3) : Nat) : Int) := (hf40 6 rfl).trans s6
            have s79 : f42 7 = .int .i64 ((j : Int) - 3) := (hf40 7 rfl).trans s7
            have s80 : f42 8 = .slice a6 (readsO (fromM (fxI h)) ((j : Int) - 3) (fromM (fxI h)).length).length c6 := (hf40 8 rfl).trans s8
            have s81 : f42 9 = .int .i64 (q : Int) := (hf40 9 rfl).trans s9
            have s82 : f42 64 = .bool (!decide (x3 = ((j : Int) - 3))) := hp40 27 rfl
            have s83 : f42 67 = .bool (decide (0 < (q : Int))) := hp40 30 rfl
            obtain ⟨s84, rv27⟩ : f42 71 = .int .i64 x0 ∧ I64 (x0) := hp40 34 rfl
            obtain ⟨s85, rv28⟩ : f42 76 = .int .i64 x9 ∧ I64 (x9) := hp40 39 rfl
            refine k (gy rfl rfl s83 b3 (leq rfl rfl s84 s85 ?_))
            have tr29 : (decide (x3 = ((j : Int) - 3))) = true := (by obtain ⟨a1_, a2_, a3_⟩ := readsO_at hx0; have e_ := at_is hx3 a3_; exact decide_eq_true e_)
            refine k (gy rfl rfl s82 (by rw [show (decide (x3 = ((j : Int) - 3))) = true from tr29]; rfl) (pickT rfl rfl rfl s83 b3 rfl (k (pickF rfl rfl rfl s82 (by rw [show (decide (x3 = ((j : Int) - 3))) = true from tr29]; rfl) rfl (z (nx (cdF rfl rfl (readsO_less (by omega) hx0 hx9) (sk (inb_normal (nx (rg (k (mv rfl s81 (k (add rfl rfl rfl rfl (by unfold I64 at *; omega) (k (asg (v := .int .i64 ((q : Int) + 1)) rfl rfl (z ?_))))))))))))))))))
            refine loopN _ ?_ ⟨(q + 1), rfl, s76, s77, s78, s79, s80, (ieq rfl (by first | rfl | omega | (push_cast; omega))), H57, (by first | assumption | omega | simp | (simp; omega))⟩
            omega
        · -- decide (0 < (q : Int)) is False
          have p3 := of_decide_eq_false b3
          refine dr 40 [fun (v : Value) (w' : World) => v = .slice a6 (readsO (fromM (fxI h)) ((j : Int) - 3) (fromM (fxI h)).length).length c6, fun (v : Value) (w' : World) => v = .int .i64 (q : Int), fun (v : Value) (w' : World) => ∃ (g3 : Nat), v = .pointer (some ⟨g3, (q : Int).toNat * 1, none⟩) ∧ (.slice a6 (readsO (fromM (fxI h)) ((j : Int) - 3) (fromM (fxI h)).length).length c6 : Value).ownBlock = some g3 ∧ AtW (MS M [own w.heap.size 3 (.slice a6 (readsO (fromM (fxI h)) ((j : Int) - 3) (fromM (fxI h)).length).length c6) (readsO (fromM (fxI h)) ((j : Int) - 3) (fromM (fxI h)).length), box bb1 #[.slice a3 (fxV h).length c3, .slice a4 (fxI h).length c4, .slice a5 (fromM (fxI h)).length c5] 30, imm (.slice a5 (fromM (fxI h)).length c5) (fromM (fxI h)), imm (.slice a4 (fxI h).length c4) (fxI h), imm (.slice a3 (fxV h).length c3) (fxV h), box bb0 #[.slice a0 (fxV h).length c0, .slice a1 (fxI h).length c1, .slice a2 ([] : List Int).length c2] 30, imm (.slice a2 ([] : List Int).length c2) ([] : List Int), imm (.slice a1 (fxI h).length c1) (fxI h), imm (.slice a0 (fxV h).length c0) (fxV h), imm (.slice a_h h.length c_h) h]) w' ⟨g3, (q : Int).toNat * 1, none⟩ x0, fun (v : Value) (w' : World) => v = .int .i64 x0 ∧ I64 (x0), fun (v : Value) (w' : World) => v = .bool (decide (x0 < 0)), fun (v : Value) (w' : World) => v = .bool (decide (x0 < 0)), fun (v : Value) (w' : World) => v = .slice a6 (readsO (fromM (fxI h)) ((j : Int) - 3) (fromM (fxI h)).length).length c6, fun (v : Value) (w' : World) => v = .int .i64 (q : Int), fun (v : Value) (w' : World) => ∃ (g4 : Nat), v = .pointer (some ⟨g4, (q : Int).toNat * 1, none⟩) ∧ (.slice a6 (readsO (fromM (fxI h)) ((j : Int) - 3) (fromM (fxI h)).length).length c6 : Value).ownBlock = some g4 ∧ AtW (MS M [own w.heap.size 3 (.slice a6 (readsO (fromM (fxI h)) ((j : Int) - 3) (fromM (fxI h)).length).length c6) (readsO (fromM (fxI h)) ((j : Int) - 3) (fromM (fxI h)).length), box bb1 #[.slice a3 (fxV h).length c3, .slice a4 (fxI h).length c4, .slice a5 (fromM (fxI h)).length c5] 30, imm (.slice a5 (fromM (fxI h)).length c5) (fromM (fxI h)), imm (.slice a4 (fxI h).length c4) (fxI h), imm (.slice a3 (fxV h).length c3) (fxV h), box bb0 #[.slice a0 (fxV h).length c0, .slice a1 (fxI h).length c1, .slice a2 ([] : List Int).length c2] 30, imm (.slice a2 ([] : List Int).length c2) ([] : List Int), imm (.slice a1 (fxI h).length c1) (fxI h), imm (.slice a0 (fxV h).length c0) (fxV h), imm (.slice a_h h.length c_h) h]) w' ⟨g4, (q : Int).toNat * 1, none⟩ x0, fun (v : Value) (w' : World) => v = .int .i64 x0 ∧ I64 (x0), fun (v : Value) (w' : World) => v = .pointer (some ⟨bb1, 2, none⟩), fun (v : Value) (w' : World) => v = .slice a5 (fromM (fxI h)).length c5, fun (v : Value) (w' : World) => v = .int .i64 ((fromM (fxI h)).length : Int), fun (v : Value) (w' : World) => v = .bool (decide (((fromM (fxI h)).length : Int) ≤ x0)), fun (v : Value) (w' : World) => v = .bool (decide (((fromM (fxI h)).length : Int) ≤ x0)), fun (v : Value) (w' : World) => v = .bool (decide (((fromM (fxI h)).length : Int) ≤ x0)), fun (v : Value) (w' : World) => v = .pointer (some ⟨bb1, 2, none⟩), fun (v : Value) (w' : World) => v = .slice a5 (fromM (fxI h)).length c5, fun (v : Value) (w' : World) => v = .slice a6 (readsO (fromM (fxI h)) ((j : Int) - 3) (fromM (fxI h)).length).length c6, fun (v : Value) (w' : World) => v = .int .i64 (q : Int), fun (v : Value) (w' : World) => ∃ (g5 : Nat), v = .pointer (some ⟨g5, (q : Int).toNat * 1, none⟩) ∧ (.slice a6 (readsO (fromM (fxI h)) ((j : Int) - 3) (fromM (fxI h)).length).length c6 : Value).ownBlock = some g5 ∧ AtW (MS M [own w.heap.size 3 (.slice a6 (readsO (fromM (fxI h)) ((j : Int) - 3) (fromM (fxI h)).length).length c6) (readsO (fromM (fxI h)) ((j : Int) - 3) (fromM (fxI h)).length), box bb1 #[.slice a3 (fxV h).length c3, .slice a4 (fxI h).length c4, .slice a5 (fromM (fxI h)).length c5] 30, imm (.slice a5 (fromM (fxI h)).length c5) (fromM (fxI h)), imm (.slice a4 (fxI h).length c4) (fxI h), imm (.slice a3 (fxV h).length c3) (fxV h), box bb0 #[.slice a0 (fxV h).length c0, .slice a1 (fxI h).length c1, .slice a2 ([] : List Int).length c2] 30, imm (.slice a2 ([] : List Int).length c2) ([] : List Int), imm (.slice a1 (fxI h).length c1) (fxI h), imm (.slice a0 (fxV h).length c0) (fxV h), imm (.slice a_h h.length c_h) h]) w' ⟨g5, (q : Int).toNat * 1, none⟩ x0, fun (v : Value) (w' : World) => v = .int .i64 x0 ∧ I64 (x0), fun (v : Value) (w' : World) => ∃ (ad1 : Addr), v = .pointer (some ad1) ∧ At (MS M [own w.heap.size 3 (.slice a6 (readsO (fromM (fxI h)) ((j : Int) - 3) (fromM (fxI h)).length).length c6) (readsO (fromM (fxI h)) ((j : Int) - 3) (fromM (fxI h)).length), box bb1 #[.slice a3 (fxV h).length c3, .slice a4 (fxI h).length c4, .slice a5 (fromM (fxI h)).length c5] 30, imm (.slice a5 (fromM (fxI h)).length c5) (fromM (fxI h)), imm (.slice a4 (fxI h).length c4) (fxI h), imm (.slice a3 (fxV h).length c3) (fxV h), box bb0 #[.slice a0 (fxV h).length c0, .slice a1 (fxI h).length c1, .slice a2 ([] : List Int).length c2] 30, imm (.slice a2 ([] : List Int).length c2) ([] : List Int), imm (.slice a1 (fxI h).length c1) (fxI h), imm (.slice a0 (fxV h).length c0) (fxV h), imm (.slice a_h h.length c_h) h]) w' ad1 x3, fun (v : Value) (w' : World) => v = .int .i64 x3 ∧ I64 (x3), fun (v : Value) (w' : World) => v = .int .i64 ((j : Int) - 3), fun (v : Value) (w' : World) => v = .bool (!decide (x3 = ((j : Int) - 3))), fun (v : Value) (w' : World) => v = .bool (!decide (x3 = ((j : Int) - 3))), fun (v : Value) (w' : World) => v = .bool (!decide (x3 = ((j : Int) - 3))), fun (v : Value) (w' : World) => v = .int .i64 (q : Int), fun (v : Value) (w' : World) => v = .bool (decide (0 < (q : Int))), fun (v : Value) (w' : World) => v = .bool (decide (0 < (q : Int))), fun (v : Value) (_ : World) => v = undef, fun (v : Value) (_ : World) => v = undef, fun (v : Value) (_ : World) => v = undef, fun (v : Value) (_ : World) => v = undef, fun (v : Value) (_ : World) => v = undef, fun (v : Value) (_ : World) => v = undef, fun (v : Value) (_ : World) => v = undef, fun (v : Value) (_ : World) => v = undef, fun (v : Value) (_ : World) => v = undef] rfl (by kernel_rfl) ?_ ?_
          ·
            refine ⟨fun _ => ⟨fun f2 w9 hf0 xt5 hp0 => ?_, fun _ _ _ _ h => h⟩, ?_⟩
            ·
              have H16 := H15.ext xt5
              refine mv rfl ((hf0 8 rfl).trans s8) ?_
              exact ⟨_, rfl, Ext.refl _, rfl⟩
            refine ⟨fun _ => ⟨fun f3 w10 hf1 xt6 hp1 => ?_, fun _ _ _ _ h => h⟩, ?_⟩
            ·
              have H17 := H15.ext xt6
              refine mv rfl ((hf1 9 rfl).trans s9) ?_
              exact ⟨_, rfl, Ext.refl _, rfl⟩
            refine ⟨fun _ => ⟨fun f4 w11 hf2 xt7 hp2 => ?_, by rintro _ _ _ x_ ⟨g3, e_, hv3, hA4⟩; exact ⟨g3, e_, hv3, hA4.ext x_⟩⟩, ?_⟩
            ·
              have H18 := H15.ext xt7
              have s10 : f4 37 = .slice a6 (readsO (fromM (fxI h)) ((j : Int) - 3) (fromM (fxI h)).length).length c6 := hp2 0 rfl rfl
              have s11 : f4 38 = .int .i64 (q : Int) := hp2 1 rfl rfl
              refine iaO (H18.at_ 0 rfl) rfl rfl s10 s11 (by first | omega | (simp; omega)) un28 ty3 ?_
              intro g6 x8 hv6 hx8 hA8
              obtain rfl : x0 = x8 := Option.some.inj (hx0.symm.trans hx8)
              exact ⟨_, rfl, Ext.refl _, ⟨g6, rfl, hv6, hA8⟩⟩
            refine ⟨fun _ => ⟨fun f5 w12 hf3 xt8 hp3 => ?_, fun _ _ _ _ h => h⟩, ?_⟩
            ·
              have H19 := H15.ext xt8
              obtain ⟨g7, s12, hv7, hA9⟩ : ∃ (g7 : Nat), f5 39 = .pointer (some ⟨g7, (q : Int).toNat * 1, none⟩) ∧ (.slice a6 (readsO (fromM (fxI h)) ((j : Int) - 3) (fromM (fxI h)).length).length c6 : Value).ownBlock = some g7 ∧ AtW (MS M [own w.heap.size 3 (.slice a6 (readsO (fromM (fxI h)) ((j : Int) - 3) (fromM (fxI h)).length).length c6) (readsO (fromM (fxI h)) ((j : Int) - 3) (fromM (fxI h)).length), box bb1 #[.slice a3 (fxV h).length c3, .slice a4 (fxI h).length c4, .slice a5 (fromM (fxI h)).length c5] 30, imm (.slice a5 (fromM (fxI h)).length c5) (fromM (fxI h)), imm (.slice a4 (fxI h).length c4) (fxI h), imm (.slice a3 (fxV h).length c3) (fxV h), box bb0 #[.slice a0 (fxV h).length c0, .slice a1 (fxI h).length c1, .slice a2 ([] : List Int).length c2] 30, imm (.slice a2 ([] : List Int).length c2) ([] : List Int), imm (.slice a1 (fxI h).length c1) (fxI h), imm (.slice a0 (fxV h).length c0) (fxV h), imm (.slice a_h h.length c_h) h]) w12 ⟨g7, (q : Int).toNat * 1, none⟩ x0 := hp3 2 rfl rfl
              refine ldI hA9 ty3 rfl s12 ?_
              intro rv15
              exact ⟨_, rfl, Ext.refl _, ⟨rfl, rv15⟩⟩
            refine ⟨fun _ => ⟨fun f6 w13 hf4 xt9 hp4 => ?_, fun _ _ _ _ h => h⟩, ?_⟩
            ·
              have H20 := H15.ext xt9
              obtain ⟨s13, rv16⟩ : f6 40 = .int .i64 x0 ∧ I64 (x0) := hp4 3 rfl rfl
              refine lss rfl rfl s13 rfl ?_
              exact ⟨_, rfl, Ext.refl _, rfl⟩
            refine ⟨fun _ => ⟨fun f7 w14 hf5 xt10 hp5 => ?_, fun _ _ _ _ h => h⟩, ?_⟩
            ·
              have H21 := H15.ext xt10
              have s14 : f7 41 = .bool (decide (x0 < 0)) := hp5 4 rfl rfl
              refine mv rfl s14 ?_
              exact ⟨_, rfl, Ext.refl _, rfl⟩
            refine ⟨fun _ => ⟨fun f8 w15 hf6 xt11 hp6 => ?_, fun _ _ _ _ h => h⟩, ?_⟩
            ·
              have H22 := H15.ext xt11
              have s15 : f8 42 = .bool (decide (x0 < 0)) := hp6 5 rfl rfl
              have tr6 : (decide (x0 < 0)) = false := (by obtain ⟨a1_, a2_, a3_⟩ := readsO_at hx0; exact decide_eq_false (by omega))
              refine gy rfl rfl s15 tr6 (mv rfl ((hf6 8 rfl).trans s8) ?_)
              exact ⟨_, rfl, Ext.refl _, rfl⟩
            refine ⟨fun _ => ⟨fun f9 w16 hf7 xt12 hp7 => ?_, fun _ _ _ _ h => h⟩, ?_⟩
            ·
              have H23 := H15.ext xt12
              have s16 : f9 42 = .bool (decide (x0 < 0)) := hp7 5 rfl rfl
              have tr7 : (decide (x0 < 0)) = false := (by obtain ⟨a1_, a2_, a3_⟩ := readsO_at hx0; exact decide_eq_false (by omega))
              refine gy rfl rfl s16 tr7 (mv rfl ((hf7 9 rfl).trans s9) ?_)
              exact ⟨_, rfl, Ext.refl _, rfl⟩
            refine ⟨fun _ => ⟨fun f10 w17 hf8 xt13 hp8 => ?_, by rintro _ _ _ x_ ⟨g4, e_, hv4, hA5⟩; exact ⟨g4, e_, hv4, hA5.ext x_⟩⟩, ?_⟩
            ·
              have H24 := H15.ext xt13
              have s17 : f10 42 = .bool (decide (x0 < 0)) := hp8 5 rfl rfl
              have s18 : f10 43 = .slice a6 (readsO (fromM (fxI h)) ((j : Int) - 3) (fromM (fxI h)).length).length c6 := hp8 6 rfl rfl
              have s19 : f10 44 = .int .i64 (q : Int) := hp8 7 rfl rfl
              have tr8 : (decide (x0 < 0)) = false := (by obtain ⟨a1_, a2_, a3_⟩ := readsO_at hx0; exact decide_eq_false (by omega))
              refine gy rfl rfl s17 tr8 (iaO (H24.at_ 0 rfl) rfl rfl s18 s19 (by first | omega | (simp; omega)) un28 ty3 ?_)
              intro g8 x9 hv8 hx9 hA10
              obtain rfl : x0 = x9 := Option.some.inj (hx0.symm.trans hx9)
              exact ⟨_, rfl, Ext.refl _, ⟨g8, rfl, hv8, hA10⟩⟩
            refine ⟨fun _ => ⟨fun f11 w18 hf9 xt14 hp9 => ?_, fun _ _ _ _ h => h⟩, ?_⟩
            ·
              have H25 := H15.ext xt14
              have s20 : f11 42 = .bool (decide (x0 < 0)) := hp9 5 rfl rfl
              obtain ⟨g9, s21, hv9, hA11⟩ : ∃ (g9 : Nat), f11 45 = .pointer (some ⟨g9, (q : Int).toNat * 1, none⟩) ∧ (.slice a6 (readsO (fromM (fxI h)) ((j : Int) - 3) (fromM (fxI h)).length).length c6 : Value).ownBlock = some g9 ∧ AtW (MS M [own w.heap.size 3 (.slice a6 (readsO (fromM (fxI h)) ((j : Int) - 3) (fromM (fxI h)).length).length c6) (readsO (fromM (fxI h)) ((j : Int) - 3) (fromM (fxI h)).length), box bb1 #[.slice a3 (fxV h).length c3, .slice a4 (fxI h).length c4, .slice a5 (fromM (fxI h)).length c5] 30, imm (.slice a5 (fromM (fxI h)).length c5) (fromM (fxI h)), imm (.slice a4 (fxI h).length c4) (fxI h), imm (.slice a3 (fxV h).length c3) (fxV h), box bb0 #[.slice a0 (fxV h).length c0, .slice a1 (fxI h).length c1, .slice a2 ([] : List Int).length c2] 30, imm (.slice a2 ([] : List Int).length c2) ([] : List Int), imm (.slice a1 (fxI h).length c1) (fxI h), imm (.slice a0 (fxV h).length c0) (fxV h), imm (.slice a_h h.length c_h) h]) w18 ⟨g9, (q : Int).toNat * 1, none⟩ x0 := hp9 8 rfl rfl
              have tr9 : (decide (x0 < 0)) = false := (by obtain ⟨a1_, a2_, a3_⟩ := readsO_at hx0; exact decide_eq_false (by omega))
              refine gy rfl rfl s20 tr9 (ldI hA11 ty3 rfl s21 ?_)
              intro rv17
              exact ⟨_, rfl, Ext.refl _, ⟨rfl, rv17⟩⟩
            refine ⟨fun _ => ⟨fun f12 w19 hf10 xt15 hp10 => ?_, fun _ _ _ _ h => h⟩, ?_⟩
            ·
              have H26 := H15.ext xt15
              have s22 : f12 42 = .bool (decide (x0 < 0)) := hp10 5 rfl rfl
              have tr10 : (decide (x0 < 0)) = false := (by obtain ⟨a1_, a2_, a3_⟩ := readsO_at hx0; exact decide_eq_false (by omega))
              refine gy rfl rfl s22 tr10 (fa fl30_2 rfl ((hf10 5 rfl).trans s5) ?_)
              exact ⟨_, rfl, Ext.refl _, rfl⟩
            refine ⟨fun _ => ⟨fun f13 w20 hf11 xt16 hp11 => ?_, fun _ _ _ _ h => h⟩, ?_⟩
            ·
              have H27 := H15.ext xt16
              have s23 : f13 42 = .bool (decide (x0 < 0)) := hp11 5 rfl rfl
              have s24 : f13 47 = .pointer (some ⟨bb1, 2, none⟩) := hp11 10 rfl rfl
              have tr11 : (decide (x0 < 0)) = false := (by obtain ⟨a1_, a2_, a3_⟩ := readsO_at hx0; exact decide_eq_false (by omega))
              refine gy rfl rfl s23 tr11 (ldX H27 1 rfl ty28 rfl s24 (by decide) rfl ?_)
              exact ⟨_, rfl, Ext.refl _, rfl⟩
            refine ⟨fun _ => ⟨fun f14 w21 hf12 xt17 hp12 => ?_, fun _ _ _ _ h => h⟩, ?_⟩
            ·
              have H28 := H15.ext xt17
              have s25 : f14 42 = .bool (decide (x0 < 0)) := hp12 5 rfl rfl
              have s26 : f14 48 = .slice a5 (fromM (fxI h)).length c5 := hp12 11 rfl rfl
              have tr12 : (decide (x0 < 0)) = false := (by obtain ⟨a1_, a2_, a3_⟩ := readsO_at hx0; exact decide_eq_false (by omega))
              refine gy rfl rfl s25 tr12 (lnS rfl s26 un28 ?_)
              exact ⟨_, rfl, Ext.refl _, rfl⟩
            refine ⟨fun _ => ⟨fun f15 w22 hf13 xt18 hp13 => ?_, fun _ _ _ _ h => h⟩, ?_⟩
            ·
              have H29 := H15.ext xt18
              have s27 : f15 42 = .bool (decide (x0 < 0)) := hp13 5 rfl rfl
              obtain ⟨s28, rv18⟩ : f15 46 = .int .i64 x0 ∧ I64 (x0) := hp13 9 rfl rfl
              have s29 : f15 49 = .int .i64 ((fromM (fxI h)).length : Int) := hp13 12 rfl rfl
              have tr13 : (decide (x0 < 0)) = false := (by obtain ⟨a1_, a2_, a3_⟩ := readsO_at hx0; exact decide_eq_false (by omega))
              refine gy rfl rfl s27 tr13 (geq rfl rfl s28 s29 ?_)
              exact ⟨_, rfl, Ext.refl _, rfl⟩
            refine ⟨fun _ => ⟨fun f16 w23 hf14 xt19 hp14 => ?_, fun _ _ _ _ h => h⟩, ?_⟩
            ·
              have H30 := H15.ext xt19
              have s30 : f16 42 = .bool (decide (x0 < 0)) := hp14 5 rfl rfl
              have s31 : f16 50 = .bool (decide (((fromM (fxI h)).length : Int) ≤ x0)) := hp14 13 rfl rfl
              have tr14 : (decide (x0 < 0)) = false := (by obtain ⟨a1_, a2_, a3_⟩ := readsO_at hx0; exact decide_eq_false (by omega))
              refine pickF rfl rfl rfl s30 tr14 s31 ?_
              exact ⟨_, rfl, Ext.refl _, rfl⟩
            refine ⟨fun _ => ⟨fun f17 w24 hf15 xt20 hp15 => ?_, fun _ _ _ _ h => h⟩, ?_⟩
            ·
              have H31 := H15.ext xt20
              have s32 : f17 51 = .bool (decide (((fromM (fxI h)).length : Int) ≤ x0)) := hp15 14 rfl rfl
              refine mv rfl s32 ?_
              exact ⟨_, rfl, Ext.refl _, rfl⟩
            refine ⟨fun _ => ⟨fun f18 w25 hf16 xt21 hp16 => ?_, fun _ _ _ _ h => h⟩, ?_⟩
            ·
              have H32 := H15.ext xt21
              have s33 : f18 52 = .bool (decide (((fromM (fxI h)).length : Int) ≤ x0)) := hp16 15 rfl rfl
              have tr15 : (decide (((fromM (fxI h)).length : Int) ≤ x0)) = false := (by obtain ⟨a1_, a2_, a3_⟩ := readsO_at hx0; exact decide_eq_false (by omega))
              refine gy rfl rfl s33 tr15 (fa fl30_2 rfl ((hf16 5 rfl).trans s5) ?_)
              exact ⟨_, rfl, Ext.refl _, rfl⟩
            refine ⟨fun _ => ⟨fun f19 w26 hf17 xt22 hp17 => ?_, fun _ _ _ _ h => h⟩, ?_⟩
            ·
              have H33 := H15.ext xt22
              have s34 : f19 52 = .bool (decide (((fromM (fxI h)).length : Int) ≤ x0)) := hp17 15 rfl rfl
              have s35 : f19 53 = .pointer (some ⟨bb1, 2, none⟩) := hp17 16 rfl rfl
              have tr16 : (decide (((fromM (fxI h)).length : Int) ≤ x0)) = false := (by obtain ⟨a1_, a2_, a3_⟩ := readsO_at hx0; exact decide_eq_false (by omega))
              refine gy rfl rfl s34 tr16 (ldX H33 1 rfl ty28 rfl s35 (by decide) rfl ?_)
              exact ⟨_, rfl, Ext.refl _, rfl⟩
            refine ⟨fun _ => ⟨fun f20 w27 hf18 xt23 hp18 => ?_, fun _ _ _ _ h => h⟩, ?_⟩
            ·
              have H34 := H15.ext xt23
              have s36 : f20 52 = .bool (decide (((fromM (fxI h)).length : Int) ≤ x0)) := hp18 15 rfl rfl
              have tr17 : (decide (((fromM (fxI h)).length : Int) ≤ x0)) = false := (by obtain ⟨a1_, a2_, a3_⟩ := readsO_at hx0; exact decide_eq_false (by omega))
              refine gy rfl rfl s36 tr17 (mv rfl ((hf18 8 rfl).trans s8) ?_)
              exact ⟨_, rfl, Ext.refl _, rfl⟩
            refine ⟨fun _ => ⟨fun f21 w28 hf19 xt24 hp19 => ?_, fun _ _ _ _ h => h⟩, ?_⟩
            ·
              have H35 := H15.ext xt24
              have s37 : f21 52 = .bool (decide (((fromM (fxI h)).length : Int) ≤ x0)) := hp19 15 rfl rfl
              have tr18 : (decide (((fromM (fxI h)).length : Int) ≤ x0)) = false := (by obtain ⟨a1_, a2_, a3_⟩ := readsO_at hx0; exact decide_eq_false (by omega))
              refine gy rfl rfl s37 tr18 (mv rfl ((hf19 9 rfl).trans s9) ?_)
              exact ⟨_, rfl, Ext.refl _, rfl⟩
            refine ⟨fun _ => ⟨fun f22 w29 hf20 xt25 hp20 => ?_, by rintro _ _ _ x_ ⟨g5, e_, hv5, hA6⟩; exact ⟨g5, e_, hv5, hA6.ext x_⟩⟩, ?_⟩
            ·
              have H36 := H15.ext xt25
              have s38 : f22 52 = .bool (decide (((fromM (fxI h)).length : Int) ≤ x0)) := hp20 15 rfl rfl
              have s39 : f22 55 = .slice a6 (readsO (fromM (fxI h)) ((j : Int) - 3) (fromM (fxI h)).length).length c6 := hp20 18 rfl rfl
              have s40 : f22 56 = .int .i64 (q : Int) := hp20 19 rfl rfl
              have tr19 : (decide (((fromM (fxI h)).length : Int) ≤ x0)) = false := (by obtain ⟨a1_, a2_, a3_⟩ := readsO_at hx0; exact decide_eq_false (by omega))
              refine gy rfl rfl s38 tr19 (iaO (H36.at_ 0 rfl) rfl rfl s39 s40 (by first | omega | (simp; omega)) un28 ty3 ?_)
              intro g10 x10 hv10 hx10 hA12
              obtain rfl : x0 = x10 := Option.some.inj (hx0.symm.trans hx10)
              exact ⟨_, rfl, Ext.refl _, ⟨g10, rfl, hv10, hA12⟩⟩
            refine ⟨fun _ => ⟨fun f23 w30 hf21 xt26 hp21 => ?_, fun _ _ _ _ h => h⟩, ?_⟩
            ·
              have H37 := H15.ext xt26
              have s41 : f23 52 = .bool (decide (((fromM (fxI h)).length : Int) ≤ x0)) := hp21 15 rfl rfl
              obtain ⟨g11, s42, hv11, hA13⟩ : ∃ (g11 : Nat), f23 57 = .pointer (some ⟨g11, (q : Int).toNat * 1, none⟩) ∧ (.slice a6 (readsO (fromM (fxI h)) ((j : Int) - 3) (fromM (fxI h)).length).length c6 : Value).ownBlock = some g11 ∧ AtW (MS M [own w.heap.size 3 (.slice a6 (readsO (fromM (fxI h)) ((j : Int) - 3) (fromM (fxI h)).length).length c6) (readsO (fromM (fxI h)) ((j : Int) - 3) (fromM (fxI h)).length), box bb1 #[.slice a3 (fxV h).length c3, .slice a4 (fxI h).length c4, .slice a5 (fromM (fxI h)).length c5] 30, imm (.slice a5 (fromM (fxI h)).length c5) (fromM (fxI h)), imm (.slice a4 (fxI h).length c4) (fxI h), imm (.slice a3 (fxV h).length c3) (fxV h), box bb0 #[.slice a0 (fxV h).length c0, .slice a1 (fxI h).length c1, .slice a2 ([] : List Int).length c2] 30, imm (.slice a2 ([] : List Int).length c2) ([] : List Int), imm (.slice a1 (fxI h).length c1) (fxI h), imm (.slice a0 (fxV h).length c0) (fxV h), imm (.slice a_h h.length c_h) h]) w30 ⟨g11, (q : Int).toNat * 1, none⟩ x0 := hp21 20 rfl rfl
              have tr20 : (decide (((fromM (fxI h)).length : Int) ≤ x0)) = false := (by obtain ⟨a1_, a2_, a3_⟩ := readsO_at hx0; exact decide_eq_false (by omega))
              refine gy rfl rfl s41 tr20 (ldI hA13 ty3 rfl s42 ?_)
              intro rv19
              exact ⟨_, rfl, Ext.refl _, ⟨rfl, rv19⟩⟩
            refine ⟨fun _ => ⟨fun f24 w31 hf22 xt27 hp22 => ?_, by rintro _ _ _ x_ ⟨ad1, e_, hA7⟩; exact ⟨ad1, e_, hA7.lift (Up.ext x_)⟩⟩, ?_⟩
            ·
              have H38 := H15.ext xt27
              have s43 : f24 52 = .bool (decide (((fromM (fxI h)).length : Int) ≤ x0)) := hp22 15 rfl rfl
              have s44 : f24 54 = .slice a5 (fromM (fxI h)).length c5 := hp22 17 rfl rfl
              obtain ⟨s45, rv20⟩ : f24 58 = .int .i64 x0 ∧ I64 (x0) := hp22 21 rfl rfl
              have tr21 : (decide (((fromM (fxI h)).length : Int) ≤ x0)) = false := (by obtain ⟨a1_, a2_, a3_⟩ := readsO_at hx0; exact decide_eq_false (by omega))
              refine gy rfl rfl s43 tr21 (ia (H38.rv 2 rfl) rfl rfl s44 s45 (by first | (obtain ⟨a1_, a2_, a3_⟩ := readsO_at hx0; omega) | (obtain ⟨a1_, a2_, a3_⟩ := readsO_at hx1; omega) | (obtain ⟨a1_, a2_, a3_⟩ := readsO_at hx2; omega) | (obtain ⟨a1_, a2_, a3_⟩ := readsO_at hx3; omega)) un28 ty3 ?_)
              intro ad2 x11 hx11 hA14
              obtain rfl : x3 = x11 := Option.some.inj (hx3.symm.trans hx11)
              exact ⟨_, rfl, Ext.refl _, ⟨ad2, rfl, hA14⟩⟩
            refine ⟨fun _ => ⟨fun f25 w32 hf23 xt28 hp23 => ?_, fun _ _ _ _ h => h⟩, ?_⟩
            ·
              have H39 := H15.ext xt28
              have s46 : f25 52 = .bool (decide (((fromM (fxI h)).length : Int) ≤ x0)) := hp23 15 rfl rfl
              obtain ⟨ad3, s47, hA15⟩ : ∃ (ad3 : Addr), f25 59 = .pointer (some ad3) ∧ At (MS M [own w.heap.size 3 (.slice a6 (readsO (fromM (fxI h)) ((j : Int) - 3) (fromM (fxI h)).length).length c6) (readsO (fromM (fxI h)) ((j : Int) - 3) (fromM (fxI h)).length), box bb1 #[.slice a3 (fxV h).length c3, .slice a4 (fxI h).length c4, .slice a5 (fromM (fxI h)).length c5] 30, imm (.slice a5 (fromM (fxI h)).length c5) (fromM (fxI h)), imm (.slice a4 (fxI h).length c4) (fxI h), imm (.slice a3 (fxV h).length c3) (fxV h), box bb0 #[.slice a0 (fxV h).length c0, .slice a1 (fxI h).length c1, .slice a2 ([] : List Int).length c2] 30, imm (.slice a2 ([] : List Int).length c2) ([] : List Int), imm (.slice a1 (fxI h).length c1) (fxI h), imm (.slice a0 (fxV h).length c0) (fxV h), imm (.slice a_h h.length c_h) h]) w32 ad3 x3 := hp23 22 rfl rfl
              have H40 := H39.put (it := atI ad3 x3) rfl hA15
              have tr22 : (decide (((fromM (fxI h)).length : Int) ≤ x0)) = false := (by obtain ⟨a1_, a2_, a3_⟩ := readsO_at hx0; exact decide_eq_false (by omega))
              refine gy rfl rfl s46 tr22 (ldI (H40.atv 0 rfl).w ty3 rfl s47 ?_)
              intro rv21
              exact ⟨_, rfl, Ext.refl _, ⟨rfl, rv21⟩⟩
            refine ⟨fun _ => ⟨fun f26 w33 hf24 xt29 hp24 => ?_, fun _ _ _ _ h => h⟩, ?_⟩
            ·
              have H41 := H15.ext xt29
              have s48 : f26 52 = .bool (decide (((fromM (fxI h)).length : Int) ≤ x0)) := hp24 15 rfl rfl
              have tr23 : (decide (((fromM (fxI h)).length : Int) ≤ x0)) = false := (by obtain ⟨a1_, a2_, a3_⟩ := readsO_at hx0; exact decide_eq_false (by omega))
              refine gy rfl rfl s48 tr23 (mv rfl ((hf24 7 rfl).trans s7) ?_)
              exact ⟨_, rfl, Ext.refl _, rfl⟩
            refine ⟨fun _ => ⟨fun f27 w34 hf25 xt30 hp25 => ?_, fun _ _ _ _ h => h⟩, ?_⟩
            ·
              have H42 := H15.ext xt30
              have s49 : f27 52 = .bool (decide (((fromM (fxI h)).length : Int) ≤ x0)) := hp25 15 rfl rfl
              obtain ⟨s50, rv22⟩ : f27 60 = .int .i64 x3 ∧ I64 (x3) := hp25 23 rfl rfl
              have s51 : f27 61 = .int .i64 ((j : Int) - 3) := hp25 24 rfl rfl
              have tr24 : (decide (((fromM (fxI h)).length : Int) ≤ x0)) = false := (by obtain ⟨a1_, a2_, a3_⟩ := readsO_at hx0; exact decide_eq_false (by omega))
              refine gy rfl rfl s49 tr24 (neq rfl rfl s50 s51 ?_)
              exact ⟨_, rfl, Ext.refl _, rfl⟩
            refine ⟨fun _ => ⟨fun f28 w35 hf26 xt31 hp26 => ?_, fun _ _ _ _ h => h⟩, ?_⟩
            ·
              have H43 := H15.ext xt31
              have s52 : f28 52 = .bool (decide (((fromM (fxI h)).length : Int) ≤ x0)) := hp26 15 rfl rfl
              have s53 : f28 62 = .bool (!decide (x3 = ((j : Int) - 3))) := hp26 25 rfl rfl
              have tr25 : (decide (((fromM (fxI h)).length : Int) ≤ x0)) = false := (by obtain ⟨a1_, a2_, a3_⟩ := readsO_at hx0; exact decide_eq_false (by omega))
              refine pickF rfl rfl rfl s52 tr25 s53 ?_
              exact ⟨_, rfl, Ext.refl _, rfl⟩
            refine ⟨fun _ => ⟨fun f29 w36 hf27 xt32 hp27 => ?_, fun _ _ _ _ h => h⟩, ?_⟩
            ·
              have H44 := H15.ext xt32
              have s54 : f29 63 = .bool (!decide (x3 = ((j : Int) - 3))) := hp27 26 rfl rfl
              refine mv rfl s54 ?_
              exact ⟨_, rfl, Ext.refl _, rfl⟩
            refine ⟨fun _ => ⟨fun f30 w37 hf28 xt33 hp28 => ?_, fun _ _ _ _ h => h⟩, ?_⟩
            ·
              have H45 := H15.ext xt33
              have s55 : f30 64 = .bool (!decide (x3 = ((j : Int) - 3))) := hp28 27 rfl rfl
              have tr26 : (decide (x3 = ((j : Int) - 3))) = true := (by obtain ⟨a1_, a2_, a3_⟩ := readsO_at hx0; have e_ := at_is hx3 a3_; exact decide_eq_true e_)
              refine gy rfl rfl s55 (by rw [show (decide (x3 = ((j : Int) - 3))) = true from tr26]; rfl) (mv rfl ((hf28 9 rfl).trans s9) ?_)
              exact ⟨_, rfl, Ext.refl _, rfl⟩
            refine ⟨fun _ => ⟨fun f31 w38 hf29 xt34 hp29 => ?_, fun _ _ _ _ h => h⟩, ?_⟩
            ·
              have H46 := H15.ext xt34
              have s56 : f31 64 = .bool (!decide (x3 = ((j : Int) - 3))) := hp29 27 rfl rfl
              have s57 : f31 65 = .int .i64 (q : Int) := hp29 28 rfl rfl
              have tr27 : (decide (x3 = ((j : Int) - 3))) = true := (by obtain ⟨a1_, a2_, a3_⟩ := readsO_at hx0; have e_ := at_is hx3 a3_; exact decide_eq_true e_)
              refine gy rfl rfl s56 (by rw [show (decide (x3 = ((j : Int) - 3))) = true from tr27]; rfl) (gtr rfl rfl s57 rfl ?_)
              exact ⟨_, rfl, Ext.refl _, rfl⟩
            refine ⟨fun _ => ⟨fun f32 w39 hf30 xt35 hp30 => ?_, fun _ _ _ _ h => h⟩, ?_⟩
            ·
              have H47 := H15.ext xt35
              have s58 : f32 64 = .bool (!decide (x3 = ((j : Int) - 3))) := hp30 27 rfl rfl
              have s59 : f32 66 = .bool (decide (0 < (q : Int))) := hp30 29 rfl rfl
              have tr28 : (decide (x3 = ((j : Int) - 3))) = true := (by obtain ⟨a1_, a2_, a3_⟩ := readsO_at hx0; have e_ := at_is hx3 a3_; exact decide_eq_true e_)
              refine gy rfl rfl s58 (by rw [show (decide (x3 = ((j : Int) - 3))) = true from tr28]; rfl) (mv rfl s59 ?_)
              exact ⟨_, rfl, Ext.refl _, rfl⟩
            refine ⟨fun _ => ⟨fun f33 w40 hf31 xt36 hp31 => ?_, fun _ _ _ _ h => h⟩, ?_⟩
            ·
              have H48 := H15.ext xt36
              have s60 : f33 67 = .bool (decide (0 < (q : Int))) := hp31 30 rfl rfl
              refine gn rfl rfl s60 b3 ?_
              exact ⟨_, rfl, Ext.refl _, rfl⟩
            refine ⟨fun _ => ⟨fun f34 w41 hf32 xt37 hp32 => ?_, fun _ _ _ _ h => h⟩, ?_⟩
            ·
              have H49 := H15.ext xt37
              have s61 : f34 67 = .bool (decide (0 < (q : Int))) := hp32 30 rfl rfl
              refine gn rfl rfl s61 b3 ?_
              exact ⟨_, rfl, Ext.refl _, rfl⟩
            refine ⟨fun _ => ⟨fun f35 w42 hf33 xt38 hp33 => ?_, fun _ _ _ _ h => h⟩, ?_⟩
            ·
              have H50 := H15.ext xt38
              have s62 : f35 67 = .bool (decide (0 < (q : Int))) := hp33 30 rfl rfl
              have s63 : f35 68 = undef := hp33 31 rfl rfl
              have s64 : f35 69 = undef := hp33 32 rfl rfl
              refine gn rfl rfl s62 b3 ?_
              exact ⟨_, rfl, Ext.refl _, rfl⟩
            refine ⟨fun _ => ⟨fun f36 w43 hf34 xt39 hp34 => ?_, fun _ _ _ _ h => h⟩, ?_⟩
            ·
              have H51 := H15.ext xt39
              have s65 : f36 67 = .bool (decide (0 < (q : Int))) := hp34 30 rfl rfl
              have s66 : f36 70 = undef := hp34 33 rfl rfl
              refine gn rfl rfl s65 b3 ?_
              exact ⟨_, rfl, Ext.refl _, rfl⟩
            refine ⟨fun _ => ⟨fun f37 w44 hf35 xt40 hp35 => ?_, fun _ _ _ _ h => h⟩, ?_⟩
            ·
              have H52 := H15.ext xt40
              have s67 : f37 67 = .bool (decide (0 < (q : Int))) := hp35 30 rfl rfl
              refine gn rfl rfl s67 b3 ?_
              exact ⟨_, rfl, Ext.refl _, rfl⟩
            refine ⟨fun _ => ⟨fun f38 w45 hf36 xt41 hp36 => ?_, fun _ _ _ _ h => h⟩, ?_⟩
            ·
              have H53 := H15.ext xt41
              have s68 : f38 67 = .bool (decide (0 < (q : Int))) := hp36 30 rfl rfl
              refine gn rfl rfl s68 b3 ?_
              exact ⟨_, rfl, Ext.refl _, rfl⟩
            refine ⟨fun _ => ⟨fun f39 w46 hf37 xt42 hp37 => ?_, fun _ _ _ _ h => h⟩, ?_⟩
            ·
              have H54 := H15.ext xt42
              have s69 : f39 67 = .bool (decide (0 < (q : Int))) := hp37 30 rfl rfl
              have s70 : f39 73 = undef := hp37 36 rfl rfl
              refine gn rfl rfl s69 b3 ?_
              exact ⟨_, rfl, Ext.refl _, rfl⟩
            refine ⟨fun _ => ⟨fun f40 w47 hf38 xt43 hp38 => ?_, fun _ _ _ _ h => h⟩, ?_⟩
            ·
              have H55 := H15.ext xt43
              have s71 : f40 67 = .bool (decide (0 < (q : Int))) := hp38 30 rfl rfl
              have s72 : f40 72 = undef := hp38 35 rfl rfl
              have s73 : f40 74 = undef := hp38 37 rfl rfl
              refine gn rfl rfl s71 b3 ?_
              exact ⟨_, rfl, Ext.refl _, rfl⟩
            refine ⟨fun _ => ⟨fun f41 w48 hf39 xt44 hp39 => ?_, fun _ _ _ _ h => h⟩, ?_⟩
            ·
              have H56 := H15.ext xt44
              have s74 : f41 67 = .bool (decide (0 < (q : Int))) := hp39 30 rfl rfl
              have s75 : f41 75 = undef := hp39 38 rfl rfl
              refine gn rfl rfl s74 b3 ?_
              exact ⟨_, rfl, Ext.refl _, rfl⟩
            exact DSteps.rest rfl _
          · intro f42 w49 hf40 xt45 hp40
            have H57 := H15.ext xt45
            have s76 : f42 3 = .pointer (some ⟨bb0, 0, none⟩) := (hf40 3 rfl).trans s4
            have s77 : f42 5 = .pointer (some ⟨bb1, 0, none⟩) := (hf40 5 rfl).trans s5
            have s78 : f42 6 = .int .i64 ((cntB (fromM (fxI h)) ((j : Int) - 3) : Nat) : Int) := (hf40 6 rfl).trans s6
            have s79 : f42 7 = .int .i64 ((j : Int) - 3) := (hf40 7 rfl).trans s7
            have s80 : f42 8 = .slice a6 (readsO (fromM (fxI h)) ((j : Int) - 3) (fromM (fxI h)).length).length c6 := (hf40 8 rfl).trans s8
            have s81 : f42 9 = .int .i64 (q : Int) := (hf40 9 rfl).trans s9
            have s82 : f42 64 = .bool (!decide (x3 = ((j : Int) - 3))) := hp40 27 rfl
            have s83 : f42 67 = .bool (decide (0 < (q : Int))) := hp40 30 rfl
            have s84 : f42 71 = undef := hp40 34 rfl
            have s85 : f42 76 = undef := hp40 39 rfl
            refine k (gn rfl rfl s83 b3 ?_)
            have tr29 : (decide (x3 = ((j : Int) - 3))) = true := (by obtain ⟨a1_, a2_, a3_⟩ := readsO_at hx0; have e_ := at_is hx3 a3_; exact decide_eq_true e_)
            refine k (gy rfl rfl s82 (by rw [show (decide (x3 = ((j : Int) - 3))) = true from tr29]; rfl) (pickF rfl rfl rfl s83 b3 rfl (k (pickF rfl rfl rfl s82 (by rw [show (decide (x3 = ((j : Int) - 3))) = true from tr29]; rfl) rfl (z (nx (cdF rfl rfl rfl (sk (inb_normal (nx (rg (k (mv rfl s81 (k (add rfl rfl rfl rfl (by unfold I64 at *; omega) (k (asg (v := .int .i64 ((q : Int) + 1)) rfl rfl (z ?_))))))))))))))))))
            refine loopN _ ?_ ⟨(q + 1), rfl, s76, s77, s78, s79, s80, (ieq rfl (by first | rfl | omega | (push_cast; omega))), H57, (by first | assumption | omega | simp | (simp; omega))⟩
            omega
      ·
        have p2 := of_decide_eq_false b2
        refine ex (then_exit (loop_exit (inb_here (nx (rg (k (mv rfl s6 (k (mv rfl s8 (k (lnS rfl rfl un28 (k (add rfl rfl rfl rfl (by have h1_ := cntB_le (fromM (fxI h)) ((j : Int) - 3); have h2_ := readsO_len (fromM (fxI h)) ((j : Int) - 3) (fromM (fxI h)).length; first | (unfold I64; omega) | (have h3_ := posTo_le (fromM (fxI h)) i; unfold I64; omega)) (k (asg (v := .int .i64 (((cntB (fromM (fxI h)) ((j : Int) - 3) : Nat) : Int) + ((readsO (fromM (fxI h)) ((j : Int) - 3) (fromM (fxI h)).length).length : Int))) rfl rfl (z (inb_normal (nx (rg (k (mv rfl s7 (k (add rfl rfl rfl rfl (by unfold I64 at *; omega) (k (asg (v := .int .i64 (((j : Int) - 3) + 1)) rfl rfl (z ?_))))))))))))))))))))))))))
        have H16 : HI M w w8 [box bb1 #[.slice a3 (fxV h).length c3, .slice a4 (fxI h).length c4, .slice a5 (fromM (fxI h)).length c5] 30, imm (.slice a5 (fromM (fxI h)).length c5) (fromM (fxI h)), imm (.slice a4 (fxI h).length c4) (fxI h), imm (.slice a3 (fxV h).length c3) (fxV h), box bb0 #[.slice a0 (fxV h).length c0, .slice a1 (fxI h).length c1, .slice a2 ([] : List Int).length c2] 30, imm (.slice a2 ([] : List Int).length c2) ([] : List Int), imm (.slice a1 (fxI h).length c1) (fxI h), imm (.slice a0 (fxV h).length c0) (fxV h), imm (.slice a_h h.length c_h) h] := H15.pickN [1, 2, 3, 4, 5, 6, 7, 8, 9] (by decide) rfl
        refine loopN _ ?_ ⟨(j + 1), rfl, s4, s5, (ieq rfl (by first | omega | (have h_ := cntB_step (fromM (fxI h)) ((j : Int) - 3); rw [show (((j + 1 : Nat) : Nat) : Int) - 3 = ((j : Int) - 3) + 1 from by omega]; omega))), (ieq rfl (by first | omega | (have h_ := cntB_step (fromM (fxI h)) ((j : Int) - 3); rw [show (((j + 1 : Nat) : Nat) : Int) - 3 = ((j : Int) - 3) + 1 from by omega]; omega))), H16, (by first | assumption | omega | simp | (simp; omega))⟩
        omega
    ·
      have p1 := of_decide_eq_false b1
      refine ex (then_exit (loop_exit (inb_here (nx (sq (sq (rg (k (asg (v := .int .i64 0) rfl rfl (z (nx (bk ?_))))))))))))
      refine lp (fun m f w' => ∃ (i : Nat), m = (fromM (fxI h)).length - i ∧ f 5 = .pointer (some ⟨bb1, 0, none⟩) ∧ f 6 = .int .i64 (((cntB (fromM (fxI h)) ((j : Int) - 3) : Nat) : Int) - ((posTo (fromM (fxI h)) i : Nat) : Int)) ∧ f 10 = .int .i64 (i : Int) ∧  HI M w w' [box bb1 #[.slice a3 (fxV h).length c3, .slice a4 (fxI h).length c4, .slice a5 (fromM (fxI h)).length c5] 30, imm (.slice a5 (fromM (fxI h)).length c5) (fromM (fxI h)), imm (.slice a4 (fxI h).length c4) (fxI h), imm (.slice a3 (fxV h).length c3) (fxV h), box bb0 #[.slice a0 (fxV h).length c0, .slice a1 (fxI h).length c1, .slice a2 ([] : List Int).length c2] 30, imm (.slice a2 ([] : List Int).length c2) ([] : List Int), imm (.slice a1 (fxI h).length c1) (fxI h), imm (.slice a0 (fxV h).length c0) (fxV h), imm (.slice a_h h.length c_h) h] ∧ (i ≤ (fromM (fxI h)).length)) _ ⟨0, rfl, s1, (ieq s2 (by first | rfl | (unfold posTo; simp) | omega)), (ieq rfl (by first | rfl | (unfold posTo; simp) | omega)), H13, (by first | assumption | omega | simp | (simp; omega))⟩ ?_
      rintro _ f1 w7 ⟨i, rfl, s4, s5, s6, H14, hi_⟩
      refine sq (sq (rg (k (mv rfl s6 (k (fa fl30_2 rfl s4 (k (ldX H14 0 rfl ty28 rfl rfl (by decide) rfl (k (lnS rfl rfl un28 (k (lss rfl rfl rfl rfl (z (nx ?_))))))))))))))
      refine cd (b := decide ((i : Int) < ((fromM (fxI h)).length : Int))) rfl rfl (fun b2 => ?_) (fun b2 => ?_)
      ·
        have p2 := of_decide_eq_true b2
        refine sk (nx (sq (bk (sq (rg (k (fa fl30_2 rfl s4 (k (ldX H14 0 rfl ty28 rfl rfl (by decide) rfl (k (mv rfl s6 (k (ia (H14.rv 1 rfl) rfl rfl rfl rfl (by first | omega | (simp; omega)) un28 ty3 ?_)))))))))))))
        intro ad0 x0 hx0 hA0
        refine k (ldI hA0.w ty3 rfl rfl ?_)
        intro rv6
        refine k (geq rfl rfl rfl rfl (z (nx ?_)))
        refine cd (b := decide (0 ≤ x0)) rfl rfl (fun b3 => ?_) (fun b3 => ?_)
        ·
          have p3 := of_decide_eq_true b3
          refine rg (k (mv rfl s5 (k (sub rfl rfl rfl rfl (by have h1_ := cntB_le (fromM (fxI h)) ((j : Int) - 3); have h2_ := readsO_len (fromM (fxI h)) ((j : Int) - 3) (fromM (fxI h)).length; first | (unfold I64; omega) | (have h3_ := posTo_le (fromM (fxI h)) i; unfold I64; omega)) (k (asg (v := .int .i64 ((((cntB (fromM (fxI h)) ((j : Int) - 3) : Nat) : Int) - ((posTo (fromM (fxI h)) i : Nat) : Int)) - 1)) rfl rfl (z (inb_normal (nx (rg (k (mv rfl s6 (k (add rfl rfl rfl rfl (by unfold I64 at *; omega) (k (asg (v := .int .i64 ((i : Int) + 1)) rfl rfl (z ?_)))))))))))))))))
          refine loopN _ ?_ ⟨(i + 1), rfl, s4, (ieq rfl (by first | omega | (rw [posTo_yes hx0 ‹(0 : Int) ≤ x0›]; omega) | (rw [posTo_no hx0 ‹¬ (0 : Int) ≤ x0›]))), (ieq rfl (by first | omega | (rw [posTo_yes hx0 ‹(0 : Int) ≤ x0›]; omega) | (rw [posTo_no hx0 ‹¬ (0 : Int) ≤ x0›]))), H14, (by first | assumption | omega | simp | (simp; omega))⟩
          omega
        ·
          have p3 := of_decide_eq_false b3
          refine sk (inb_normal (nx (rg (k (mv rfl s6 (k (add rfl rfl rfl rfl (by unfold I64 at *; omega) (k (asg (v := .int .i64 ((i : Int) + 1)) rfl rfl (z ?_))))))))))
          refine loopN _ ?_ ⟨(i + 1), rfl, s4, (ieq s5 (by first | omega | (rw [posTo_yes hx0 ‹(0 : Int) ≤ x0›]; omega) | (rw [posTo_no hx0 ‹¬ (0 : Int) ≤ x0›]))), (ieq rfl (by first | omega | (rw [posTo_yes hx0 ‹(0 : Int) ≤ x0›]; omega) | (rw [posTo_no hx0 ‹¬ (0 : Int) ≤ x0›]))), H14, (by first | assumption | omega | simp | (simp; omega))⟩
          omega
      ·
        have p2 := of_decide_eq_false b2
        refine ex (then_exit (loop_exit (inb_here (nx (sq (rg (k ?_)))))))
        have cc2 := awake11 (w := w7)
        refine ca go21 rfl e0 cc2 ?_
        rintro _ w8 ⟨rfl, xt4⟩
        have H15 := H14.ext xt4
        refine k (mv (v := .bool true) rfl rfl (k (gy rfl rfl rfl rfl (mv rfl s5 (k (gy rfl rfl rfl rfl (eql rfl rfl rfl rfl (k (pickT rfl rfl rfl rfl rfl rfl (k (asg (v := .bool (decide ((((cntB (fromM (fxI h)) ((j : Int) - 3) : Nat) : Int) - ((posTo (fromM (fxI h)) i : Nat) : Int)) = 0))) rfl rfl (z (nx (rt (r1 rfl rfl ?_)))))))))))))))
        have tr0 : (decide ((((cntB (fromM (fxI h)) ((j : Int) - 3) : Nat) : Int) - ((posTo (fromM (fxI h)) i : Nat) : Int)) = 0)) = true := (by rw [fx_from hk_]; exact decide_eq_true (once_end (by omega) (by rw [fromR_len]; omega)))
        have e0 : (decide ((((cntB (fromM (fxI h)) ((j : Int) - 3) : Nat) : Int) - ((posTo (fromM (fxI h)) i : Nat) : Int)) = 0) : Bool) = true := by exact tr0
        have ev_ := cg1 (fun (x_0 : Bool) => (.bool x_0 : Value)) e0
        exact ⟨ev_, H15.below⟩
end Go.Proofs.Ytmliihgaoaolmaa
