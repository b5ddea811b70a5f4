/- PRINTED by my own tool (wip/tool/gen.py): contracts of Go functions of this seat, each with its proof. -/
import Derived.Test.YtmliihgaoaolmaaR03L11A
import Derived.Test.YtmliihgaoaolmaaR03Orig
import Derived.Test.YtmliihgaoaolmaaR03Fns
import Derived.Test.YtmliihgaoaolmaaEngV
import Derived.Test.YtmliihgaoaolmaaEwSpecO
namespace Go.Proofs.Ytmliihgaoaolmaa
open Go.Ew Go.RowKit
set_option linter.unusedVariables false
set_option linter.unusedSimpArgs false
attribute [local irreducible] WL WC SO Code.wp wpList retQ Ret
attribute [local irreducible] bitB hasW inR hasR setR countW countR subR words newR listR orR firstW tab8
theorem go20 : GoF Try.prog 20 := ⟨_, _, Try.func20, rfl, by kernel_rfl⟩
theorem go21 : GoF Try.prog 21 := ⟨_, _, Try.func21, rfl, by kernel_rfl⟩
theorem un4 : Try.prog.underlying 4 = some (.bool) := by kernel_rfl
/- eyewitness/eyewitnesslaw11.OriginReads -/
set_option maxRecDepth 100000 in
set_option maxHeartbeats 1600000 in
theorem law_OriginReads {M : Nat → Prop} {w : World} {a_h : Option Addr} {c_h : Nat} {h : List (List (Bool × ByteArray × Int))} (hM : ∀ b, M b → b < w.heap.size) (h_h : RV M w (.slice a_h h.length c_h) h) (hb_h : h.flatten.length ≤ 1048576) : Calls Try.prog 7 #[.slice a_h h.length c_h] w (Ret fun v w' =>  v = .bool true ∧ Ext w w') := by
  refine enter 152 Try.func7 rfl rfl rfl fun f0 ha => ?_
  have H := HI.start (M0 := M) (w := w) hM
  have H0 := H.put (it := imm (.slice a_h h.length c_h) h) rfl (by rw [MS_nil]; exact h_h)
  have ln_h := rv_len h_h
  have i0 : f0 0 = .slice a_h h.length c_h := ha 0 (by simp)
  refine sq (rg (k (asg (v := .bool false) rfl rfl (z (nx (sq (rg (k (mv rfl i0 (k ?_))))))))))
  have cc0 := law11_facts (h := h) (w := w) H0.mb (H0.rv 0 rfl) (by first | assumption | decide +kernel)
  refine ca go20 rfl (ec rfl e0) cc0 ?_
  rintro _ w0 ⟨a0, c0, a1, c1, a2, c2, rfl, xt0, rv0, rv1, rv2⟩
  have H1 := H0.ext xt0
  have H2 := H1.put (it := imm (.slice a0 (fxV h).length c0) (fxV h)) rfl rv0
  have H3 := H2.put (it := imm (.slice a1 (fxI h).length c1) (fxI h)) rfl (by rw [MS_cons_none rfl]; exact rv1)
  have H4 := H3.put (it := imm (.slice a2 ([] : List Int).length c2) ([] : List Int)) rfl (by rw [MS_cons_none rfl, MS_cons_none rfl]; exact rv2)
  refine k (mv (v := .tuple #[.agg #[.slice a0 (fxV h).length c0, .slice a1 (fxI h).length c1, .slice a2 ([] : List Int).length c2], .bool (fOk h)]) rfl rfl (k (xt rfl rfl rfl (k (xt rfl rfl rfl (k (al H4 ty30 ?_)))))))
  intro bb0 w1 xt1 (H5 : HI M w w1 [box bb0 #[.slice none 0 0, .slice none 0 0, .slice none 0 0] 30, imm (.slice a2 ([] : List Int).length c2) ([] : List Int), imm (.slice a1 (fxI h).length c1) (fxI h), imm (.slice a0 (fxV h).length c0) (fxV h), imm (.slice a_h h.length c_h) h])
  refine k (stX H5 0 rfl ty30 rfl rfl rfl rfl rfl rfl rfl ?_)
  intro w2 (H6 : HI M w w2 [box bb0 #[.slice a0 (fxV h).length c0, .slice a1 (fxI h).length c1, .slice a2 ([] : List Int).length c2] 30, imm (.slice a2 ([] : List Int).length c2) ([] : List Int), imm (.slice a1 (fxI h).length c1) (fxI h), imm (.slice a0 (fxV h).length c0) (fxV h), imm (.slice a_h h.length c_h) h])
  refine k (asg (v := .bool (fOk h)) rfl rfl (z (nx (sq (sq (rg (k (mv (v := .bool (fOk h)) rfl rfl (k (not_ rfl rfl (z (nx ?_))))))))))))
  refine cd (b := !(fOk h)) rfl rfl (fun b0 => ?_) (fun b0 => ?_)
  ·
    refine sq (rg (k ?_))
    have cc1 := awake11 (w := w2)
    refine ca go21 rfl e0 cc1 ?_
    rintro _ w3 ⟨rfl, xt2⟩
    have H7 := H6.ext xt2
    refine k (asg (v := .bool true) rfl rfl (z (nx (rt (then_ret (r1 rfl rfl ?_))))))
    exact ⟨rfl, H7.below⟩
  ·
    refine sk (nx (sq ?_))
    have hk_ : fOk h = true := by simpa using ‹(!fOk h) = false›
    have hl_ := fxI_len h
    have hm_ := fromM_len (fxI h)
    refine rg (k (ldX H6 0 rfl ty30 rfl rfl (by decide) rfl (k ?_)))
    have cc1 := origin_Fill (fv := (fxV h)) (fi := (fxI h)) (fo := ([] : List Int)) (w := w2) H6.mb (H6.rv 3 rfl) (H6.rv 2 rfl) (H6.rv 1 rfl) (by omega)
    refine ca go22 rfl (ec rfl e0) cc1 ?_
    rintro _ w3 ⟨a3, c3, a4, c4, a5, c5, rfl, xt2, rv3, rv4, rv5⟩
    have H7 := H6.ext xt2
    have H8 := H7.put (it := imm (.slice a3 (fxV h).length c3) (fxV h)) rfl rv3
    have H9 := H8.put (it := imm (.slice a4 (fxI h).length c4) (fxI h)) rfl (by rw [MS_cons_none rfl]; exact rv4)
    have H10 := H9.put (it := imm (.slice a5 (fromM (fxI h)).length c5) (fromM (fxI h))) rfl (by rw [MS_cons_none rfl, MS_cons_none rfl]; exact rv5)
    refine k (al H10 ty30 ?_)
    intro bb1 w4 xt3 (H11 : HI M w w4 [box bb1 #[.slice none 0 0, .slice none 0 0, .slice none 0 0] 30, imm (.slice a5 (fromM (fxI h)).length c5) (fromM (fxI h)), imm (.slice a4 (fxI h).length c4) (fxI h), imm (.slice a3 (fxV h).length c3) (fxV h), box bb0 #[.slice a0 (fxV h).length c0, .slice a1 (fxI h).length c1, .slice a2 ([] : List Int).length c2] 30, imm (.slice a2 ([] : List Int).length c2) ([] : List Int), imm (.slice a1 (fxI h).length c1) (fxI h), imm (.slice a0 (fxV h).length c0) (fxV h), imm (.slice a_h h.length c_h) h])
    refine k (stX H11 0 rfl ty30 rfl rfl rfl rfl rfl rfl rfl ?_)
    intro w5 (H12 : HI M w w5 [box bb1 #[.slice a3 (fxV h).length c3, .slice a4 (fxI h).length c4, .slice a5 (fromM (fxI h)).length c5] 30, imm (.slice a5 (fromM (fxI h)).length c5) (fromM (fxI h)), imm (.slice a4 (fxI h).length c4) (fxI h), imm (.slice a3 (fxV h).length c3) (fxV h), box bb0 #[.slice a0 (fxV h).length c0, .slice a1 (fxI h).length c1, .slice a2 ([] : List Int).length c2] 30, imm (.slice a2 ([] : List Int).length c2) ([] : List Int), imm (.slice a1 (fxI h).length c1) (fxI h), imm (.slice a0 (fxV h).length c0) (fxV h), imm (.slice a_h h.length c_h) h])
    refine z (nx (sq (sq (rg (k (fa fl30_2 rfl rfl (k (ldX H12 0 rfl ty28 rfl rfl (by decide) rfl (k (lnS rfl rfl un28 (k (fa fl30_1 rfl rfl (k (ldX H12 4 rfl ty27 rfl rfl (by decide) rfl (k (lnS rfl rfl un27 (k (neq rfl rfl rfl rfl (k (mv (v := .bool (!decide (((fromM (fxI h)).length : Int) = ((fxI h).length : Int)))) rfl rfl ?_))))))))))))))))))))
    have tr0 : (decide (((fromM (fxI h)).length : Int) = ((fxI h).length : Int))) = true := (by rw [fromM_len]; simp)
    refine k (gy rfl rfl rfl (by rw [show (decide (((fromM (fxI h)).length : Int) = ((fxI h).length : Int))) = true from tr0]; rfl) (ldX H12 0 rfl ty30 rfl rfl (by decide) rfl (k (gy rfl rfl rfl (by rw [show (decide (((fromM (fxI h)).length : Int) = ((fxI h).length : Int))) = true from tr0]; rfl) ?_))))
    have cc2 := origin_Whole (fi := (fxI h)) (fo := (fromM (fxI h))) (a_fv := a3) (n_fv := (fxV h).length) (c_fv := c3) (w := w5) H12.mb (H12.rv 2 rfl) (H12.rv 1 rfl) (by omega)
    refine ca go25 rfl (ec rfl e0) cc2 ?_
    rintro _ w6 ⟨rfl, xt4⟩
    have H13 := H12.ext xt4
    refine k (gy rfl rfl rfl (by rw [show (decide (((fromM (fxI h)).length : Int) = ((fxI h).length : Int))) = true from tr0]; rfl) (not_ rfl rfl (k (pickF rfl rfl rfl rfl (by rw [show (decide (((fromM (fxI h)).length : Int) = ((fxI h).length : Int))) = true from tr0]; rfl) rfl (z (nx ?_))))))
    have tr1 : (decide ((fromM (fxI h)) = fromM (fxI h))) = true := (by simp)
    refine cdF rfl rfl (by rw [show (decide ((fromM (fxI h)) = fromM (fxI h))) = true from tr1]; rfl) (sk (nx (sq (sq (rg (k (asg (v := .int .i64 0) rfl rfl (z (nx (bk ?_))))))))))
    refine lp (fun m f w' => ∃ (j : Nat), m = (fxI h).length - j ∧ f 3 = .pointer (some ⟨bb0, 0, none⟩) ∧ f 5 = .pointer (some ⟨bb1, 0, none⟩) ∧ f 6 = .int .i64 (j : Int) ∧  HI M w w' [box bb1 #[.slice a3 (fxV h).length c3, .slice a4 (fxI h).length c4, .slice a5 (fromM (fxI h)).length c5] 30, imm (.slice a5 (fromM (fxI h)).length c5) (fromM (fxI h)), imm (.slice a4 (fxI h).length c4) (fxI h), imm (.slice a3 (fxV h).length c3) (fxV h), box bb0 #[.slice a0 (fxV h).length c0, .slice a1 (fxI h).length c1, .slice a2 ([] : List Int).length c2] 30, imm (.slice a2 ([] : List Int).length c2) ([] : List Int), imm (.slice a1 (fxI h).length c1) (fxI h), imm (.slice a0 (fxV h).length c0) (fxV h), imm (.slice a_h h.length c_h) h] ∧ (j ≤ (fxI h).length)) _ ⟨0, rfl, rfl, rfl, (ieq rfl (by first | rfl | omega | simp)), H13, (by first | assumption | omega | simp | (simp; omega))⟩ ?_
    rintro _ f0 w7 ⟨j, rfl, s0, s1, s2, H14, hj_⟩
    refine sq (sq (rg (k (mv rfl s2 (k (fa fl30_1 rfl s0 (k (ldX H14 4 rfl ty27 rfl rfl (by decide) rfl (k (lnS rfl rfl un27 (k (lss rfl rfl rfl rfl (z (nx ?_))))))))))))))
    refine cd (b := decide ((j : Int) < ((fxI h).length : Int))) rfl rfl (fun b1 => ?_) (fun b1 => ?_)
    ·
      have p1 := of_decide_eq_true b1
      refine sk (nx (sq (bk (sq ?_))))
      obtain ⟨x0, hx0⟩ : ∃ x, (fxI h)[(j : Int).toNat]? = some x := ⟨_, List.getElem?_eq_getElem (by first | omega | (simp; omega))⟩
      obtain ⟨x1, hx1⟩ : ∃ x, (fromM (fxI h))[(j : Int).toNat]? = some x := ⟨_, List.getElem?_eq_getElem (by rw [fromM_len]; omega)⟩
      refine drs [.v, .v, .v, .v, .v, .v, .v, .v, .v, .v, .n, .s 10 4, .v] [fun (v : Value) => v = .pointer (some ⟨bb0, 1, none⟩), fun (v : Value) => v = .slice a1 (fxI h).length c1, fun (v : Value) => v = .int .i64 (j : Int), fun (v : Value) => ∃ (ad0 : Addr), v = .pointer (some ad0) ∧ At (MS M [box bb1 #[.slice a3 (fxV h).length c3, .slice a4 (fxI h).length c4, .slice a5 (fromM (fxI h)).length c5] 30, imm (.slice a5 (fromM (fxI h)).length c5) (fromM (fxI h)), imm (.slice a4 (fxI h).length c4) (fxI h), imm (.slice a3 (fxV h).length c3) (fxV h), box bb0 #[.slice a0 (fxV h).length c0, .slice a1 (fxI h).length c1, .slice a2 ([] : List Int).length c2] 30, imm (.slice a2 ([] : List Int).length c2) ([] : List Int), imm (.slice a1 (fxI h).length c1) (fxI h), imm (.slice a0 (fxV h).length c0) (fxV h), imm (.slice a_h h.length c_h) h]) w7 ad0 x0, fun (v : Value) => v = .agg #[.int .i64 x0.1, .int .i64 x0.2.1, .bool x0.2.2.1, .int .i64 x0.2.2.2.1, .int .i64 x0.2.2.2.2] ∧ I64 (x0.1) ∧ I64 (x0.2.1) ∧ I64 (x0.2.2.2.1) ∧ I64 (x0.2.2.2.2), fun (v : Value) => v = .pointer (some ⟨bb1, 2, none⟩), fun (v : Value) => v = .slice a5 (fromM (fxI h)).length c5, fun (v : Value) => v = .int .i64 (j : Int), fun (v : Value) => ∃ (ad1 : Addr), v = .pointer (some ad1) ∧ At (MS M [box bb1 #[.slice a3 (fxV h).length c3, .slice a4 (fxI h).length c4, .slice a5 (fromM (fxI h)).length c5] 30, imm (.slice a5 (fromM (fxI h)).length c5) (fromM (fxI h)), imm (.slice a4 (fxI h).length c4) (fxI h), imm (.slice a3 (fxV h).length c3) (fxV h), box bb0 #[.slice a0 (fxV h).length c0, .slice a1 (fxI h).length c1, .slice a2 ([] : List Int).length c2] 30, imm (.slice a2 ([] : List Int).length c2) ([] : List Int), imm (.slice a1 (fxI h).length c1) (fxI h), imm (.slice a0 (fxV h).length c0) (fxV h), imm (.slice a_h h.length c_h) h]) w7 ad1 x1, fun (v : Value) => v = .int .i64 x1 ∧ I64 (x1), fun _ => True, fun _ => True, fun (v : Value) => v = .int .i64 x1 ∧ I64 (x1)] [(#[], 0), (#[], 0), (#[], 0), (#[], 0), (#[], 0), (#[], 0), (#[], 0), (#[], 0), (#[], 0), (#[], 0), (#[.int .i64 0, .int .i64 0, .bool false, .int .i64 0, .int .i64 0], 40), (#[], 0), (#[], 0)] rfl (by kernel_rfl) ?_ ?_
      ·
        refine ⟨⟨rfl, fun f1 w9 hf0 xt6 hp0 => ?_⟩, ?_⟩
        ·
          refine fa fl30_1 rfl ((hf0 3 rfl).trans s0) ?_
          exact ⟨_, rfl, rfl, rfl⟩
        refine ⟨⟨rfl, fun f2 w10 hf1 xt7 hp1 => ?_⟩, ?_⟩
        ·
          have s3 : f2 39 = .pointer (some ⟨bb0, 1, none⟩) := hp1 0 rfl ⟨_, rfl, rfl⟩
          refine ldX (H14.ext xt7) 4 rfl ty27 rfl s3 (by decide) rfl ?_
          exact ⟨_, rfl, rfl, rfl⟩
        refine ⟨⟨rfl, fun f3 w11 hf2 xt8 hp2 => ?_⟩, ?_⟩
        ·
          refine mv rfl ((hf2 6 rfl).trans s2) ?_
          exact ⟨_, rfl, rfl, rfl⟩
        refine ⟨⟨rfl, fun f4 w12 hf3 xt9 hp3 => ?_⟩, ?_⟩
        ·
          have s4 : f4 40 = .slice a1 (fxI h).length c1 := hp3 1 rfl ⟨_, rfl, rfl⟩
          have s5 : f4 41 = .int .i64 (j : Int) := hp3 2 rfl ⟨_, rfl, rfl⟩
          refine iax (H14.rv 6 rfl) rfl rfl s4 s5 (by first | omega | (simp; omega)) un27 ty40 ?_
          intro ad2 x2 hx2 hA2
          obtain rfl : x0 = x2 := Option.some.inj (hx0.symm.trans hx2)
          exact ⟨_, rfl, rfl, ⟨ad2, rfl, hA2⟩⟩
        refine ⟨⟨rfl, fun f5 w13 hf4 xt10 hp4 => ?_⟩, ?_⟩
        ·
          obtain ⟨ad3, s6, hA3⟩ : ∃ (ad3 : Addr), f5 42 = .pointer (some ad3) ∧ At (MS M [box bb1 #[.slice a3 (fxV h).length c3, .slice a4 (fxI h).length c4, .slice a5 (fromM (fxI h)).length c5] 30, imm (.slice a5 (fromM (fxI h)).length c5) (fromM (fxI h)), imm (.slice a4 (fxI h).length c4) (fxI h), imm (.slice a3 (fxV h).length c3) (fxV h), box bb0 #[.slice a0 (fxV h).length c0, .slice a1 (fxI h).length c1, .slice a2 ([] : List Int).length c2] 30, imm (.slice a2 ([] : List Int).length c2) ([] : List Int), imm (.slice a1 (fxI h).length c1) (fxI h), imm (.slice a0 (fxV h).length c0) (fxV h), imm (.slice a_h h.length c_h) h]) w7 ad3 x0 := hp4 3 rfl ⟨_, rfl, rfl⟩
          have H16 := H14.put (it := atI ad3 x0) rfl hA3
          refine ldWx (H16.atv 0 rfl).w xt10 ty40 rfl s6 ?_
          intro v1 rv12
          obtain ⟨_, ⟨_, _, rfl, ⟨rfl, rv13⟩, ⟨_, _, rfl, ⟨rfl, rv14⟩, ⟨_, _, rfl, rfl, ⟨_, _, rfl, ⟨rfl, rv15⟩, ⟨rfl, rv16⟩⟩⟩⟩⟩, rfl⟩ := rv12
          exact ⟨_, rfl, rfl, ⟨rfl, rv13, rv14, rv15, rv16⟩⟩
        refine ⟨⟨rfl, fun f6 w14 hf5 xt11 hp5 => ?_⟩, ?_⟩
        ·
          refine fa fl30_2 rfl ((hf5 5 rfl).trans s1) ?_
          exact ⟨_, rfl, rfl, rfl⟩
        refine ⟨⟨rfl, fun f7 w15 hf6 xt12 hp6 => ?_⟩, ?_⟩
        ·
          have s7 : f7 44 = .pointer (some ⟨bb1, 2, none⟩) := hp6 5 rfl ⟨_, rfl, rfl⟩
          refine ldX (H14.ext xt12) 0 rfl ty28 rfl s7 (by decide) rfl ?_
          exact ⟨_, rfl, rfl, rfl⟩
        refine ⟨⟨rfl, fun f8 w16 hf7 xt13 hp7 => ?_⟩, ?_⟩
        ·
          refine mv rfl ((hf7 6 rfl).trans s2) ?_
          exact ⟨_, rfl, rfl, rfl⟩
        refine ⟨⟨rfl, fun f9 w17 hf8 xt14 hp8 => ?_⟩, ?_⟩
        ·
          have s8 : f9 45 = .slice a5 (fromM (fxI h)).length c5 := hp8 6 rfl ⟨_, rfl, rfl⟩
          have s9 : f9 46 = .int .i64 (j : Int) := hp8 7 rfl ⟨_, rfl, rfl⟩
          refine iax (H14.rv 1 rfl) rfl rfl s8 s9 (by rw [fromM_len]; omega) un28 ty3 ?_
          intro ad4 x3 hx3 hA4
          obtain rfl : x1 = x3 := Option.some.inj (hx1.symm.trans hx3)
          exact ⟨_, rfl, rfl, ⟨ad4, rfl, hA4⟩⟩
        refine ⟨⟨rfl, fun f10 w18 hf9 xt15 hp9 => ?_⟩, ?_⟩
        ·
          obtain ⟨ad5, s10, hA5⟩ : ∃ (ad5 : Addr), f10 47 = .pointer (some ad5) ∧ At (MS M [box bb1 #[.slice a3 (fxV h).length c3, .slice a4 (fxI h).length c4, .slice a5 (fromM (fxI h)).length c5] 30, imm (.slice a5 (fromM (fxI h)).length c5) (fromM (fxI h)), imm (.slice a4 (fxI h).length c4) (fxI h), imm (.slice a3 (fxV h).length c3) (fxV h), box bb0 #[.slice a0 (fxV h).length c0, .slice a1 (fxI h).length c1, .slice a2 ([] : List Int).length c2] 30, imm (.slice a2 ([] : List Int).length c2) ([] : List Int), imm (.slice a1 (fxI h).length c1) (fxI h), imm (.slice a0 (fxV h).length c0) (fxV h), imm (.slice a_h h.length c_h) h]) w7 ad5 x1 := hp9 8 rfl ⟨_, rfl, rfl⟩
          have H17 := H14.put (it := atI ad5 x1) rfl hA5
          refine ldIx (H17.atv 0 rfl).w xt15 ty3 rfl s10 ?_
          intro rv17
          exact ⟨_, rfl, rfl, ⟨rfl, rv17⟩⟩
        refine ⟨⟨rfl, fun f11 w19 hf10 xt16 hp10 => ?_⟩, ?_⟩
        ·
          refine alS ty40 ?_
          exact ⟨rfl, rfl, trivial⟩
        refine ⟨⟨rfl, rfl, rfl, ⟨_, rfl, rfl⟩, ⟨_, rfl, rfl⟩, trivial, by rintro _ ⟨e_, rv7, rv8, rv9, rv10⟩; subst e_; rfl, fun f12 w21 bb3 cur0 xt18 s11 hb0 hc0 hv0 => ?_⟩, ?_⟩
        ·
          obtain ⟨e_, rv7, rv8, rv9, rv10⟩ := hv0
          exact stS ty40 rfl rfl s11 rfl hb0 ((congrArg (fun v => v.cells.size) e_).trans rfl) hc0 ((congrArg (fun v => v.cells.toList.all Value.oneCell') e_).trans rfl)
        refine ⟨⟨rfl, fun f13 w22 hf11 xt19 hp11 => ?_⟩, ?_⟩
        ·
          obtain ⟨s12, rv18⟩ : f13 48 = .int .i64 x1 ∧ I64 (x1) := hp11 9 rfl ⟨_, rfl, rfl⟩
          refine asg rfl s12 ?_
          exact ⟨_, rfl, rfl, ⟨rfl, rv18⟩⟩
        exact trivial
      · intro f14 w23 B0 hf12 xt20 hp12 hB0 hd0
        have s13 : f14 3 = .pointer (some ⟨bb0, 0, none⟩) := (hf12 3 rfl).trans s0
        have s14 : f14 5 = .pointer (some ⟨bb1, 0, none⟩) := (hf12 5 rfl).trans s1
        have s15 : f14 6 = .int .i64 (j : Int) := (hf12 6 rfl).trans s2
        obtain ⟨s16, rv19⟩ : f14 8 = .int .i64 x1 ∧ I64 (x1) := hp12 12 _ rfl rfl
        obtain ⟨s17, rv20, rv21, rv22, rv23⟩ : f14 43 = .agg #[.int .i64 x0.1, .int .i64 x0.2.1, .bool x0.2.2.1, .int .i64 x0.2.2.2.1, .int .i64 x0.2.2.2.2] ∧ I64 (x0.1) ∧ I64 (x0.2.1) ∧ I64 (x0.2.2.2.1) ∧ I64 (x0.2.2.2.2) := hp12 4 _ rfl rfl
        obtain ⟨s18, hg0, cur1, hc1, hk0⟩ := hB0 10 (by decide) trivial
        have hq0 : cur1 = #[.int .i64 x0.1, .int .i64 x0.2.1, .bool x0.2.2.1, .int .i64 x0.2.2.2.1, .int .i64 x0.2.2.2.2] := (hk0.2.1 11 4 rfl rfl).trans (congrArg Value.cells s17)
        rw [hq0] at hc1
        have H18 : HI M w w23 [box (B0 10) #[.int .i64 x0.1, .int .i64 x0.2.1, .bool x0.2.2.1, .int .i64 x0.2.2.2.1, .int .i64 x0.2.2.2.2] 40, box bb1 #[.slice a3 (fxV h).length c3, .slice a4 (fxI h).length c4, .slice a5 (fromM (fxI h)).length c5] 30, imm (.slice a5 (fromM (fxI h)).length c5) (fromM (fxI h)), imm (.slice a4 (fxI h).length c4) (fxI h), imm (.slice a3 (fxV h).length c3) (fxV h), box bb0 #[.slice a0 (fxV h).length c0, .slice a1 (fxI h).length c1, .slice a2 ([] : List Int).length c2] 30, imm (.slice a2 ([] : List Int).length c2) ([] : List Int), imm (.slice a1 (fxI h).length c1) (fxI h), imm (.slice a0 (fxV h).length c0) (fxV h), imm (.slice a_h h.length c_h) h] := H14.lays xt20 [((B0 10), #[.int .i64 x0.1, .int .i64 x0.2.1, .bool x0.2.2.1, .int .i64 x0.2.2.2.1, .int .i64 x0.2.2.2.2], 40)] (by intro q_ hq_; simp only [List.mem_cons, List.not_mem_nil, or_false] at hq_; rcases hq_ with rfl <;> first | exact ⟨hg0, hc1⟩) (by simp only [List.map_cons, List.map_nil, List.nodup_cons, List.mem_cons, List.not_mem_nil, or_false, List.nodup_nil, and_true, not_or, not_false_eq_true, true_and] <;> omega)
        refine nx (sq (sq ?_))
        obtain ⟨hf1_, hf2_, hf3_, hf4_, hf5_, hf6_⟩ := reads_facts (fx_at hk_ hx0 hx1)
        refine rg (k (fa fl40_2 rfl s18 (k (ldX H18 0 rfl ty4 rfl rfl (by decide) rfl (k (mv rfl s16 (k (eql rfl rfl rfl rfl (k (neB rfl rfl rfl rfl un4 (k (mv (v := .bool (!(x0.2.2.1 == (decide (x1 = (-3)))))) rfl rfl (k (gy rfl rfl rfl (by rw [show (x0.2.2.1 == (decide (x1 = (-3)))) = true from hf1_]; rfl) (mv rfl s16 (k (gy rfl rfl rfl (by rw [show (x0.2.2.1 == (decide (x1 = (-3)))) = true from hf1_]; rfl) (eql rfl rfl rfl rfl (k (gy rfl rfl rfl (by rw [show (x0.2.2.1 == (decide (x1 = (-3)))) = true from hf1_]; rfl) (mv (v := .bool (decide (x1 = (-1)))) rfl rfl ?_)))))))))))))))))))))
        rcases Bool.eq_false_or_eq_true (decide (x1 = (-1))) with b2 | b2
        · -- decide (x1 = (-1)) is True
          have p2 := of_decide_eq_true b2
          refine k (gy rfl rfl rfl b2 (fa fl40_4 rfl s18 (k (gy rfl rfl rfl b2 (ldX H18 0 rfl ty3 rfl rfl (by decide) rfl (k (gy rfl rfl rfl b2 (neq rfl rfl rfl rfl (k (gy rfl rfl rfl (by rw [show (x0.2.2.1 == (decide (x1 = (-3)))) = true from hf1_]; rfl) (pickT rfl rfl rfl rfl b2 rfl (k (pickF rfl rfl rfl rfl (by rw [show (x0.2.2.1 == (decide (x1 = (-3)))) = true from hf1_]; rfl) rfl (k (mv (v := .bool (!decide (x0.2.2.2.2 = 0))) rfl rfl (k (gy rfl rfl rfl (by rw [show (decide (x0.2.2.2.2 = 0)) = true from (decide_eq_true (hf2_ (of_decide_eq_true b2)))]; rfl) (mv rfl s16 (k (gy rfl rfl rfl (by rw [show (decide (x0.2.2.2.2 = 0)) = true from (decide_eq_true (hf2_ (of_decide_eq_true b2)))]; rfl) (lss rfl rfl rfl rfl (k (pickF rfl rfl rfl rfl (by rw [show (decide (x0.2.2.2.2 = 0)) = true from (decide_eq_true (hf2_ (of_decide_eq_true b2)))]; rfl) rfl (k (mv (v := .bool (decide (x1 < (-3)))) rfl rfl (k (gy rfl rfl rfl (decide_eq_false (by omega)) (mv rfl s16 (k (gy rfl rfl rfl (decide_eq_false (by omega)) (fa fl30_1 rfl s13 (k (gy rfl rfl rfl (decide_eq_false (by omega)) (ldX H18 5 rfl ty27 rfl rfl (by decide) rfl (k (gy rfl rfl rfl (decide_eq_false (by omega)) (lnS rfl rfl un27 (k (gy rfl rfl rfl (decide_eq_false (by omega)) (geq rfl rfl rfl rfl (k (pickF rfl rfl rfl rfl (decide_eq_false (by omega)) rfl (z (nx (cdF rfl rfl (decide_eq_false (by omega)) (sk (nx (sq (sq ?_)))))))))))))))))))))))))))))))))))))))))))))))))
          refine dr 30 [fun (v : Value) (w' : World) => v = .int .i64 x1 ∧ I64 (x1), fun (v : Value) (w' : World) => v = .bool (decide (0 ≤ x1)), fun (v : Value) (w' : World) => v = .bool (decide (0 ≤ x1)), fun (v : Value) (_ : World) => v = undef, fun (v : Value) (_ : World) => v = undef, fun (v : Value) (_ : World) => v = undef, fun (v : Value) (_ : World) => v = undef, fun (v : Value) (_ : World) => v = undef, fun (v : Value) (_ : World) => v = undef, fun (v : Value) (_ : World) => v = undef, fun (v : Value) (_ : World) => v = undef, fun (v : Value) (_ : World) => v = undef, fun (v : Value) (_ : World) => v = undef, fun (v : Value) (_ : World) => v = undef, fun (v : Value) (_ : World) => v = undef, fun (v : Value) (_ : World) => v = undef, fun (v : Value) (_ : World) => v = undef, fun (v : Value) (_ : World) => v = undef, fun (v : Value) (_ : World) => v = undef, fun (v : Value) (_ : World) => v = undef, fun (v : Value) (_ : World) => v = undef, fun (v : Value) (_ : World) => v = undef, fun (v : Value) (_ : World) => v = undef, fun (v : Value) (_ : World) => v = undef, fun (v : Value) (_ : World) => v = undef, fun (v : Value) (_ : World) => v = undef, fun (v : Value) (_ : World) => v = undef, fun (v : Value) (_ : World) => v = undef, fun (v : Value) (_ : World) => v = undef, fun (v : Value) (_ : World) => v = undef] rfl (by kernel_rfl) ?_ ?_
          ·
            refine ⟨fun _ => ⟨fun f15 w24 hf13 xt21 hp13 => ?_, fun _ _ _ _ h => h⟩, ?_⟩
            ·
              have H19 := H18.ext xt21
              refine mv rfl ((hf13 8 rfl).trans s16) ?_
              exact ⟨_, rfl, Ext.refl _, ⟨rfl, rv19⟩⟩
            refine ⟨fun _ => ⟨fun f16 w25 hf14 xt22 hp14 => ?_, fun _ _ _ _ h => h⟩, ?_⟩
            ·
              have H20 := H18.ext xt22
              obtain ⟨s19, rv24⟩ : f16 74 = .int .i64 x1 ∧ I64 (x1) := hp14 0 rfl rfl
              refine geq rfl rfl s19 rfl ?_
              exact ⟨_, rfl, Ext.refl _, rfl⟩
            refine ⟨fun _ => ⟨fun f17 w26 hf15 xt23 hp15 => ?_, fun _ _ _ _ h => h⟩, ?_⟩
            ·
              have H21 := H18.ext xt23
              have s20 : f17 75 = .bool (decide (0 ≤ x1)) := hp15 1 rfl rfl
              refine mv rfl s20 ?_
              exact ⟨_, rfl, Ext.refl _, rfl⟩
            refine ⟨fun _ => ⟨fun f18 w27 hf16 xt24 hp16 => ?_, fun _ _ _ _ h => h⟩, ?_⟩
            ·
              have H22 := H18.ext xt24
              have s21 : f18 76 = .bool (decide (0 ≤ x1)) := hp16 2 rfl rfl
              refine gn rfl rfl s21 (decide_eq_false (by have h_ := of_decide_eq_true b2; omega)) ?_
              exact ⟨_, rfl, Ext.refl _, rfl⟩
            refine ⟨fun _ => ⟨fun f19 w28 hf17 xt25 hp17 => ?_, fun _ _ _ _ h => h⟩, ?_⟩
            ·
              have H23 := H18.ext xt25
              have s22 : f19 76 = .bool (decide (0 ≤ x1)) := hp17 2 rfl rfl
              have s23 : f19 77 = undef := hp17 3 rfl rfl
              refine gn rfl rfl s22 (decide_eq_false (by have h_ := of_decide_eq_true b2; omega)) ?_
              exact ⟨_, rfl, Ext.refl _, rfl⟩
            refine ⟨fun _ => ⟨fun f20 w29 hf18 xt26 hp18 => ?_, fun _ _ _ _ h => h⟩, ?_⟩
            ·
              have H24 := H18.ext xt26
              have s24 : f20 76 = .bool (decide (0 ≤ x1)) := hp18 2 rfl rfl
              refine gn rfl rfl s24 (decide_eq_false (by have h_ := of_decide_eq_true b2; omega)) ?_
              exact ⟨_, rfl, Ext.refl _, rfl⟩
            refine ⟨fun _ => ⟨fun f21 w30 hf19 xt27 hp19 => ?_, fun _ _ _ _ h => h⟩, ?_⟩
            ·
              have H25 := H18.ext xt27
              have s25 : f21 76 = .bool (decide (0 ≤ x1)) := hp19 2 rfl rfl
              have s26 : f21 78 = undef := hp19 4 rfl rfl
              have s27 : f21 79 = undef := hp19 5 rfl rfl
              refine gn rfl rfl s25 (decide_eq_false (by have h_ := of_decide_eq_true b2; omega)) ?_
              exact ⟨_, rfl, Ext.refl _, rfl⟩
            refine ⟨fun _ => ⟨fun f22 w31 hf20 xt28 hp20 => ?_, fun _ _ _ _ h => h⟩, ?_⟩
            ·
              have H26 := H18.ext xt28
              have s28 : f22 76 = .bool (decide (0 ≤ x1)) := hp20 2 rfl rfl
              have s29 : f22 80 = undef := hp20 6 rfl rfl
              refine gn rfl rfl s28 (decide_eq_false (by have h_ := of_decide_eq_true b2; omega)) ?_
              exact ⟨_, rfl, Ext.refl _, rfl⟩
            refine ⟨fun _ => ⟨fun f23 w32 hf21 xt29 hp21 => ?_, fun _ _ _ _ h => h⟩, ?_⟩
            ·
              have H27 := H18.ext xt29
              have s30 : f23 76 = .bool (decide (0 ≤ x1)) := hp21 2 rfl rfl
              have s31 : f23 81 = undef := hp21 7 rfl rfl
              refine gn rfl rfl s30 (decide_eq_false (by have h_ := of_decide_eq_true b2; omega)) ?_
              exact ⟨_, rfl, Ext.refl _, rfl⟩
            refine ⟨fun _ => ⟨fun f24 w33 hf22 xt30 hp22 => ?_, fun _ _ _ _ h => h⟩, ?_⟩
            ·
              have H28 := H18.ext xt30
              have s32 : f24 76 = .bool (decide (0 ≤ x1)) := hp22 2 rfl rfl
              have s33 : f24 82 = undef := hp22 8 rfl rfl
              refine gn rfl rfl s32 (decide_eq_false (by have h_ := of_decide_eq_true b2; omega)) ?_
              exact ⟨_, rfl, Ext.refl _, rfl⟩
            refine ⟨fun _ => ⟨fun f25 w34 hf23 xt31 hp23 => ?_, fun _ _ _ _ h => h⟩, ?_⟩
            ·
              have H29 := H18.ext xt31
              have s34 : f25 76 = .bool (decide (0 ≤ x1)) := hp23 2 rfl rfl
              have s35 : f25 83 = undef := hp23 9 rfl rfl
              refine gn rfl rfl s34 (decide_eq_false (by have h_ := of_decide_eq_true b2; omega)) ?_
              exact ⟨_, rfl, Ext.refl _, rfl⟩
            refine ⟨fun _ => ⟨fun f26 w35 hf24 xt32 hp24 => ?_, fun _ _ _ _ h => h⟩, ?_⟩
            ·
              have H30 := H18.ext xt32
              have s36 : f26 84 = undef := hp24 10 rfl rfl
              refine gu rfl rfl s36 ?_
              exact ⟨_, rfl, Ext.refl _, rfl⟩
            refine ⟨fun _ => ⟨fun f27 w36 hf25 xt33 hp25 => ?_, fun _ _ _ _ h => h⟩, ?_⟩
            ·
              have H31 := H18.ext xt33
              have s37 : f27 84 = undef := hp25 10 rfl rfl
              have s38 : f27 85 = undef := hp25 11 rfl rfl
              refine gu rfl rfl s37 ?_
              exact ⟨_, rfl, Ext.refl _, rfl⟩
            refine ⟨fun _ => ⟨fun f28 w37 hf26 xt34 hp26 => ?_, fun _ _ _ _ h => h⟩, ?_⟩
            ·
              have H32 := H18.ext xt34
              have s39 : f28 84 = undef := hp26 10 rfl rfl
              refine gu rfl rfl s39 ?_
              exact ⟨_, rfl, Ext.refl _, rfl⟩
            refine ⟨fun _ => ⟨fun f29 w38 hf27 xt35 hp27 => ?_, fun _ _ _ _ h => h⟩, ?_⟩
            ·
              have H33 := H18.ext xt35
              have s40 : f29 84 = undef := hp27 10 rfl rfl
              have s41 : f29 86 = undef := hp27 12 rfl rfl
              have s42 : f29 87 = undef := hp27 13 rfl rfl
              refine gu rfl rfl s40 ?_
              exact ⟨_, rfl, Ext.refl _, rfl⟩
            refine ⟨fun _ => ⟨fun f30 w39 hf28 xt36 hp28 => ?_, fun _ _ _ _ h => h⟩, ?_⟩
            ·
              have H34 := H18.ext xt36
              have s43 : f30 84 = undef := hp28 10 rfl rfl
              have s44 : f30 88 = undef := hp28 14 rfl rfl
              refine gu rfl rfl s43 ?_
              exact ⟨_, rfl, Ext.refl _, rfl⟩
            refine ⟨fun _ => ⟨fun f31 w40 hf29 xt37 hp29 => ?_, fun _ _ _ _ h => h⟩, ?_⟩
            ·
              have H35 := H18.ext xt37
              have s45 : f31 84 = undef := hp29 10 rfl rfl
              have s46 : f31 89 = undef := hp29 15 rfl rfl
              refine gu rfl rfl s45 ?_
              exact ⟨_, rfl, Ext.refl _, rfl⟩
            refine ⟨fun _ => ⟨fun f32 w41 hf30 xt38 hp30 => ?_, fun _ _ _ _ h => h⟩, ?_⟩
            ·
              have H36 := H18.ext xt38
              have s47 : f32 84 = undef := hp30 10 rfl rfl
              refine gu rfl rfl s47 ?_
              exact ⟨_, rfl, Ext.refl _, rfl⟩
            refine ⟨fun _ => ⟨fun f33 w42 hf31 xt39 hp31 => ?_, fun _ _ _ _ h => h⟩, ?_⟩
            ·
              have H37 := H18.ext xt39
              have s48 : f33 84 = undef := hp31 10 rfl rfl
              have s49 : f33 91 = undef := hp31 17 rfl rfl
              refine gu rfl rfl s48 ?_
              exact ⟨_, rfl, Ext.refl _, rfl⟩
            refine ⟨fun _ => ⟨fun f34 w43 hf32 xt40 hp32 => ?_, fun _ _ _ _ h => h⟩, ?_⟩
            ·
              have H38 := H18.ext xt40
              have s50 : f34 84 = undef := hp32 10 rfl rfl
              have s51 : f34 90 = undef := hp32 16 rfl rfl
              have s52 : f34 92 = undef := hp32 18 rfl rfl
              refine gu rfl rfl s50 ?_
              exact ⟨_, rfl, Ext.refl _, rfl⟩
            refine ⟨fun _ => ⟨fun f35 w44 hf33 xt41 hp33 => ?_, fun _ _ _ _ h => h⟩, ?_⟩
            ·
              have H39 := H18.ext xt41
              have s53 : f35 76 = .bool (decide (0 ≤ x1)) := hp33 2 rfl rfl
              have s54 : f35 84 = undef := hp33 10 rfl rfl
              have s55 : f35 93 = undef := hp33 19 rfl rfl
              refine gn rfl rfl s53 (decide_eq_false (by have h_ := of_decide_eq_true b2; omega)) ?_
              exact ⟨_, rfl, Ext.refl _, rfl⟩
            refine ⟨fun _ => ⟨fun f36 w45 hf34 xt42 hp34 => ?_, fun _ _ _ _ h => h⟩, ?_⟩
            ·
              have H40 := H18.ext xt42
              have s56 : f36 76 = .bool (decide (0 ≤ x1)) := hp34 2 rfl rfl
              have s57 : f36 94 = undef := hp34 20 rfl rfl
              refine gn rfl rfl s56 (decide_eq_false (by have h_ := of_decide_eq_true b2; omega)) ?_
              exact ⟨_, rfl, Ext.refl _, rfl⟩
            refine ⟨fun _ => ⟨fun f37 w46 hf35 xt43 hp35 => ?_, fun _ _ _ _ h => h⟩, ?_⟩
            ·
              have H41 := H18.ext xt43
              have s58 : f37 95 = undef := hp35 21 rfl rfl
              refine gu rfl rfl s58 ?_
              exact ⟨_, rfl, Ext.refl _, rfl⟩
            refine ⟨fun _ => ⟨fun f38 w47 hf36 xt44 hp36 => ?_, fun _ _ _ _ h => h⟩, ?_⟩
            ·
              have H42 := H18.ext xt44
              have s59 : f38 95 = undef := hp36 21 rfl rfl
              have s60 : f38 96 = undef := hp36 22 rfl rfl
              refine gu rfl rfl s59 ?_
              exact ⟨_, rfl, Ext.refl _, rfl⟩
            refine ⟨fun _ => ⟨fun f39 w48 hf37 xt45 hp37 => ?_, fun _ _ _ _ h => h⟩, ?_⟩
            ·
              have H43 := H18.ext xt45
              have s61 : f39 95 = undef := hp37 21 rfl rfl
              refine gu rfl rfl s61 ?_
              exact ⟨_, rfl, Ext.refl _, rfl⟩
            refine ⟨fun _ => ⟨fun f40 w49 hf38 xt46 hp38 => ?_, fun _ _ _ _ h => h⟩, ?_⟩
            ·
              have H44 := H18.ext xt46
              have s62 : f40 95 = undef := hp38 21 rfl rfl
              have s63 : f40 97 = undef := hp38 23 rfl rfl
              have s64 : f40 98 = undef := hp38 24 rfl rfl
              refine gu rfl rfl s62 ?_
              exact ⟨_, rfl, Ext.refl _, rfl⟩
            refine ⟨fun _ => ⟨fun f41 w50 hf39 xt47 hp39 => ?_, fun _ _ _ _ h => h⟩, ?_⟩
            ·
              have H45 := H18.ext xt47
              have s65 : f41 95 = undef := hp39 21 rfl rfl
              have s66 : f41 99 = undef := hp39 25 rfl rfl
              refine gu rfl rfl s65 ?_
              exact ⟨_, rfl, Ext.refl _, rfl⟩
            refine ⟨fun _ => ⟨fun f42 w51 hf40 xt48 hp40 => ?_, fun _ _ _ _ h => h⟩, ?_⟩
            ·
              have H46 := H18.ext xt48
              have s67 : f42 95 = undef := hp40 21 rfl rfl
              have s68 : f42 100 = undef := hp40 26 rfl rfl
              refine gu rfl rfl s67 ?_
              exact ⟨_, rfl, Ext.refl _, rfl⟩
            refine ⟨fun _ => ⟨fun f43 w52 hf41 xt49 hp41 => ?_, fun _ _ _ _ h => h⟩, ?_⟩
            ·
              have H47 := H18.ext xt49
              have s69 : f43 95 = undef := hp41 21 rfl rfl
              refine gu rfl rfl s69 ?_
              exact ⟨_, rfl, Ext.refl _, rfl⟩
            refine ⟨fun _ => ⟨fun f44 w53 hf42 xt50 hp42 => ?_, fun _ _ _ _ h => h⟩, ?_⟩
            ·
              have H48 := H18.ext xt50
              have s70 : f44 95 = undef := hp42 21 rfl rfl
              have s71 : f44 102 = undef := hp42 28 rfl rfl
              refine gu rfl rfl s70 ?_
              exact ⟨_, rfl, Ext.refl _, rfl⟩
            exact DSteps.rest rfl _
          · intro f45 w54 hf43 xt51 hp43
            have H49 := H18.ext xt51
            have s72 : f45 3 = .pointer (some ⟨bb0, 0, none⟩) := (hf43 3 rfl).trans s13
            have s73 : f45 5 = .pointer (some ⟨bb1, 0, none⟩) := (hf43 5 rfl).trans s14
            have s74 : f45 6 = .int .i64 (j : Int) := (hf43 6 rfl).trans s15
            have s75 : f45 7 = .pointer (some ⟨(B0 10), 0, none⟩) := (hf43 7 rfl).trans s18
            have s76 : f45 8 = .int .i64 x1 := (hf43 8 rfl).trans s16
            have s77 : f45 76 = .bool (decide (0 ≤ x1)) := hp43 2 rfl
            have s78 : f45 95 = undef := hp43 21 rfl
            have s79 : f45 101 = undef := hp43 27 rfl
            have s80 : f45 103 = undef := hp43 29 rfl
            refine k (gu rfl rfl s78 (k (gn rfl rfl s77 (decide_eq_false (by have h_ := of_decide_eq_true b2; omega)) (k (gn rfl rfl s77 (decide_eq_false (by have h_ := of_decide_eq_true b2; omega)) (k (gu rfl rfl rfl (k (gu rfl rfl rfl (k (gu rfl rfl rfl (k (gn rfl rfl s77 (decide_eq_false (by have h_ := of_decide_eq_true b2; omega)) (k (pickF rfl rfl rfl s77 (decide_eq_false (by have h_ := of_decide_eq_true b2; omega)) rfl (z (nx (cdF rfl rfl rfl (sk (nx (sq (rg (k (asg (v := .int .i64 0) rfl rfl (z (nx (bk ?_)))))))))))))))))))))))))))
            refine lp (fun m f w' => ∃ (q : Nat), m = (fxI h).length - q ∧ f 3 = .pointer (some ⟨bb0, 0, none⟩) ∧ f 5 = .pointer (some ⟨bb1, 0, none⟩) ∧ f 6 = .int .i64 (j : Int) ∧ f 7 = .pointer (some ⟨(B0 10), 0, none⟩) ∧ f 8 = .int .i64 x1 ∧ f 9 = .int .i64 (q : Int) ∧  HI M w w' [box (B0 10) #[.int .i64 x0.1, .int .i64 x0.2.1, .bool x0.2.2.1, .int .i64 x0.2.2.2.1, .int .i64 x0.2.2.2.2] 40, box bb1 #[.slice a3 (fxV h).length c3, .slice a4 (fxI h).length c4, .slice a5 (fromM (fxI h)).length c5] 30, imm (.slice a5 (fromM (fxI h)).length c5) (fromM (fxI h)), imm (.slice a4 (fxI h).length c4) (fxI h), imm (.slice a3 (fxV h).length c3) (fxV h), box bb0 #[.slice a0 (fxV h).length c0, .slice a1 (fxI h).length c1, .slice a2 ([] : List Int).length c2] 30, imm (.slice a2 ([] : List Int).length c2) ([] : List Int), imm (.slice a1 (fxI h).length c1) (fxI h), imm (.slice a0 (fxV h).length c0) (fxV h), imm (.slice a_h h.length c_h) h] ∧ (q ≤ (fxI h).length)) _ ⟨0, rfl, s72, s73, s74, s75, s76, (ieq rfl (by first | rfl | omega | simp)), H49, (by first | assumption | omega | simp | (simp; omega))⟩ ?_
            rintro _ f46 w55 ⟨q, rfl, s81, s82, s83, s84, s85, s86, H50, hq_⟩
            refine sq (sq (rg (k (mv rfl s86 (k (fa fl30_1 rfl s81 (k (ldX H50 5 rfl ty27 rfl rfl (by decide) rfl (k (lnS rfl rfl un27 (k (lss rfl rfl rfl rfl (k (mv (v := .bool (decide ((q : Int) < ((fxI h).length : Int)))) rfl rfl ?_))))))))))))))
            rcases Bool.eq_false_or_eq_true (decide ((q : Int) < ((fxI h).length : Int))) with b3 | b3
            · -- decide ((q : Int) < ((fxI h).length : Int)) is True
              have p3 := of_decide_eq_true b3
              refine k (gy rfl rfl rfl b3 (mv rfl s85 (k (gy rfl rfl rfl b3 (eql rfl rfl rfl rfl (k (pickT rfl rfl rfl rfl b3 rfl (z (nx (cdF rfl rfl (decide_eq_false (by have h_ := of_decide_eq_true b2; omega)) (ex (then_exit (loop_exit (inb_here (inb_normal (nx (rg (k (mv rfl s83 (k (add rfl rfl rfl rfl (by unfold I64 at *; omega) (k (asg (v := .int .i64 ((j : Int) + 1)) rfl rfl (z ?_))))))))))))))))))))))))
              have H51 : HI M w w55 [box bb1 #[.slice a3 (fxV h).length c3, .slice a4 (fxI h).length c4, .slice a5 (fromM (fxI h)).length c5] 30, imm (.slice a5 (fromM (fxI h)).length c5) (fromM (fxI h)), imm (.slice a4 (fxI h).length c4) (fxI h), imm (.slice a3 (fxV h).length c3) (fxV h), box bb0 #[.slice a0 (fxV h).length c0, .slice a1 (fxI h).length c1, .slice a2 ([] : List Int).length c2] 30, imm (.slice a2 ([] : List Int).length c2) ([] : List Int), imm (.slice a1 (fxI h).length c1) (fxI h), imm (.slice a0 (fxV h).length c0) (fxV h), imm (.slice a_h h.length c_h) h] := H50.pickN [1, 2, 3, 4, 5, 6, 7, 8, 9] (by decide) rfl
              refine loopN _ ?_ ⟨(j + 1), rfl, s81, s82, (ieq rfl (by first | rfl | omega | (push_cast; omega))), H51, (by first | assumption | omega | simp | (simp; omega))⟩
              omega
            · -- decide ((q : Int) < ((fxI h).length : Int)) is False
              have p3 := of_decide_eq_false b3
              refine k (gn rfl rfl rfl b3 (k (gn rfl rfl rfl b3 (k (pickF rfl rfl rfl rfl b3 rfl (z (nx (cdF rfl rfl rfl (ex (then_exit (loop_exit (inb_here (inb_normal (nx (rg (k (mv rfl s83 (k (add rfl rfl rfl rfl (by unfold I64 at *; omega) (k (asg (v := .int .i64 ((j : Int) + 1)) rfl rfl (z ?_))))))))))))))))))))))
              have H51 : HI M w w55 [box bb1 #[.slice a3 (fxV h).length c3, .slice a4 (fxI h).length c4, .slice a5 (fromM (fxI h)).length c5] 30, imm (.slice a5 (fromM (fxI h)).length c5) (fromM (fxI h)), imm (.slice a4 (fxI h).length c4) (fxI h), imm (.slice a3 (fxV h).length c3) (fxV h), box bb0 #[.slice a0 (fxV h).length c0, .slice a1 (fxI h).length c1, .slice a2 ([] : List Int).length c2] 30, imm (.slice a2 ([] : List Int).length c2) ([] : List Int), imm (.slice a1 (fxI h).length c1) (fxI h), imm (.slice a0 (fxV h).length c0) (fxV h), imm (.slice a_h h.length c_h) h] := H50.pickN [1, 2, 3, 4, 5, 6, 7, 8, 9] (by decide) rfl
              refine loopN _ ?_ ⟨(j + 1), rfl, s81, s82, (ieq rfl (by first | rfl | omega | (push_cast; omega))), H51, (by first | assumption | omega | simp | (simp; omega))⟩
              omega
        · -- decide (x1 = (-1)) is False
          have p2 := of_decide_eq_false b2
          refine k (gn rfl rfl rfl b2 (k (gn rfl rfl rfl b2 (k (gn rfl rfl rfl b2 (k (gy rfl rfl rfl (by rw [show (x0.2.2.1 == (decide (x1 = (-3)))) = true from hf1_]; rfl) (pickF rfl rfl rfl rfl b2 rfl (k (pickF rfl rfl rfl rfl (by rw [show (x0.2.2.1 == (decide (x1 = (-3)))) = true from hf1_]; rfl) rfl (k (mv (v := .bool false) rfl rfl (k (gy rfl rfl rfl rfl (mv rfl s16 (k (gy rfl rfl rfl rfl (lss rfl rfl rfl rfl (k (pickF rfl rfl rfl rfl rfl rfl (k (mv (v := .bool (decide (x1 < (-3)))) rfl rfl (k (gy rfl rfl rfl (decide_eq_false (by omega)) (mv rfl s16 (k (gy rfl rfl rfl (decide_eq_false (by omega)) (fa fl30_1 rfl s13 (k (gy rfl rfl rfl (decide_eq_false (by omega)) (ldX H18 5 rfl ty27 rfl rfl (by decide) rfl (k (gy rfl rfl rfl (decide_eq_false (by omega)) (lnS rfl rfl un27 (k (gy rfl rfl rfl (decide_eq_false (by omega)) (geq rfl rfl rfl rfl (k (pickF rfl rfl rfl rfl (decide_eq_false (by omega)) rfl (z (nx (cdF rfl rfl (decide_eq_false (by omega)) (sk (nx (sq (sq ?_))))))))))))))))))))))))))))))))))))))))))))))
          rcases Bool.eq_false_or_eq_true (decide (0 ≤ x1)) with b3 | b3
          · -- decide (0 ≤ x1) is True
            have p3 := of_decide_eq_true b3
            obtain ⟨x4, hx4⟩ : ∃ x, (fxI h)[x1.toNat]? = some x := ⟨_, List.getElem?_eq_getElem (by first | omega | (simp; omega))⟩
            refine dr 30 [fun (v : Value) (w' : World) => v = .int .i64 x1 ∧ I64 (x1), fun (v : Value) (w' : World) => v = .bool (decide (0 ≤ x1)), fun (v : Value) (w' : World) => v = .bool (decide (0 ≤ x1)), fun (v : Value) (w' : World) => v = .pointer (some ⟨bb0, 1, none⟩), fun (v : Value) (w' : World) => v = .slice a1 (fxI h).length c1, fun (v : Value) (w' : World) => v = .int .i64 x1 ∧ I64 (x1), fun (v : Value) (w' : World) => ∃ (ad6 : Addr), v = .pointer (some ad6) ∧ At (MS M [box (B0 10) #[.int .i64 x0.1, .int .i64 x0.2.1, .bool x0.2.2.1, .int .i64 x0.2.2.2.1, .int .i64 x0.2.2.2.2] 40, box bb1 #[.slice a3 (fxV h).length c3, .slice a4 (fxI h).length c4, .slice a5 (fromM (fxI h)).length c5] 30, imm (.slice a5 (fromM (fxI h)).length c5) (fromM (fxI h)), imm (.slice a4 (fxI h).length c4) (fxI h), imm (.slice a3 (fxV h).length c3) (fxV h), box bb0 #[.slice a0 (fxV h).length c0, .slice a1 (fxI h).length c1, .slice a2 ([] : List Int).length c2] 30, imm (.slice a2 ([] : List Int).length c2) ([] : List Int), imm (.slice a1 (fxI h).length c1) (fxI h), imm (.slice a0 (fxV h).length c0) (fxV h), imm (.slice a_h h.length c_h) h]) w' ad6 x4, fun (v : Value) (w' : World) => ∃ (ad6 : Addr), v = .pointer (some ((ad6).add 2)) ∧ At (MS M [box (B0 10) #[.int .i64 x0.1, .int .i64 x0.2.1, .bool x0.2.2.1, .int .i64 x0.2.2.2.1, .int .i64 x0.2.2.2.2] 40, box bb1 #[.slice a3 (fxV h).length c3, .slice a4 (fxI h).length c4, .slice a5 (fromM (fxI h)).length c5] 30, imm (.slice a5 (fromM (fxI h)).length c5) (fromM (fxI h)), imm (.slice a4 (fxI h).length c4) (fxI h), imm (.slice a3 (fxV h).length c3) (fxV h), box bb0 #[.slice a0 (fxV h).length c0, .slice a1 (fxI h).length c1, .slice a2 ([] : List Int).length c2] 30, imm (.slice a2 ([] : List Int).length c2) ([] : List Int), imm (.slice a1 (fxI h).length c1) (fxI h), imm (.slice a0 (fxV h).length c0) (fxV h), imm (.slice a_h h.length c_h) h]) w' ad6 x4, fun (v : Value) (w' : World) => v = .bool x4.2.2.1, fun (v : Value) (w' : World) => v = .bool (!x4.2.2.1), fun (v : Value) (w' : World) => v = .bool (!x4.2.2.1), fun (v : Value) (w' : World) => v = .pointer (some ⟨bb0, 1, none⟩), fun (v : Value) (w' : World) => v = .slice a1 (fxI h).length c1, fun (v : Value) (w' : World) => v = .int .i64 x1 ∧ I64 (x1), fun (v : Value) (w' : World) => ∃ (ad7 : Addr), v = .pointer (some ad7) ∧ At (MS M [box (B0 10) #[.int .i64 x0.1, .int .i64 x0.2.1, .bool x0.2.2.1, .int .i64 x0.2.2.2.1, .int .i64 x0.2.2.2.2] 40, box bb1 #[.slice a3 (fxV h).length c3, .slice a4 (fxI h).length c4, .slice a5 (fromM (fxI h)).length c5] 30, imm (.slice a5 (fromM (fxI h)).length c5) (fromM (fxI h)), imm (.slice a4 (fxI h).length c4) (fxI h), imm (.slice a3 (fxV h).length c3) (fxV h), box bb0 #[.slice a0 (fxV h).length c0, .slice a1 (fxI h).length c1, .slice a2 ([] : List Int).length c2] 30, imm (.slice a2 ([] : List Int).length c2) ([] : List Int), imm (.slice a1 (fxI h).length c1) (fxI h), imm (.slice a0 (fxV h).length c0) (fxV h), imm (.slice a_h h.length c_h) h]) w' ad7 x4, fun (v : Value) (w' : World) => ∃ (ad7 : Addr), v = .pointer (some ((ad7).add 3)) ∧ At (MS M [box (B0 10) #[.int .i64 x0.1, .int .i64 x0.2.1, .bool x0.2.2.1, .int .i64 x0.2.2.2.1, .int .i64 x0.2.2.2.2] 40, box bb1 #[.slice a3 (fxV h).length c3, .slice a4 (fxI h).length c4, .slice a5 (fromM (fxI h)).length c5] 30, imm (.slice a5 (fromM (fxI h)).length c5) (fromM (fxI h)), imm (.slice a4 (fxI h).length c4) (fxI h), imm (.slice a3 (fxV h).length c3) (fxV h), box bb0 #[.slice a0 (fxV h).length c0, .slice a1 (fxI h).length c1, .slice a2 ([] : List Int).length c2] 30, imm (.slice a2 ([] : List Int).length c2) ([] : List Int), imm (.slice a1 (fxI h).length c1) (fxI h), imm (.slice a0 (fxV h).length c0) (fxV h), imm (.slice a_h h.length c_h) h]) w' ad7 x4, fun (v : Value) (w' : World) => v = .int .i64 x4.2.2.2.1 ∧ I64 (x4.2.2.2.1), fun (v : Value) (w' : World) => v = .pointer (some ⟨(B0 10), 3, none⟩), fun (v : Value) (w' : World) => v = .int .i64 x0.2.2.2.1 ∧ I64 (x0.2.2.2.1), fun (v : Value) (w' : World) => v = .bool (!decide (x4.2.2.2.1 = x0.2.2.2.1)), fun (v : Value) (w' : World) => v = .bool (!decide (x4.2.2.2.1 = x0.2.2.2.1)), fun (v : Value) (w' : World) => v = .bool (!decide (x4.2.2.2.1 = x0.2.2.2.1)), fun (v : Value) (w' : World) => v = .pointer (some ⟨bb0, 1, none⟩), fun (v : Value) (w' : World) => v = .slice a1 (fxI h).length c1, fun (v : Value) (w' : World) => v = .int .i64 x1 ∧ I64 (x1), fun (v : Value) (w' : World) => ∃ (ad8 : Addr), v = .pointer (some ad8) ∧ At (MS M [box (B0 10) #[.int .i64 x0.1, .int .i64 x0.2.1, .bool x0.2.2.1, .int .i64 x0.2.2.2.1, .int .i64 x0.2.2.2.2] 40, box bb1 #[.slice a3 (fxV h).length c3, .slice a4 (fxI h).length c4, .slice a5 (fromM (fxI h)).length c5] 30, imm (.slice a5 (fromM (fxI h)).length c5) (fromM (fxI h)), imm (.slice a4 (fxI h).length c4) (fxI h), imm (.slice a3 (fxV h).length c3) (fxV h), box bb0 #[.slice a0 (fxV h).length c0, .slice a1 (fxI h).length c1, .slice a2 ([] : List Int).length c2] 30, imm (.slice a2 ([] : List Int).length c2) ([] : List Int), imm (.slice a1 (fxI h).length c1) (fxI h), imm (.slice a0 (fxV h).length c0) (fxV h), imm (.slice a_h h.length c_h) h]) w' ad8 x4, fun (v : Value) (w' : World) => ∃ (ad8 : Addr), v = .pointer (some ((ad8).add 4)) ∧ At (MS M [box (B0 10) #[.int .i64 x0.1, .int .i64 x0.2.1, .bool x0.2.2.1, .int .i64 x0.2.2.2.1, .int .i64 x0.2.2.2.2] 40, box bb1 #[.slice a3 (fxV h).length c3, .slice a4 (fxI h).length c4, .slice a5 (fromM (fxI h)).length c5] 30, imm (.slice a5 (fromM (fxI h)).length c5) (fromM (fxI h)), imm (.slice a4 (fxI h).length c4) (fxI h), imm (.slice a3 (fxV h).length c3) (fxV h), box bb0 #[.slice a0 (fxV h).length c0, .slice a1 (fxI h).length c1, .slice a2 ([] : List Int).length c2] 30, imm (.slice a2 ([] : List Int).length c2) ([] : List Int), imm (.slice a1 (fxI h).length c1) (fxI h), imm (.slice a0 (fxV h).length c0) (fxV h), imm (.slice a_h h.length c_h) h]) w' ad8 x4, fun (v : Value) (w' : World) => v = .int .i64 x4.2.2.2.2 ∧ I64 (x4.2.2.2.2), fun (v : Value) (w' : World) => v = .pointer (some ⟨(B0 10), 4, none⟩), fun (v : Value) (w' : World) => v = .int .i64 x0.2.2.2.2 ∧ I64 (x0.2.2.2.2)] rfl (by kernel_rfl) ?_ ?_
            ·
              refine ⟨fun _ => ⟨fun f15 w24 hf13 xt21 hp13 => ?_, fun _ _ _ _ h => h⟩, ?_⟩
              ·
                have H19 := H18.ext xt21
                refine mv rfl ((hf13 8 rfl).trans s16) ?_
                exact ⟨_, rfl, Ext.refl _, ⟨rfl, rv19⟩⟩
              refine ⟨fun _ => ⟨fun f16 w25 hf14 xt22 hp14 => ?_, fun _ _ _ _ h => h⟩, ?_⟩
              ·
                have H20 := H18.ext xt22
                obtain ⟨s19, rv26⟩ : f16 74 = .int .i64 x1 ∧ I64 (x1) := hp14 0 rfl rfl
                refine geq rfl rfl s19 rfl ?_
                exact ⟨_, rfl, Ext.refl _, rfl⟩
              refine ⟨fun _ => ⟨fun f17 w26 hf15 xt23 hp15 => ?_, fun _ _ _ _ h => h⟩, ?_⟩
              ·
                have H21 := H18.ext xt23
                have s20 : f17 75 = .bool (decide (0 ≤ x1)) := hp15 1 rfl rfl
                refine mv rfl s20 ?_
                exact ⟨_, rfl, Ext.refl _, rfl⟩
              refine ⟨fun _ => ⟨fun f18 w27 hf16 xt24 hp16 => ?_, fun _ _ _ _ h => h⟩, ?_⟩
              ·
                have H22 := H18.ext xt24
                have s21 : f18 76 = .bool (decide (0 ≤ x1)) := hp16 2 rfl rfl
                refine gy rfl rfl s21 b3 (fa fl30_1 rfl ((hf16 3 rfl).trans s13) ?_)
                exact ⟨_, rfl, Ext.refl _, rfl⟩
              refine ⟨fun _ => ⟨fun f19 w28 hf17 xt25 hp17 => ?_, fun _ _ _ _ h => h⟩, ?_⟩
              ·
                have H23 := H18.ext xt25
                have s22 : f19 76 = .bool (decide (0 ≤ x1)) := hp17 2 rfl rfl
                have s23 : f19 77 = .pointer (some ⟨bb0, 1, none⟩) := hp17 3 rfl rfl
                refine gy rfl rfl s22 b3 (ldX H23 5 rfl ty27 rfl s23 (by decide) rfl ?_)
                exact ⟨_, rfl, Ext.refl _, rfl⟩
              refine ⟨fun _ => ⟨fun f20 w29 hf18 xt26 hp18 => ?_, fun _ _ _ _ h => h⟩, ?_⟩
              ·
                have H24 := H18.ext xt26
                have s24 : f20 76 = .bool (decide (0 ≤ x1)) := hp18 2 rfl rfl
                refine gy rfl rfl s24 b3 (mv rfl ((hf18 8 rfl).trans s16) ?_)
                exact ⟨_, rfl, Ext.refl _, ⟨rfl, rv19⟩⟩
              refine ⟨fun _ => ⟨fun f21 w30 hf19 xt27 hp19 => ?_, by rintro _ _ _ x_ ⟨ad6, e_, hA6⟩; exact ⟨ad6, e_, hA6.lift (Up.ext x_)⟩⟩, ?_⟩
              ·
                have H25 := H18.ext xt27
                have s25 : f21 76 = .bool (decide (0 ≤ x1)) := hp19 2 rfl rfl
                have s26 : f21 78 = .slice a1 (fxI h).length c1 := hp19 4 rfl rfl
                obtain ⟨s27, rv27⟩ : f21 79 = .int .i64 x1 ∧ I64 (x1) := hp19 5 rfl rfl
                refine gy rfl rfl s25 b3 (ia (H25.rv 7 rfl) rfl rfl s26 s27 (by first | omega | (simp; omega)) un27 ty40 ?_)
                intro ad9 x7 hx7 hA9
                obtain rfl : x4 = x7 := Option.some.inj (hx4.symm.trans hx7)
                exact ⟨_, rfl, Ext.refl _, ⟨ad9, rfl, hA9⟩⟩
              refine ⟨fun _ => ⟨fun f22 w31 hf20 xt28 hp20 => ?_, by rintro _ _ _ x_ ⟨ad6, e_, hA6⟩; exact ⟨ad6, e_, hA6.lift (Up.ext x_)⟩⟩, ?_⟩
              ·
                have H26 := H18.ext xt28
                have s28 : f22 76 = .bool (decide (0 ≤ x1)) := hp20 2 rfl rfl
                obtain ⟨ad10, s29, hA10⟩ : ∃ (ad10 : Addr), f22 80 = .pointer (some ad10) ∧ At (MS M [box (B0 10) #[.int .i64 x0.1, .int .i64 x0.2.1, .bool x0.2.2.1, .int .i64 x0.2.2.2.1, .int .i64 x0.2.2.2.2] 40, box bb1 #[.slice a3 (fxV h).length c3, .slice a4 (fxI h).length c4, .slice a5 (fromM (fxI h)).length c5] 30, imm (.slice a5 (fromM (fxI h)).length c5) (fromM (fxI h)), imm (.slice a4 (fxI h).length c4) (fxI h), imm (.slice a3 (fxV h).length c3) (fxV h), box bb0 #[.slice a0 (fxV h).length c0, .slice a1 (fxI h).length c1, .slice a2 ([] : List Int).length c2] 30, imm (.slice a2 ([] : List Int).length c2) ([] : List Int), imm (.slice a1 (fxI h).length c1) (fxI h), imm (.slice a0 (fxV h).length c0) (fxV h), imm (.slice a_h h.length c_h) h]) w31 ad10 x4 := hp20 6 rfl rfl
                have H27 := H26.put (it := atI ad10 x4) rfl hA10
                refine gy rfl rfl s28 b3 (fa fl40_2 rfl s29 ?_)
                exact ⟨_, rfl, Ext.refl _, ⟨ad10, rfl, (by assumption)⟩⟩
              refine ⟨fun _ => ⟨fun f23 w32 hf21 xt29 hp21 => ?_, fun _ _ _ _ h => h⟩, ?_⟩
              ·
                have H28 := H18.ext xt29
                have s30 : f23 76 = .bool (decide (0 ≤ x1)) := hp21 2 rfl rfl
                obtain ⟨ad11, s31, hA11⟩ : ∃ (ad11 : Addr), f23 81 = .pointer (some ((ad11).add 2)) ∧ At (MS M [box (B0 10) #[.int .i64 x0.1, .int .i64 x0.2.1, .bool x0.2.2.1, .int .i64 x0.2.2.2.1, .int .i64 x0.2.2.2.2] 40, box bb1 #[.slice a3 (fxV h).length c3, .slice a4 (fxI h).length c4, .slice a5 (fromM (fxI h)).length c5] 30, imm (.slice a5 (fromM (fxI h)).length c5) (fromM (fxI h)), imm (.slice a4 (fxI h).length c4) (fxI h), imm (.slice a3 (fxV h).length c3) (fxV h), box bb0 #[.slice a0 (fxV h).length c0, .slice a1 (fxI h).length c1, .slice a2 ([] : List Int).length c2] 30, imm (.slice a2 ([] : List Int).length c2) ([] : List Int), imm (.slice a1 (fxI h).length c1) (fxI h), imm (.slice a0 (fxV h).length c0) (fxV h), imm (.slice a_h h.length c_h) h]) w32 ad11 x4 := hp21 7 rfl rfl
                have H29 := H28.put (it := atI ad11 x4) rfl hA11
                refine gy rfl rfl s30 b3 (ldB (((H29.atv 0 rfl)).s2).fst.w ty4 rfl s31 ?_)
                exact ⟨_, rfl, Ext.refl _, rfl⟩
              refine ⟨fun _ => ⟨fun f24 w33 hf22 xt30 hp22 => ?_, fun _ _ _ _ h => h⟩, ?_⟩
              ·
                have H30 := H18.ext xt30
                have s32 : f24 76 = .bool (decide (0 ≤ x1)) := hp22 2 rfl rfl
                have s33 : f24 82 = .bool x4.2.2.1 := hp22 8 rfl rfl
                refine gy rfl rfl s32 b3 (not_ rfl s33 ?_)
                exact ⟨_, rfl, Ext.refl _, rfl⟩
              refine ⟨fun _ => ⟨fun f25 w34 hf23 xt31 hp23 => ?_, fun _ _ _ _ h => h⟩, ?_⟩
              ·
                have H31 := H18.ext xt31
                have s34 : f25 76 = .bool (decide (0 ≤ x1)) := hp23 2 rfl rfl
                have s35 : f25 83 = .bool (!x4.2.2.1) := hp23 9 rfl rfl
                refine gy rfl rfl s34 b3 (mv rfl s35 ?_)
                exact ⟨_, rfl, Ext.refl _, rfl⟩
              refine ⟨fun _ => ⟨fun f26 w35 hf24 xt32 hp24 => ?_, fun _ _ _ _ h => h⟩, ?_⟩
              ·
                have H32 := H18.ext xt32
                have s36 : f26 84 = .bool (!x4.2.2.1) := hp24 10 rfl rfl
                have tr4 : (x4.2.2.1) = true := (by obtain ⟨y_, a1_, a2_, a3_, a4_, a5_⟩ := hf5_ (of_decide_eq_true b3); have e_ := at_is hx4 a1_; subst e_; exact a2_)
                refine gy rfl rfl s36 (by rw [show (x4.2.2.1) = true from tr4]; rfl) (fa fl30_1 rfl ((hf24 3 rfl).trans s13) ?_)
                exact ⟨_, rfl, Ext.refl _, rfl⟩
              refine ⟨fun _ => ⟨fun f27 w36 hf25 xt33 hp25 => ?_, fun _ _ _ _ h => h⟩, ?_⟩
              ·
                have H33 := H18.ext xt33
                have s37 : f27 84 = .bool (!x4.2.2.1) := hp25 10 rfl rfl
                have s38 : f27 85 = .pointer (some ⟨bb0, 1, none⟩) := hp25 11 rfl rfl
                have tr5 : (x4.2.2.1) = true := (by obtain ⟨y_, a1_, a2_, a3_, a4_, a5_⟩ := hf5_ (of_decide_eq_true b3); have e_ := at_is hx4 a1_; subst e_; exact a2_)
                refine gy rfl rfl s37 (by rw [show (x4.2.2.1) = true from tr5]; rfl) (ldX H33 5 rfl ty27 rfl s38 (by decide) rfl ?_)
                exact ⟨_, rfl, Ext.refl _, rfl⟩
              refine ⟨fun _ => ⟨fun f28 w37 hf26 xt34 hp26 => ?_, fun _ _ _ _ h => h⟩, ?_⟩
              ·
                have H34 := H18.ext xt34
                have s39 : f28 84 = .bool (!x4.2.2.1) := hp26 10 rfl rfl
                have tr6 : (x4.2.2.1) = true := (by obtain ⟨y_, a1_, a2_, a3_, a4_, a5_⟩ := hf5_ (of_decide_eq_true b3); have e_ := at_is hx4 a1_; subst e_; exact a2_)
                refine gy rfl rfl s39 (by rw [show (x4.2.2.1) = true from tr6]; rfl) (mv rfl ((hf26 8 rfl).trans s16) ?_)
                exact ⟨_, rfl, Ext.refl _, ⟨rfl, rv19⟩⟩
              refine ⟨fun _ => ⟨fun f29 w38 hf27 xt35 hp27 => ?_, by rintro _ _ _ x_ ⟨ad7, e_, hA7⟩; exact ⟨ad7, e_, hA7.lift (Up.ext x_)⟩⟩, ?_⟩
              ·
                have H35 := H18.ext xt35
                have s40 : f29 84 = .bool (!x4.2.2.1) := hp27 10 rfl rfl
                have s41 : f29 86 = .slice a1 (fxI h).length c1 := hp27 12 rfl rfl
                obtain ⟨s42, rv28⟩ : f29 87 = .int .i64 x1 ∧ I64 (x1) := hp27 13 rfl rfl
                have tr7 : (x4.2.2.1) = true := (by obtain ⟨y_, a1_, a2_, a3_, a4_, a5_⟩ := hf5_ (of_decide_eq_true b3); have e_ := at_is hx4 a1_; subst e_; exact a2_)
                refine gy rfl rfl s40 (by rw [show (x4.2.2.1) = true from tr7]; rfl) (ia (H35.rv 7 rfl) rfl rfl s41 s42 (by first | omega | (simp; omega)) un27 ty40 ?_)
                intro ad12 x8 hx8 hA12
                obtain rfl : x4 = x8 := Option.some.inj (hx4.symm.trans hx8)
                exact ⟨_, rfl, Ext.refl _, ⟨ad12, rfl, hA12⟩⟩
              refine ⟨fun _ => ⟨fun f30 w39 hf28 xt36 hp28 => ?_, by rintro _ _ _ x_ ⟨ad7, e_, hA7⟩; exact ⟨ad7, e_, hA7.lift (Up.ext x_)⟩⟩, ?_⟩
              ·
                have H36 := H18.ext xt36
                have s43 : f30 84 = .bool (!x4.2.2.1) := hp28 10 rfl rfl
                obtain ⟨ad13, s44, hA13⟩ : ∃ (ad13 : Addr), f30 88 = .pointer (some ad13) ∧ At (MS M [box (B0 10) #[.int .i64 x0.1, .int .i64 x0.2.1, .bool x0.2.2.1, .int .i64 x0.2.2.2.1, .int .i64 x0.2.2.2.2] 40, box bb1 #[.slice a3 (fxV h).length c3, .slice a4 (fxI h).length c4, .slice a5 (fromM (fxI h)).length c5] 30, imm (.slice a5 (fromM (fxI h)).length c5) (fromM (fxI h)), imm (.slice a4 (fxI h).length c4) (fxI h), imm (.slice a3 (fxV h).length c3) (fxV h), box bb0 #[.slice a0 (fxV h).length c0, .slice a1 (fxI h).length c1, .slice a2 ([] : List Int).length c2] 30, imm (.slice a2 ([] : List Int).length c2) ([] : List Int), imm (.slice a1 (fxI h).length c1) (fxI h), imm (.slice a0 (fxV h).length c0) (fxV h), imm (.slice a_h h.length c_h) h]) w39 ad13 x4 := hp28 14 rfl rfl
                have H37 := H36.put (it := atI ad13 x4) rfl hA13
                have tr8 : (x4.2.2.1) = true := (by obtain ⟨y_, a1_, a2_, a3_, a4_, a5_⟩ := hf5_ (of_decide_eq_true b3); have e_ := at_is hx4 a1_; subst e_; exact a2_)
                refine gy rfl rfl s43 (by rw [show (x4.2.2.1) = true from tr8]; rfl) (fa fl40_3 rfl s44 ?_)
                exact ⟨_, rfl, Ext.refl _, ⟨ad13, rfl, (by assumption)⟩⟩
              refine ⟨fun _ => ⟨fun f31 w40 hf29 xt37 hp29 => ?_, fun _ _ _ _ h => h⟩, ?_⟩
              ·
                have H38 := H18.ext xt37
                have s45 : f31 84 = .bool (!x4.2.2.1) := hp29 10 rfl rfl
                obtain ⟨ad14, s46, hA14⟩ : ∃ (ad14 : Addr), f31 89 = .pointer (some ((ad14).add 3)) ∧ At (MS M [box (B0 10) #[.int .i64 x0.1, .int .i64 x0.2.1, .bool x0.2.2.1, .int .i64 x0.2.2.2.1, .int .i64 x0.2.2.2.2] 40, box bb1 #[.slice a3 (fxV h).length c3, .slice a4 (fxI h).length c4, .slice a5 (fromM (fxI h)).length c5] 30, imm (.slice a5 (fromM (fxI h)).length c5) (fromM (fxI h)), imm (.slice a4 (fxI h).length c4) (fxI h), imm (.slice a3 (fxV h).length c3) (fxV h), box bb0 #[.slice a0 (fxV h).length c0, .slice a1 (fxI h).length c1, .slice a2 ([] : List Int).length c2] 30, imm (.slice a2 ([] : List Int).length c2) ([] : List Int), imm (.slice a1 (fxI h).length c1) (fxI h), imm (.slice a0 (fxV h).length c0) (fxV h), imm (.slice a_h h.length c_h) h]) w40 ad14 x4 := hp29 15 rfl rfl
                have H39 := H38.put (it := atI ad14 x4) rfl hA14
                have tr9 : (x4.2.2.1) = true := (by obtain ⟨y_, a1_, a2_, a3_, a4_, a5_⟩ := hf5_ (of_decide_eq_true b3); have e_ := at_is hx4 a1_; subst e_; exact a2_)
                refine gy rfl rfl s45 (by rw [show (x4.2.2.1) = true from tr9]; rfl) (ldI (((H39.atv 0 rfl)).s3).fst.w ty3 rfl s46 ?_)
                intro rv29
                exact ⟨_, rfl, Ext.refl _, ⟨rfl, rv29⟩⟩
              refine ⟨fun _ => ⟨fun f32 w41 hf30 xt38 hp30 => ?_, fun _ _ _ _ h => h⟩, ?_⟩
              ·
                have H40 := H18.ext xt38
                have s47 : f32 84 = .bool (!x4.2.2.1) := hp30 10 rfl rfl
                have tr10 : (x4.2.2.1) = true := (by obtain ⟨y_, a1_, a2_, a3_, a4_, a5_⟩ := hf5_ (of_decide_eq_true b3); have e_ := at_is hx4 a1_; subst e_; exact a2_)
                refine gy rfl rfl s47 (by rw [show (x4.2.2.1) = true from tr10]; rfl) (fa fl40_3 rfl ((hf30 7 rfl).trans s18) ?_)
                exact ⟨_, rfl, Ext.refl _, rfl⟩
              refine ⟨fun _ => ⟨fun f33 w42 hf31 xt39 hp31 => ?_, fun _ _ _ _ h => h⟩, ?_⟩
              ·
                have H41 := H18.ext xt39
                have s48 : f33 84 = .bool (!x4.2.2.1) := hp31 10 rfl rfl
                have s49 : f33 91 = .pointer (some ⟨(B0 10), 3, none⟩) := hp31 17 rfl rfl
                have tr11 : (x4.2.2.1) = true := (by obtain ⟨y_, a1_, a2_, a3_, a4_, a5_⟩ := hf5_ (of_decide_eq_true b3); have e_ := at_is hx4 a1_; subst e_; exact a2_)
                refine gy rfl rfl s48 (by rw [show (x4.2.2.1) = true from tr11]; rfl) (ldX H41 0 rfl ty3 rfl s49 (by decide) rfl ?_)
                exact ⟨_, rfl, Ext.refl _, ⟨rfl, rv22⟩⟩
              refine ⟨fun _ => ⟨fun f34 w43 hf32 xt40 hp32 => ?_, fun _ _ _ _ h => h⟩, ?_⟩
              ·
                have H42 := H18.ext xt40
                have s50 : f34 84 = .bool (!x4.2.2.1) := hp32 10 rfl rfl
                obtain ⟨s51, rv30⟩ : f34 90 = .int .i64 x4.2.2.2.1 ∧ I64 (x4.2.2.2.1) := hp32 16 rfl rfl
                obtain ⟨s52, rv31⟩ : f34 92 = .int .i64 x0.2.2.2.1 ∧ I64 (x0.2.2.2.1) := hp32 18 rfl rfl
                have tr12 : (x4.2.2.1) = true := (by obtain ⟨y_, a1_, a2_, a3_, a4_, a5_⟩ := hf5_ (of_decide_eq_true b3); have e_ := at_is hx4 a1_; subst e_; exact a2_)
                refine gy rfl rfl s50 (by rw [show (x4.2.2.1) = true from tr12]; rfl) (neq rfl rfl s51 s52 ?_)
                exact ⟨_, rfl, Ext.refl _, rfl⟩
              refine ⟨fun _ => ⟨fun f35 w44 hf33 xt41 hp33 => ?_, fun _ _ _ _ h => h⟩, ?_⟩
              ·
                have H43 := H18.ext xt41
                have s53 : f35 76 = .bool (decide (0 ≤ x1)) := hp33 2 rfl rfl
                have s54 : f35 84 = .bool (!x4.2.2.1) := hp33 10 rfl rfl
                have s55 : f35 93 = .bool (!decide (x4.2.2.2.1 = x0.2.2.2.1)) := hp33 19 rfl rfl
                refine gy rfl rfl s53 b3 ?_
                have tr13 : (x4.2.2.1) = true := (by obtain ⟨y_, a1_, a2_, a3_, a4_, a5_⟩ := hf5_ (of_decide_eq_true b3); have e_ := at_is hx4 a1_; subst e_; exact a2_)
                refine pickF rfl rfl rfl s54 (by rw [show (x4.2.2.1) = true from tr13]; rfl) s55 ?_
                exact ⟨_, rfl, Ext.refl _, rfl⟩
              refine ⟨fun _ => ⟨fun f36 w45 hf34 xt42 hp34 => ?_, fun _ _ _ _ h => h⟩, ?_⟩
              ·
                have H44 := H18.ext xt42
                have s56 : f36 76 = .bool (decide (0 ≤ x1)) := hp34 2 rfl rfl
                have s57 : f36 94 = .bool (!decide (x4.2.2.2.1 = x0.2.2.2.1)) := hp34 20 rfl rfl
                refine gy rfl rfl s56 b3 (mv rfl s57 ?_)
                exact ⟨_, rfl, Ext.refl _, rfl⟩
              refine ⟨fun _ => ⟨fun f37 w46 hf35 xt43 hp35 => ?_, fun _ _ _ _ h => h⟩, ?_⟩
              ·
                have H45 := H18.ext xt43
                have s58 : f37 95 = .bool (!decide (x4.2.2.2.1 = x0.2.2.2.1)) := hp35 21 rfl rfl
                have tr14 : (decide (x4.2.2.2.1 = x0.2.2.2.1)) = true := (by obtain ⟨y_, a1_, a2_, a3_, a4_, a5_⟩ := hf5_ (of_decide_eq_true b3); have e_ := at_is hx4 a1_; subst e_; exact decide_eq_true a3_)
                refine gy rfl rfl s58 (by rw [show (decide (x4.2.2.2.1 = x0.2.2.2.1)) = true from tr14]; rfl) (fa fl30_1 rfl ((hf35 3 rfl).trans s13) ?_)
                exact ⟨_, rfl, Ext.refl _, rfl⟩
              refine ⟨fun _ => ⟨fun f38 w47 hf36 xt44 hp36 => ?_, fun _ _ _ _ h => h⟩, ?_⟩
              ·
                have H46 := H18.ext xt44
                have s59 : f38 95 = .bool (!decide (x4.2.2.2.1 = x0.2.2.2.1)) := hp36 21 rfl rfl
                have s60 : f38 96 = .pointer (some ⟨bb0, 1, none⟩) := hp36 22 rfl rfl
                have tr15 : (decide (x4.2.2.2.1 = x0.2.2.2.1)) = true := (by obtain ⟨y_, a1_, a2_, a3_, a4_, a5_⟩ := hf5_ (of_decide_eq_true b3); have e_ := at_is hx4 a1_; subst e_; exact decide_eq_true a3_)
                refine gy rfl rfl s59 (by rw [show (decide (x4.2.2.2.1 = x0.2.2.2.1)) = true from tr15]; rfl) (ldX H46 5 rfl ty27 rfl s60 (by decide) rfl ?_)
                exact ⟨_, rfl, Ext.refl _, rfl⟩
              refine ⟨fun _ => ⟨fun f39 w48 hf37 xt45 hp37 => ?_, fun _ _ _ _ h => h⟩, ?_⟩
              ·
                have H47 := H18.ext xt45
                have s61 : f39 95 = .bool (!decide (x4.2.2.2.1 = x0.2.2.2.1)) := hp37 21 rfl rfl
                have tr16 : (decide (x4.2.2.2.1 = x0.2.2.2.1)) = true := (by obtain ⟨y_, a1_, a2_, a3_, a4_, a5_⟩ := hf5_ (of_decide_eq_true b3); have e_ := at_is hx4 a1_; subst e_; exact decide_eq_true a3_)
                refine gy rfl rfl s61 (by rw [show (decide (x4.2.2.2.1 = x0.2.2.2.1)) = true from tr16]; rfl) (mv rfl ((hf37 8 rfl).trans s16) ?_)
                exact ⟨_, rfl, Ext.refl _, ⟨rfl, rv19⟩⟩
              refine ⟨fun _ => ⟨fun f40 w49 hf38 xt46 hp38 => ?_, by rintro _ _ _ x_ ⟨ad8, e_, hA8⟩; exact ⟨ad8, e_, hA8.lift (Up.ext x_)⟩⟩, ?_⟩
              ·
                have H48 := H18.ext xt46
                have s62 : f40 95 = .bool (!decide (x4.2.2.2.1 = x0.2.2.2.1)) := hp38 21 rfl rfl
                have s63 : f40 97 = .slice a1 (fxI h).length c1 := hp38 23 rfl rfl
                obtain ⟨s64, rv32⟩ : f40 98 = .int .i64 x1 ∧ I64 (x1) := hp38 24 rfl rfl
                have tr17 : (decide (x4.2.2.2.1 = x0.2.2.2.1)) = true := (by obtain ⟨y_, a1_, a2_, a3_, a4_, a5_⟩ := hf5_ (of_decide_eq_true b3); have e_ := at_is hx4 a1_; subst e_; exact decide_eq_true a3_)
                refine gy rfl rfl s62 (by rw [show (decide (x4.2.2.2.1 = x0.2.2.2.1)) = true from tr17]; rfl) (ia (H48.rv 7 rfl) rfl rfl s63 s64 (by first | omega | (simp; omega)) un27 ty40 ?_)
                intro ad15 x9 hx9 hA15
                obtain rfl : x4 = x9 := Option.some.inj (hx4.symm.trans hx9)
                exact ⟨_, rfl, Ext.refl _, ⟨ad15, rfl, hA15⟩⟩
              refine ⟨fun _ => ⟨fun f41 w50 hf39 xt47 hp39 => ?_, by rintro _ _ _ x_ ⟨ad8, e_, hA8⟩; exact ⟨ad8, e_, hA8.lift (Up.ext x_)⟩⟩, ?_⟩
              ·
                have H49 := H18.ext xt47
                have s65 : f41 95 = .bool (!decide (x4.2.2.2.1 = x0.2.2.2.1)) := hp39 21 rfl rfl
                obtain ⟨ad16, s66, hA16⟩ : ∃ (ad16 : Addr), f41 99 = .pointer (some ad16) ∧ At (MS M [box (B0 10) #[.int .i64 x0.1, .int .i64 x0.2.1, .bool x0.2.2.1, .int .i64 x0.2.2.2.1, .int .i64 x0.2.2.2.2] 40, box bb1 #[.slice a3 (fxV h).length c3, .slice a4 (fxI h).length c4, .slice a5 (fromM (fxI h)).length c5] 30, imm (.slice a5 (fromM (fxI h)).length c5) (fromM (fxI h)), imm (.slice a4 (fxI h).length c4) (fxI h), imm (.slice a3 (fxV h).length c3) (fxV h), box bb0 #[.slice a0 (fxV h).length c0, .slice a1 (fxI h).length c1, .slice a2 ([] : List Int).length c2] 30, imm (.slice a2 ([] : List Int).length c2) ([] : List Int), imm (.slice a1 (fxI h).length c1) (fxI h), imm (.slice a0 (fxV h).length c0) (fxV h), imm (.slice a_h h.length c_h) h]) w50 ad16 x4 := hp39 25 rfl rfl
                have H50 := H49.put (it := atI ad16 x4) rfl hA16
                have tr18 : (decide (x4.2.2.2.1 = x0.2.2.2.1)) = true := (by obtain ⟨y_, a1_, a2_, a3_, a4_, a5_⟩ := hf5_ (of_decide_eq_true b3); have e_ := at_is hx4 a1_; subst e_; exact decide_eq_true a3_)
                refine gy rfl rfl s65 (by rw [show (decide (x4.2.2.2.1 = x0.2.2.2.1)) = true from tr18]; rfl) (fa fl40_4 rfl s66 ?_)
                exact ⟨_, rfl, Ext.refl _, ⟨ad16, rfl, (by assumption)⟩⟩
              refine ⟨fun _ => ⟨fun f42 w51 hf40 xt48 hp40 => ?_, fun _ _ _ _ h => h⟩, ?_⟩
              ·
                have H51 := H18.ext xt48
                have s67 : f42 95 = .bool (!decide (x4.2.2.2.1 = x0.2.2.2.1)) := hp40 21 rfl rfl
                obtain ⟨ad17, s68, hA17⟩ : ∃ (ad17 : Addr), f42 100 = .pointer (some ((ad17).add 4)) ∧ At (MS M [box (B0 10) #[.int .i64 x0.1, .int .i64 x0.2.1, .bool x0.2.2.1, .int .i64 x0.2.2.2.1, .int .i64 x0.2.2.2.2] 40, box bb1 #[.slice a3 (fxV h).length c3, .slice a4 (fxI h).length c4, .slice a5 (fromM (fxI h)).length c5] 30, imm (.slice a5 (fromM (fxI h)).length c5) (fromM (fxI h)), imm (.slice a4 (fxI h).length c4) (fxI h), imm (.slice a3 (fxV h).length c3) (fxV h), box bb0 #[.slice a0 (fxV h).length c0, .slice a1 (fxI h).length c1, .slice a2 ([] : List Int).length c2] 30, imm (.slice a2 ([] : List Int).length c2) ([] : List Int), imm (.slice a1 (fxI h).length c1) (fxI h), imm (.slice a0 (fxV h).length c0) (fxV h), imm (.slice a_h h.length c_h) h]) w51 ad17 x4 := hp40 26 rfl rfl
                have H52 := H51.put (it := atI ad17 x4) rfl hA17
                have tr19 : (decide (x4.2.2.2.1 = x0.2.2.2.1)) = true := (by obtain ⟨y_, a1_, a2_, a3_, a4_, a5_⟩ := hf5_ (of_decide_eq_true b3); have e_ := at_is hx4 a1_; subst e_; exact decide_eq_true a3_)
                refine gy rfl rfl s67 (by rw [show (decide (x4.2.2.2.1 = x0.2.2.2.1)) = true from tr19]; rfl) (ldI ((H52.atv 0 rfl)).s4.w ty3 rfl s68 ?_)
                intro rv33
                exact ⟨_, rfl, Ext.refl _, ⟨rfl, rv33⟩⟩
              refine ⟨fun _ => ⟨fun f43 w52 hf41 xt49 hp41 => ?_, fun _ _ _ _ h => h⟩, ?_⟩
              ·
                have H53 := H18.ext xt49
                have s69 : f43 95 = .bool (!decide (x4.2.2.2.1 = x0.2.2.2.1)) := hp41 21 rfl rfl
                have tr20 : (decide (x4.2.2.2.1 = x0.2.2.2.1)) = true := (by obtain ⟨y_, a1_, a2_, a3_, a4_, a5_⟩ := hf5_ (of_decide_eq_true b3); have e_ := at_is hx4 a1_; subst e_; exact decide_eq_true a3_)
                refine gy rfl rfl s69 (by rw [show (decide (x4.2.2.2.1 = x0.2.2.2.1)) = true from tr20]; rfl) (fa fl40_4 rfl ((hf41 7 rfl).trans s18) ?_)
                exact ⟨_, rfl, Ext.refl _, rfl⟩
              refine ⟨fun _ => ⟨fun f44 w53 hf42 xt50 hp42 => ?_, fun _ _ _ _ h => h⟩, ?_⟩
              ·
                have H54 := H18.ext xt50
                have s70 : f44 95 = .bool (!decide (x4.2.2.2.1 = x0.2.2.2.1)) := hp42 21 rfl rfl
                have s71 : f44 102 = .pointer (some ⟨(B0 10), 4, none⟩) := hp42 28 rfl rfl
                have tr21 : (decide (x4.2.2.2.1 = x0.2.2.2.1)) = true := (by obtain ⟨y_, a1_, a2_, a3_, a4_, a5_⟩ := hf5_ (of_decide_eq_true b3); have e_ := at_is hx4 a1_; subst e_; exact decide_eq_true a3_)
                refine gy rfl rfl s70 (by rw [show (decide (x4.2.2.2.1 = x0.2.2.2.1)) = true from tr21]; rfl) (ldX H54 0 rfl ty3 rfl s71 (by decide) rfl ?_)
                exact ⟨_, rfl, Ext.refl _, ⟨rfl, rv23⟩⟩
              exact DSteps.rest rfl _
            · intro f45 w54 hf43 xt51 hp43
              have H55 := H18.ext xt51
              have s72 : f45 3 = .pointer (some ⟨bb0, 0, none⟩) := (hf43 3 rfl).trans s13
              have s73 : f45 5 = .pointer (some ⟨bb1, 0, none⟩) := (hf43 5 rfl).trans s14
              have s74 : f45 6 = .int .i64 (j : Int) := (hf43 6 rfl).trans s15
              have s75 : f45 7 = .pointer (some ⟨(B0 10), 0, none⟩) := (hf43 7 rfl).trans s18
              have s76 : f45 8 = .int .i64 x1 := (hf43 8 rfl).trans s16
              have s77 : f45 76 = .bool (decide (0 ≤ x1)) := hp43 2 rfl
              have s78 : f45 95 = .bool (!decide (x4.2.2.2.1 = x0.2.2.2.1)) := hp43 21 rfl
              obtain ⟨s79, rv34⟩ : f45 101 = .int .i64 x4.2.2.2.2 ∧ I64 (x4.2.2.2.2) := hp43 27 rfl
              obtain ⟨s80, rv35⟩ : f45 103 = .int .i64 x0.2.2.2.2 ∧ I64 (x0.2.2.2.2) := hp43 29 rfl
              have tr22 : (decide (x4.2.2.2.1 = x0.2.2.2.1)) = true := (by obtain ⟨y_, a1_, a2_, a3_, a4_, a5_⟩ := hf5_ (of_decide_eq_true b3); have e_ := at_is hx4 a1_; subst e_; exact decide_eq_true a3_)
              refine k (gy rfl rfl s78 (by rw [show (decide (x4.2.2.2.1 = x0.2.2.2.1)) = true from tr22]; rfl) (neq rfl rfl s79 s80 (k (gy rfl rfl s77 b3 (pickF rfl rfl rfl s78 (by rw [show (decide (x4.2.2.2.1 = x0.2.2.2.1)) = true from tr22]; rfl) rfl (k (gy rfl rfl s77 b3 (mv (v := .bool (!decide (x4.2.2.2.2 = x0.2.2.2.2))) rfl rfl ?_))))))))
              have tr23 : (decide (x4.2.2.2.2 = x0.2.2.2.2)) = true := (by obtain ⟨y_, a1_, a2_, a3_, a4_, a5_⟩ := hf5_ (of_decide_eq_true b3); have e_ := at_is hx4 a1_; subst e_; exact decide_eq_true a4_)
              refine k (gy rfl rfl rfl (by rw [show (decide (x4.2.2.2.2 = x0.2.2.2.2)) = true from tr23]; rfl) (fa fl40_4 rfl s75 (k (gy rfl rfl rfl (by rw [show (decide (x4.2.2.2.2 = x0.2.2.2.2)) = true from tr23]; rfl) (ldX H55 0 rfl ty3 rfl rfl (by decide) rfl (k (gy rfl rfl rfl (by rw [show (decide (x4.2.2.2.2 = x0.2.2.2.2)) = true from tr23]; rfl) (eql rfl rfl rfl rfl (k (gy rfl rfl s77 b3 (pickF rfl rfl rfl rfl (by rw [show (decide (x4.2.2.2.2 = x0.2.2.2.2)) = true from tr23]; rfl) rfl (k (pickT rfl rfl rfl s77 b3 rfl (z (nx ?_)))))))))))))))
              have tr24 : (decide (x0.2.2.2.2 = 0)) = false := (by obtain ⟨y_, a1_, a2_, a3_, a4_, a5_⟩ := hf5_ (of_decide_eq_true b3); exact decide_eq_false a5_)
              refine cdF rfl rfl tr24 (sk (nx (sq (rg (k (asg (v := .int .i64 0) rfl rfl (z (nx (bk ?_)))))))))
              refine lp (fun m f w' => ∃ (q : Nat), m = (fxI h).length - q ∧ f 3 = .pointer (some ⟨bb0, 0, none⟩) ∧ f 5 = .pointer (some ⟨bb1, 0, none⟩) ∧ f 6 = .int .i64 (j : Int) ∧ f 7 = .pointer (some ⟨(B0 10), 0, none⟩) ∧ f 8 = .int .i64 x1 ∧ f 9 = .int .i64 (q : Int) ∧  HI M w w' [box (B0 10) #[.int .i64 x0.1, .int .i64 x0.2.1, .bool x0.2.2.1, .int .i64 x0.2.2.2.1, .int .i64 x0.2.2.2.2] 40, box bb1 #[.slice a3 (fxV h).length c3, .slice a4 (fxI h).length c4, .slice a5 (fromM (fxI h)).length c5] 30, imm (.slice a5 (fromM (fxI h)).length c5) (fromM (fxI h)), imm (.slice a4 (fxI h).length c4) (fxI h), imm (.slice a3 (fxV h).length c3) (fxV h), box bb0 #[.slice a0 (fxV h).length c0, .slice a1 (fxI h).length c1, .slice a2 ([] : List Int).length c2] 30, imm (.slice a2 ([] : List Int).length c2) ([] : List Int), imm (.slice a1 (fxI h).length c1) (fxI h), imm (.slice a0 (fxV h).length c0) (fxV h), imm (.slice a_h h.length c_h) h] ∧ (q ≤ (fxI h).length)) _ ⟨0, rfl, s72, s73, s74, s75, s76, (ieq rfl (by first | rfl | omega | simp)), H55, (by first | assumption | omega | simp | (simp; omega))⟩ ?_
              rintro _ f46 w55 ⟨q, rfl, s81, s82, s83, s84, s85, s86, H56, hq_⟩
              refine sq (sq (rg (k (mv rfl s86 (k (fa fl30_1 rfl s81 (k (ldX H56 5 rfl ty27 rfl rfl (by decide) rfl (k (lnS rfl rfl un27 (k (lss rfl rfl rfl rfl (k (mv (v := .bool (decide ((q : Int) < ((fxI h).length : Int)))) rfl rfl ?_))))))))))))))
              rcases Bool.eq_false_or_eq_true (decide ((q : Int) < ((fxI h).length : Int))) with b4 | b4
              · -- decide ((q : Int) < ((fxI h).length : Int)) is True
                have p4 := of_decide_eq_true b4
                refine k (gy rfl rfl rfl b4 (mv rfl s85 (k (gy rfl rfl rfl b4 (eql rfl rfl rfl rfl (k (pickT rfl rfl rfl rfl b4 rfl (z (nx (cdF rfl rfl (decide_eq_false (by have h_ := of_decide_eq_true b3; omega)) (ex (then_exit (loop_exit (inb_here (inb_normal (nx (rg (k (mv rfl s83 (k (add rfl rfl rfl rfl (by unfold I64 at *; omega) (k (asg (v := .int .i64 ((j : Int) + 1)) rfl rfl (z ?_))))))))))))))))))))))))
                have H57 : HI M w w55 [box bb1 #[.slice a3 (fxV h).length c3, .slice a4 (fxI h).length c4, .slice a5 (fromM (fxI h)).length c5] 30, imm (.slice a5 (fromM (fxI h)).length c5) (fromM (fxI h)), imm (.slice a4 (fxI h).length c4) (fxI h), imm (.slice a3 (fxV h).length c3) (fxV h), box bb0 #[.slice a0 (fxV h).length c0, .slice a1 (fxI h).length c1, .slice a2 ([] : List Int).length c2] 30, imm (.slice a2 ([] : List Int).length c2) ([] : List Int), imm (.slice a1 (fxI h).length c1) (fxI h), imm (.slice a0 (fxV h).length c0) (fxV h), imm (.slice a_h h.length c_h) h] := H56.pickN [1, 2, 3, 4, 5, 6, 7, 8, 9] (by decide) rfl
                refine loopN _ ?_ ⟨(j + 1), rfl, s81, s82, (ieq rfl (by first | rfl | omega | (push_cast; omega))), H57, (by first | assumption | omega | simp | (simp; omega))⟩
                omega
              · -- decide ((q : Int) < ((fxI h).length : Int)) is False
                have p4 := of_decide_eq_false b4
                refine k (gn rfl rfl rfl b4 (k (gn rfl rfl rfl b4 (k (pickF rfl rfl rfl rfl b4 rfl (z (nx (cdF rfl rfl rfl (ex (then_exit (loop_exit (inb_here (inb_normal (nx (rg (k (mv rfl s83 (k (add rfl rfl rfl rfl (by unfold I64 at *; omega) (k (asg (v := .int .i64 ((j : Int) + 1)) rfl rfl (z ?_))))))))))))))))))))))
                have H57 : HI M w w55 [box bb1 #[.slice a3 (fxV h).length c3, .slice a4 (fxI h).length c4, .slice a5 (fromM (fxI h)).length c5] 30, imm (.slice a5 (fromM (fxI h)).length c5) (fromM (fxI h)), imm (.slice a4 (fxI h).length c4) (fxI h), imm (.slice a3 (fxV h).length c3) (fxV h), box bb0 #[.slice a0 (fxV h).length c0, .slice a1 (fxI h).length c1, .slice a2 ([] : List Int).length c2] 30, imm (.slice a2 ([] : List Int).length c2) ([] : List Int), imm (.slice a1 (fxI h).length c1) (fxI h), imm (.slice a0 (fxV h).length c0) (fxV h), imm (.slice a_h h.length c_h) h] := H56.pickN [1, 2, 3, 4, 5, 6, 7, 8, 9] (by decide) rfl
                refine loopN _ ?_ ⟨(j + 1), rfl, s81, s82, (ieq rfl (by first | rfl | omega | (push_cast; omega))), H57, (by first | assumption | omega | simp | (simp; omega))⟩
                omega
          · -- decide (0 ≤ x1) is False
            have p3 := of_decide_eq_false b3
            refine dr 30 [fun (v : Value) (w' : World) => v = .int .i64 x1 ∧ I64 (x1), fun (v : Value) (w' : World) => v = .bool (decide (0 ≤ x1)), fun (v : Value) (w' : World) => v = .bool (decide (0 ≤ x1)), fun (v : Value) (_ : World) => v = undef, fun (v : Value) (_ : World) => v = undef, fun (v : Value) (_ : World) => v = undef, fun (v : Value) (_ : World) => v = undef, fun (v : Value) (_ : World) => v = undef, fun (v : Value) (_ : World) => v = undef, fun (v : Value) (_ : World) => v = undef, fun (v : Value) (_ : World) => v = undef, fun (v : Value) (_ : World) => v = undef, fun (v : Value) (_ : World) => v = undef, fun (v : Value) (_ : World) => v = undef, fun (v : Value) (_ : World) => v = undef, fun (v : Value) (_ : World) => v = undef, fun (v : Value) (_ : World) => v = undef, fun (v : Value) (_ : World) => v = undef, fun (v : Value) (_ : World) => v = undef, fun (v : Value) (_ : World) => v = undef, fun (v : Value) (_ : World) => v = undef, fun (v : Value) (_ : World) => v = undef, fun (v : Value) (_ : World) => v = undef, fun (v : Value) (_ : World) => v = undef, fun (v : Value) (_ : World) => v = undef, fun (v : Value) (_ : World) => v = undef, fun (v : Value) (_ : World) => v = undef, fun (v : Value) (_ : World) => v = undef, fun (v : Value) (_ : World) => v = undef, fun (v : Value) (_ : World) => v = undef] rfl (by kernel_rfl) ?_ ?_
            ·
              refine ⟨fun _ => ⟨fun f15 w24 hf13 xt21 hp13 => ?_, fun _ _ _ _ h => h⟩, ?_⟩
              ·
                have H19 := H18.ext xt21
                refine mv rfl ((hf13 8 rfl).trans s16) ?_
                exact ⟨_, rfl, Ext.refl _, ⟨rfl, rv19⟩⟩
              refine ⟨fun _ => ⟨fun f16 w25 hf14 xt22 hp14 => ?_, fun _ _ _ _ h => h⟩, ?_⟩
              ·
                have H20 := H18.ext xt22
                obtain ⟨s19, rv24⟩ : f16 74 = .int .i64 x1 ∧ I64 (x1) := hp14 0 rfl rfl
                refine geq rfl rfl s19 rfl ?_
                exact ⟨_, rfl, Ext.refl _, rfl⟩
              refine ⟨fun _ => ⟨fun f17 w26 hf15 xt23 hp15 => ?_, fun _ _ _ _ h => h⟩, ?_⟩
              ·
                have H21 := H18.ext xt23
                have s20 : f17 75 = .bool (decide (0 ≤ x1)) := hp15 1 rfl rfl
                refine mv rfl s20 ?_
                exact ⟨_, rfl, Ext.refl _, rfl⟩
              refine ⟨fun _ => ⟨fun f18 w27 hf16 xt24 hp16 => ?_, fun _ _ _ _ h => h⟩, ?_⟩
              ·
                have H22 := H18.ext xt24
                have s21 : f18 76 = .bool (decide (0 ≤ x1)) := hp16 2 rfl rfl
                refine gn rfl rfl s21 b3 ?_
                exact ⟨_, rfl, Ext.refl _, rfl⟩
              refine ⟨fun _ => ⟨fun f19 w28 hf17 xt25 hp17 => ?_, fun _ _ _ _ h => h⟩, ?_⟩
              ·
                have H23 := H18.ext xt25
                have s22 : f19 76 = .bool (decide (0 ≤ x1)) := hp17 2 rfl rfl
                have s23 : f19 77 = undef := hp17 3 rfl rfl
                refine gn rfl rfl s22 b3 ?_
                exact ⟨_, rfl, Ext.refl _, rfl⟩
              refine ⟨fun _ => ⟨fun f20 w29 hf18 xt26 hp18 => ?_, fun _ _ _ _ h => h⟩, ?_⟩
              ·
                have H24 := H18.ext xt26
                have s24 : f20 76 = .bool (decide (0 ≤ x1)) := hp18 2 rfl rfl
                refine gn rfl rfl s24 b3 ?_
                exact ⟨_, rfl, Ext.refl _, rfl⟩
              refine ⟨fun _ => ⟨fun f21 w30 hf19 xt27 hp19 => ?_, fun _ _ _ _ h => h⟩, ?_⟩
              ·
                have H25 := H18.ext xt27
                have s25 : f21 76 = .bool (decide (0 ≤ x1)) := hp19 2 rfl rfl
                have s26 : f21 78 = undef := hp19 4 rfl rfl
                have s27 : f21 79 = undef := hp19 5 rfl rfl
                refine gn rfl rfl s25 b3 ?_
                exact ⟨_, rfl, Ext.refl _, rfl⟩
              refine ⟨fun _ => ⟨fun f22 w31 hf20 xt28 hp20 => ?_, fun _ _ _ _ h => h⟩, ?_⟩
              ·
                have H26 := H18.ext xt28
                have s28 : f22 76 = .bool (decide (0 ≤ x1)) := hp20 2 rfl rfl
                have s29 : f22 80 = undef := hp20 6 rfl rfl
                refine gn rfl rfl s28 b3 ?_
                exact ⟨_, rfl, Ext.refl _, rfl⟩
              refine ⟨fun _ => ⟨fun f23 w32 hf21 xt29 hp21 => ?_, fun _ _ _ _ h => h⟩, ?_⟩
              ·
                have H27 := H18.ext xt29
                have s30 : f23 76 = .bool (decide (0 ≤ x1)) := hp21 2 rfl rfl
                have s31 : f23 81 = undef := hp21 7 rfl rfl
                refine gn rfl rfl s30 b3 ?_
                exact ⟨_, rfl, Ext.refl _, rfl⟩
              refine ⟨fun _ => ⟨fun f24 w33 hf22 xt30 hp22 => ?_, fun _ _ _ _ h => h⟩, ?_⟩
              ·
                have H28 := H18.ext xt30
                have s32 : f24 76 = .bool (decide (0 ≤ x1)) := hp22 2 rfl rfl
                have s33 : f24 82 = undef := hp22 8 rfl rfl
                refine gn rfl rfl s32 b3 ?_
                exact ⟨_, rfl, Ext.refl _, rfl⟩
              refine ⟨fun _ => ⟨fun f25 w34 hf23 xt31 hp23 => ?_, fun _ _ _ _ h => h⟩, ?_⟩
              ·
                have H29 := H18.ext xt31
                have s34 : f25 76 = .bool (decide (0 ≤ x1)) := hp23 2 rfl rfl
                have s35 : f25 83 = undef := hp23 9 rfl rfl
                refine gn rfl rfl s34 b3 ?_
                exact ⟨_, rfl, Ext.refl _, rfl⟩
              refine ⟨fun _ => ⟨fun f26 w35 hf24 xt32 hp24 => ?_, fun _ _ _ _ h => h⟩, ?_⟩
              ·
                have H30 := H18.ext xt32
                have s36 : f26 84 = undef := hp24 10 rfl rfl
                refine gu rfl rfl s36 ?_
                exact ⟨_, rfl, Ext.refl _, rfl⟩
              refine ⟨fun _ => ⟨fun f27 w36 hf25 xt33 hp25 => ?_, fun _ _ _ _ h => h⟩, ?_⟩
              ·
                have H31 := H18.ext xt33
                have s37 : f27 84 = undef := hp25 10 rfl rfl
                have s38 : f27 85 = undef := hp25 11 rfl rfl
                refine gu rfl rfl s37 ?_
                exact ⟨_, rfl, Ext.refl _, rfl⟩
              refine ⟨fun _ => ⟨fun f28 w37 hf26 xt34 hp26 => ?_, fun _ _ _ _ h => h⟩, ?_⟩
              ·
                have H32 := H18.ext xt34
                have s39 : f28 84 = undef := hp26 10 rfl rfl
                refine gu rfl rfl s39 ?_
                exact ⟨_, rfl, Ext.refl _, rfl⟩
              refine ⟨fun _ => ⟨fun f29 w38 hf27 xt35 hp27 => ?_, fun _ _ _ _ h => h⟩, ?_⟩
              ·
                have H33 := H18.ext xt35
                have s40 : f29 84 = undef := hp27 10 rfl rfl
                have s41 : f29 86 = undef := hp27 12 rfl rfl
                have s42 : f29 87 = undef := hp27 13 rfl rfl
                refine gu rfl rfl s40 ?_
                exact ⟨_, rfl, Ext.refl _, rfl⟩
              refine ⟨fun _ => ⟨fun f30 w39 hf28 xt36 hp28 => ?_, fun _ _ _ _ h => h⟩, ?_⟩
              ·
                have H34 := H18.ext xt36
                have s43 : f30 84 = undef := hp28 10 rfl rfl
                have s44 : f30 88 = undef := hp28 14 rfl rfl
                refine gu rfl rfl s43 ?_
                exact ⟨_, rfl, Ext.refl _, rfl⟩
              refine ⟨fun _ => ⟨fun f31 w40 hf29 xt37 hp29 => ?_, fun _ _ _ _ h => h⟩, ?_⟩
              ·
                have H35 := H18.ext xt37
                have s45 : f31 84 = undef := hp29 10 rfl rfl
                have s46 : f31 89 = undef := hp29 15 rfl rfl
                refine gu rfl rfl s45 ?_
                exact ⟨_, rfl, Ext.refl _, rfl⟩
              refine ⟨fun _ => ⟨fun f32 w41 hf30 xt38 hp30 => ?_, fun _ _ _ _ h => h⟩, ?_⟩
              ·
                have H36 := H18.ext xt38
                have s47 : f32 84 = undef := hp30 10 rfl rfl
                refine gu rfl rfl s47 ?_
                exact ⟨_, rfl, Ext.refl _, rfl⟩
              refine ⟨fun _ => ⟨fun f33 w42 hf31 xt39 hp31 => ?_, fun _ _ _ _ h => h⟩, ?_⟩
              ·
                have H37 := H18.ext xt39
                have s48 : f33 84 = undef := hp31 10 rfl rfl
                have s49 : f33 91 = undef := hp31 17 rfl rfl
                refine gu rfl rfl s48 ?_
                exact ⟨_, rfl, Ext.refl _, rfl⟩
              refine ⟨fun _ => ⟨fun f34 w43 hf32 xt40 hp32 => ?_, fun _ _ _ _ h => h⟩, ?_⟩
              ·
                have H38 := H18.ext xt40
                have s50 : f34 84 = undef := hp32 10 rfl rfl
                have s51 : f34 90 = undef := hp32 16 rfl rfl
                have s52 : f34 92 = undef := hp32 18 rfl rfl
                refine gu rfl rfl s50 ?_
                exact ⟨_, rfl, Ext.refl _, rfl⟩
              refine ⟨fun _ => ⟨fun f35 w44 hf33 xt41 hp33 => ?_, fun _ _ _ _ h => h⟩, ?_⟩
              ·
                have H39 := H18.ext xt41
                have s53 : f35 76 = .bool (decide (0 ≤ x1)) := hp33 2 rfl rfl
                have s54 : f35 84 = undef := hp33 10 rfl rfl
                have s55 : f35 93 = undef := hp33 19 rfl rfl
                refine gn rfl rfl s53 b3 ?_
                exact ⟨_, rfl, Ext.refl _, rfl⟩
              refine ⟨fun _ => ⟨fun f36 w45 hf34 xt42 hp34 => ?_, fun _ _ _ _ h => h⟩, ?_⟩
              ·
                have H40 := H18.ext xt42
                have s56 : f36 76 = .bool (decide (0 ≤ x1)) := hp34 2 rfl rfl
                have s57 : f36 94 = undef := hp34 20 rfl rfl
                refine gn rfl rfl s56 b3 ?_
                exact ⟨_, rfl, Ext.refl _, rfl⟩
              refine ⟨fun _ => ⟨fun f37 w46 hf35 xt43 hp35 => ?_, fun _ _ _ _ h => h⟩, ?_⟩
              ·
                have H41 := H18.ext xt43
                have s58 : f37 95 = undef := hp35 21 rfl rfl
                refine gu rfl rfl s58 ?_
                exact ⟨_, rfl, Ext.refl _, rfl⟩
              refine ⟨fun _ => ⟨fun f38 w47 hf36 xt44 hp36 => ?_, fun _ _ _ _ h => h⟩, ?_⟩
              ·
                have H42 := H18.ext xt44
                have s59 : f38 95 = undef := hp36 21 rfl rfl
                have s60 : f38 96 = undef := hp36 22 rfl rfl
                refine gu rfl rfl s59 ?_
                exact ⟨_, rfl, Ext.refl _, rfl⟩
              refine ⟨fun _ => ⟨fun f39 w48 hf37 xt45 hp37 => ?_, fun _ _ _ _ h => h⟩, ?_⟩
              ·
                have H43 := H18.ext xt45
                have s61 : f39 95 = undef := hp37 21 rfl rfl
                refine gu rfl rfl s61 ?_
                exact ⟨_, rfl, Ext.refl _, rfl⟩
              refine ⟨fun _ => ⟨fun f40 w49 hf38 xt46 hp38 => ?_, fun _ _ _ _ h => h⟩, ?_⟩
              ·
                have H44 := H18.ext xt46
                have s62 : f40 95 = undef := hp38 21 rfl rfl
                have s63 : f40 97 = undef := hp38 23 rfl rfl
                have s64 : f40 98 = undef := hp38 24 rfl rfl
                refine gu rfl rfl s62 ?_
                exact ⟨_, rfl, Ext.refl _, rfl⟩
              refine ⟨fun _ => ⟨fun f41 w50 hf39 xt47 hp39 => ?_, fun _ _ _ _ h => h⟩, ?_⟩
              ·
                have H45 := H18.ext xt47
                have s65 : f41 95 = undef := hp39 21 rfl rfl
                have s66 : f41 99 = undef := hp39 25 rfl rfl
                refine gu rfl rfl s65 ?_
                exact ⟨_, rfl, Ext.refl _, rfl⟩
              refine ⟨fun _ => ⟨fun f42 w51 hf40 xt48 hp40 => ?_, fun _ _ _ _ h => h⟩, ?_⟩
              ·
                have H46 := H18.ext xt48
                have s67 : f42 95 = undef := hp40 21 rfl rfl
                have s68 : f42 100 = undef := hp40 26 rfl rfl
                refine gu rfl rfl s67 ?_
                exact ⟨_, rfl, Ext.refl _, rfl⟩
              refine ⟨fun _ => ⟨fun f43 w52 hf41 xt49 hp41 => ?_, fun _ _ _ _ h => h⟩, ?_⟩
              ·
                have H47 := H18.ext xt49
                have s69 : f43 95 = undef := hp41 21 rfl rfl
                refine gu rfl rfl s69 ?_
                exact ⟨_, rfl, Ext.refl _, rfl⟩
              refine ⟨fun _ => ⟨fun f44 w53 hf42 xt50 hp42 => ?_, fun _ _ _ _ h => h⟩, ?_⟩
              ·
                have H48 := H18.ext xt50
                have s70 : f44 95 = undef := hp42 21 rfl rfl
                have s71 : f44 102 = undef := hp42 28 rfl rfl
                refine gu rfl rfl s70 ?_
                exact ⟨_, rfl, Ext.refl _, rfl⟩
              exact DSteps.rest rfl _
            · intro f45 w54 hf43 xt51 hp43
              have H49 := H18.ext xt51
              have s72 : f45 3 = .pointer (some ⟨bb0, 0, none⟩) := (hf43 3 rfl).trans s13
              have s73 : f45 5 = .pointer (some ⟨bb1, 0, none⟩) := (hf43 5 rfl).trans s14
              have s74 : f45 6 = .int .i64 (j : Int) := (hf43 6 rfl).trans s15
              have s75 : f45 7 = .pointer (some ⟨(B0 10), 0, none⟩) := (hf43 7 rfl).trans s18
              have s76 : f45 8 = .int .i64 x1 := (hf43 8 rfl).trans s16
              have s77 : f45 76 = .bool (decide (0 ≤ x1)) := hp43 2 rfl
              have s78 : f45 95 = undef := hp43 21 rfl
              have s79 : f45 101 = undef := hp43 27 rfl
              have s80 : f45 103 = undef := hp43 29 rfl
              refine k (gu rfl rfl s78 (k (gn rfl rfl s77 b3 (k (gn rfl rfl s77 b3 (k (gu rfl rfl rfl (k (gu rfl rfl rfl (k (gu rfl rfl rfl (k (gn rfl rfl s77 b3 (k (pickF rfl rfl rfl s77 b3 rfl (z (nx (cdF rfl rfl rfl (sk (nx (sq (rg (k (asg (v := .int .i64 0) rfl rfl (z (nx (bk ?_)))))))))))))))))))))))))))
              refine lp (fun m f w' => ∃ (q : Nat), m = (fxI h).length - q ∧ f 3 = .pointer (some ⟨bb0, 0, none⟩) ∧ f 5 = .pointer (some ⟨bb1, 0, none⟩) ∧ f 6 = .int .i64 (j : Int) ∧ f 7 = .pointer (some ⟨(B0 10), 0, none⟩) ∧ f 8 = .int .i64 x1 ∧ f 9 = .int .i64 (q : Int) ∧  HI M w w' [box (B0 10) #[.int .i64 x0.1, .int .i64 x0.2.1, .bool x0.2.2.1, .int .i64 x0.2.2.2.1, .int .i64 x0.2.2.2.2] 40, box bb1 #[.slice a3 (fxV h).length c3, .slice a4 (fxI h).length c4, .slice a5 (fromM (fxI h)).length c5] 30, imm (.slice a5 (fromM (fxI h)).length c5) (fromM (fxI h)), imm (.slice a4 (fxI h).length c4) (fxI h), imm (.slice a3 (fxV h).length c3) (fxV h), box bb0 #[.slice a0 (fxV h).length c0, .slice a1 (fxI h).length c1, .slice a2 ([] : List Int).length c2] 30, imm (.slice a2 ([] : List Int).length c2) ([] : List Int), imm (.slice a1 (fxI h).length c1) (fxI h), imm (.slice a0 (fxV h).length c0) (fxV h), imm (.slice a_h h.length c_h) h] ∧ (q ≤ (fxI h).length)) _ ⟨0, rfl, s72, s73, s74, s75, s76, (ieq rfl (by first | rfl | omega | simp)), H49, (by first | assumption | omega | simp | (simp; omega))⟩ ?_
              rintro _ f46 w55 ⟨q, rfl, s81, s82, s83, s84, s85, s86, H50, hq_⟩
              refine sq (sq (rg (k (mv rfl s86 (k (fa fl30_1 rfl s81 (k (ldX H50 5 rfl ty27 rfl rfl (by decide) rfl (k (lnS rfl rfl un27 (k (lss rfl rfl rfl rfl (k (mv (v := .bool (decide ((q : Int) < ((fxI h).length : Int)))) rfl rfl ?_))))))))))))))
              rcases Bool.eq_false_or_eq_true (decide ((q : Int) < ((fxI h).length : Int))) with b4 | b4
              · -- decide ((q : Int) < ((fxI h).length : Int)) is True
                have p4 := of_decide_eq_true b4
                refine k (gy rfl rfl rfl b4 (mv rfl s85 (k (gy rfl rfl rfl b4 (eql rfl rfl rfl rfl (k (pickT rfl rfl rfl rfl b4 rfl (z (nx ?_)))))))))
                refine cd (b := decide (x1 = (-2))) rfl rfl (fun b5 => ?_) (fun b5 => ?_)
                ·
                  have p5 := of_decide_eq_true b5
                  refine sk (nx (sq (bk (sq ?_))))
                  obtain ⟨x4, hx4⟩ : ∃ x, (fxI h)[(q : Int).toNat]? = some x := ⟨_, List.getElem?_eq_getElem (by first | omega | (simp; omega))⟩
                  rcases Bool.eq_false_or_eq_true (x4.2.2.1) with b6 | b6
                  · -- x4.2.2.1 is True
                    rcases Bool.eq_false_or_eq_true (decide (x4.2.2.2.1 = x0.2.2.2.1)) with b7 | b7
                    · -- decide (x4.2.2.2.1 = x0.2.2.2.1) is True
                      have p7 := of_decide_eq_true b7
                      refine dr 26 [fun (v : Value) (w' : World) => v = .pointer (some ⟨bb0, 1, none⟩), fun (v : Value) (w' : World) => v = .slice a1 (fxI h).length c1, fun (v : Value) (w' : World) => v = .int .i64 (q : Int), fun (v : Value) (w' : World) => ∃ (ad9 : Addr), v = .pointer (some ad9) ∧ At (MS M [box (B0 10) #[.int .i64 x0.1, .int .i64 x0.2.1, .bool x0.2.2.1, .int .i64 x0.2.2.2.1, .int .i64 x0.2.2.2.2] 40, box bb1 #[.slice a3 (fxV h).length c3, .slice a4 (fxI h).length c4, .slice a5 (fromM (fxI h)).length c5] 30, imm (.slice a5 (fromM (fxI h)).length c5) (fromM (fxI h)), imm (.slice a4 (fxI h).length c4) (fxI h), imm (.slice a3 (fxV h).length c3) (fxV h), box bb0 #[.slice a0 (fxV h).length c0, .slice a1 (fxI h).length c1, .slice a2 ([] : List Int).length c2] 30, imm (.slice a2 ([] : List Int).length c2) ([] : List Int), imm (.slice a1 (fxI h).length c1) (fxI h), imm (.slice a0 (fxV h).length c0) (fxV h), imm (.slice a_h h.length c_h) h]) w' ad9 x4, fun (v : Value) (w' : World) => ∃ (ad9 : Addr), v = .pointer (some ((ad9).add 2)) ∧ At (MS M [box (B0 10) #[.int .i64 x0.1, .int .i64 x0.2.1, .bool x0.2.2.1, .int .i64 x0.2.2.2.1, .int .i64 x0.2.2.2.2] 40, box bb1 #[.slice a3 (fxV h).length c3, .slice a4 (fxI h).length c4, .slice a5 (fromM (fxI h)).length c5] 30, imm (.slice a5 (fromM (fxI h)).length c5) (fromM (fxI h)), imm (.slice a4 (fxI h).length c4) (fxI h), imm (.slice a3 (fxV h).length c3) (fxV h), box bb0 #[.slice a0 (fxV h).length c0, .slice a1 (fxI h).length c1, .slice a2 ([] : List Int).length c2] 30, imm (.slice a2 ([] : List Int).length c2) ([] : List Int), imm (.slice a1 (fxI h).length c1) (fxI h), imm (.slice a0 (fxV h).length c0) (fxV h), imm (.slice a_h h.length c_h) h]) w' ad9 x4, fun (v : Value) (w' : World) => v = .bool x4.2.2.1, fun (v : Value) (w' : World) => v = .bool x4.2.2.1, fun (v : Value) (w' : World) => v = .pointer (some ⟨bb0, 1, none⟩), fun (v : Value) (w' : World) => v = .slice a1 (fxI h).length c1, fun (v : Value) (w' : World) => v = .int .i64 (q : Int), fun (v : Value) (w' : World) => ∃ (ad10 : Addr), v = .pointer (some ad10) ∧ At (MS M [box (B0 10) #[.int .i64 x0.1, .int .i64 x0.2.1, .bool x0.2.2.1, .int .i64 x0.2.2.2.1, .int .i64 x0.2.2.2.2] 40, box bb1 #[.slice a3 (fxV h).length c3, .slice a4 (fxI h).length c4, .slice a5 (fromM (fxI h)).length c5] 30, imm (.slice a5 (fromM (fxI h)).length c5) (fromM (fxI h)), imm (.slice a4 (fxI h).length c4) (fxI h), imm (.slice a3 (fxV h).length c3) (fxV h), box bb0 #[.slice a0 (fxV h).length c0, .slice a1 (fxI h).length c1, .slice a2 ([] : List Int).length c2] 30, imm (.slice a2 ([] : List Int).length c2) ([] : List Int), imm (.slice a1 (fxI h).length c1) (fxI h), imm (.slice a0 (fxV h).length c0) (fxV h), imm (.slice a_h h.length c_h) h]) w' ad10 x4, fun (v : Value) (w' : World) => ∃ (ad10 : Addr), v = .pointer (some ((ad10).add 3)) ∧ At (MS M [box (B0 10) #[.int .i64 x0.1, .int .i64 x0.2.1, .bool x0.2.2.1, .int .i64 x0.2.2.2.1, .int .i64 x0.2.2.2.2] 40, box bb1 #[.slice a3 (fxV h).length c3, .slice a4 (fxI h).length c4, .slice a5 (fromM (fxI h)).length c5] 30, imm (.slice a5 (fromM (fxI h)).length c5) (fromM (fxI h)), imm (.slice a4 (fxI h).length c4) (fxI h), imm (.slice a3 (fxV h).length c3) (fxV h), box bb0 #[.slice a0 (fxV h).length c0, .slice a1 (fxI h).length c1, .slice a2 ([] : List Int).length c2] 30, imm (.slice a2 ([] : List Int).length c2) ([] : List Int), imm (.slice a1 (fxI h).length c1) (fxI h), imm (.slice a0 (fxV h).length c0) (fxV h), imm (.slice a_h h.length c_h) h]) w' ad10 x4, fun (v : Value) (w' : World) => v = .int .i64 x4.2.2.2.1 ∧ I64 (x4.2.2.2.1), fun (v : Value) (w' : World) => v = .pointer (some ⟨(B0 10), 3, none⟩), fun (v : Value) (w' : World) => v = .int .i64 x0.2.2.2.1 ∧ I64 (x0.2.2.2.1), fun (v : Value) (w' : World) => v = .bool (decide (x4.2.2.2.1 = x0.2.2.2.1)), fun (v : Value) (w' : World) => v = .bool (decide (x4.2.2.2.1 = x0.2.2.2.1)), fun (v : Value) (w' : World) => v = .bool (decide (x4.2.2.2.1 = x0.2.2.2.1)), fun (v : Value) (w' : World) => v = .pointer (some ⟨bb0, 1, none⟩), fun (v : Value) (w' : World) => v = .slice a1 (fxI h).length c1, fun (v : Value) (w' : World) => v = .int .i64 (q : Int), fun (v : Value) (w' : World) => ∃ (ad11 : Addr), v = .pointer (some ad11) ∧ At (MS M [box (B0 10) #[.int .i64 x0.1, .int .i64 x0.2.1, .bool x0.2.2.1, .int .i64 x0.2.2.2.1, .int .i64 x0.2.2.2.2] 40, box bb1 #[.slice a3 (fxV h).length c3, .slice a4 (fxI h).length c4, .slice a5 (fromM (fxI h)).length c5] 30, imm (.slice a5 (fromM (fxI h)).length c5) (fromM (fxI h)), imm (.slice a4 (fxI h).length c4) (fxI h), imm (.slice a3 (fxV h).length c3) (fxV h), box bb0 #[.slice a0 (fxV h).length c0, .slice a1 (fxI h).length c1, .slice a2 ([] : List Int).length c2] 30, imm (.slice a2 ([] : List Int).length c2) ([] : List Int), imm (.slice a1 (fxI h).length c1) (fxI h), imm (.slice a0 (fxV h).length c0) (fxV h), imm (.slice a_h h.length c_h) h]) w' ad11 x4, fun (v : Value) (w' : World) => ∃ (ad11 : Addr), v = .pointer (some ((ad11).add 4)) ∧ At (MS M [box (B0 10) #[.int .i64 x0.1, .int .i64 x0.2.1, .bool x0.2.2.1, .int .i64 x0.2.2.2.1, .int .i64 x0.2.2.2.2] 40, box bb1 #[.slice a3 (fxV h).length c3, .slice a4 (fxI h).length c4, .slice a5 (fromM (fxI h)).length c5] 30, imm (.slice a5 (fromM (fxI h)).length c5) (fromM (fxI h)), imm (.slice a4 (fxI h).length c4) (fxI h), imm (.slice a3 (fxV h).length c3) (fxV h), box bb0 #[.slice a0 (fxV h).length c0, .slice a1 (fxI h).length c1, .slice a2 ([] : List Int).length c2] 30, imm (.slice a2 ([] : List Int).length c2) ([] : List Int), imm (.slice a1 (fxI h).length c1) (fxI h), imm (.slice a0 (fxV h).length c0) (fxV h), imm (.slice a_h h.length c_h) h]) w' ad11 x4, fun (v : Value) (w' : World) => v = .int .i64 x4.2.2.2.2 ∧ I64 (x4.2.2.2.2), fun (v : Value) (w' : World) => v = .pointer (some ⟨(B0 10), 4, none⟩), fun (v : Value) (w' : World) => v = .int .i64 x0.2.2.2.2 ∧ I64 (x0.2.2.2.2)] rfl (by kernel_rfl) ?_ ?_
                      ·
                        refine ⟨fun _ => ⟨fun f47 w56 hf44 xt52 hp44 => ?_, fun _ _ _ _ h => h⟩, ?_⟩
                        ·
                          have H51 := H50.ext xt52
                          refine fa fl30_1 rfl ((hf44 3 rfl).trans s81) ?_
                          exact ⟨_, rfl, Ext.refl _, rfl⟩
                        refine ⟨fun _ => ⟨fun f48 w57 hf45 xt53 hp45 => ?_, fun _ _ _ _ h => h⟩, ?_⟩
                        ·
                          have H52 := H50.ext xt53
                          have s87 : f48 123 = .pointer (some ⟨bb0, 1, none⟩) := hp45 0 rfl rfl
                          refine ldX H52 5 rfl ty27 rfl s87 (by decide) rfl ?_
                          exact ⟨_, rfl, Ext.refl _, rfl⟩
                        refine ⟨fun _ => ⟨fun f49 w58 hf46 xt54 hp46 => ?_, fun _ _ _ _ h => h⟩, ?_⟩
                        ·
                          have H53 := H50.ext xt54
                          refine mv rfl ((hf46 9 rfl).trans s86) ?_
                          exact ⟨_, rfl, Ext.refl _, rfl⟩
                        refine ⟨fun _ => ⟨fun f50 w59 hf47 xt55 hp47 => ?_, by rintro _ _ _ x_ ⟨ad9, e_, hA9⟩; exact ⟨ad9, e_, hA9.lift (Up.ext x_)⟩⟩, ?_⟩
                        ·
                          have H54 := H50.ext xt55
                          have s88 : f50 124 = .slice a1 (fxI h).length c1 := hp47 1 rfl rfl
                          have s89 : f50 125 = .int .i64 (q : Int) := hp47 2 rfl rfl
                          refine ia (H54.rv 7 rfl) rfl rfl s88 s89 (by first | omega | (simp; omega)) un27 ty40 ?_
                          intro ad12 x10 hx10 hA12
                          obtain rfl : x4 = x10 := Option.some.inj (hx4.symm.trans hx10)
                          exact ⟨_, rfl, Ext.refl _, ⟨ad12, rfl, hA12⟩⟩
                        refine ⟨fun _ => ⟨fun f51 w60 hf48 xt56 hp48 => ?_, by rintro _ _ _ x_ ⟨ad9, e_, hA9⟩; exact ⟨ad9, e_, hA9.lift (Up.ext x_)⟩⟩, ?_⟩
                        ·
                          have H55 := H50.ext xt56
                          obtain ⟨ad13, s90, hA13⟩ : ∃ (ad13 : Addr), f51 126 = .pointer (some ad13) ∧ At (MS M [box (B0 10) #[.int .i64 x0.1, .int .i64 x0.2.1, .bool x0.2.2.1, .int .i64 x0.2.2.2.1, .int .i64 x0.2.2.2.2] 40, box bb1 #[.slice a3 (fxV h).length c3, .slice a4 (fxI h).length c4, .slice a5 (fromM (fxI h)).length c5] 30, imm (.slice a5 (fromM (fxI h)).length c5) (fromM (fxI h)), imm (.slice a4 (fxI h).length c4) (fxI h), imm (.slice a3 (fxV h).length c3) (fxV h), box bb0 #[.slice a0 (fxV h).length c0, .slice a1 (fxI h).length c1, .slice a2 ([] : List Int).length c2] 30, imm (.slice a2 ([] : List Int).length c2) ([] : List Int), imm (.slice a1 (fxI h).length c1) (fxI h), imm (.slice a0 (fxV h).length c0) (fxV h), imm (.slice a_h h.length c_h) h]) w60 ad13 x4 := hp48 3 rfl rfl
                          have H56 := H55.put (it := atI ad13 x4) rfl hA13
                          refine fa fl40_2 rfl s90 ?_
                          exact ⟨_, rfl, Ext.refl _, ⟨ad13, rfl, (by assumption)⟩⟩
                        refine ⟨fun _ => ⟨fun f52 w61 hf49 xt57 hp49 => ?_, fun _ _ _ _ h => h⟩, ?_⟩
                        ·
                          have H57 := H50.ext xt57
                          obtain ⟨ad14, s91, hA14⟩ : ∃ (ad14 : Addr), f52 127 = .pointer (some ((ad14).add 2)) ∧ At (MS M [box (B0 10) #[.int .i64 x0.1, .int .i64 x0.2.1, .bool x0.2.2.1, .int .i64 x0.2.2.2.1, .int .i64 x0.2.2.2.2] 40, box bb1 #[.slice a3 (fxV h).length c3, .slice a4 (fxI h).length c4, .slice a5 (fromM (fxI h)).length c5] 30, imm (.slice a5 (fromM (fxI h)).length c5) (fromM (fxI h)), imm (.slice a4 (fxI h).length c4) (fxI h), imm (.slice a3 (fxV h).length c3) (fxV h), box bb0 #[.slice a0 (fxV h).length c0, .slice a1 (fxI h).length c1, .slice a2 ([] : List Int).length c2] 30, imm (.slice a2 ([] : List Int).length c2) ([] : List Int), imm (.slice a1 (fxI h).length c1) (fxI h), imm (.slice a0 (fxV h).length c0) (fxV h), imm (.slice a_h h.length c_h) h]) w61 ad14 x4 := hp49 4 rfl rfl
                          have H58 := H57.put (it := atI ad14 x4) rfl hA14
                          refine ldB (((H58.atv 0 rfl)).s2).fst.w ty4 rfl s91 ?_
                          exact ⟨_, rfl, Ext.refl _, rfl⟩
                        refine ⟨fun _ => ⟨fun f53 w62 hf50 xt58 hp50 => ?_, fun _ _ _ _ h => h⟩, ?_⟩
                        ·
                          have H59 := H50.ext xt58
                          have s92 : f53 128 = .bool x4.2.2.1 := hp50 5 rfl rfl
                          refine mv rfl s92 ?_
                          exact ⟨_, rfl, Ext.refl _, rfl⟩
                        refine ⟨fun _ => ⟨fun f54 w63 hf51 xt59 hp51 => ?_, fun _ _ _ _ h => h⟩, ?_⟩
                        ·
                          have H60 := H50.ext xt59
                          have s93 : f54 129 = .bool x4.2.2.1 := hp51 6 rfl rfl
                          refine gy rfl rfl s93 b6 (fa fl30_1 rfl ((hf51 3 rfl).trans s81) ?_)
                          exact ⟨_, rfl, Ext.refl _, rfl⟩
                        refine ⟨fun _ => ⟨fun f55 w64 hf52 xt60 hp52 => ?_, fun _ _ _ _ h => h⟩, ?_⟩
                        ·
                          have H61 := H50.ext xt60
                          have s94 : f55 129 = .bool x4.2.2.1 := hp52 6 rfl rfl
                          have s95 : f55 130 = .pointer (some ⟨bb0, 1, none⟩) := hp52 7 rfl rfl
                          refine gy rfl rfl s94 b6 (ldX H61 5 rfl ty27 rfl s95 (by decide) rfl ?_)
                          exact ⟨_, rfl, Ext.refl _, rfl⟩
                        refine ⟨fun _ => ⟨fun f56 w65 hf53 xt61 hp53 => ?_, fun _ _ _ _ h => h⟩, ?_⟩
                        ·
                          have H62 := H50.ext xt61
                          have s96 : f56 129 = .bool x4.2.2.1 := hp53 6 rfl rfl
                          refine gy rfl rfl s96 b6 (mv rfl ((hf53 9 rfl).trans s86) ?_)
                          exact ⟨_, rfl, Ext.refl _, rfl⟩
                        refine ⟨fun _ => ⟨fun f57 w66 hf54 xt62 hp54 => ?_, by rintro _ _ _ x_ ⟨ad10, e_, hA10⟩; exact ⟨ad10, e_, hA10.lift (Up.ext x_)⟩⟩, ?_⟩
                        ·
                          have H63 := H50.ext xt62
                          have s97 : f57 129 = .bool x4.2.2.1 := hp54 6 rfl rfl
                          have s98 : f57 131 = .slice a1 (fxI h).length c1 := hp54 8 rfl rfl
                          have s99 : f57 132 = .int .i64 (q : Int) := hp54 9 rfl rfl
                          refine gy rfl rfl s97 b6 (ia (H63.rv 7 rfl) rfl rfl s98 s99 (by first | omega | (simp; omega)) un27 ty40 ?_)
                          intro ad15 x11 hx11 hA15
                          obtain rfl : x4 = x11 := Option.some.inj (hx4.symm.trans hx11)
                          exact ⟨_, rfl, Ext.refl _, ⟨ad15, rfl, hA15⟩⟩
                        refine ⟨fun _ => ⟨fun f58 w67 hf55 xt63 hp55 => ?_, by rintro _ _ _ x_ ⟨ad10, e_, hA10⟩; exact ⟨ad10, e_, hA10.lift (Up.ext x_)⟩⟩, ?_⟩
                        ·
                          have H64 := H50.ext xt63
                          have s100 : f58 129 = .bool x4.2.2.1 := hp55 6 rfl rfl
                          obtain ⟨ad16, s101, hA16⟩ : ∃ (ad16 : Addr), f58 133 = .pointer (some ad16) ∧ At (MS M [box (B0 10) #[.int .i64 x0.1, .int .i64 x0.2.1, .bool x0.2.2.1, .int .i64 x0.2.2.2.1, .int .i64 x0.2.2.2.2] 40, box bb1 #[.slice a3 (fxV h).length c3, .slice a4 (fxI h).length c4, .slice a5 (fromM (fxI h)).length c5] 30, imm (.slice a5 (fromM (fxI h)).length c5) (fromM (fxI h)), imm (.slice a4 (fxI h).length c4) (fxI h), imm (.slice a3 (fxV h).length c3) (fxV h), box bb0 #[.slice a0 (fxV h).length c0, .slice a1 (fxI h).length c1, .slice a2 ([] : List Int).length c2] 30, imm (.slice a2 ([] : List Int).length c2) ([] : List Int), imm (.slice a1 (fxI h).length c1) (fxI h), imm (.slice a0 (fxV h).length c0) (fxV h), imm (.slice a_h h.length c_h) h]) w67 ad16 x4 := hp55 10 rfl rfl
                          have H65 := H64.put (it := atI ad16 x4) rfl hA16
                          refine gy rfl rfl s100 b6 (fa fl40_3 rfl s101 ?_)
                          exact ⟨_, rfl, Ext.refl _, ⟨ad16, rfl, (by assumption)⟩⟩
                        refine ⟨fun _ => ⟨fun f59 w68 hf56 xt64 hp56 => ?_, fun _ _ _ _ h => h⟩, ?_⟩
                        ·
                          have H66 := H50.ext xt64
                          have s102 : f59 129 = .bool x4.2.2.1 := hp56 6 rfl rfl
                          obtain ⟨ad17, s103, hA17⟩ : ∃ (ad17 : Addr), f59 134 = .pointer (some ((ad17).add 3)) ∧ At (MS M [box (B0 10) #[.int .i64 x0.1, .int .i64 x0.2.1, .bool x0.2.2.1, .int .i64 x0.2.2.2.1, .int .i64 x0.2.2.2.2] 40, box bb1 #[.slice a3 (fxV h).length c3, .slice a4 (fxI h).length c4, .slice a5 (fromM (fxI h)).length c5] 30, imm (.slice a5 (fromM (fxI h)).length c5) (fromM (fxI h)), imm (.slice a4 (fxI h).length c4) (fxI h), imm (.slice a3 (fxV h).length c3) (fxV h), box bb0 #[.slice a0 (fxV h).length c0, .slice a1 (fxI h).length c1, .slice a2 ([] : List Int).length c2] 30, imm (.slice a2 ([] : List Int).length c2) ([] : List Int), imm (.slice a1 (fxI h).length c1) (fxI h), imm (.slice a0 (fxV h).length c0) (fxV h), imm (.slice a_h h.length c_h) h]) w68 ad17 x4 := hp56 11 rfl rfl
                          have H67 := H66.put (it := atI ad17 x4) rfl hA17
                          refine gy rfl rfl s102 b6 (ldI (((H67.atv 0 rfl)).s3).fst.w ty3 rfl s103 ?_)
                          intro rv28
                          exact ⟨_, rfl, Ext.refl _, ⟨rfl, rv28⟩⟩
                        refine ⟨fun _ => ⟨fun f60 w69 hf57 xt65 hp57 => ?_, fun _ _ _ _ h => h⟩, ?_⟩
                        ·
                          have H68 := H50.ext xt65
                          have s104 : f60 129 = .bool x4.2.2.1 := hp57 6 rfl rfl
                          refine gy rfl rfl s104 b6 (fa fl40_3 rfl ((hf57 7 rfl).trans s84) ?_)
                          exact ⟨_, rfl, Ext.refl _, rfl⟩
                        refine ⟨fun _ => ⟨fun f61 w70 hf58 xt66 hp58 => ?_, fun _ _ _ _ h => h⟩, ?_⟩
                        ·
                          have H69 := H50.ext xt66
                          have s105 : f61 129 = .bool x4.2.2.1 := hp58 6 rfl rfl
                          have s106 : f61 136 = .pointer (some ⟨(B0 10), 3, none⟩) := hp58 13 rfl rfl
                          refine gy rfl rfl s105 b6 (ldX H69 0 rfl ty3 rfl s106 (by decide) rfl ?_)
                          exact ⟨_, rfl, Ext.refl _, ⟨rfl, rv22⟩⟩
                        refine ⟨fun _ => ⟨fun f62 w71 hf59 xt67 hp59 => ?_, fun _ _ _ _ h => h⟩, ?_⟩
                        ·
                          have H70 := H50.ext xt67
                          have s107 : f62 129 = .bool x4.2.2.1 := hp59 6 rfl rfl
                          obtain ⟨s108, rv29⟩ : f62 135 = .int .i64 x4.2.2.2.1 ∧ I64 (x4.2.2.2.1) := hp59 12 rfl rfl
                          obtain ⟨s109, rv30⟩ : f62 137 = .int .i64 x0.2.2.2.1 ∧ I64 (x0.2.2.2.1) := hp59 14 rfl rfl
                          refine gy rfl rfl s107 b6 (eql rfl rfl s108 s109 ?_)
                          exact ⟨_, rfl, Ext.refl _, rfl⟩
                        refine ⟨fun _ => ⟨fun f63 w72 hf60 xt68 hp60 => ?_, fun _ _ _ _ h => h⟩, ?_⟩
                        ·
                          have H71 := H50.ext xt68
                          have s110 : f63 129 = .bool x4.2.2.1 := hp60 6 rfl rfl
                          have s111 : f63 138 = .bool (decide (x4.2.2.2.1 = x0.2.2.2.1)) := hp60 15 rfl rfl
                          refine pickT rfl rfl rfl s110 b6 s111 ?_
                          exact ⟨_, rfl, Ext.refl _, rfl⟩
                        refine ⟨fun _ => ⟨fun f64 w73 hf61 xt69 hp61 => ?_, fun _ _ _ _ h => h⟩, ?_⟩
                        ·
                          have H72 := H50.ext xt69
                          have s112 : f64 139 = .bool (decide (x4.2.2.2.1 = x0.2.2.2.1)) := hp61 16 rfl rfl
                          refine mv rfl s112 ?_
                          exact ⟨_, rfl, Ext.refl _, rfl⟩
                        refine ⟨fun _ => ⟨fun f65 w74 hf62 xt70 hp62 => ?_, fun _ _ _ _ h => h⟩, ?_⟩
                        ·
                          have H73 := H50.ext xt70
                          have s113 : f65 140 = .bool (decide (x4.2.2.2.1 = x0.2.2.2.1)) := hp62 17 rfl rfl
                          refine gy rfl rfl s113 b7 (fa fl30_1 rfl ((hf62 3 rfl).trans s81) ?_)
                          exact ⟨_, rfl, Ext.refl _, rfl⟩
                        refine ⟨fun _ => ⟨fun f66 w75 hf63 xt71 hp63 => ?_, fun _ _ _ _ h => h⟩, ?_⟩
                        ·
                          have H74 := H50.ext xt71
                          have s114 : f66 140 = .bool (decide (x4.2.2.2.1 = x0.2.2.2.1)) := hp63 17 rfl rfl
                          have s115 : f66 141 = .pointer (some ⟨bb0, 1, none⟩) := hp63 18 rfl rfl
                          refine gy rfl rfl s114 b7 (ldX H74 5 rfl ty27 rfl s115 (by decide) rfl ?_)
                          exact ⟨_, rfl, Ext.refl _, rfl⟩
                        refine ⟨fun _ => ⟨fun f67 w76 hf64 xt72 hp64 => ?_, fun _ _ _ _ h => h⟩, ?_⟩
                        ·
                          have H75 := H50.ext xt72
                          have s116 : f67 140 = .bool (decide (x4.2.2.2.1 = x0.2.2.2.1)) := hp64 17 rfl rfl
                          refine gy rfl rfl s116 b7 (mv rfl ((hf64 9 rfl).trans s86) ?_)
                          exact ⟨_, rfl, Ext.refl _, rfl⟩
                        refine ⟨fun _ => ⟨fun f68 w77 hf65 xt73 hp65 => ?_, by rintro _ _ _ x_ ⟨ad11, e_, hA11⟩; exact ⟨ad11, e_, hA11.lift (Up.ext x_)⟩⟩, ?_⟩
                        ·
                          have H76 := H50.ext xt73
                          have s117 : f68 140 = .bool (decide (x4.2.2.2.1 = x0.2.2.2.1)) := hp65 17 rfl rfl
                          have s118 : f68 142 = .slice a1 (fxI h).length c1 := hp65 19 rfl rfl
                          have s119 : f68 143 = .int .i64 (q : Int) := hp65 20 rfl rfl
                          refine gy rfl rfl s117 b7 (ia (H76.rv 7 rfl) rfl rfl s118 s119 (by first | omega | (simp; omega)) un27 ty40 ?_)
                          intro ad18 x12 hx12 hA18
                          obtain rfl : x4 = x12 := Option.some.inj (hx4.symm.trans hx12)
                          exact ⟨_, rfl, Ext.refl _, ⟨ad18, rfl, hA18⟩⟩
                        refine ⟨fun _ => ⟨fun f69 w78 hf66 xt74 hp66 => ?_, by rintro _ _ _ x_ ⟨ad11, e_, hA11⟩; exact ⟨ad11, e_, hA11.lift (Up.ext x_)⟩⟩, ?_⟩
                        ·
                          have H77 := H50.ext xt74
                          have s120 : f69 140 = .bool (decide (x4.2.2.2.1 = x0.2.2.2.1)) := hp66 17 rfl rfl
                          obtain ⟨ad19, s121, hA19⟩ : ∃ (ad19 : Addr), f69 144 = .pointer (some ad19) ∧ At (MS M [box (B0 10) #[.int .i64 x0.1, .int .i64 x0.2.1, .bool x0.2.2.1, .int .i64 x0.2.2.2.1, .int .i64 x0.2.2.2.2] 40, box bb1 #[.slice a3 (fxV h).length c3, .slice a4 (fxI h).length c4, .slice a5 (fromM (fxI h)).length c5] 30, imm (.slice a5 (fromM (fxI h)).length c5) (fromM (fxI h)), imm (.slice a4 (fxI h).length c4) (fxI h), imm (.slice a3 (fxV h).length c3) (fxV h), box bb0 #[.slice a0 (fxV h).length c0, .slice a1 (fxI h).length c1, .slice a2 ([] : List Int).length c2] 30, imm (.slice a2 ([] : List Int).length c2) ([] : List Int), imm (.slice a1 (fxI h).length c1) (fxI h), imm (.slice a0 (fxV h).length c0) (fxV h), imm (.slice a_h h.length c_h) h]) w78 ad19 x4 := hp66 21 rfl rfl
                          have H78 := H77.put (it := atI ad19 x4) rfl hA19
                          refine gy rfl rfl s120 b7 (fa fl40_4 rfl s121 ?_)
                          exact ⟨_, rfl, Ext.refl _, ⟨ad19, rfl, (by assumption)⟩⟩
                        refine ⟨fun _ => ⟨fun f70 w79 hf67 xt75 hp67 => ?_, fun _ _ _ _ h => h⟩, ?_⟩
                        ·
                          have H79 := H50.ext xt75
                          have s122 : f70 140 = .bool (decide (x4.2.2.2.1 = x0.2.2.2.1)) := hp67 17 rfl rfl
                          obtain ⟨ad20, s123, hA20⟩ : ∃ (ad20 : Addr), f70 145 = .pointer (some ((ad20).add 4)) ∧ At (MS M [box (B0 10) #[.int .i64 x0.1, .int .i64 x0.2.1, .bool x0.2.2.1, .int .i64 x0.2.2.2.1, .int .i64 x0.2.2.2.2] 40, box bb1 #[.slice a3 (fxV h).length c3, .slice a4 (fxI h).length c4, .slice a5 (fromM (fxI h)).length c5] 30, imm (.slice a5 (fromM (fxI h)).length c5) (fromM (fxI h)), imm (.slice a4 (fxI h).length c4) (fxI h), imm (.slice a3 (fxV h).length c3) (fxV h), box bb0 #[.slice a0 (fxV h).length c0, .slice a1 (fxI h).length c1, .slice a2 ([] : List Int).length c2] 30, imm (.slice a2 ([] : List Int).length c2) ([] : List Int), imm (.slice a1 (fxI h).length c1) (fxI h), imm (.slice a0 (fxV h).length c0) (fxV h), imm (.slice a_h h.length c_h) h]) w79 ad20 x4 := hp67 22 rfl rfl
                          have H80 := H79.put (it := atI ad20 x4) rfl hA20
                          refine gy rfl rfl s122 b7 (ldI ((H80.atv 0 rfl)).s4.w ty3 rfl s123 ?_)
                          intro rv31
                          exact ⟨_, rfl, Ext.refl _, ⟨rfl, rv31⟩⟩
                        refine ⟨fun _ => ⟨fun f71 w80 hf68 xt76 hp68 => ?_, fun _ _ _ _ h => h⟩, ?_⟩
                        ·
                          have H81 := H50.ext xt76
                          have s124 : f71 140 = .bool (decide (x4.2.2.2.1 = x0.2.2.2.1)) := hp68 17 rfl rfl
                          refine gy rfl rfl s124 b7 (fa fl40_4 rfl ((hf68 7 rfl).trans s84) ?_)
                          exact ⟨_, rfl, Ext.refl _, rfl⟩
                        refine ⟨fun _ => ⟨fun f72 w81 hf69 xt77 hp69 => ?_, fun _ _ _ _ h => h⟩, ?_⟩
                        ·
                          have H82 := H50.ext xt77
                          have s125 : f72 140 = .bool (decide (x4.2.2.2.1 = x0.2.2.2.1)) := hp69 17 rfl rfl
                          have s126 : f72 147 = .pointer (some ⟨(B0 10), 4, none⟩) := hp69 24 rfl rfl
                          refine gy rfl rfl s125 b7 (ldX H82 0 rfl ty3 rfl s126 (by decide) rfl ?_)
                          exact ⟨_, rfl, Ext.refl _, ⟨rfl, rv23⟩⟩
                        exact DSteps.rest rfl _
                      · intro f73 w82 hf70 xt78 hp70
                        have H83 := H50.ext xt78
                        have s127 : f73 3 = .pointer (some ⟨bb0, 0, none⟩) := (hf70 3 rfl).trans s81
                        have s128 : f73 5 = .pointer (some ⟨bb1, 0, none⟩) := (hf70 5 rfl).trans s82
                        have s129 : f73 6 = .int .i64 (j : Int) := (hf70 6 rfl).trans s83
                        have s130 : f73 7 = .pointer (some ⟨(B0 10), 0, none⟩) := (hf70 7 rfl).trans s84
                        have s131 : f73 8 = .int .i64 x1 := (hf70 8 rfl).trans s85
                        have s132 : f73 9 = .int .i64 (q : Int) := (hf70 9 rfl).trans s86
                        have s133 : f73 140 = .bool (decide (x4.2.2.2.1 = x0.2.2.2.1)) := hp70 17 rfl
                        obtain ⟨s134, rv32⟩ : f73 146 = .int .i64 x4.2.2.2.2 ∧ I64 (x4.2.2.2.2) := hp70 23 rfl
                        obtain ⟨s135, rv33⟩ : f73 148 = .int .i64 x0.2.2.2.2 ∧ I64 (x0.2.2.2.2) := hp70 25 rfl
                        refine k (gy rfl rfl s133 b7 (eql rfl rfl s134 s135 (k (pickT rfl rfl rfl s133 b7 rfl (z (nx (cdF rfl rfl (decide_eq_false (hf6_ (of_decide_eq_true b5) _ (List.mem_of_getElem? hx4) b6 (of_decide_eq_true b7))) (sk (inb_normal (nx (rg (k (mv rfl s132 (k (add rfl rfl rfl rfl (by unfold I64 at *; omega) (k (asg (v := .int .i64 ((q : Int) + 1)) rfl rfl (z ?_))))))))))))))))))
                        refine loopN _ ?_ ⟨(q + 1), rfl, s127, s128, s129, s130, s131, (ieq rfl (by first | rfl | omega | (push_cast; omega))), H83, (by first | assumption | omega | simp | (simp; omega))⟩
                        omega
                    · -- decide (x4.2.2.2.1 = x0.2.2.2.1) is False
                      have p7 := of_decide_eq_false b7
                      refine dr 26 [fun (v : Value) (w' : World) => v = .pointer (some ⟨bb0, 1, none⟩), fun (v : Value) (w' : World) => v = .slice a1 (fxI h).length c1, fun (v : Value) (w' : World) => v = .int .i64 (q : Int), fun (v : Value) (w' : World) => ∃ (ad9 : Addr), v = .pointer (some ad9) ∧ At (MS M [box (B0 10) #[.int .i64 x0.1, .int .i64 x0.2.1, .bool x0.2.2.1, .int .i64 x0.2.2.2.1, .int .i64 x0.2.2.2.2] 40, box bb1 #[.slice a3 (fxV h).length c3, .slice a4 (fxI h).length c4, .slice a5 (fromM (fxI h)).length c5] 30, imm (.slice a5 (fromM (fxI h)).length c5) (fromM (fxI h)), imm (.slice a4 (fxI h).length c4) (fxI h), imm (.slice a3 (fxV h).length c3) (fxV h), box bb0 #[.slice a0 (fxV h).length c0, .slice a1 (fxI h).length c1, .slice a2 ([] : List Int).length c2] 30, imm (.slice a2 ([] : List Int).length c2) ([] : List Int), imm (.slice a1 (fxI h).length c1) (fxI h), imm (.slice a0 (fxV h).length c0) (fxV h), imm (.slice a_h h.length c_h) h]) w' ad9 x4, fun (v : Value) (w' : World) => ∃ (ad9 : Addr), v = .pointer (some ((ad9).add 2)) ∧ At (MS M [box (B0 10) #[.int .i64 x0.1, .int .i64 x0.2.1, .bool x0.2.2.1, .int .i64 x0.2.2.2.1, .int .i64 x0.2.2.2.2] 40, box bb1 #[.slice a3 (fxV h).length c3, .slice a4 (fxI h).length c4, .slice a5 (fromM (fxI h)).length c5] 30, imm (.slice a5 (fromM (fxI h)).length c5) (fromM (fxI h)), imm (.slice a4 (fxI h).length c4) (fxI h), imm (.slice a3 (fxV h).length c3) (fxV h), box bb0 #[.slice a0 (fxV h).length c0, .slice a1 (fxI h).length c1, .slice a2 ([] : List Int).length c2] 30, imm (.slice a2 ([] : List Int).length c2) ([] : List Int), imm (.slice a1 (fxI h).length c1) (fxI h), imm (.slice a0 (fxV h).length c0) (fxV h), imm (.slice a_h h.length c_h) h]) w' ad9 x4, fun (v : Value) (w' : World) => v = .bool x4.2.2.1, fun (v : Value) (w' : World) => v = .bool x4.2.2.1, fun (v : Value) (w' : World) => v = .pointer (some ⟨bb0, 1, none⟩), fun (v : Value) (w' : World) => v = .slice a1 (fxI h).length c1, fun (v : Value) (w' : World) => v = .int .i64 (q : Int), fun (v : Value) (w' : World) => ∃ (ad10 : Addr), v = .pointer (some ad10) ∧ At (MS M [box (B0 10) #[.int .i64 x0.1, .int .i64 x0.2.1, .bool x0.2.2.1, .int .i64 x0.2.2.2.1, .int .i64 x0.2.2.2.2] 40, box bb1 #[.slice a3 (fxV h).length c3, .slice a4 (fxI h).length c4, .slice a5 (fromM (fxI h)).length c5] 30, imm (.slice a5 (fromM (fxI h)).length c5) (fromM (fxI h)), imm (.slice a4 (fxI h).length c4) (fxI h), imm (.slice a3 (fxV h).length c3) (fxV h), box bb0 #[.slice a0 (fxV h).length c0, .slice a1 (fxI h).length c1, .slice a2 ([] : List Int).length c2] 30, imm (.slice a2 ([] : List Int).length c2) ([] : List Int), imm (.slice a1 (fxI h).length c1) (fxI h), imm (.slice a0 (fxV h).length c0) (fxV h), imm (.slice a_h h.length c_h) h]) w' ad10 x4, fun (v : Value) (w' : World) => ∃ (ad10 : Addr), v = .pointer (some ((ad10).add 3)) ∧ At (MS M [box (B0 10) #[.int .i64 x0.1, .int .i64 x0.2.1, .bool x0.2.2.1, .int .i64 x0.2.2.2.1, .int .i64 x0.2.2.2.2] 40, box bb1 #[.slice a3 (fxV h).length c3, .slice a4 (fxI h).length c4, .slice a5 (fromM (fxI h)).length c5] 30, imm (.slice a5 (fromM (fxI h)).length c5) (fromM (fxI h)), imm (.slice a4 (fxI h).length c4) (fxI h), imm (.slice a3 (fxV h).length c3) (fxV h), box bb0 #[.slice a0 (fxV h).length c0, .slice a1 (fxI h).length c1, .slice a2 ([] : List Int).length c2] 30, imm (.slice a2 ([] : List Int).length c2) ([] : List Int), imm (.slice a1 (fxI h).length c1) (fxI h), imm (.slice a0 (fxV h).length c0) (fxV h), imm (.slice a_h h.length c_h) h]) w' ad10 x4, fun (v : Value) (w' : World) => v = .int .i64 x4.2.2.2.1 ∧ I64 (x4.2.2.2.1), fun (v : Value) (w' : World) => v = .pointer (some ⟨(B0 10), 3, none⟩), fun (v : Value) (w' : World) => v = .int .i64 x0.2.2.2.1 ∧ I64 (x0.2.2.2.1), fun (v : Value) (w' : World) => v = .bool (decide (x4.2.2.2.1 = x0.2.2.2.1)), fun (v : Value) (w' : World) => v = .bool (decide (x4.2.2.2.1 = x0.2.2.2.1)), fun (v : Value) (w' : World) => v = .bool (decide (x4.2.2.2.1 = x0.2.2.2.1)), fun (v : Value) (_ : World) => v = undef, fun (v : Value) (_ : World) => v = undef, fun (v : Value) (_ : World) => v = undef, fun (v : Value) (_ : World) => v = undef, fun (v : Value) (_ : World) => v = undef, fun (v : Value) (_ : World) => v = undef, fun (v : Value) (_ : World) => v = undef, fun (v : Value) (_ : World) => v = undef] rfl (by kernel_rfl) ?_ ?_
                      ·
                        refine ⟨fun _ => ⟨fun f47 w56 hf44 xt52 hp44 => ?_, fun _ _ _ _ h => h⟩, ?_⟩
                        ·
                          have H51 := H50.ext xt52
                          refine fa fl30_1 rfl ((hf44 3 rfl).trans s81) ?_
                          exact ⟨_, rfl, Ext.refl _, rfl⟩
                        refine ⟨fun _ => ⟨fun f48 w57 hf45 xt53 hp45 => ?_, fun _ _ _ _ h => h⟩, ?_⟩
                        ·
                          have H52 := H50.ext xt53
                          have s87 : f48 123 = .pointer (some ⟨bb0, 1, none⟩) := hp45 0 rfl rfl
                          refine ldX H52 5 rfl ty27 rfl s87 (by decide) rfl ?_
                          exact ⟨_, rfl, Ext.refl _, rfl⟩
                        refine ⟨fun _ => ⟨fun f49 w58 hf46 xt54 hp46 => ?_, fun _ _ _ _ h => h⟩, ?_⟩
                        ·
                          have H53 := H50.ext xt54
                          refine mv rfl ((hf46 9 rfl).trans s86) ?_
                          exact ⟨_, rfl, Ext.refl _, rfl⟩
                        refine ⟨fun _ => ⟨fun f50 w59 hf47 xt55 hp47 => ?_, by rintro _ _ _ x_ ⟨ad9, e_, hA9⟩; exact ⟨ad9, e_, hA9.lift (Up.ext x_)⟩⟩, ?_⟩
                        ·
                          have H54 := H50.ext xt55
                          have s88 : f50 124 = .slice a1 (fxI h).length c1 := hp47 1 rfl rfl
                          have s89 : f50 125 = .int .i64 (q : Int) := hp47 2 rfl rfl
                          refine ia (H54.rv 7 rfl) rfl rfl s88 s89 (by first | omega | (simp; omega)) un27 ty40 ?_
                          intro ad11 x9 hx9 hA11
                          obtain rfl : x4 = x9 := Option.some.inj (hx4.symm.trans hx9)
                          exact ⟨_, rfl, Ext.refl _, ⟨ad11, rfl, hA11⟩⟩
                        refine ⟨fun _ => ⟨fun f51 w60 hf48 xt56 hp48 => ?_, by rintro _ _ _ x_ ⟨ad9, e_, hA9⟩; exact ⟨ad9, e_, hA9.lift (Up.ext x_)⟩⟩, ?_⟩
                        ·
                          have H55 := H50.ext xt56
                          obtain ⟨ad12, s90, hA12⟩ : ∃ (ad12 : Addr), f51 126 = .pointer (some ad12) ∧ At (MS M [box (B0 10) #[.int .i64 x0.1, .int .i64 x0.2.1, .bool x0.2.2.1, .int .i64 x0.2.2.2.1, .int .i64 x0.2.2.2.2] 40, box bb1 #[.slice a3 (fxV h).length c3, .slice a4 (fxI h).length c4, .slice a5 (fromM (fxI h)).length c5] 30, imm (.slice a5 (fromM (fxI h)).length c5) (fromM (fxI h)), imm (.slice a4 (fxI h).length c4) (fxI h), imm (.slice a3 (fxV h).length c3) (fxV h), box bb0 #[.slice a0 (fxV h).length c0, .slice a1 (fxI h).length c1, .slice a2 ([] : List Int).length c2] 30, imm (.slice a2 ([] : List Int).length c2) ([] : List Int), imm (.slice a1 (fxI h).length c1) (fxI h), imm (.slice a0 (fxV h).length c0) (fxV h), imm (.slice a_h h.length c_h) h]) w60 ad12 x4 := hp48 3 rfl rfl
                          have H56 := H55.put (it := atI ad12 x4) rfl hA12
                          refine fa fl40_2 rfl s90 ?_
                          exact ⟨_, rfl, Ext.refl _, ⟨ad12, rfl, (by assumption)⟩⟩
                        refine ⟨fun _ => ⟨fun f52 w61 hf49 xt57 hp49 => ?_, fun _ _ _ _ h => h⟩, ?_⟩
                        ·
                          have H57 := H50.ext xt57
                          obtain ⟨ad13, s91, hA13⟩ : ∃ (ad13 : Addr), f52 127 = .pointer (some ((ad13).add 2)) ∧ At (MS M [box (B0 10) #[.int .i64 x0.1, .int .i64 x0.2.1, .bool x0.2.2.1, .int .i64 x0.2.2.2.1, .int .i64 x0.2.2.2.2] 40, box bb1 #[.slice a3 (fxV h).length c3, .slice a4 (fxI h).length c4, .slice a5 (fromM (fxI h)).length c5] 30, imm (.slice a5 (fromM (fxI h)).length c5) (fromM (fxI h)), imm (.slice a4 (fxI h).length c4) (fxI h), imm (.slice a3 (fxV h).length c3) (fxV h), box bb0 #[.slice a0 (fxV h).length c0, .slice a1 (fxI h).length c1, .slice a2 ([] : List Int).length c2] 30, imm (.slice a2 ([] : List Int).length c2) ([] : List Int), imm (.slice a1 (fxI h).length c1) (fxI h), imm (.slice a0 (fxV h).length c0) (fxV h), imm (.slice a_h h.length c_h) h]) w61 ad13 x4 := hp49 4 rfl rfl
                          have H58 := H57.put (it := atI ad13 x4) rfl hA13
                          refine ldB (((H58.atv 0 rfl)).s2).fst.w ty4 rfl s91 ?_
                          exact ⟨_, rfl, Ext.refl _, rfl⟩
                        refine ⟨fun _ => ⟨fun f53 w62 hf50 xt58 hp50 => ?_, fun _ _ _ _ h => h⟩, ?_⟩
                        ·
                          have H59 := H50.ext xt58
                          have s92 : f53 128 = .bool x4.2.2.1 := hp50 5 rfl rfl
                          refine mv rfl s92 ?_
                          exact ⟨_, rfl, Ext.refl _, rfl⟩
                        refine ⟨fun _ => ⟨fun f54 w63 hf51 xt59 hp51 => ?_, fun _ _ _ _ h => h⟩, ?_⟩
                        ·
                          have H60 := H50.ext xt59
                          have s93 : f54 129 = .bool x4.2.2.1 := hp51 6 rfl rfl
                          refine gy rfl rfl s93 b6 (fa fl30_1 rfl ((hf51 3 rfl).trans s81) ?_)
                          exact ⟨_, rfl, Ext.refl _, rfl⟩
                        refine ⟨fun _ => ⟨fun f55 w64 hf52 xt60 hp52 => ?_, fun _ _ _ _ h => h⟩, ?_⟩
                        ·
                          have H61 := H50.ext xt60
                          have s94 : f55 129 = .bool x4.2.2.1 := hp52 6 rfl rfl
                          have s95 : f55 130 = .pointer (some ⟨bb0, 1, none⟩) := hp52 7 rfl rfl
                          refine gy rfl rfl s94 b6 (ldX H61 5 rfl ty27 rfl s95 (by decide) rfl ?_)
                          exact ⟨_, rfl, Ext.refl _, rfl⟩
                        refine ⟨fun _ => ⟨fun f56 w65 hf53 xt61 hp53 => ?_, fun _ _ _ _ h => h⟩, ?_⟩
                        ·
                          have H62 := H50.ext xt61
                          have s96 : f56 129 = .bool x4.2.2.1 := hp53 6 rfl rfl
                          refine gy rfl rfl s96 b6 (mv rfl ((hf53 9 rfl).trans s86) ?_)
                          exact ⟨_, rfl, Ext.refl _, rfl⟩
                        refine ⟨fun _ => ⟨fun f57 w66 hf54 xt62 hp54 => ?_, by rintro _ _ _ x_ ⟨ad10, e_, hA10⟩; exact ⟨ad10, e_, hA10.lift (Up.ext x_)⟩⟩, ?_⟩
                        ·
                          have H63 := H50.ext xt62
                          have s97 : f57 129 = .bool x4.2.2.1 := hp54 6 rfl rfl
                          have s98 : f57 131 = .slice a1 (fxI h).length c1 := hp54 8 rfl rfl
                          have s99 : f57 132 = .int .i64 (q : Int) := hp54 9 rfl rfl
                          refine gy rfl rfl s97 b6 (ia (H63.rv 7 rfl) rfl rfl s98 s99 (by first | omega | (simp; omega)) un27 ty40 ?_)
                          intro ad14 x10 hx10 hA14
                          obtain rfl : x4 = x10 := Option.some.inj (hx4.symm.trans hx10)
                          exact ⟨_, rfl, Ext.refl _, ⟨ad14, rfl, hA14⟩⟩
                        refine ⟨fun _ => ⟨fun f58 w67 hf55 xt63 hp55 => ?_, by rintro _ _ _ x_ ⟨ad10, e_, hA10⟩; exact ⟨ad10, e_, hA10.lift (Up.ext x_)⟩⟩, ?_⟩
                        ·
                          have H64 := H50.ext xt63
                          have s100 : f58 129 = .bool x4.2.2.1 := hp55 6 rfl rfl
                          obtain ⟨ad15, s101, hA15⟩ : ∃ (ad15 : Addr), f58 133 = .pointer (some ad15) ∧ At (MS M [box (B0 10) #[.int .i64 x0.1, .int .i64 x0.2.1, .bool x0.2.2.1, .int .i64 x0.2.2.2.1, .int .i64 x0.2.2.2.2] 40, box bb1 #[.slice a3 (fxV h).length c3, .slice a4 (fxI h).length c4, .slice a5 (fromM (fxI h)).length c5] 30, imm (.slice a5 (fromM (fxI h)).length c5) (fromM (fxI h)), imm (.slice a4 (fxI h).length c4) (fxI h), imm (.slice a3 (fxV h).length c3) (fxV h), box bb0 #[.slice a0 (fxV h).length c0, .slice a1 (fxI h).length c1, .slice a2 ([] : List Int).length c2] 30, imm (.slice a2 ([] : List Int).length c2) ([] : List Int), imm (.slice a1 (fxI h).length c1) (fxI h), imm (.slice a0 (fxV h).length c0) (fxV h), imm (.slice a_h h.length c_h) h]) w67 ad15 x4 := hp55 10 rfl rfl
                          have H65 := H64.put (it := atI ad15 x4) rfl hA15
                          refine gy rfl rfl s100 b6 (fa fl40_3 rfl s101 ?_)
                          exact ⟨_, rfl, Ext.refl _, ⟨ad15, rfl, (by assumption)⟩⟩
                        refine ⟨fun _ => ⟨fun f59 w68 hf56 xt64 hp56 => ?_, fun _ _ _ _ h => h⟩, ?_⟩
                        ·
                          have H66 := H50.ext xt64
                          have s102 : f59 129 = .bool x4.2.2.1 := hp56 6 rfl rfl
                          obtain ⟨ad16, s103, hA16⟩ : ∃ (ad16 : Addr), f59 134 = .pointer (some ((ad16).add 3)) ∧ At (MS M [box (B0 10) #[.int .i64 x0.1, .int .i64 x0.2.1, .bool x0.2.2.1, .int .i64 x0.2.2.2.1, .int .i64 x0.2.2.2.2] 40, box bb1 #[.slice a3 (fxV h).length c3, .slice a4 (fxI h).length c4, .slice a5 (fromM (fxI h)).length c5] 30, imm (.slice a5 (fromM (fxI h)).length c5) (fromM (fxI h)), imm (.slice a4 (fxI h).length c4) (fxI h), imm (.slice a3 (fxV h).length c3) (fxV h), box bb0 #[.slice a0 (fxV h).length c0, .slice a1 (fxI h).length c1, .slice a2 ([] : List Int).length c2] 30, imm (.slice a2 ([] : List Int).length c2) ([] : List Int), imm (.slice a1 (fxI h).length c1) (fxI h), imm (.slice a0 (fxV h).length c0) (fxV h), imm (.slice a_h h.length c_h) h]) w68 ad16 x4 := hp56 11 rfl rfl
                          have H67 := H66.put (it := atI ad16 x4) rfl hA16
                          refine gy rfl rfl s102 b6 (ldI (((H67.atv 0 rfl)).s3).fst.w ty3 rfl s103 ?_)
                          intro rv27
                          exact ⟨_, rfl, Ext.refl _, ⟨rfl, rv27⟩⟩
                        refine ⟨fun _ => ⟨fun f60 w69 hf57 xt65 hp57 => ?_, fun _ _ _ _ h => h⟩, ?_⟩
                        ·
                          have H68 := H50.ext xt65
                          have s104 : f60 129 = .bool x4.2.2.1 := hp57 6 rfl rfl
                          refine gy rfl rfl s104 b6 (fa fl40_3 rfl ((hf57 7 rfl).trans s84) ?_)
                          exact ⟨_, rfl, Ext.refl _, rfl⟩
                        refine ⟨fun _ => ⟨fun f61 w70 hf58 xt66 hp58 => ?_, fun _ _ _ _ h => h⟩, ?_⟩
                        ·
                          have H69 := H50.ext xt66
                          have s105 : f61 129 = .bool x4.2.2.1 := hp58 6 rfl rfl
                          have s106 : f61 136 = .pointer (some ⟨(B0 10), 3, none⟩) := hp58 13 rfl rfl
                          refine gy rfl rfl s105 b6 (ldX H69 0 rfl ty3 rfl s106 (by decide) rfl ?_)
                          exact ⟨_, rfl, Ext.refl _, ⟨rfl, rv22⟩⟩
                        refine ⟨fun _ => ⟨fun f62 w71 hf59 xt67 hp59 => ?_, fun _ _ _ _ h => h⟩, ?_⟩
                        ·
                          have H70 := H50.ext xt67
                          have s107 : f62 129 = .bool x4.2.2.1 := hp59 6 rfl rfl
                          obtain ⟨s108, rv28⟩ : f62 135 = .int .i64 x4.2.2.2.1 ∧ I64 (x4.2.2.2.1) := hp59 12 rfl rfl
                          obtain ⟨s109, rv29⟩ : f62 137 = .int .i64 x0.2.2.2.1 ∧ I64 (x0.2.2.2.1) := hp59 14 rfl rfl
                          refine gy rfl rfl s107 b6 (eql rfl rfl s108 s109 ?_)
                          exact ⟨_, rfl, Ext.refl _, rfl⟩
                        refine ⟨fun _ => ⟨fun f63 w72 hf60 xt68 hp60 => ?_, fun _ _ _ _ h => h⟩, ?_⟩
                        ·
                          have H71 := H50.ext xt68
                          have s110 : f63 129 = .bool x4.2.2.1 := hp60 6 rfl rfl
                          have s111 : f63 138 = .bool (decide (x4.2.2.2.1 = x0.2.2.2.1)) := hp60 15 rfl rfl
                          refine pickT rfl rfl rfl s110 b6 s111 ?_
                          exact ⟨_, rfl, Ext.refl _, rfl⟩
                        refine ⟨fun _ => ⟨fun f64 w73 hf61 xt69 hp61 => ?_, fun _ _ _ _ h => h⟩, ?_⟩
                        ·
                          have H72 := H50.ext xt69
                          have s112 : f64 139 = .bool (decide (x4.2.2.2.1 = x0.2.2.2.1)) := hp61 16 rfl rfl
                          refine mv rfl s112 ?_
                          exact ⟨_, rfl, Ext.refl _, rfl⟩
                        refine ⟨fun _ => ⟨fun f65 w74 hf62 xt70 hp62 => ?_, fun _ _ _ _ h => h⟩, ?_⟩
                        ·
                          have H73 := H50.ext xt70
                          have s113 : f65 140 = .bool (decide (x4.2.2.2.1 = x0.2.2.2.1)) := hp62 17 rfl rfl
                          refine gn rfl rfl s113 b7 ?_
                          exact ⟨_, rfl, Ext.refl _, rfl⟩
                        refine ⟨fun _ => ⟨fun f66 w75 hf63 xt71 hp63 => ?_, fun _ _ _ _ h => h⟩, ?_⟩
                        ·
                          have H74 := H50.ext xt71
                          have s114 : f66 140 = .bool (decide (x4.2.2.2.1 = x0.2.2.2.1)) := hp63 17 rfl rfl
                          have s115 : f66 141 = undef := hp63 18 rfl rfl
                          refine gn rfl rfl s114 b7 ?_
                          exact ⟨_, rfl, Ext.refl _, rfl⟩
                        refine ⟨fun _ => ⟨fun f67 w76 hf64 xt72 hp64 => ?_, fun _ _ _ _ h => h⟩, ?_⟩
                        ·
                          have H75 := H50.ext xt72
                          have s116 : f67 140 = .bool (decide (x4.2.2.2.1 = x0.2.2.2.1)) := hp64 17 rfl rfl
                          refine gn rfl rfl s116 b7 ?_
                          exact ⟨_, rfl, Ext.refl _, rfl⟩
                        refine ⟨fun _ => ⟨fun f68 w77 hf65 xt73 hp65 => ?_, fun _ _ _ _ h => h⟩, ?_⟩
                        ·
                          have H76 := H50.ext xt73
                          have s117 : f68 140 = .bool (decide (x4.2.2.2.1 = x0.2.2.2.1)) := hp65 17 rfl rfl
                          have s118 : f68 142 = undef := hp65 19 rfl rfl
                          have s119 : f68 143 = undef := hp65 20 rfl rfl
                          refine gn rfl rfl s117 b7 ?_
                          exact ⟨_, rfl, Ext.refl _, rfl⟩
                        refine ⟨fun _ => ⟨fun f69 w78 hf66 xt74 hp66 => ?_, fun _ _ _ _ h => h⟩, ?_⟩
                        ·
                          have H77 := H50.ext xt74
                          have s120 : f69 140 = .bool (decide (x4.2.2.2.1 = x0.2.2.2.1)) := hp66 17 rfl rfl
                          have s121 : f69 144 = undef := hp66 21 rfl rfl
                          refine gn rfl rfl s120 b7 ?_
                          exact ⟨_, rfl, Ext.refl _, rfl⟩
                        refine ⟨fun _ => ⟨fun f70 w79 hf67 xt75 hp67 => ?_, fun _ _ _ _ h => h⟩, ?_⟩
                        ·
                          have H78 := H50.ext xt75
                          have s122 : f70 140 = .bool (decide (x4.2.2.2.1 = x0.2.2.2.1)) := hp67 17 rfl rfl
                          have s123 : f70 145 = undef := hp67 22 rfl rfl
                          refine gn rfl rfl s122 b7 ?_
                          exact ⟨_, rfl, Ext.refl _, rfl⟩
                        refine ⟨fun _ => ⟨fun f71 w80 hf68 xt76 hp68 => ?_, fun _ _ _ _ h => h⟩, ?_⟩
                        ·
                          have H79 := H50.ext xt76
                          have s124 : f71 140 = .bool (decide (x4.2.2.2.1 = x0.2.2.2.1)) := hp68 17 rfl rfl
                          refine gn rfl rfl s124 b7 ?_
                          exact ⟨_, rfl, Ext.refl _, rfl⟩
                        refine ⟨fun _ => ⟨fun f72 w81 hf69 xt77 hp69 => ?_, fun _ _ _ _ h => h⟩, ?_⟩
                        ·
                          have H80 := H50.ext xt77
                          have s125 : f72 140 = .bool (decide (x4.2.2.2.1 = x0.2.2.2.1)) := hp69 17 rfl rfl
                          have s126 : f72 147 = undef := hp69 24 rfl rfl
                          refine gn rfl rfl s125 b7 ?_
                          exact ⟨_, rfl, Ext.refl _, rfl⟩
                        exact DSteps.rest rfl _
                      · intro f73 w82 hf70 xt78 hp70
                        have H81 := H50.ext xt78
                        have s127 : f73 3 = .pointer (some ⟨bb0, 0, none⟩) := (hf70 3 rfl).trans s81
                        have s128 : f73 5 = .pointer (some ⟨bb1, 0, none⟩) := (hf70 5 rfl).trans s82
                        have s129 : f73 6 = .int .i64 (j : Int) := (hf70 6 rfl).trans s83
                        have s130 : f73 7 = .pointer (some ⟨(B0 10), 0, none⟩) := (hf70 7 rfl).trans s84
                        have s131 : f73 8 = .int .i64 x1 := (hf70 8 rfl).trans s85
                        have s132 : f73 9 = .int .i64 (q : Int) := (hf70 9 rfl).trans s86
                        have s133 : f73 140 = .bool (decide (x4.2.2.2.1 = x0.2.2.2.1)) := hp70 17 rfl
                        have s134 : f73 146 = undef := hp70 23 rfl
                        have s135 : f73 148 = undef := hp70 25 rfl
                        refine k (gn rfl rfl s133 b7 (k (pickF rfl rfl rfl s133 b7 rfl (z (nx (cdF rfl rfl rfl (sk (inb_normal (nx (rg (k (mv rfl s132 (k (add rfl rfl rfl rfl (by unfold I64 at *; omega) (k (asg (v := .int .i64 ((q : Int) + 1)) rfl rfl (z ?_)))))))))))))))))
                        refine loopN _ ?_ ⟨(q + 1), rfl, s127, s128, s129, s130, s131, (ieq rfl (by first | rfl | omega | (push_cast; omega))), H81, (by first | assumption | omega | simp | (simp; omega))⟩
                        omega
                  · -- x4.2.2.1 is False
                    refine dr 26 [fun (v : Value) (w' : World) => v = .pointer (some ⟨bb0, 1, none⟩), fun (v : Value) (w' : World) => v = .slice a1 (fxI h).length c1, fun (v : Value) (w' : World) => v = .int .i64 (q : Int), fun (v : Value) (w' : World) => ∃ (ad7 : Addr), v = .pointer (some ad7) ∧ At (MS M [box (B0 10) #[.int .i64 x0.1, .int .i64 x0.2.1, .bool x0.2.2.1, .int .i64 x0.2.2.2.1, .int .i64 x0.2.2.2.2] 40, box bb1 #[.slice a3 (fxV h).length c3, .slice a4 (fxI h).length c4, .slice a5 (fromM (fxI h)).length c5] 30, imm (.slice a5 (fromM (fxI h)).length c5) (fromM (fxI h)), imm (.slice a4 (fxI h).length c4) (fxI h), imm (.slice a3 (fxV h).length c3) (fxV h), box bb0 #[.slice a0 (fxV h).length c0, .slice a1 (fxI h).length c1, .slice a2 ([] : List Int).length c2] 30, imm (.slice a2 ([] : List Int).length c2) ([] : List Int), imm (.slice a1 (fxI h).length c1) (fxI h), imm (.slice a0 (fxV h).length c0) (fxV h), imm (.slice a_h h.length c_h) h]) w' ad7 x4, fun (v : Value) (w' : World) => ∃ (ad7 : Addr), v = .pointer (some ((ad7).add 2)) ∧ At (MS M [box (B0 10) #[.int .i64 x0.1, .int .i64 x0.2.1, .bool x0.2.2.1, .int .i64 x0.2.2.2.1, .int .i64 x0.2.2.2.2] 40, box bb1 #[.slice a3 (fxV h).length c3, .slice a4 (fxI h).length c4, .slice a5 (fromM (fxI h)).length c5] 30, imm (.slice a5 (fromM (fxI h)).length c5) (fromM (fxI h)), imm (.slice a4 (fxI h).length c4) (fxI h), imm (.slice a3 (fxV h).length c3) (fxV h), box bb0 #[.slice a0 (fxV h).length c0, .slice a1 (fxI h).length c1, .slice a2 ([] : List Int).length c2] 30, imm (.slice a2 ([] : List Int).length c2) ([] : List Int), imm (.slice a1 (fxI h).length c1) (fxI h), imm (.slice a0 (fxV h).length c0) (fxV h), imm (.slice a_h h.length c_h) h]) w' ad7 x4, fun (v : Value) (w' : World) => v = .bool x4.2.2.1, fun (v : Value) (w' : World) => v = .bool x4.2.2.1, fun (v : Value) (_ : World) => v = undef, fun (v : Value) (_ : World) => v = undef, fun (v : Value) (_ : World) => v = undef, fun (v : Value) (_ : World) => v = undef, fun (v : Value) (_ : World) => v = undef, fun (v : Value) (_ : World) => v = undef, fun (v : Value) (_ : World) => v = undef, fun (v : Value) (_ : World) => v = undef, fun (v : Value) (_ : World) => v = undef, fun (v : Value) (w' : World) => v = .bool false, fun (v : Value) (w' : World) => v = .bool false, fun (v : Value) (_ : World) => v = undef, fun (v : Value) (_ : World) => v = undef, fun (v : Value) (_ : World) => v = undef, fun (v : Value) (_ : World) => v = undef, fun (v : Value) (_ : World) => v = undef, fun (v : Value) (_ : World) => v = undef, fun (v : Value) (_ : World) => v = undef, fun (v : Value) (_ : World) => v = undef] rfl (by kernel_rfl) ?_ ?_
                    ·
                      refine ⟨fun _ => ⟨fun f47 w56 hf44 xt52 hp44 => ?_, fun _ _ _ _ h => h⟩, ?_⟩
                      ·
                        have H51 := H50.ext xt52
                        refine fa fl30_1 rfl ((hf44 3 rfl).trans s81) ?_
                        exact ⟨_, rfl, Ext.refl _, rfl⟩
                      refine ⟨fun _ => ⟨fun f48 w57 hf45 xt53 hp45 => ?_, fun _ _ _ _ h => h⟩, ?_⟩
                      ·
                        have H52 := H50.ext xt53
                        have s87 : f48 123 = .pointer (some ⟨bb0, 1, none⟩) := hp45 0 rfl rfl
                        refine ldX H52 5 rfl ty27 rfl s87 (by decide) rfl ?_
                        exact ⟨_, rfl, Ext.refl _, rfl⟩
                      refine ⟨fun _ => ⟨fun f49 w58 hf46 xt54 hp46 => ?_, fun _ _ _ _ h => h⟩, ?_⟩
                      ·
                        have H53 := H50.ext xt54
                        refine mv rfl ((hf46 9 rfl).trans s86) ?_
                        exact ⟨_, rfl, Ext.refl _, rfl⟩
                      refine ⟨fun _ => ⟨fun f50 w59 hf47 xt55 hp47 => ?_, by rintro _ _ _ x_ ⟨ad7, e_, hA7⟩; exact ⟨ad7, e_, hA7.lift (Up.ext x_)⟩⟩, ?_⟩
                      ·
                        have H54 := H50.ext xt55
                        have s88 : f50 124 = .slice a1 (fxI h).length c1 := hp47 1 rfl rfl
                        have s89 : f50 125 = .int .i64 (q : Int) := hp47 2 rfl rfl
                        refine ia (H54.rv 7 rfl) rfl rfl s88 s89 (by first | omega | (simp; omega)) un27 ty40 ?_
                        intro ad8 x6 hx6 hA8
                        obtain rfl : x4 = x6 := Option.some.inj (hx4.symm.trans hx6)
                        exact ⟨_, rfl, Ext.refl _, ⟨ad8, rfl, hA8⟩⟩
                      refine ⟨fun _ => ⟨fun f51 w60 hf48 xt56 hp48 => ?_, by rintro _ _ _ x_ ⟨ad7, e_, hA7⟩; exact ⟨ad7, e_, hA7.lift (Up.ext x_)⟩⟩, ?_⟩
                      ·
                        have H55 := H50.ext xt56
                        obtain ⟨ad9, s90, hA9⟩ : ∃ (ad9 : Addr), f51 126 = .pointer (some ad9) ∧ At (MS M [box (B0 10) #[.int .i64 x0.1, .int .i64 x0.2.1, .bool x0.2.2.1, .int .i64 x0.2.2.2.1, .int .i64 x0.2.2.2.2] 40, box bb1 #[.slice a3 (fxV h).length c3, .slice a4 (fxI h).length c4, .slice a5 (fromM (fxI h)).length c5] 30, imm (.slice a5 (fromM (fxI h)).length c5) (fromM (fxI h)), imm (.slice a4 (fxI h).length c4) (fxI h), imm (.slice a3 (fxV h).length c3) (fxV h), box bb0 #[.slice a0 (fxV h).length c0, .slice a1 (fxI h).length c1, .slice a2 ([] : List Int).length c2] 30, imm (.slice a2 ([] : List Int).length c2) ([] : List Int), imm (.slice a1 (fxI h).length c1) (fxI h), imm (.slice a0 (fxV h).length c0) (fxV h), imm (.slice a_h h.length c_h) h]) w60 ad9 x4 := hp48 3 rfl rfl
                        have H56 := H55.put (it := atI ad9 x4) rfl hA9
                        refine fa fl40_2 rfl s90 ?_
                        exact ⟨_, rfl, Ext.refl _, ⟨ad9, rfl, (by assumption)⟩⟩
                      refine ⟨fun _ => ⟨fun f52 w61 hf49 xt57 hp49 => ?_, fun _ _ _ _ h => h⟩, ?_⟩
                      ·
                        have H57 := H50.ext xt57
                        obtain ⟨ad10, s91, hA10⟩ : ∃ (ad10 : Addr), f52 127 = .pointer (some ((ad10).add 2)) ∧ At (MS M [box (B0 10) #[.int .i64 x0.1, .int .i64 x0.2.1, .bool x0.2.2.1, .int .i64 x0.2.2.2.1, .int .i64 x0.2.2.2.2] 40, box bb1 #[.slice a3 (fxV h).length c3, .slice a4 (fxI h).length c4, .slice a5 (fromM (fxI h)).length c5] 30, imm (.slice a5 (fromM (fxI h)).length c5) (fromM (fxI h)), imm (.slice a4 (fxI h).length c4) (fxI h), imm (.slice a3 (fxV h).length c3) (fxV h), box bb0 #[.slice a0 (fxV h).length c0, .slice a1 (fxI h).length c1, .slice a2 ([] : List Int).length c2] 30, imm (.slice a2 ([] : List Int).length c2) ([] : List Int), imm (.slice a1 (fxI h).length c1) (fxI h), imm (.slice a0 (fxV h).length c0) (fxV h), imm (.slice a_h h.length c_h) h]) w61 ad10 x4 := hp49 4 rfl rfl
                        have H58 := H57.put (it := atI ad10 x4) rfl hA10
                        refine ldB (((H58.atv 0 rfl)).s2).fst.w ty4 rfl s91 ?_
                        exact ⟨_, rfl, Ext.refl _, rfl⟩
                      refine ⟨fun _ => ⟨fun f53 w62 hf50 xt58 hp50 => ?_, fun _ _ _ _ h => h⟩, ?_⟩
                      ·
                        have H59 := H50.ext xt58
                        have s92 : f53 128 = .bool x4.2.2.1 := hp50 5 rfl rfl
                        refine mv rfl s92 ?_
                        exact ⟨_, rfl, Ext.refl _, rfl⟩
                      refine ⟨fun _ => ⟨fun f54 w63 hf51 xt59 hp51 => ?_, fun _ _ _ _ h => h⟩, ?_⟩
                      ·
                        have H60 := H50.ext xt59
                        have s93 : f54 129 = .bool x4.2.2.1 := hp51 6 rfl rfl
                        refine gn rfl rfl s93 b6 ?_
                        exact ⟨_, rfl, Ext.refl _, rfl⟩
                      refine ⟨fun _ => ⟨fun f55 w64 hf52 xt60 hp52 => ?_, fun _ _ _ _ h => h⟩, ?_⟩
                      ·
                        have H61 := H50.ext xt60
                        have s94 : f55 129 = .bool x4.2.2.1 := hp52 6 rfl rfl
                        have s95 : f55 130 = undef := hp52 7 rfl rfl
                        refine gn rfl rfl s94 b6 ?_
                        exact ⟨_, rfl, Ext.refl _, rfl⟩
                      refine ⟨fun _ => ⟨fun f56 w65 hf53 xt61 hp53 => ?_, fun _ _ _ _ h => h⟩, ?_⟩
                      ·
                        have H62 := H50.ext xt61
                        have s96 : f56 129 = .bool x4.2.2.1 := hp53 6 rfl rfl
                        refine gn rfl rfl s96 b6 ?_
                        exact ⟨_, rfl, Ext.refl _, rfl⟩
                      refine ⟨fun _ => ⟨fun f57 w66 hf54 xt62 hp54 => ?_, fun _ _ _ _ h => h⟩, ?_⟩
                      ·
                        have H63 := H50.ext xt62
                        have s97 : f57 129 = .bool x4.2.2.1 := hp54 6 rfl rfl
                        have s98 : f57 131 = undef := hp54 8 rfl rfl
                        have s99 : f57 132 = undef := hp54 9 rfl rfl
                        refine gn rfl rfl s97 b6 ?_
                        exact ⟨_, rfl, Ext.refl _, rfl⟩
                      refine ⟨fun _ => ⟨fun f58 w67 hf55 xt63 hp55 => ?_, fun _ _ _ _ h => h⟩, ?_⟩
                      ·
                        have H64 := H50.ext xt63
                        have s100 : f58 129 = .bool x4.2.2.1 := hp55 6 rfl rfl
                        have s101 : f58 133 = undef := hp55 10 rfl rfl
                        refine gn rfl rfl s100 b6 ?_
                        exact ⟨_, rfl, Ext.refl _, rfl⟩
                      refine ⟨fun _ => ⟨fun f59 w68 hf56 xt64 hp56 => ?_, fun _ _ _ _ h => h⟩, ?_⟩
                      ·
                        have H65 := H50.ext xt64
                        have s102 : f59 129 = .bool x4.2.2.1 := hp56 6 rfl rfl
                        have s103 : f59 134 = undef := hp56 11 rfl rfl
                        refine gn rfl rfl s102 b6 ?_
                        exact ⟨_, rfl, Ext.refl _, rfl⟩
                      refine ⟨fun _ => ⟨fun f60 w69 hf57 xt65 hp57 => ?_, fun _ _ _ _ h => h⟩, ?_⟩
                      ·
                        have H66 := H50.ext xt65
                        have s104 : f60 129 = .bool x4.2.2.1 := hp57 6 rfl rfl
                        refine gn rfl rfl s104 b6 ?_
                        exact ⟨_, rfl, Ext.refl _, rfl⟩
                      refine ⟨fun _ => ⟨fun f61 w70 hf58 xt66 hp58 => ?_, fun _ _ _ _ h => h⟩, ?_⟩
                      ·
                        have H67 := H50.ext xt66
                        have s105 : f61 129 = .bool x4.2.2.1 := hp58 6 rfl rfl
                        have s106 : f61 136 = undef := hp58 13 rfl rfl
                        refine gn rfl rfl s105 b6 ?_
                        exact ⟨_, rfl, Ext.refl _, rfl⟩
                      refine ⟨fun _ => ⟨fun f62 w71 hf59 xt67 hp59 => ?_, fun _ _ _ _ h => h⟩, ?_⟩
                      ·
                        have H68 := H50.ext xt67
                        have s107 : f62 129 = .bool x4.2.2.1 := hp59 6 rfl rfl
                        have s108 : f62 135 = undef := hp59 12 rfl rfl
                        have s109 : f62 137 = undef := hp59 14 rfl rfl
                        refine gn rfl rfl s107 b6 ?_
                        exact ⟨_, rfl, Ext.refl _, rfl⟩
                      refine ⟨fun _ => ⟨fun f63 w72 hf60 xt68 hp60 => ?_, fun _ _ _ _ h => h⟩, ?_⟩
                      ·
                        have H69 := H50.ext xt68
                        have s110 : f63 129 = .bool x4.2.2.1 := hp60 6 rfl rfl
                        have s111 : f63 138 = undef := hp60 15 rfl rfl
                        refine pickF rfl rfl rfl s110 b6 rfl ?_
                        exact ⟨_, rfl, Ext.refl _, rfl⟩
                      refine ⟨fun _ => ⟨fun f64 w73 hf61 xt69 hp61 => ?_, fun _ _ _ _ h => h⟩, ?_⟩
                      ·
                        have H70 := H50.ext xt69
                        have s112 : f64 139 = .bool false := hp61 16 rfl rfl
                        refine mv rfl s112 ?_
                        exact ⟨_, rfl, Ext.refl _, rfl⟩
                      refine ⟨fun _ => ⟨fun f65 w74 hf62 xt70 hp62 => ?_, fun _ _ _ _ h => h⟩, ?_⟩
                      ·
                        have H71 := H50.ext xt70
                        have s113 : f65 140 = .bool false := hp62 17 rfl rfl
                        refine gn rfl rfl s113 rfl ?_
                        exact ⟨_, rfl, Ext.refl _, rfl⟩
                      refine ⟨fun _ => ⟨fun f66 w75 hf63 xt71 hp63 => ?_, fun _ _ _ _ h => h⟩, ?_⟩
                      ·
                        have H72 := H50.ext xt71
                        have s114 : f66 140 = .bool false := hp63 17 rfl rfl
                        have s115 : f66 141 = undef := hp63 18 rfl rfl
                        refine gn rfl rfl s114 rfl ?_
                        exact ⟨_, rfl, Ext.refl _, rfl⟩
                      refine ⟨fun _ => ⟨fun f67 w76 hf64 xt72 hp64 => ?_, fun _ _ _ _ h => h⟩, ?_⟩
                      ·
                        have H73 := H50.ext xt72
                        have s116 : f67 140 = .bool false := hp64 17 rfl rfl
                        refine gn rfl rfl s116 rfl ?_
                        exact ⟨_, rfl, Ext.refl _, rfl⟩
                      refine ⟨fun _ => ⟨fun f68 w77 hf65 xt73 hp65 => ?_, fun _ _ _ _ h => h⟩, ?_⟩
                      ·
                        have H74 := H50.ext xt73
                        have s117 : f68 140 = .bool false := hp65 17 rfl rfl
                        have s118 : f68 142 = undef := hp65 19 rfl rfl
                        have s119 : f68 143 = undef := hp65 20 rfl rfl
                        refine gn rfl rfl s117 rfl ?_
                        exact ⟨_, rfl, Ext.refl _, rfl⟩
                      refine ⟨fun _ => ⟨fun f69 w78 hf66 xt74 hp66 => ?_, fun _ _ _ _ h => h⟩, ?_⟩
                      ·
                        have H75 := H50.ext xt74
                        have s120 : f69 140 = .bool false := hp66 17 rfl rfl
                        have s121 : f69 144 = undef := hp66 21 rfl rfl
                        refine gn rfl rfl s120 rfl ?_
                        exact ⟨_, rfl, Ext.refl _, rfl⟩
                      refine ⟨fun _ => ⟨fun f70 w79 hf67 xt75 hp67 => ?_, fun _ _ _ _ h => h⟩, ?_⟩
                      ·
                        have H76 := H50.ext xt75
                        have s122 : f70 140 = .bool false := hp67 17 rfl rfl
                        have s123 : f70 145 = undef := hp67 22 rfl rfl
                        refine gn rfl rfl s122 rfl ?_
                        exact ⟨_, rfl, Ext.refl _, rfl⟩
                      refine ⟨fun _ => ⟨fun f71 w80 hf68 xt76 hp68 => ?_, fun _ _ _ _ h => h⟩, ?_⟩
                      ·
                        have H77 := H50.ext xt76
                        have s124 : f71 140 = .bool false := hp68 17 rfl rfl
                        refine gn rfl rfl s124 rfl ?_
                        exact ⟨_, rfl, Ext.refl _, rfl⟩
                      refine ⟨fun _ => ⟨fun f72 w81 hf69 xt77 hp69 => ?_, fun _ _ _ _ h => h⟩, ?_⟩
                      ·
                        have H78 := H50.ext xt77
                        have s125 : f72 140 = .bool false := hp69 17 rfl rfl
                        have s126 : f72 147 = undef := hp69 24 rfl rfl
                        refine gn rfl rfl s125 rfl ?_
                        exact ⟨_, rfl, Ext.refl _, rfl⟩
                      exact DSteps.rest rfl _
                    · intro f73 w82 hf70 xt78 hp70
                      have H79 := H50.ext xt78
                      have s127 : f73 3 = .pointer (some ⟨bb0, 0, none⟩) := (hf70 3 rfl).trans s81
                      have s128 : f73 5 = .pointer (some ⟨bb1, 0, none⟩) := (hf70 5 rfl).trans s82
                      have s129 : f73 6 = .int .i64 (j : Int) := (hf70 6 rfl).trans s83
                      have s130 : f73 7 = .pointer (some ⟨(B0 10), 0, none⟩) := (hf70 7 rfl).trans s84
                      have s131 : f73 8 = .int .i64 x1 := (hf70 8 rfl).trans s85
                      have s132 : f73 9 = .int .i64 (q : Int) := (hf70 9 rfl).trans s86
                      have s133 : f73 140 = .bool false := hp70 17 rfl
                      have s134 : f73 146 = undef := hp70 23 rfl
                      have s135 : f73 148 = undef := hp70 25 rfl
                      refine k (gn rfl rfl s133 rfl (k (pickF rfl rfl rfl s133 rfl rfl (z (nx (cdF rfl rfl rfl (sk (inb_normal (nx (rg (k (mv rfl s132 (k (add rfl rfl rfl rfl (by unfold I64 at *; omega) (k (asg (v := .int .i64 ((q : Int) + 1)) rfl rfl (z ?_)))))))))))))))))
                      refine loopN _ ?_ ⟨(q + 1), rfl, s127, s128, s129, s130, s131, (ieq rfl (by first | rfl | omega | (push_cast; omega))), H79, (by first | assumption | omega | simp | (simp; omega))⟩
                      omega
                ·
                  have p5 := of_decide_eq_false b5
                  refine ex (then_exit (loop_exit (inb_here (inb_normal (nx (rg (k (mv rfl s83 (k (add rfl rfl rfl rfl (by unfold I64 at *; omega) (k (asg (v := .int .i64 ((j : Int) + 1)) rfl rfl (z ?_)))))))))))))
                  have H51 : HI M w w55 [box bb1 #[.slice a3 (fxV h).length c3, .slice a4 (fxI h).length c4, .slice a5 (fromM (fxI h)).length c5] 30, imm (.slice a5 (fromM (fxI h)).length c5) (fromM (fxI h)), imm (.slice a4 (fxI h).length c4) (fxI h), imm (.slice a3 (fxV h).length c3) (fxV h), box bb0 #[.slice a0 (fxV h).length c0, .slice a1 (fxI h).length c1, .slice a2 ([] : List Int).length c2] 30, imm (.slice a2 ([] : List Int).length c2) ([] : List Int), imm (.slice a1 (fxI h).length c1) (fxI h), imm (.slice a0 (fxV h).length c0) (fxV h), imm (.slice a_h h.length c_h) h] := H50.pickN [1, 2, 3, 4, 5, 6, 7, 8, 9] (by decide) rfl
                  refine loopN _ ?_ ⟨(j + 1), rfl, s81, s82, (ieq rfl (by first | rfl | omega | (push_cast; omega))), H51, (by first | assumption | omega | simp | (simp; omega))⟩
                  omega
              · -- decide ((q : Int) < ((fxI h).length : Int)) is False
                have p4 := of_decide_eq_false b4
                refine k (gn rfl rfl rfl b4 (k (gn rfl rfl rfl b4 (k (pickF rfl rfl rfl rfl b4 rfl (z (nx (cdF rfl rfl rfl (ex (then_exit (loop_exit (inb_here (inb_normal (nx (rg (k (mv rfl s83 (k (add rfl rfl rfl rfl (by unfold I64 at *; omega) (k (asg (v := .int .i64 ((j : Int) + 1)) rfl rfl (z ?_))))))))))))))))))))))
                have H51 : HI M w w55 [box bb1 #[.slice a3 (fxV h).length c3, .slice a4 (fxI h).length c4, .slice a5 (fromM (fxI h)).length c5] 30, imm (.slice a5 (fromM (fxI h)).length c5) (fromM (fxI h)), imm (.slice a4 (fxI h).length c4) (fxI h), imm (.slice a3 (fxV h).length c3) (fxV h), box bb0 #[.slice a0 (fxV h).length c0, .slice a1 (fxI h).length c1, .slice a2 ([] : List Int).length c2] 30, imm (.slice a2 ([] : List Int).length c2) ([] : List Int), imm (.slice a1 (fxI h).length c1) (fxI h), imm (.slice a0 (fxV h).length c0) (fxV h), imm (.slice a_h h.length c_h) h] := H50.pickN [1, 2, 3, 4, 5, 6, 7, 8, 9] (by decide) rfl
                refine loopN _ ?_ ⟨(j + 1), rfl, s81, s82, (ieq rfl (by first | rfl | omega | (push_cast; omega))), H51, (by first | assumption | omega | simp | (simp; omega))⟩
                omega
    ·
      have p1 := of_decide_eq_false b1
      refine ex (then_exit (loop_exit (inb_here (nx (sq (rg (k ?_)))))))
      have cc3 := awake11 (w := w7)
      refine ca go21 rfl e0 cc3 ?_
      rintro _ w8 ⟨rfl, xt5⟩
      have H15 := H14.ext xt5
      refine k (asg (v := .bool true) rfl rfl (z (nx (rt (r1 rfl rfl ?_)))))
      exact ⟨rfl, H15.below⟩
end Go.Proofs.Ytmliihgaoaolmaa
