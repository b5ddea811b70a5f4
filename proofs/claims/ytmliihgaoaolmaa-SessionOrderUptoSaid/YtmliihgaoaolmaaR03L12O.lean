/- PRINTED by my own tool (wip/tool/gen.py): contracts of Go functions of this seat, each with its proof. -/
import Derived.Test.YtmliihgaoaolmaaR03L12T
import Derived.Test.YtmliihgaoaolmaaR03Ord
import Derived.Test.YtmliihgaoaolmaaR03Sess
import Derived.Test.YtmliihgaoaolmaaR03Mat
import Derived.Test.YtmliihgaoaolmaaR03Fns
import Derived.Test.YtmliihgaoaolmaaEngV
import Derived.Test.YtmliihgaoaolmaaEwSpecS
namespace Go.Proofs.Ytmliihgaoaolmaa
open Go.Ew Go.RowKit
set_option linter.unusedVariables false
set_option linter.unusedSimpArgs false
attribute [local irreducible] WL WC SO Code.wp wpList retQ Ret
attribute [local irreducible] bitB hasW inR hasR setR countW countR subR words newR listR orR firstW tab8
theorem go38 : GoF Try.prog 38 := ⟨_, _, Try.func38, rfl, by kernel_rfl⟩
theorem go39 : GoF Try.prog 39 := ⟨_, _, Try.func39, rfl, by kernel_rfl⟩
theorem go40 : GoF Try.prog 40 := ⟨_, _, Try.func40, rfl, by kernel_rfl⟩
theorem un61 : Try.prog.underlying 61 = some (.array 2 3) := by kernel_rfl
theorem go41 : GoF Try.prog 41 := ⟨_, _, Try.func41, rfl, by kernel_rfl⟩
/- eyewitness/eyewitnesslaw12.SessionOrder -/
set_option maxRecDepth 100000 in
set_option maxHeartbeats 1600000 in
theorem law_SessionOrder {M : Nat → Prop} {w : World} {a_h : Option Addr} {c_h : Nat} {h : List (List (Bool × ByteArray × Int))} (hM : ∀ b, M b → b < w.heap.size) (h_h : RV M w (.slice a_h h.length c_h) h) (hb_h : h.flatten.length ≤ 1048576) : Calls Try.prog 10 #[.slice a_h h.length c_h] w (Ret fun v w' =>  v = .bool true ∧ Ext w w') := by
  refine enter 138 Try.func10 rfl rfl rfl fun f0 ha => ?_
  have H := HI.start (M0 := M) (w := w) hM
  have H0 := H.put (it := imm (.slice a_h h.length c_h) h) rfl (by rw [MS_nil]; exact h_h)
  have ln_h := rv_len h_h
  have i0 : f0 0 = .slice a_h h.length c_h := ha 0 (by simp)
  refine sq (rg (k (asg (v := .bool false) rfl rfl (z (nx (sq (sq (rg (k (mv rfl i0 (k ?_)))))))))))
  have cc0 := ref06_Small (h := h) (m := 40) (w := w) H0.mb (H0.rv 0 rfl) (by unfold I64 at *; omega) (by first | assumption | decide +kernel)
  refine ca go12 rfl (ec rfl (ec rfl e0)) cc0 ?_
  rintro _ w0 ⟨rfl, xt0⟩
  have H1 := H0.ext xt0
  refine k (not_ rfl rfl (k (mv (v := .bool (!(smallH h 40))) rfl rfl ?_)))
  rcases Bool.eq_false_or_eq_true (!(smallH h 40)) with b0 | b0
  · -- !(smallH h 40) is True
    refine k (gn rfl rfl rfl b0 (k (gn rfl rfl rfl b0 (k (gn rfl rfl rfl b0 (k (pickT rfl rfl rfl rfl b0 rfl (z (nx (cdT rfl rfl rfl (sq (rg (k ?_)))))))))))))
    have cc1 := awake12 (w := w0)
    refine ca go30 rfl e0 cc1 ?_
    rintro _ w1 ⟨rfl, xt1⟩
    have H2 := H1.ext xt1
    refine k (asg (v := .bool true) rfl rfl (z (nx (rt (then_ret (r1 rfl rfl ?_))))))
    exact ⟨rfl, H2.below⟩
  · -- !(smallH h 40) is False
    refine k (gy rfl rfl rfl b0 (mv rfl i0 (k (gy rfl rfl rfl b0 ?_))))
    have cc1 := ref06_Right (h := h) (w := w0) H1.mb (H1.rv 0 rfl) (by first | assumption | decide +kernel)
    refine ca go13 rfl (ec rfl e0) cc1 ?_
    rintro _ w1 ⟨rfl, xt1⟩
    have H2 := H1.ext xt1
    refine k (gy rfl rfl rfl b0 (not_ rfl rfl (k (pickF rfl rfl rfl rfl b0 rfl (z (nx ?_))))))
    refine cd (b := !(rightH h)) rfl rfl (fun b1 => ?_) (fun b1 => ?_)
    ·
      refine sq (rg (k ?_))
      have cc2 := awake12 (w := w1)
      refine ca go30 rfl e0 cc2 ?_
      rintro _ w2 ⟨rfl, xt2⟩
      have H3 := H2.ext xt2
      refine k (asg (v := .bool true) rfl rfl (z (nx (rt (then_ret (r1 rfl rfl ?_))))))
      exact ⟨rfl, H3.below⟩
    ·
      refine sk (nx (sq (rg (k (mv rfl i0 (k ?_))))))
      have cc2 := ref09_Of (h := h) (w := w1) H2.mb (H2.rv 0 rfl) (by first | assumption | decide +kernel)
      refine ca go15 rfl (ec rfl e0) cc2 ?_
      rintro _ w2 ⟨a0, c0, a1, c1, a2, c2, rfl, xt2, rv0, rv1, rv2⟩
      have H3 := H2.ext xt2
      have H4 := H3.put (it := imm (.slice a0 (ofV h).length c0) (ofV h)) rfl rv0
      have H5 := H4.put (it := imm (.slice a1 (ofI h).length c1) (ofI h)) rfl (by rw [MS_cons_none rfl]; exact rv1)
      have H6 := H5.put (it := imm (.slice a2 ([] : List Int).length c2) ([] : List Int)) rfl (by rw [MS_cons_none rfl, MS_cons_none rfl]; exact rv2)
      refine k (mv (v := .tuple #[.agg #[.slice a0 (ofV h).length c0, .slice a1 (ofI h).length c1, .slice a2 ([] : List Int).length c2], .int .i64 (ofE h)]) rfl rfl (k (xt rfl rfl rfl (k (xt rfl rfl rfl (k (al H6 ty30 ?_)))))))
      intro bb0 w3 xt3 (H7 : HI M w w3 [box bb0 #[.slice none 0 0, .slice none 0 0, .slice none 0 0] 30, imm (.slice a2 ([] : List Int).length c2) ([] : List Int), imm (.slice a1 (ofI h).length c1) (ofI h), imm (.slice a0 (ofV h).length c0) (ofV h), imm (.slice a_h h.length c_h) h])
      refine k (stX H7 0 rfl ty30 rfl rfl rfl rfl rfl rfl rfl ?_)
      intro w4 (H8 : HI M w w4 [box bb0 #[.slice a0 (ofV h).length c0, .slice a1 (ofI h).length c1, .slice a2 ([] : List Int).length c2] 30, imm (.slice a2 ([] : List Int).length c2) ([] : List Int), imm (.slice a1 (ofI h).length c1) (ofI h), imm (.slice a0 (ofV h).length c0) (ofV h), imm (.slice a_h h.length c_h) h])
      refine k (asg (v := .int .i64 (ofE h)) rfl rfl (z (nx (sq ?_))))
      have sm_ : smallH h 40 = true := by simpa using ‹(!smallH h 40) = false›
      have rt_ : rightH h = true := by simpa using ‹(!rightH h) = false›
      have hl_ := sess_len sm_
      refine rg (k (ldX H8 0 rfl ty30 rfl rfl (by decide) rfl (k ?_)))
      have cc3 := session_Po (fi := (ofI h)) (a_fv := a0) (n_fv := (ofV h).length) (c_fv := c0) (a_fo := a2) (n_fo := ([] : List Int).length) (c_fo := c2) (w := w4) H8.mb (H8.rv 2 rfl) (by exact ofI_ord h) (by first | assumption | omega)
      refine ca go32 rfl (ec rfl e0) cc3 ?_
      rintro _ w5 ⟨a3, c3, rfl, xt4, rv3⟩
      have H9 := H8.ownsG rv3
      refine k (al H9 ty53 ?_)
      intro bb1 w6 xt5 (H10 : HI M w w6 [box bb1 #[.int .i64 0, .slice none 0 0] 53, own w.heap.size 79 (.slice a3 (poR (ofI h)).length c3) (poR (ofI h)), box bb0 #[.slice a0 (ofV h).length c0, .slice a1 (ofI h).length c1, .slice a2 ([] : List Int).length c2] 30, imm (.slice a2 ([] : List Int).length c2) ([] : List Int), imm (.slice a1 (ofI h).length c1) (ofI h), imm (.slice a0 (ofV h).length c0) (ofV h), imm (.slice a_h h.length c_h) h])
      refine k (stX H10 0 rfl ty53 rfl rfl rfl rfl rfl rfl rfl ?_)
      intro w7 (H11 : HI M w w7 [box bb1 #[.int .i64 ((ofI h).length : Int), .slice a3 (poR (ofI h)).length c3] 53, own w.heap.size 79 (.slice a3 (poR (ofI h)).length c3) (poR (ofI h)), box bb0 #[.slice a0 (ofV h).length c0, .slice a1 (ofI h).length c1, .slice a2 ([] : List Int).length c2] 30, imm (.slice a2 ([] : List Int).length c2) ([] : List Int), imm (.slice a1 (ofI h).length c1) (ofI h), imm (.slice a0 (ofV h).length c0) (ofV h), imm (.slice a_h h.length c_h) h])
      refine z (nx (sq (sq (rg (k (ldX H11 0 rfl ty53 rfl rfl (by decide) rfl (k ?_)))))))
      have H12 := H11.freeze 1 rfl
      have cc4 := ref03_Right (mn := ((ofI h).length : Int)) (mr := (poR (ofI h))) (w := w7) H12.mb (by unfold I64 at *; omega) (H12.rv 1 rfl)
      refine ca go38 rfl (ec rfl e0) cc4 ?_
      rintro _ w8 ⟨rfl, xt6⟩
      have H13 := H11.ext xt6
      refine k (not_ rfl rfl (k (mv (v := .bool (!(rightS ((ofI h).length : Int) (poR (ofI h))))) rfl rfl (k (gy rfl rfl rfl (by rw [show (rightS ((ofI h).length : Int) (poR (ofI h))) = true from (po_right (by omega))]; rfl) (fa fl53_0 rfl rfl (k (gy rfl rfl rfl (by rw [show (rightS ((ofI h).length : Int) (poR (ofI h))) = true from (po_right (by omega))]; rfl) (ldX H13 0 rfl ty3 rfl rfl (by decide) rfl (k (gy rfl rfl rfl (by rw [show (rightS ((ofI h).length : Int) (poR (ofI h))) = true from (po_right (by omega))]; rfl) (fa fl30_1 rfl rfl (k (gy rfl rfl rfl (by rw [show (rightS ((ofI h).length : Int) (poR (ofI h))) = true from (po_right (by omega))]; rfl) (ldX H13 2 rfl ty27 rfl rfl (by decide) rfl (k (gy rfl rfl rfl (by rw [show (rightS ((ofI h).length : Int) (poR (ofI h))) = true from (po_right (by omega))]; rfl) (lnS rfl rfl un27 (k (gy rfl rfl rfl (by rw [show (rightS ((ofI h).length : Int) (poR (ofI h))) = true from (po_right (by omega))]; rfl) (neq rfl rfl rfl rfl (k (pickF rfl rfl rfl rfl (by rw [show (rightS ((ofI h).length : Int) (poR (ofI h))) = true from (po_right (by omega))]; rfl) rfl (z (nx ?_)))))))))))))))))))))))))
      have tr0 : (decide (((ofI h).length : Int) = ((ofI h).length : Int))) = true := (by simp)
      refine cdF rfl rfl (by rw [show (decide (((ofI h).length : Int) = ((ofI h).length : Int))) = true from tr0]; rfl) (sk (nx (sq (rg (k (ldX H13 0 rfl ty53 rfl rfl (by decide) rfl (k ?_)))))))
      have H14 := H13.freeze 1 rfl
      have cc5 := ref04_Loop (mn := ((ofI h).length : Int)) (mr := (poR (ofI h))) (w := w8) H14.mb (by unfold I64 at *; omega) (H14.rv 1 rfl) (by unfold poR; rw [matP_len]) (by exact matP_small (by omega)) (by first | assumption | omega)
      refine ca go39 rfl (ec rfl e0) cc5 ?_
      rintro _ w9 ⟨rfl, xt7⟩
      have H15 := H13.ext xt7
      refine k (mv (v := .tuple #[.int .i64 (((loopF ((ofI h).length : Int) (poR (ofI h))).getD 0 : Nat) : Int), .bool ((loopF ((ofI h).length : Int) (poR (ofI h))).isSome)]) rfl rfl (k (xt rfl rfl rfl (k (xt rfl rfl rfl (k (asg (v := .int .i64 (((loopF ((ofI h).length : Int) (poR (ofI h))).getD 0 : Nat) : Int)) rfl rfl (k (asg (v := .bool ((loopF ((ofI h).length : Int) (poR (ofI h))).isSome)) rfl rfl (z (nx (sq (rg (k (asg (v := .int .i64 0) rfl rfl (z (nx (sq (sq (rg (k (asg (v := .int .i64 0) rfl rfl (z (nx (bk ?_)))))))))))))))))))))))))
      refine lp (fun m f w' => ∃ (j : Nat), m = h.length - j ∧ f 0 = .slice a_h h.length c_h ∧ f 3 = .pointer (some ⟨bb0, 0, none⟩) ∧ f 5 = .pointer (some ⟨bb1, 0, none⟩) ∧ f 7 = .bool ((loopF ((ofI h).length : Int) (poR (ofI h))).isSome) ∧ f 8 = .int .i64 (triTo h j) ∧ f 9 = .int .i64 (j : Int) ∧  HI M w w' [box bb1 #[.int .i64 ((ofI h).length : Int), .slice a3 (poR (ofI h)).length c3] 53, own w.heap.size 79 (.slice a3 (poR (ofI h)).length c3) (poR (ofI h)), box bb0 #[.slice a0 (ofV h).length c0, .slice a1 (ofI h).length c1, .slice a2 ([] : List Int).length c2] 30, imm (.slice a2 ([] : List Int).length c2) ([] : List Int), imm (.slice a1 (ofI h).length c1) (ofI h), imm (.slice a0 (ofV h).length c0) (ofV h), imm (.slice a_h h.length c_h) h] ∧ (j ≤ h.length)) _ ⟨0, rfl, i0, rfl, rfl, rfl, (ieq rfl (by first | rfl | omega)), (ieq rfl (by first | rfl | omega)), H15, (by first | assumption | omega | simp | (simp; omega))⟩ ?_
      rintro _ f0 w10 ⟨j, rfl, s0, s1, s2, s3, s4, s5, H16, hj_⟩
      refine sq (sq (rg (k (mv rfl s5 (k (mv rfl s0 (k (lnS rfl rfl un22 (k (lss rfl rfl rfl rfl (z (nx ?_))))))))))))
      refine cd (b := decide ((j : Int) < (h.length : Int))) rfl rfl (fun b2 => ?_) (fun b2 => ?_)
      ·
        have p2 := of_decide_eq_true b2
        refine sk (nx (sq (bk ?_)))
        obtain ⟨x0, hx0⟩ : ∃ x, h[(j : Int).toNat]? = some x := ⟨_, List.getElem?_eq_getElem (by first | omega | (simp; omega))⟩
        refine dr 14 [fun (v : Value) (w' : World) => v = .int .i64 (triTo h j), fun (v : Value) (w' : World) => v = .slice a_h h.length c_h, fun (v : Value) (w' : World) => v = .int .i64 (j : Int), fun (v : Value) (w' : World) => ∃ (ad0 : Addr), v = .pointer (some ad0) ∧ At (MS M [box bb1 #[.int .i64 ((ofI h).length : Int), .slice a3 (poR (ofI h)).length c3] 53, own w.heap.size 79 (.slice a3 (poR (ofI h)).length c3) (poR (ofI h)), box bb0 #[.slice a0 (ofV h).length c0, .slice a1 (ofI h).length c1, .slice a2 ([] : List Int).length c2] 30, imm (.slice a2 ([] : List Int).length c2) ([] : List Int), imm (.slice a1 (ofI h).length c1) (ofI h), imm (.slice a0 (ofV h).length c0) (ofV h), imm (.slice a_h h.length c_h) h]) w' ad0 x0, fun (v : Value) (w' : World) => ∃ (a4 : Option Addr) (c4 : Nat), v = .slice a4 x0.length c4 ∧ RV (MS M [box bb1 #[.int .i64 ((ofI h).length : Int), .slice a3 (poR (ofI h)).length c3] 53, own w.heap.size 79 (.slice a3 (poR (ofI h)).length c3) (poR (ofI h)), box bb0 #[.slice a0 (ofV h).length c0, .slice a1 (ofI h).length c1, .slice a2 ([] : List Int).length c2] 30, imm (.slice a2 ([] : List Int).length c2) ([] : List Int), imm (.slice a1 (ofI h).length c1) (ofI h), imm (.slice a0 (ofV h).length c0) (ofV h), imm (.slice a_h h.length c_h) h]) w' (.slice a4 x0.length c4) x0, fun (v : Value) (w' : World) => v = .int .i64 (x0.length : Int), fun (v : Value) (w' : World) => v = .slice a_h h.length c_h, fun (v : Value) (w' : World) => v = .int .i64 (j : Int), fun (v : Value) (w' : World) => ∃ (ad1 : Addr), v = .pointer (some ad1) ∧ At (MS M [box bb1 #[.int .i64 ((ofI h).length : Int), .slice a3 (poR (ofI h)).length c3] 53, own w.heap.size 79 (.slice a3 (poR (ofI h)).length c3) (poR (ofI h)), box bb0 #[.slice a0 (ofV h).length c0, .slice a1 (ofI h).length c1, .slice a2 ([] : List Int).length c2] 30, imm (.slice a2 ([] : List Int).length c2) ([] : List Int), imm (.slice a1 (ofI h).length c1) (ofI h), imm (.slice a0 (ofV h).length c0) (ofV h), imm (.slice a_h h.length c_h) h]) w' ad1 x0, fun (v : Value) (w' : World) => ∃ (a5 : Option Addr) (c5 : Nat), v = .slice a5 x0.length c5 ∧ RV (MS M [box bb1 #[.int .i64 ((ofI h).length : Int), .slice a3 (poR (ofI h)).length c3] 53, own w.heap.size 79 (.slice a3 (poR (ofI h)).length c3) (poR (ofI h)), box bb0 #[.slice a0 (ofV h).length c0, .slice a1 (ofI h).length c1, .slice a2 ([] : List Int).length c2] 30, imm (.slice a2 ([] : List Int).length c2) ([] : List Int), imm (.slice a1 (ofI h).length c1) (ofI h), imm (.slice a0 (ofV h).length c0) (ofV h), imm (.slice a_h h.length c_h) h]) w' (.slice a5 x0.length c5) x0, fun (v : Value) (w' : World) => v = .int .i64 (x0.length : Int), fun (v : Value) (w' : World) => v = .int .i64 ((x0.length : Int) - 1), fun (v : Value) (w' : World) => v = .int .i64 ((x0.length : Int) * ((x0.length : Int) - 1)), fun (v : Value) (w' : World) => v = .int .i64 (((x0.length : Int) * ((x0.length : Int) - 1)) / 2)] rfl (by kernel_rfl) ?_ ?_
        ·
          refine ⟨fun _ => ⟨fun f1 w11 hf0 xt8 hp0 => ?_, fun _ _ _ _ h => h⟩, ?_⟩
          ·
            have H19 := H16.ext xt8
            refine mv rfl ((hf0 8 rfl).trans s4) ?_
            exact ⟨_, rfl, Ext.refl _, rfl⟩
          refine ⟨fun _ => ⟨fun f2 w12 hf1 xt9 hp1 => ?_, fun _ _ _ _ h => h⟩, ?_⟩
          ·
            have H20 := H16.ext xt9
            refine mv rfl ((hf1 0 rfl).trans s0) ?_
            exact ⟨_, rfl, Ext.refl _, rfl⟩
          refine ⟨fun _ => ⟨fun f3 w13 hf2 xt10 hp2 => ?_, fun _ _ _ _ h => h⟩, ?_⟩
          ·
            have H21 := H16.ext xt10
            refine mv rfl ((hf2 9 rfl).trans s5) ?_
            exact ⟨_, rfl, Ext.refl _, rfl⟩
          refine ⟨fun _ => ⟨fun f4 w14 hf3 xt11 hp3 => ?_, by rintro _ _ _ x_ ⟨ad0, e_, hA0⟩; exact ⟨ad0, e_, hA0.lift (Up.ext x_)⟩⟩, ?_⟩
          ·
            have H22 := H16.ext xt11
            have s6 : f4 51 = .slice a_h h.length c_h := hp3 1 rfl rfl
            have s7 : f4 52 = .int .i64 (j : Int) := hp3 2 rfl rfl
            refine ia (H22.rv 6 rfl) rfl rfl s6 s7 (by first | omega | (simp; omega)) un22 ty58 ?_
            intro ad2 x2 hx2 hA2
            obtain rfl : x0 = x2 := Option.some.inj (hx0.symm.trans hx2)
            exact ⟨_, rfl, Ext.refl _, ⟨ad2, rfl, hA2⟩⟩
          refine ⟨fun _ => ⟨fun f5 w15 hf4 xt12 hp4 => ?_, by rintro _ _ _ x_ ⟨a4, c4, e_, rv4⟩; exact ⟨a4, c4, e_, rv4.lift (Up.ext x_)⟩⟩, ?_⟩
          ·
            have H23 := H16.ext xt12
            obtain ⟨ad3, s8, hA3⟩ : ∃ (ad3 : Addr), f5 53 = .pointer (some ad3) ∧ At (MS M [box bb1 #[.int .i64 ((ofI h).length : Int), .slice a3 (poR (ofI h)).length c3] 53, own w.heap.size 79 (.slice a3 (poR (ofI h)).length c3) (poR (ofI h)), box bb0 #[.slice a0 (ofV h).length c0, .slice a1 (ofI h).length c1, .slice a2 ([] : List Int).length c2] 30, imm (.slice a2 ([] : List Int).length c2) ([] : List Int), imm (.slice a1 (ofI h).length c1) (ofI h), imm (.slice a0 (ofV h).length c0) (ofV h), imm (.slice a_h h.length c_h) h]) w15 ad3 x0 := hp4 3 rfl rfl
            have H24 := H23.put (it := atI ad3 x0) rfl hA3
            refine ldL (H24.atv 0 rfl).w ty58 rfl s8 ?_
            intro a6 c6 rv6
            have ln2 := rv_len rv6
            have H25 := H24.put (it := imm (.slice a6 x0.length c6) x0) rfl rv6
            exact ⟨_, rfl, Ext.refl _, ⟨a6, c6, rfl, (rv_drop rfl rv6)⟩⟩
          refine ⟨fun _ => ⟨fun f6 w16 hf5 xt13 hp5 => ?_, fun _ _ _ _ h => h⟩, ?_⟩
          ·
            have H26 := H16.ext xt13
            obtain ⟨a7, c7, s9, rv7⟩ : ∃ (a7 : Option Addr) (c7 : Nat), f6 54 = .slice a7 x0.length c7 ∧ RV (MS M [box bb1 #[.int .i64 ((ofI h).length : Int), .slice a3 (poR (ofI h)).length c3] 53, own w.heap.size 79 (.slice a3 (poR (ofI h)).length c3) (poR (ofI h)), box bb0 #[.slice a0 (ofV h).length c0, .slice a1 (ofI h).length c1, .slice a2 ([] : List Int).length c2] 30, imm (.slice a2 ([] : List Int).length c2) ([] : List Int), imm (.slice a1 (ofI h).length c1) (ofI h), imm (.slice a0 (ofV h).length c0) (ofV h), imm (.slice a_h h.length c_h) h]) w16 (.slice a7 x0.length c7) x0 := hp5 4 rfl rfl
            have H27 := H26.put (it := imm (.slice a7 x0.length c7) x0) rfl rv7
            refine lnS rfl s9 un58 ?_
            exact ⟨_, rfl, Ext.refl _, rfl⟩
          refine ⟨fun _ => ⟨fun f7 w17 hf6 xt14 hp6 => ?_, fun _ _ _ _ h => h⟩, ?_⟩
          ·
            have H28 := H16.ext xt14
            refine mv rfl ((hf6 0 rfl).trans s0) ?_
            exact ⟨_, rfl, Ext.refl _, rfl⟩
          refine ⟨fun _ => ⟨fun f8 w18 hf7 xt15 hp7 => ?_, fun _ _ _ _ h => h⟩, ?_⟩
          ·
            have H29 := H16.ext xt15
            refine mv rfl ((hf7 9 rfl).trans s5) ?_
            exact ⟨_, rfl, Ext.refl _, rfl⟩
          refine ⟨fun _ => ⟨fun f9 w19 hf8 xt16 hp8 => ?_, by rintro _ _ _ x_ ⟨ad1, e_, hA1⟩; exact ⟨ad1, e_, hA1.lift (Up.ext x_)⟩⟩, ?_⟩
          ·
            have H30 := H16.ext xt16
            have s10 : f9 56 = .slice a_h h.length c_h := hp8 6 rfl rfl
            have s11 : f9 57 = .int .i64 (j : Int) := hp8 7 rfl rfl
            refine ia (H30.rv 6 rfl) rfl rfl s10 s11 (by first | omega | (simp; omega)) un22 ty58 ?_
            intro ad4 x3 hx3 hA4
            obtain rfl : x0 = x3 := Option.some.inj (hx0.symm.trans hx3)
            exact ⟨_, rfl, Ext.refl _, ⟨ad4, rfl, hA4⟩⟩
          refine ⟨fun _ => ⟨fun f10 w20 hf9 xt17 hp9 => ?_, by rintro _ _ _ x_ ⟨a5, c5, e_, rv5⟩; exact ⟨a5, c5, e_, rv5.lift (Up.ext x_)⟩⟩, ?_⟩
          ·
            have H31 := H16.ext xt17
            obtain ⟨ad5, s12, hA5⟩ : ∃ (ad5 : Addr), f10 58 = .pointer (some ad5) ∧ At (MS M [box bb1 #[.int .i64 ((ofI h).length : Int), .slice a3 (poR (ofI h)).length c3] 53, own w.heap.size 79 (.slice a3 (poR (ofI h)).length c3) (poR (ofI h)), box bb0 #[.slice a0 (ofV h).length c0, .slice a1 (ofI h).length c1, .slice a2 ([] : List Int).length c2] 30, imm (.slice a2 ([] : List Int).length c2) ([] : List Int), imm (.slice a1 (ofI h).length c1) (ofI h), imm (.slice a0 (ofV h).length c0) (ofV h), imm (.slice a_h h.length c_h) h]) w20 ad5 x0 := hp9 8 rfl rfl
            have H32 := H31.put (it := atI ad5 x0) rfl hA5
            refine ldL (H32.atv 0 rfl).w ty58 rfl s12 ?_
            intro a8 c8 rv8
            have ln3 := rv_len rv8
            have H33 := H32.put (it := imm (.slice a8 x0.length c8) x0) rfl rv8
            exact ⟨_, rfl, Ext.refl _, ⟨a8, c8, rfl, (rv_drop rfl rv8)⟩⟩
          refine ⟨fun _ => ⟨fun f11 w21 hf10 xt18 hp10 => ?_, fun _ _ _ _ h => h⟩, ?_⟩
          ·
            have H34 := H16.ext xt18
            obtain ⟨a9, c9, s13, rv9⟩ : ∃ (a9 : Option Addr) (c9 : Nat), f11 59 = .slice a9 x0.length c9 ∧ RV (MS M [box bb1 #[.int .i64 ((ofI h).length : Int), .slice a3 (poR (ofI h)).length c3] 53, own w.heap.size 79 (.slice a3 (poR (ofI h)).length c3) (poR (ofI h)), box bb0 #[.slice a0 (ofV h).length c0, .slice a1 (ofI h).length c1, .slice a2 ([] : List Int).length c2] 30, imm (.slice a2 ([] : List Int).length c2) ([] : List Int), imm (.slice a1 (ofI h).length c1) (ofI h), imm (.slice a0 (ofV h).length c0) (ofV h), imm (.slice a_h h.length c_h) h]) w21 (.slice a9 x0.length c9) x0 := hp10 9 rfl rfl
            have H35 := H34.put (it := imm (.slice a9 x0.length c9) x0) rfl rv9
            refine lnS rfl s13 un58 ?_
            exact ⟨_, rfl, Ext.refl _, rfl⟩
          refine ⟨fun _ => ⟨fun f12 w22 hf11 xt19 hp11 => ?_, fun _ _ _ _ h => h⟩, ?_⟩
          ·
            have H36 := H16.ext xt19
            have s14 : f12 60 = .int .i64 (x0.length : Int) := hp11 10 rfl rfl
            refine sub rfl rfl s14 rfl (by have l1_ := ses_lens sm_ _ (List.mem_of_getElem? hx0); have l2_ := tri_bound x0.length (by omega); have l3_ := tri_le (by have h_ := (small_iff.1 sm_).1; omega) (ses_lens sm_) j; have l4_ := (small_iff.1 sm_).1; (try (have e_ := at_is hx1 hx0; subst e_)); (try (have e_ := at_is hx2 hx0; subst e_)); (try (have e_ := at_is hx3 hx0; subst e_)); (try (have e_ := at_is hx4 hx0; subst e_)); (try (have e_ := at_is hx5 hx0; subst e_)); (try (have e_ := at_is hx6 hx0; subst e_)); unfold I64; omega) ?_
            exact ⟨_, rfl, Ext.refl _, rfl⟩
          refine ⟨fun _ => ⟨fun f13 w23 hf12 xt20 hp12 => ?_, fun _ _ _ _ h => h⟩, ?_⟩
          ·
            have H37 := H16.ext xt20
            have s15 : f13 55 = .int .i64 (x0.length : Int) := hp12 5 rfl rfl
            have s16 : f13 61 = .int .i64 ((x0.length : Int) - 1) := hp12 11 rfl rfl
            refine mul rfl rfl s15 s16 (by have l1_ := ses_lens sm_ _ (List.mem_of_getElem? hx0); have l2_ := tri_bound x0.length (by omega); have l3_ := tri_le (by have h_ := (small_iff.1 sm_).1; omega) (ses_lens sm_) j; have l4_ := (small_iff.1 sm_).1; (try (have e_ := at_is hx1 hx0; subst e_)); (try (have e_ := at_is hx2 hx0; subst e_)); (try (have e_ := at_is hx3 hx0; subst e_)); (try (have e_ := at_is hx4 hx0; subst e_)); (try (have e_ := at_is hx5 hx0; subst e_)); (try (have e_ := at_is hx6 hx0; subst e_)); unfold I64; omega) ?_
            exact ⟨_, rfl, Ext.refl _, rfl⟩
          refine ⟨fun _ => ⟨fun f14 w24 hf13 xt21 hp13 => ?_, fun _ _ _ _ h => h⟩, ?_⟩
          ·
            have H38 := H16.ext xt21
            have s17 : f14 62 = .int .i64 ((x0.length : Int) * ((x0.length : Int) - 1)) := hp13 12 rfl rfl
            refine quo rfl rfl s17 rfl (by have l1_ := ses_lens sm_ _ (List.mem_of_getElem? hx0); have l2_ := tri_bound x0.length (by omega); have l3_ := tri_le (by have h_ := (small_iff.1 sm_).1; omega) (ses_lens sm_) j; have l4_ := (small_iff.1 sm_).1; (try (have e_ := at_is hx1 hx0; subst e_)); (try (have e_ := at_is hx2 hx0; subst e_)); (try (have e_ := at_is hx3 hx0; subst e_)); (try (have e_ := at_is hx4 hx0; subst e_)); (try (have e_ := at_is hx5 hx0; subst e_)); (try (have e_ := at_is hx6 hx0; subst e_)); omega) ?_
            exact ⟨_, rfl, Ext.refl _, rfl⟩
          exact DSteps.rest rfl _
        · intro f15 w25 hf14 xt22 hp14
          have H39 := H16.ext xt22
          have s18 : f15 0 = .slice a_h h.length c_h := (hf14 0 rfl).trans s0
          have s19 : f15 3 = .pointer (some ⟨bb0, 0, none⟩) := (hf14 3 rfl).trans s1
          have s20 : f15 5 = .pointer (some ⟨bb1, 0, none⟩) := (hf14 5 rfl).trans s2
          have s21 : f15 7 = .bool ((loopF ((ofI h).length : Int) (poR (ofI h))).isSome) := (hf14 7 rfl).trans s3
          have s22 : f15 9 = .int .i64 (j : Int) := (hf14 9 rfl).trans s5
          have s23 : f15 50 = .int .i64 (triTo h j) := hp14 0 rfl
          have s24 : f15 63 = .int .i64 (((x0.length : Int) * ((x0.length : Int) - 1)) / 2) := hp14 13 rfl
          refine k (add rfl rfl s23 s24 (by have l1_ := ses_lens sm_ _ (List.mem_of_getElem? hx0); have l2_ := tri_bound x0.length (by omega); have l3_ := tri_le (by have h_ := (small_iff.1 sm_).1; omega) (ses_lens sm_) j; have l4_ := (small_iff.1 sm_).1; (try (have e_ := at_is hx1 hx0; subst e_)); (try (have e_ := at_is hx2 hx0; subst e_)); (try (have e_ := at_is hx3 hx0; subst e_)); (try (have e_ := at_is hx4 hx0; subst e_)); (try (have e_ := at_is hx5 hx0; subst e_)); (try (have e_ := at_is hx6 hx0; subst e_)); unfold I64; omega) (k (asg (v := .int .i64 ((triTo h j) + (((x0.length : Int) * ((x0.length : Int) - 1)) / 2))) rfl rfl (z (inb_normal (nx (rg (k (mv rfl s22 (k (add rfl rfl rfl rfl (by unfold I64 at *; omega) (k (asg (v := .int .i64 ((j : Int) + 1)) rfl rfl (z ?_))))))))))))))
          refine loopN _ ?_ ⟨(j + 1), rfl, s18, s19, s20, s21, (ieq rfl (by first | omega | ((try (have e_ := at_is hx1 hx0; subst e_)); (try (have e_ := at_is hx2 hx0; subst e_)); (try (have e_ := at_is hx3 hx0; subst e_)); (try (have e_ := at_is hx4 hx0; subst e_)); (try (have e_ := at_is hx5 hx0; subst e_)); (try (have e_ := at_is hx6 hx0; subst e_)); rw [triTo_step hx0]; unfold tri; first | rfl | omega))), (ieq rfl (by first | omega | ((try (have e_ := at_is hx1 hx0; subst e_)); (try (have e_ := at_is hx2 hx0; subst e_)); (try (have e_ := at_is hx3 hx0; subst e_)); (try (have e_ := at_is hx4 hx0; subst e_)); (try (have e_ := at_is hx5 hx0; subst e_)); (try (have e_ := at_is hx6 hx0; subst e_)); rw [triTo_step hx0]; unfold tri; first | rfl | omega))), H39, (by first | assumption | omega | simp | (simp; omega))⟩
          omega
      ·
        have p2 := of_decide_eq_false b2
        refine ex (then_exit (loop_exit (inb_here (nx (sq (rg (k (ldX H16 0 rfl ty53 rfl s2 (by decide) rfl (k ?_)))))))))
        have H17 := H16.freeze 1 rfl
        have cc6 := ref03_Pairs (mn := ((ofI h).length : Int)) (mr := (poR (ofI h))) (w := w10) H17.mb (by unfold I64 at *; omega) (H17.rv 1 rfl) (by unfold poR; rw [matP_len]) (by exact matP_small (by omega)) (by first | assumption | omega) (by exact matP_64 (by omega))
        refine ca go40 rfl (ec rfl e0) cc6 ?_
        rintro _ w11 ⟨a4, c4, rfl, xt8, rv4⟩
        have H18 := H17.ext xt8
        have H19 := H18.put (it := imm (.slice a4 (pairsM ((ofI h).length : Int) (poR (ofI h))).length c4) (pairsM ((ofI h).length : Int) (poR (ofI h)))) rfl rv4
        refine k (asg (v := .slice a4 (pairsM ((ofI h).length : Int) (poR (ofI h))).length c4) rfl rfl (z (nx (sq (sq (rg (k (asg (v := .int .i64 0) rfl rfl (z (nx (bk ?_)))))))))))
        refine lp (fun m f w' => ∃ (q : Nat), m = (pairsM (((ofI h).length : Nat) : Int) (poR (ofI h))).length - q ∧ f 3 = .pointer (some ⟨bb0, 0, none⟩) ∧ f 5 = .pointer (some ⟨bb1, 0, none⟩) ∧ f 7 = .bool ((loopF ((ofI h).length : Int) (poR (ofI h))).isSome) ∧ f 8 = .int .i64 (triTo h j) ∧ f 10 = .slice a4 (pairsM ((ofI h).length : Int) (poR (ofI h))).length c4 ∧ f 11 = .int .i64 (q : Int) ∧  HI M w w' [imm (.slice a4 (pairsM ((ofI h).length : Int) (poR (ofI h))).length c4) (pairsM ((ofI h).length : Int) (poR (ofI h))), box bb1 #[.int .i64 ((ofI h).length : Int), .slice a3 (poR (ofI h)).length c3] 53, imm (.slice a3 (poR (ofI h)).length c3) (poR (ofI h)), box bb0 #[.slice a0 (ofV h).length c0, .slice a1 (ofI h).length c1, .slice a2 ([] : List Int).length c2] 30, imm (.slice a2 ([] : List Int).length c2) ([] : List Int), imm (.slice a1 (ofI h).length c1) (ofI h), imm (.slice a0 (ofV h).length c0) (ofV h), imm (.slice a_h h.length c_h) h] ∧ (q ≤ (pairsM (((ofI h).length : Nat) : Int) (poR (ofI h))).length)) _ ⟨0, rfl, s1, s2, s3, s4, rfl, (ieq rfl (by first | rfl | omega | simp)), H19, (by first | assumption | omega | simp | (simp; omega))⟩ ?_
        rintro _ f1 w12 ⟨q, rfl, s6, s7, s8, s9, s10, s11, H20, hq_⟩
        refine sq (sq (rg (k (mv rfl s11 (k (mv rfl s10 (k (lnS rfl rfl un59 (k (lss rfl rfl rfl rfl (z (nx ?_))))))))))))
        refine cd (b := decide ((q : Int) < ((pairsM ((ofI h).length : Int) (poR (ofI h))).length : Int))) rfl rfl (fun b3 => ?_) (fun b3 => ?_)
        ·
          have p3 := of_decide_eq_true b3
          refine sk (nx (sq (bk (sq ?_))))
          obtain ⟨x0, hx0⟩ : ∃ x, (pairsM ((ofI h).length : Int) (poR (ofI h)))[(q : Int).toNat]? = some x := ⟨_, List.getElem?_eq_getElem (by first | omega | (simp; omega))⟩
          obtain ⟨x5, hx5⟩ : ∃ x, (ofI h)[x0.1.toNat]? = some x := ⟨_, List.getElem?_eq_getElem (by obtain ⟨a1_, a2_, a3_, a4_, a5_, a6_, a7_⟩ := po_pair hx0; omega)⟩
          obtain ⟨x7, hx7⟩ : ∃ x, (ofI h)[x0.2.toNat]? = some x := ⟨_, List.getElem?_eq_getElem (by obtain ⟨a1_, a2_, a3_, a4_, a5_, a6_, a7_⟩ := po_pair hx0; omega)⟩
          refine dr 48 [fun (v : Value) (w' : World) => v = .agg #[.slice a0 (ofV h).length c0, .slice a1 (ofI h).length c1, .slice a2 ([] : List Int).length c2], fun (v : Value) (w' : World) => v = .slice a4 (pairsM ((ofI h).length : Int) (poR (ofI h))).length c4, fun (v : Value) (w' : World) => v = .int .i64 (q : Int), fun (v : Value) (w' : World) => ∃ (ad0 : Addr), v = .pointer (some ad0) ∧ At (MS M [imm (.slice a4 (pairsM ((ofI h).length : Int) (poR (ofI h))).length c4) (pairsM ((ofI h).length : Int) (poR (ofI h))), box bb1 #[.int .i64 ((ofI h).length : Int), .slice a3 (poR (ofI h)).length c3] 53, imm (.slice a3 (poR (ofI h)).length c3) (poR (ofI h)), box bb0 #[.slice a0 (ofV h).length c0, .slice a1 (ofI h).length c1, .slice a2 ([] : List Int).length c2] 30, imm (.slice a2 ([] : List Int).length c2) ([] : List Int), imm (.slice a1 (ofI h).length c1) (ofI h), imm (.slice a0 (ofV h).length c0) (ofV h), imm (.slice a_h h.length c_h) h]) w' ad0 x0, fun (v : Value) (w' : World) => ∃ (ad0 : Addr), v = .pointer (some ((ad0).add 0)) ∧ At (MS M [imm (.slice a4 (pairsM ((ofI h).length : Int) (poR (ofI h))).length c4) (pairsM ((ofI h).length : Int) (poR (ofI h))), box bb1 #[.int .i64 ((ofI h).length : Int), .slice a3 (poR (ofI h)).length c3] 53, imm (.slice a3 (poR (ofI h)).length c3) (poR (ofI h)), box bb0 #[.slice a0 (ofV h).length c0, .slice a1 (ofI h).length c1, .slice a2 ([] : List Int).length c2] 30, imm (.slice a2 ([] : List Int).length c2) ([] : List Int), imm (.slice a1 (ofI h).length c1) (ofI h), imm (.slice a0 (ofV h).length c0) (ofV h), imm (.slice a_h h.length c_h) h]) w' ad0 x0, fun (v : Value) (w' : World) => v = .int .i64 x0.1 ∧ I64 (x0.1), fun (v : Value) (w' : World) => v = .slice a4 (pairsM ((ofI h).length : Int) (poR (ofI h))).length c4, fun (v : Value) (w' : World) => v = .int .i64 (q : Int), fun (v : Value) (w' : World) => ∃ (ad1 : Addr), v = .pointer (some ad1) ∧ At (MS M [imm (.slice a4 (pairsM ((ofI h).length : Int) (poR (ofI h))).length c4) (pairsM ((ofI h).length : Int) (poR (ofI h))), box bb1 #[.int .i64 ((ofI h).length : Int), .slice a3 (poR (ofI h)).length c3] 53, imm (.slice a3 (poR (ofI h)).length c3) (poR (ofI h)), box bb0 #[.slice a0 (ofV h).length c0, .slice a1 (ofI h).length c1, .slice a2 ([] : List Int).length c2] 30, imm (.slice a2 ([] : List Int).length c2) ([] : List Int), imm (.slice a1 (ofI h).length c1) (ofI h), imm (.slice a0 (ofV h).length c0) (ofV h), imm (.slice a_h h.length c_h) h]) w' ad1 x0, fun (v : Value) (w' : World) => ∃ (ad1 : Addr), v = .pointer (some ((ad1).add 1)) ∧ At (MS M [imm (.slice a4 (pairsM ((ofI h).length : Int) (poR (ofI h))).length c4) (pairsM ((ofI h).length : Int) (poR (ofI h))), box bb1 #[.int .i64 ((ofI h).length : Int), .slice a3 (poR (ofI h)).length c3] 53, imm (.slice a3 (poR (ofI h)).length c3) (poR (ofI h)), box bb0 #[.slice a0 (ofV h).length c0, .slice a1 (ofI h).length c1, .slice a2 ([] : List Int).length c2] 30, imm (.slice a2 ([] : List Int).length c2) ([] : List Int), imm (.slice a1 (ofI h).length c1) (ofI h), imm (.slice a0 (ofV h).length c0) (ofV h), imm (.slice a_h h.length c_h) h]) w' ad1 x0, fun (v : Value) (w' : World) => v = .int .i64 x0.2 ∧ I64 (x0.2), fun (v : Value) (w' : World) => v = .bool (ahA (ofI h) x0.1 x0.2), fun (v : Value) (w' : World) => v = .bool (!(ahA (ofI h) x0.1 x0.2)), fun (v : Value) (w' : World) => v = .bool (!(ahA (ofI h) x0.1 x0.2)), fun (v : Value) (w' : World) => v = .agg #[.slice a0 (ofV h).length c0, .slice a1 (ofI h).length c1, .slice a2 ([] : List Int).length c2], fun (v : Value) (w' : World) => v = .slice a4 (pairsM ((ofI h).length : Int) (poR (ofI h))).length c4, fun (v : Value) (w' : World) => v = .int .i64 (q : Int), fun (v : Value) (w' : World) => ∃ (ad2 : Addr), v = .pointer (some ad2) ∧ At (MS M [imm (.slice a4 (pairsM ((ofI h).length : Int) (poR (ofI h))).length c4) (pairsM ((ofI h).length : Int) (poR (ofI h))), box bb1 #[.int .i64 ((ofI h).length : Int), .slice a3 (poR (ofI h)).length c3] 53, imm (.slice a3 (poR (ofI h)).length c3) (poR (ofI h)), box bb0 #[.slice a0 (ofV h).length c0, .slice a1 (ofI h).length c1, .slice a2 ([] : List Int).length c2] 30, imm (.slice a2 ([] : List Int).length c2) ([] : List Int), imm (.slice a1 (ofI h).length c1) (ofI h), imm (.slice a0 (ofV h).length c0) (ofV h), imm (.slice a_h h.length c_h) h]) w' ad2 x0, fun (v : Value) (w' : World) => ∃ (ad2 : Addr), v = .pointer (some ((ad2).add 1)) ∧ At (MS M [imm (.slice a4 (pairsM ((ofI h).length : Int) (poR (ofI h))).length c4) (pairsM ((ofI h).length : Int) (poR (ofI h))), box bb1 #[.int .i64 ((ofI h).length : Int), .slice a3 (poR (ofI h)).length c3] 53, imm (.slice a3 (poR (ofI h)).length c3) (poR (ofI h)), box bb0 #[.slice a0 (ofV h).length c0, .slice a1 (ofI h).length c1, .slice a2 ([] : List Int).length c2] 30, imm (.slice a2 ([] : List Int).length c2) ([] : List Int), imm (.slice a1 (ofI h).length c1) (ofI h), imm (.slice a0 (ofV h).length c0) (ofV h), imm (.slice a_h h.length c_h) h]) w' ad2 x0, fun (v : Value) (w' : World) => v = .int .i64 x0.2 ∧ I64 (x0.2), fun (v : Value) (w' : World) => v = .slice a4 (pairsM ((ofI h).length : Int) (poR (ofI h))).length c4, fun (v : Value) (w' : World) => v = .int .i64 (q : Int), fun (v : Value) (w' : World) => ∃ (ad3 : Addr), v = .pointer (some ad3) ∧ At (MS M [imm (.slice a4 (pairsM ((ofI h).length : Int) (poR (ofI h))).length c4) (pairsM ((ofI h).length : Int) (poR (ofI h))), box bb1 #[.int .i64 ((ofI h).length : Int), .slice a3 (poR (ofI h)).length c3] 53, imm (.slice a3 (poR (ofI h)).length c3) (poR (ofI h)), box bb0 #[.slice a0 (ofV h).length c0, .slice a1 (ofI h).length c1, .slice a2 ([] : List Int).length c2] 30, imm (.slice a2 ([] : List Int).length c2) ([] : List Int), imm (.slice a1 (ofI h).length c1) (ofI h), imm (.slice a0 (ofV h).length c0) (ofV h), imm (.slice a_h h.length c_h) h]) w' ad3 x0, fun (v : Value) (w' : World) => ∃ (ad3 : Addr), v = .pointer (some ((ad3).add 0)) ∧ At (MS M [imm (.slice a4 (pairsM ((ofI h).length : Int) (poR (ofI h))).length c4) (pairsM ((ofI h).length : Int) (poR (ofI h))), box bb1 #[.int .i64 ((ofI h).length : Int), .slice a3 (poR (ofI h)).length c3] 53, imm (.slice a3 (poR (ofI h)).length c3) (poR (ofI h)), box bb0 #[.slice a0 (ofV h).length c0, .slice a1 (ofI h).length c1, .slice a2 ([] : List Int).length c2] 30, imm (.slice a2 ([] : List Int).length c2) ([] : List Int), imm (.slice a1 (ofI h).length c1) (ofI h), imm (.slice a0 (ofV h).length c0) (ofV h), imm (.slice a_h h.length c_h) h]) w' ad3 x0, fun (v : Value) (w' : World) => v = .int .i64 x0.1 ∧ I64 (x0.1), fun (v : Value) (w' : World) => v = .bool (ahA (ofI h) x0.2 x0.1), fun (v : Value) (w' : World) => v = .bool (ahA (ofI h) x0.2 x0.1), fun (v : Value) (w' : World) => v = .bool (ahA (ofI h) x0.2 x0.1), fun (v : Value) (w' : World) => v = .pointer (some ⟨bb0, 1, none⟩), fun (v : Value) (w' : World) => v = .slice a1 (ofI h).length c1, fun (v : Value) (w' : World) => v = .slice a4 (pairsM ((ofI h).length : Int) (poR (ofI h))).length c4, fun (v : Value) (w' : World) => v = .int .i64 (q : Int), fun (v : Value) (w' : World) => ∃ (ad4 : Addr), v = .pointer (some ad4) ∧ At (MS M [imm (.slice a4 (pairsM ((ofI h).length : Int) (poR (ofI h))).length c4) (pairsM ((ofI h).length : Int) (poR (ofI h))), box bb1 #[.int .i64 ((ofI h).length : Int), .slice a3 (poR (ofI h)).length c3] 53, imm (.slice a3 (poR (ofI h)).length c3) (poR (ofI h)), box bb0 #[.slice a0 (ofV h).length c0, .slice a1 (ofI h).length c1, .slice a2 ([] : List Int).length c2] 30, imm (.slice a2 ([] : List Int).length c2) ([] : List Int), imm (.slice a1 (ofI h).length c1) (ofI h), imm (.slice a0 (ofV h).length c0) (ofV h), imm (.slice a_h h.length c_h) h]) w' ad4 x0, fun (v : Value) (w' : World) => ∃ (ad4 : Addr), v = .pointer (some ((ad4).add 0)) ∧ At (MS M [imm (.slice a4 (pairsM ((ofI h).length : Int) (poR (ofI h))).length c4) (pairsM ((ofI h).length : Int) (poR (ofI h))), box bb1 #[.int .i64 ((ofI h).length : Int), .slice a3 (poR (ofI h)).length c3] 53, imm (.slice a3 (poR (ofI h)).length c3) (poR (ofI h)), box bb0 #[.slice a0 (ofV h).length c0, .slice a1 (ofI h).length c1, .slice a2 ([] : List Int).length c2] 30, imm (.slice a2 ([] : List Int).length c2) ([] : List Int), imm (.slice a1 (ofI h).length c1) (ofI h), imm (.slice a0 (ofV h).length c0) (ofV h), imm (.slice a_h h.length c_h) h]) w' ad4 x0, fun (v : Value) (w' : World) => v = .int .i64 x0.1 ∧ I64 (x0.1), fun (v : Value) (w' : World) => ∃ (ad5 : Addr), v = .pointer (some ad5) ∧ At (MS M [imm (.slice a4 (pairsM ((ofI h).length : Int) (poR (ofI h))).length c4) (pairsM ((ofI h).length : Int) (poR (ofI h))), box bb1 #[.int .i64 ((ofI h).length : Int), .slice a3 (poR (ofI h)).length c3] 53, imm (.slice a3 (poR (ofI h)).length c3) (poR (ofI h)), box bb0 #[.slice a0 (ofV h).length c0, .slice a1 (ofI h).length c1, .slice a2 ([] : List Int).length c2] 30, imm (.slice a2 ([] : List Int).length c2) ([] : List Int), imm (.slice a1 (ofI h).length c1) (ofI h), imm (.slice a0 (ofV h).length c0) (ofV h), imm (.slice a_h h.length c_h) h]) w' ad5 x5, fun (v : Value) (w' : World) => ∃ (ad5 : Addr), v = .pointer (some ((ad5).add 0)) ∧ At (MS M [imm (.slice a4 (pairsM ((ofI h).length : Int) (poR (ofI h))).length c4) (pairsM ((ofI h).length : Int) (poR (ofI h))), box bb1 #[.int .i64 ((ofI h).length : Int), .slice a3 (poR (ofI h)).length c3] 53, imm (.slice a3 (poR (ofI h)).length c3) (poR (ofI h)), box bb0 #[.slice a0 (ofV h).length c0, .slice a1 (ofI h).length c1, .slice a2 ([] : List Int).length c2] 30, imm (.slice a2 ([] : List Int).length c2) ([] : List Int), imm (.slice a1 (ofI h).length c1) (ofI h), imm (.slice a0 (ofV h).length c0) (ofV h), imm (.slice a_h h.length c_h) h]) w' ad5 x5, fun (v : Value) (w' : World) => v = .int .i64 x5.1 ∧ I64 (x5.1), fun (v : Value) (w' : World) => v = .pointer (some ⟨bb0, 1, none⟩), fun (v : Value) (w' : World) => v = .slice a1 (ofI h).length c1, fun (v : Value) (w' : World) => v = .slice a4 (pairsM ((ofI h).length : Int) (poR (ofI h))).length c4, fun (v : Value) (w' : World) => v = .int .i64 (q : Int), fun (v : Value) (w' : World) => ∃ (ad6 : Addr), v = .pointer (some ad6) ∧ At (MS M [imm (.slice a4 (pairsM ((ofI h).length : Int) (poR (ofI h))).length c4) (pairsM ((ofI h).length : Int) (poR (ofI h))), box bb1 #[.int .i64 ((ofI h).length : Int), .slice a3 (poR (ofI h)).length c3] 53, imm (.slice a3 (poR (ofI h)).length c3) (poR (ofI h)), box bb0 #[.slice a0 (ofV h).length c0, .slice a1 (ofI h).length c1, .slice a2 ([] : List Int).length c2] 30, imm (.slice a2 ([] : List Int).length c2) ([] : List Int), imm (.slice a1 (ofI h).length c1) (ofI h), imm (.slice a0 (ofV h).length c0) (ofV h), imm (.slice a_h h.length c_h) h]) w' ad6 x0, fun (v : Value) (w' : World) => ∃ (ad6 : Addr), v = .pointer (some ((ad6).add 1)) ∧ At (MS M [imm (.slice a4 (pairsM ((ofI h).length : Int) (poR (ofI h))).length c4) (pairsM ((ofI h).length : Int) (poR (ofI h))), box bb1 #[.int .i64 ((ofI h).length : Int), .slice a3 (poR (ofI h)).length c3] 53, imm (.slice a3 (poR (ofI h)).length c3) (poR (ofI h)), box bb0 #[.slice a0 (ofV h).length c0, .slice a1 (ofI h).length c1, .slice a2 ([] : List Int).length c2] 30, imm (.slice a2 ([] : List Int).length c2) ([] : List Int), imm (.slice a1 (ofI h).length c1) (ofI h), imm (.slice a0 (ofV h).length c0) (ofV h), imm (.slice a_h h.length c_h) h]) w' ad6 x0, fun (v : Value) (w' : World) => v = .int .i64 x0.2 ∧ I64 (x0.2), fun (v : Value) (w' : World) => ∃ (ad7 : Addr), v = .pointer (some ad7) ∧ At (MS M [imm (.slice a4 (pairsM ((ofI h).length : Int) (poR (ofI h))).length c4) (pairsM ((ofI h).length : Int) (poR (ofI h))), box bb1 #[.int .i64 ((ofI h).length : Int), .slice a3 (poR (ofI h)).length c3] 53, imm (.slice a3 (poR (ofI h)).length c3) (poR (ofI h)), box bb0 #[.slice a0 (ofV h).length c0, .slice a1 (ofI h).length c1, .slice a2 ([] : List Int).length c2] 30, imm (.slice a2 ([] : List Int).length c2) ([] : List Int), imm (.slice a1 (ofI h).length c1) (ofI h), imm (.slice a0 (ofV h).length c0) (ofV h), imm (.slice a_h h.length c_h) h]) w' ad7 x7, fun (v : Value) (w' : World) => ∃ (ad7 : Addr), v = .pointer (some ((ad7).add 0)) ∧ At (MS M [imm (.slice a4 (pairsM ((ofI h).length : Int) (poR (ofI h))).length c4) (pairsM ((ofI h).length : Int) (poR (ofI h))), box bb1 #[.int .i64 ((ofI h).length : Int), .slice a3 (poR (ofI h)).length c3] 53, imm (.slice a3 (poR (ofI h)).length c3) (poR (ofI h)), box bb0 #[.slice a0 (ofV h).length c0, .slice a1 (ofI h).length c1, .slice a2 ([] : List Int).length c2] 30, imm (.slice a2 ([] : List Int).length c2) ([] : List Int), imm (.slice a1 (ofI h).length c1) (ofI h), imm (.slice a0 (ofV h).length c0) (ofV h), imm (.slice a_h h.length c_h) h]) w' ad7 x7, fun (v : Value) (w' : World) => v = .int .i64 x7.1 ∧ I64 (x7.1)] rfl (by kernel_rfl) ?_ ?_
          ·
            refine ⟨fun _ => ⟨fun f2 w15 hf0 xt11 hp0 => ?_, fun _ _ _ _ h => h⟩, ?_⟩
            ·
              have H23 := H20.ext xt11
              refine ldX H23 3 rfl ty30 rfl ((hf0 3 rfl).trans s6) (by decide) rfl ?_
              exact ⟨_, rfl, Ext.refl _, rfl⟩
            refine ⟨fun _ => ⟨fun f3 w16 hf1 xt12 hp1 => ?_, fun _ _ _ _ h => h⟩, ?_⟩
            ·
              have H24 := H20.ext xt12
              refine mv rfl ((hf1 10 rfl).trans s10) ?_
              exact ⟨_, rfl, Ext.refl _, rfl⟩
            refine ⟨fun _ => ⟨fun f4 w17 hf2 xt13 hp2 => ?_, fun _ _ _ _ h => h⟩, ?_⟩
            ·
              have H25 := H20.ext xt13
              refine mv rfl ((hf2 11 rfl).trans s11) ?_
              exact ⟨_, rfl, Ext.refl _, rfl⟩
            refine ⟨fun _ => ⟨fun f5 w18 hf3 xt14 hp3 => ?_, by rintro _ _ _ x_ ⟨ad0, e_, hA0⟩; exact ⟨ad0, e_, hA0.lift (Up.ext x_)⟩⟩, ?_⟩
            ·
              have H26 := H20.ext xt14
              have s12 : f5 74 = .slice a4 (pairsM ((ofI h).length : Int) (poR (ofI h))).length c4 := hp3 1 rfl rfl
              have s13 : f5 75 = .int .i64 (q : Int) := hp3 2 rfl rfl
              refine ia (H26.rv 0 rfl) rfl rfl s12 s13 (by first | omega | (simp; omega)) un59 ty61 ?_
              intro ad8 x8 hx8 hA8
              obtain rfl : x0 = x8 := Option.some.inj (hx0.symm.trans hx8)
              exact ⟨_, rfl, Ext.refl _, ⟨ad8, rfl, hA8⟩⟩
            refine ⟨fun _ => ⟨fun f6 w19 hf4 xt15 hp4 => ?_, by rintro _ _ _ x_ ⟨ad0, e_, hA0⟩; exact ⟨ad0, e_, hA0.lift (Up.ext x_)⟩⟩, ?_⟩
            ·
              have H27 := H20.ext xt15
              obtain ⟨ad9, s14, hA9⟩ : ∃ (ad9 : Addr), f6 76 = .pointer (some ad9) ∧ At (MS M [imm (.slice a4 (pairsM ((ofI h).length : Int) (poR (ofI h))).length c4) (pairsM ((ofI h).length : Int) (poR (ofI h))), box bb1 #[.int .i64 ((ofI h).length : Int), .slice a3 (poR (ofI h)).length c3] 53, imm (.slice a3 (poR (ofI h)).length c3) (poR (ofI h)), box bb0 #[.slice a0 (ofV h).length c0, .slice a1 (ofI h).length c1, .slice a2 ([] : List Int).length c2] 30, imm (.slice a2 ([] : List Int).length c2) ([] : List Int), imm (.slice a1 (ofI h).length c1) (ofI h), imm (.slice a0 (ofV h).length c0) (ofV h), imm (.slice a_h h.length c_h) h]) w19 ad9 x0 := hp4 3 rfl rfl
              have H28 := H27.put (it := atI ad9 x0) rfl hA9
              refine iaA rfl rfl s14 rfl (by omega) un61 ty3 ?_
              exact ⟨_, rfl, Ext.refl _, ⟨ad9, rfl, (by assumption)⟩⟩
            refine ⟨fun _ => ⟨fun f7 w20 hf5 xt16 hp5 => ?_, fun _ _ _ _ h => h⟩, ?_⟩
            ·
              have H29 := H20.ext xt16
              obtain ⟨ad10, s15, hA10⟩ : ∃ (ad10 : Addr), f7 77 = .pointer (some ((ad10).add 0)) ∧ At (MS M [imm (.slice a4 (pairsM ((ofI h).length : Int) (poR (ofI h))).length c4) (pairsM ((ofI h).length : Int) (poR (ofI h))), box bb1 #[.int .i64 ((ofI h).length : Int), .slice a3 (poR (ofI h)).length c3] 53, imm (.slice a3 (poR (ofI h)).length c3) (poR (ofI h)), box bb0 #[.slice a0 (ofV h).length c0, .slice a1 (ofI h).length c1, .slice a2 ([] : List Int).length c2] 30, imm (.slice a2 ([] : List Int).length c2) ([] : List Int), imm (.slice a1 (ofI h).length c1) (ofI h), imm (.slice a0 (ofV h).length c0) (ofV h), imm (.slice a_h h.length c_h) h]) w20 ad10 x0 := hp5 4 rfl rfl
              have H30 := H29.put (it := atI ad10 x0) rfl hA10
              refine ldI ((H30.atv 0 rfl)).fst.w ty3 rfl s15 ?_
              intro rv13
              exact ⟨_, rfl, Ext.refl _, ⟨rfl, rv13⟩⟩
            refine ⟨fun _ => ⟨fun f8 w21 hf6 xt17 hp6 => ?_, fun _ _ _ _ h => h⟩, ?_⟩
            ·
              have H31 := H20.ext xt17
              refine mv rfl ((hf6 10 rfl).trans s10) ?_
              exact ⟨_, rfl, Ext.refl _, rfl⟩
            refine ⟨fun _ => ⟨fun f9 w22 hf7 xt18 hp7 => ?_, fun _ _ _ _ h => h⟩, ?_⟩
            ·
              have H32 := H20.ext xt18
              refine mv rfl ((hf7 11 rfl).trans s11) ?_
              exact ⟨_, rfl, Ext.refl _, rfl⟩
            refine ⟨fun _ => ⟨fun f10 w23 hf8 xt19 hp8 => ?_, by rintro _ _ _ x_ ⟨ad1, e_, hA1⟩; exact ⟨ad1, e_, hA1.lift (Up.ext x_)⟩⟩, ?_⟩
            ·
              have H33 := H20.ext xt19
              have s16 : f10 79 = .slice a4 (pairsM ((ofI h).length : Int) (poR (ofI h))).length c4 := hp8 6 rfl rfl
              have s17 : f10 80 = .int .i64 (q : Int) := hp8 7 rfl rfl
              refine ia (H33.rv 0 rfl) rfl rfl s16 s17 (by first | omega | (simp; omega)) un59 ty61 ?_
              intro ad11 x9 hx9 hA11
              obtain rfl : x0 = x9 := Option.some.inj (hx0.symm.trans hx9)
              exact ⟨_, rfl, Ext.refl _, ⟨ad11, rfl, hA11⟩⟩
            refine ⟨fun _ => ⟨fun f11 w24 hf9 xt20 hp9 => ?_, by rintro _ _ _ x_ ⟨ad1, e_, hA1⟩; exact ⟨ad1, e_, hA1.lift (Up.ext x_)⟩⟩, ?_⟩
            ·
              have H34 := H20.ext xt20
              obtain ⟨ad12, s18, hA12⟩ : ∃ (ad12 : Addr), f11 81 = .pointer (some ad12) ∧ At (MS M [imm (.slice a4 (pairsM ((ofI h).length : Int) (poR (ofI h))).length c4) (pairsM ((ofI h).length : Int) (poR (ofI h))), box bb1 #[.int .i64 ((ofI h).length : Int), .slice a3 (poR (ofI h)).length c3] 53, imm (.slice a3 (poR (ofI h)).length c3) (poR (ofI h)), box bb0 #[.slice a0 (ofV h).length c0, .slice a1 (ofI h).length c1, .slice a2 ([] : List Int).length c2] 30, imm (.slice a2 ([] : List Int).length c2) ([] : List Int), imm (.slice a1 (ofI h).length c1) (ofI h), imm (.slice a0 (ofV h).length c0) (ofV h), imm (.slice a_h h.length c_h) h]) w24 ad12 x0 := hp9 8 rfl rfl
              have H35 := H34.put (it := atI ad12 x0) rfl hA12
              refine iaA rfl rfl s18 rfl (by omega) un61 ty3 ?_
              exact ⟨_, rfl, Ext.refl _, ⟨ad12, rfl, (by assumption)⟩⟩
            refine ⟨fun _ => ⟨fun f12 w25 hf10 xt21 hp10 => ?_, fun _ _ _ _ h => h⟩, ?_⟩
            ·
              have H36 := H20.ext xt21
              obtain ⟨ad13, s19, hA13⟩ : ∃ (ad13 : Addr), f12 82 = .pointer (some ((ad13).add 1)) ∧ At (MS M [imm (.slice a4 (pairsM ((ofI h).length : Int) (poR (ofI h))).length c4) (pairsM ((ofI h).length : Int) (poR (ofI h))), box bb1 #[.int .i64 ((ofI h).length : Int), .slice a3 (poR (ofI h)).length c3] 53, imm (.slice a3 (poR (ofI h)).length c3) (poR (ofI h)), box bb0 #[.slice a0 (ofV h).length c0, .slice a1 (ofI h).length c1, .slice a2 ([] : List Int).length c2] 30, imm (.slice a2 ([] : List Int).length c2) ([] : List Int), imm (.slice a1 (ofI h).length c1) (ofI h), imm (.slice a0 (ofV h).length c0) (ofV h), imm (.slice a_h h.length c_h) h]) w25 ad13 x0 := hp10 9 rfl rfl
              have H37 := H36.put (it := atI ad13 x0) rfl hA13
              refine ldI ((H37.atv 0 rfl)).snd.w ty3 rfl s19 ?_
              intro rv14
              exact ⟨_, rfl, Ext.refl _, ⟨rfl, rv14⟩⟩
            refine ⟨fun _ => ⟨fun f13 w26 hf11 xt22 hp11 => ?_, fun _ _ _ _ h => h⟩, ?_⟩
            ·
              have H38 := H20.ext xt22
              have s20 : f13 73 = .agg #[.slice a0 (ofV h).length c0, .slice a1 (ofI h).length c1, .slice a2 ([] : List Int).length c2] := hp11 0 rfl rfl
              obtain ⟨s21, rv15⟩ : f13 78 = .int .i64 x0.1 ∧ I64 (x0.1) := hp11 5 rfl rfl
              obtain ⟨s22, rv16⟩ : f13 83 = .int .i64 x0.2 ∧ I64 (x0.2) := hp11 10 rfl rfl
              have cc9 := session_Ahead (fi := (ofI h)) (i := x0.1) (j := x0.2) (a_fv := a0) (n_fv := (ofV h).length) (c_fv := c0) (a_fo := a2) (n_fo := ([] : List Int).length) (c_fo := c2) (w := w26) H38.mb (H38.rv 5 rfl) (by unfold I64 at *; omega) (by unfold I64 at *; omega)
              refine ca go34 rfl (ec s20 (ec s21 (ec s22 e0))) cc9 ?_
              rintro _ w27 ⟨rfl, xt23⟩
              have H39 := H38.ext xt23
              exact ⟨_, rfl, xt23, rfl⟩
            refine ⟨fun _ => ⟨fun f14 w28 hf12 xt24 hp12 => ?_, fun _ _ _ _ h => h⟩, ?_⟩
            ·
              have H40 := H20.ext xt24
              have s23 : f14 84 = .bool (ahA (ofI h) x0.1 x0.2) := hp12 11 rfl rfl
              refine not_ rfl s23 ?_
              exact ⟨_, rfl, Ext.refl _, rfl⟩
            refine ⟨fun _ => ⟨fun f15 w29 hf13 xt25 hp13 => ?_, fun _ _ _ _ h => h⟩, ?_⟩
            ·
              have H41 := H20.ext xt25
              have s24 : f15 85 = .bool (!(ahA (ofI h) x0.1 x0.2)) := hp13 12 rfl rfl
              refine mv rfl s24 ?_
              exact ⟨_, rfl, Ext.refl _, rfl⟩
            refine ⟨fun _ => ⟨fun f16 w30 hf14 xt26 hp14 => ?_, fun _ _ _ _ h => h⟩, ?_⟩
            ·
              have H42 := H20.ext xt26
              have s25 : f16 86 = .bool (!(ahA (ofI h) x0.1 x0.2)) := hp14 13 rfl rfl
              refine gy rfl rfl s25 (by rw [show (ahA (ofI h) x0.1 x0.2) = true from (po_pair hx0).1]; rfl) (ldX H42 3 rfl ty30 rfl ((hf14 3 rfl).trans s6) (by decide) rfl ?_)
              exact ⟨_, rfl, Ext.refl _, rfl⟩
            refine ⟨fun _ => ⟨fun f17 w31 hf15 xt27 hp15 => ?_, fun _ _ _ _ h => h⟩, ?_⟩
            ·
              have H43 := H20.ext xt27
              have s26 : f17 86 = .bool (!(ahA (ofI h) x0.1 x0.2)) := hp15 13 rfl rfl
              refine gy rfl rfl s26 (by rw [show (ahA (ofI h) x0.1 x0.2) = true from (po_pair hx0).1]; rfl) (mv rfl ((hf15 10 rfl).trans s10) ?_)
              exact ⟨_, rfl, Ext.refl _, rfl⟩
            refine ⟨fun _ => ⟨fun f18 w32 hf16 xt28 hp16 => ?_, fun _ _ _ _ h => h⟩, ?_⟩
            ·
              have H44 := H20.ext xt28
              have s27 : f18 86 = .bool (!(ahA (ofI h) x0.1 x0.2)) := hp16 13 rfl rfl
              refine gy rfl rfl s27 (by rw [show (ahA (ofI h) x0.1 x0.2) = true from (po_pair hx0).1]; rfl) (mv rfl ((hf16 11 rfl).trans s11) ?_)
              exact ⟨_, rfl, Ext.refl _, rfl⟩
            refine ⟨fun _ => ⟨fun f19 w33 hf17 xt29 hp17 => ?_, by rintro _ _ _ x_ ⟨ad2, e_, hA2⟩; exact ⟨ad2, e_, hA2.lift (Up.ext x_)⟩⟩, ?_⟩
            ·
              have H45 := H20.ext xt29
              have s28 : f19 86 = .bool (!(ahA (ofI h) x0.1 x0.2)) := hp17 13 rfl rfl
              have s29 : f19 88 = .slice a4 (pairsM ((ofI h).length : Int) (poR (ofI h))).length c4 := hp17 15 rfl rfl
              have s30 : f19 89 = .int .i64 (q : Int) := hp17 16 rfl rfl
              refine gy rfl rfl s28 (by rw [show (ahA (ofI h) x0.1 x0.2) = true from (po_pair hx0).1]; rfl) (ia (H45.rv 0 rfl) rfl rfl s29 s30 (by first | omega | (simp; omega)) un59 ty61 ?_)
              intro ad14 x10 hx10 hA14
              obtain rfl : x0 = x10 := Option.some.inj (hx0.symm.trans hx10)
              exact ⟨_, rfl, Ext.refl _, ⟨ad14, rfl, hA14⟩⟩
            refine ⟨fun _ => ⟨fun f20 w34 hf18 xt30 hp18 => ?_, by rintro _ _ _ x_ ⟨ad2, e_, hA2⟩; exact ⟨ad2, e_, hA2.lift (Up.ext x_)⟩⟩, ?_⟩
            ·
              have H46 := H20.ext xt30
              have s31 : f20 86 = .bool (!(ahA (ofI h) x0.1 x0.2)) := hp18 13 rfl rfl
              obtain ⟨ad15, s32, hA15⟩ : ∃ (ad15 : Addr), f20 90 = .pointer (some ad15) ∧ At (MS M [imm (.slice a4 (pairsM ((ofI h).length : Int) (poR (ofI h))).length c4) (pairsM ((ofI h).length : Int) (poR (ofI h))), box bb1 #[.int .i64 ((ofI h).length : Int), .slice a3 (poR (ofI h)).length c3] 53, imm (.slice a3 (poR (ofI h)).length c3) (poR (ofI h)), box bb0 #[.slice a0 (ofV h).length c0, .slice a1 (ofI h).length c1, .slice a2 ([] : List Int).length c2] 30, imm (.slice a2 ([] : List Int).length c2) ([] : List Int), imm (.slice a1 (ofI h).length c1) (ofI h), imm (.slice a0 (ofV h).length c0) (ofV h), imm (.slice a_h h.length c_h) h]) w34 ad15 x0 := hp18 17 rfl rfl
              have H47 := H46.put (it := atI ad15 x0) rfl hA15
              refine gy rfl rfl s31 (by rw [show (ahA (ofI h) x0.1 x0.2) = true from (po_pair hx0).1]; rfl) (iaA rfl rfl s32 rfl (by omega) un61 ty3 ?_)
              exact ⟨_, rfl, Ext.refl _, ⟨ad15, rfl, (by assumption)⟩⟩
            refine ⟨fun _ => ⟨fun f21 w35 hf19 xt31 hp19 => ?_, fun _ _ _ _ h => h⟩, ?_⟩
            ·
              have H48 := H20.ext xt31
              have s33 : f21 86 = .bool (!(ahA (ofI h) x0.1 x0.2)) := hp19 13 rfl rfl
              obtain ⟨ad16, s34, hA16⟩ : ∃ (ad16 : Addr), f21 91 = .pointer (some ((ad16).add 1)) ∧ At (MS M [imm (.slice a4 (pairsM ((ofI h).length : Int) (poR (ofI h))).length c4) (pairsM ((ofI h).length : Int) (poR (ofI h))), box bb1 #[.int .i64 ((ofI h).length : Int), .slice a3 (poR (ofI h)).length c3] 53, imm (.slice a3 (poR (ofI h)).length c3) (poR (ofI h)), box bb0 #[.slice a0 (ofV h).length c0, .slice a1 (ofI h).length c1, .slice a2 ([] : List Int).length c2] 30, imm (.slice a2 ([] : List Int).length c2) ([] : List Int), imm (.slice a1 (ofI h).length c1) (ofI h), imm (.slice a0 (ofV h).length c0) (ofV h), imm (.slice a_h h.length c_h) h]) w35 ad16 x0 := hp19 18 rfl rfl
              have H49 := H48.put (it := atI ad16 x0) rfl hA16
              refine gy rfl rfl s33 (by rw [show (ahA (ofI h) x0.1 x0.2) = true from (po_pair hx0).1]; rfl) (ldI ((H49.atv 0 rfl)).snd.w ty3 rfl s34 ?_)
              intro rv17
              exact ⟨_, rfl, Ext.refl _, ⟨rfl, rv17⟩⟩
            refine ⟨fun _ => ⟨fun f22 w36 hf20 xt32 hp20 => ?_, fun _ _ _ _ h => h⟩, ?_⟩
            ·
              have H50 := H20.ext xt32
              have s35 : f22 86 = .bool (!(ahA (ofI h) x0.1 x0.2)) := hp20 13 rfl rfl
              refine gy rfl rfl s35 (by rw [show (ahA (ofI h) x0.1 x0.2) = true from (po_pair hx0).1]; rfl) (mv rfl ((hf20 10 rfl).trans s10) ?_)
              exact ⟨_, rfl, Ext.refl _, rfl⟩
            refine ⟨fun _ => ⟨fun f23 w37 hf21 xt33 hp21 => ?_, fun _ _ _ _ h => h⟩, ?_⟩
            ·
              have H51 := H20.ext xt33
              have s36 : f23 86 = .bool (!(ahA (ofI h) x0.1 x0.2)) := hp21 13 rfl rfl
              refine gy rfl rfl s36 (by rw [show (ahA (ofI h) x0.1 x0.2) = true from (po_pair hx0).1]; rfl) (mv rfl ((hf21 11 rfl).trans s11) ?_)
              exact ⟨_, rfl, Ext.refl _, rfl⟩
            refine ⟨fun _ => ⟨fun f24 w38 hf22 xt34 hp22 => ?_, by rintro _ _ _ x_ ⟨ad3, e_, hA3⟩; exact ⟨ad3, e_, hA3.lift (Up.ext x_)⟩⟩, ?_⟩
            ·
              have H52 := H20.ext xt34
              have s37 : f24 86 = .bool (!(ahA (ofI h) x0.1 x0.2)) := hp22 13 rfl rfl
              have s38 : f24 93 = .slice a4 (pairsM ((ofI h).length : Int) (poR (ofI h))).length c4 := hp22 20 rfl rfl
              have s39 : f24 94 = .int .i64 (q : Int) := hp22 21 rfl rfl
              refine gy rfl rfl s37 (by rw [show (ahA (ofI h) x0.1 x0.2) = true from (po_pair hx0).1]; rfl) (ia (H52.rv 0 rfl) rfl rfl s38 s39 (by first | omega | (simp; omega)) un59 ty61 ?_)
              intro ad17 x11 hx11 hA17
              obtain rfl : x0 = x11 := Option.some.inj (hx0.symm.trans hx11)
              exact ⟨_, rfl, Ext.refl _, ⟨ad17, rfl, hA17⟩⟩
            refine ⟨fun _ => ⟨fun f25 w39 hf23 xt35 hp23 => ?_, by rintro _ _ _ x_ ⟨ad3, e_, hA3⟩; exact ⟨ad3, e_, hA3.lift (Up.ext x_)⟩⟩, ?_⟩
            ·
              have H53 := H20.ext xt35
              have s40 : f25 86 = .bool (!(ahA (ofI h) x0.1 x0.2)) := hp23 13 rfl rfl
              obtain ⟨ad18, s41, hA18⟩ : ∃ (ad18 : Addr), f25 95 = .pointer (some ad18) ∧ At (MS M [imm (.slice a4 (pairsM ((ofI h).length : Int) (poR (ofI h))).length c4) (pairsM ((ofI h).length : Int) (poR (ofI h))), box bb1 #[.int .i64 ((ofI h).length : Int), .slice a3 (poR (ofI h)).length c3] 53, imm (.slice a3 (poR (ofI h)).length c3) (poR (ofI h)), box bb0 #[.slice a0 (ofV h).length c0, .slice a1 (ofI h).length c1, .slice a2 ([] : List Int).length c2] 30, imm (.slice a2 ([] : List Int).length c2) ([] : List Int), imm (.slice a1 (ofI h).length c1) (ofI h), imm (.slice a0 (ofV h).length c0) (ofV h), imm (.slice a_h h.length c_h) h]) w39 ad18 x0 := hp23 22 rfl rfl
              have H54 := H53.put (it := atI ad18 x0) rfl hA18
              refine gy rfl rfl s40 (by rw [show (ahA (ofI h) x0.1 x0.2) = true from (po_pair hx0).1]; rfl) (iaA rfl rfl s41 rfl (by omega) un61 ty3 ?_)
              exact ⟨_, rfl, Ext.refl _, ⟨ad18, rfl, (by assumption)⟩⟩
            refine ⟨fun _ => ⟨fun f26 w40 hf24 xt36 hp24 => ?_, fun _ _ _ _ h => h⟩, ?_⟩
            ·
              have H55 := H20.ext xt36
              have s42 : f26 86 = .bool (!(ahA (ofI h) x0.1 x0.2)) := hp24 13 rfl rfl
              obtain ⟨ad19, s43, hA19⟩ : ∃ (ad19 : Addr), f26 96 = .pointer (some ((ad19).add 0)) ∧ At (MS M [imm (.slice a4 (pairsM ((ofI h).length : Int) (poR (ofI h))).length c4) (pairsM ((ofI h).length : Int) (poR (ofI h))), box bb1 #[.int .i64 ((ofI h).length : Int), .slice a3 (poR (ofI h)).length c3] 53, imm (.slice a3 (poR (ofI h)).length c3) (poR (ofI h)), box bb0 #[.slice a0 (ofV h).length c0, .slice a1 (ofI h).length c1, .slice a2 ([] : List Int).length c2] 30, imm (.slice a2 ([] : List Int).length c2) ([] : List Int), imm (.slice a1 (ofI h).length c1) (ofI h), imm (.slice a0 (ofV h).length c0) (ofV h), imm (.slice a_h h.length c_h) h]) w40 ad19 x0 := hp24 23 rfl rfl
              have H56 := H55.put (it := atI ad19 x0) rfl hA19
              refine gy rfl rfl s42 (by rw [show (ahA (ofI h) x0.1 x0.2) = true from (po_pair hx0).1]; rfl) (ldI ((H56.atv 0 rfl)).fst.w ty3 rfl s43 ?_)
              intro rv18
              exact ⟨_, rfl, Ext.refl _, ⟨rfl, rv18⟩⟩
            refine ⟨fun _ => ⟨fun f27 w41 hf25 xt37 hp25 => ?_, fun _ _ _ _ h => h⟩, ?_⟩
            ·
              have H57 := H20.ext xt37
              have s44 : f27 86 = .bool (!(ahA (ofI h) x0.1 x0.2)) := hp25 13 rfl rfl
              have s45 : f27 87 = .agg #[.slice a0 (ofV h).length c0, .slice a1 (ofI h).length c1, .slice a2 ([] : List Int).length c2] := hp25 14 rfl rfl
              obtain ⟨s46, rv19⟩ : f27 92 = .int .i64 x0.2 ∧ I64 (x0.2) := hp25 19 rfl rfl
              obtain ⟨s47, rv20⟩ : f27 97 = .int .i64 x0.1 ∧ I64 (x0.1) := hp25 24 rfl rfl
              refine gy rfl rfl s44 (by rw [show (ahA (ofI h) x0.1 x0.2) = true from (po_pair hx0).1]; rfl) ?_
              have cc10 := session_Ahead (fi := (ofI h)) (i := x0.2) (j := x0.1) (a_fv := a0) (n_fv := (ofV h).length) (c_fv := c0) (a_fo := a2) (n_fo := ([] : List Int).length) (c_fo := c2) (w := w41) H57.mb (H57.rv 5 rfl) (by unfold I64 at *; omega) (by unfold I64 at *; omega)
              refine ca go34 rfl (ec s45 (ec s46 (ec s47 e0))) cc10 ?_
              rintro _ w42 ⟨rfl, xt38⟩
              have H58 := H57.ext xt38
              exact ⟨_, rfl, xt38, rfl⟩
            refine ⟨fun _ => ⟨fun f28 w43 hf26 xt39 hp26 => ?_, fun _ _ _ _ h => h⟩, ?_⟩
            ·
              have H59 := H20.ext xt39
              have s48 : f28 86 = .bool (!(ahA (ofI h) x0.1 x0.2)) := hp26 13 rfl rfl
              have s49 : f28 98 = .bool (ahA (ofI h) x0.2 x0.1) := hp26 25 rfl rfl
              refine pickF rfl rfl rfl s48 (by rw [show (ahA (ofI h) x0.1 x0.2) = true from (po_pair hx0).1]; rfl) s49 ?_
              exact ⟨_, rfl, Ext.refl _, rfl⟩
            refine ⟨fun _ => ⟨fun f29 w44 hf27 xt40 hp27 => ?_, fun _ _ _ _ h => h⟩, ?_⟩
            ·
              have H60 := H20.ext xt40
              have s50 : f29 99 = .bool (ahA (ofI h) x0.2 x0.1) := hp27 26 rfl rfl
              refine mv rfl s50 ?_
              exact ⟨_, rfl, Ext.refl _, rfl⟩
            refine ⟨fun _ => ⟨fun f30 w45 hf28 xt41 hp28 => ?_, fun _ _ _ _ h => h⟩, ?_⟩
            ·
              have H61 := H20.ext xt41
              have s51 : f30 100 = .bool (ahA (ofI h) x0.2 x0.1) := hp28 27 rfl rfl
              refine gy rfl rfl s51 (po_pair hx0).2.1 (fa fl30_1 rfl ((hf28 3 rfl).trans s6) ?_)
              exact ⟨_, rfl, Ext.refl _, rfl⟩
            refine ⟨fun _ => ⟨fun f31 w46 hf29 xt42 hp29 => ?_, fun _ _ _ _ h => h⟩, ?_⟩
            ·
              have H62 := H20.ext xt42
              have s52 : f31 100 = .bool (ahA (ofI h) x0.2 x0.1) := hp29 27 rfl rfl
              have s53 : f31 101 = .pointer (some ⟨bb0, 1, none⟩) := hp29 28 rfl rfl
              refine gy rfl rfl s52 (po_pair hx0).2.1 (ldX H62 3 rfl ty27 rfl s53 (by decide) rfl ?_)
              exact ⟨_, rfl, Ext.refl _, rfl⟩
            refine ⟨fun _ => ⟨fun f32 w47 hf30 xt43 hp30 => ?_, fun _ _ _ _ h => h⟩, ?_⟩
            ·
              have H63 := H20.ext xt43
              have s54 : f32 100 = .bool (ahA (ofI h) x0.2 x0.1) := hp30 27 rfl rfl
              refine gy rfl rfl s54 (po_pair hx0).2.1 (mv rfl ((hf30 10 rfl).trans s10) ?_)
              exact ⟨_, rfl, Ext.refl _, rfl⟩
            refine ⟨fun _ => ⟨fun f33 w48 hf31 xt44 hp31 => ?_, fun _ _ _ _ h => h⟩, ?_⟩
            ·
              have H64 := H20.ext xt44
              have s55 : f33 100 = .bool (ahA (ofI h) x0.2 x0.1) := hp31 27 rfl rfl
              refine gy rfl rfl s55 (po_pair hx0).2.1 (mv rfl ((hf31 11 rfl).trans s11) ?_)
              exact ⟨_, rfl, Ext.refl _, rfl⟩
            refine ⟨fun _ => ⟨fun f34 w49 hf32 xt45 hp32 => ?_, by rintro _ _ _ x_ ⟨ad4, e_, hA4⟩; exact ⟨ad4, e_, hA4.lift (Up.ext x_)⟩⟩, ?_⟩
            ·
              have H65 := H20.ext xt45
              have s56 : f34 100 = .bool (ahA (ofI h) x0.2 x0.1) := hp32 27 rfl rfl
              have s57 : f34 103 = .slice a4 (pairsM ((ofI h).length : Int) (poR (ofI h))).length c4 := hp32 30 rfl rfl
              have s58 : f34 104 = .int .i64 (q : Int) := hp32 31 rfl rfl
              refine gy rfl rfl s56 (po_pair hx0).2.1 (ia (H65.rv 0 rfl) rfl rfl s57 s58 (by first | omega | (simp; omega)) un59 ty61 ?_)
              intro ad20 x12 hx12 hA20
              obtain rfl : x0 = x12 := Option.some.inj (hx0.symm.trans hx12)
              exact ⟨_, rfl, Ext.refl _, ⟨ad20, rfl, hA20⟩⟩
            refine ⟨fun _ => ⟨fun f35 w50 hf33 xt46 hp33 => ?_, by rintro _ _ _ x_ ⟨ad4, e_, hA4⟩; exact ⟨ad4, e_, hA4.lift (Up.ext x_)⟩⟩, ?_⟩
            ·
              have H66 := H20.ext xt46
              have s59 : f35 100 = .bool (ahA (ofI h) x0.2 x0.1) := hp33 27 rfl rfl
              obtain ⟨ad21, s60, hA21⟩ : ∃ (ad21 : Addr), f35 105 = .pointer (some ad21) ∧ At (MS M [imm (.slice a4 (pairsM ((ofI h).length : Int) (poR (ofI h))).length c4) (pairsM ((ofI h).length : Int) (poR (ofI h))), box bb1 #[.int .i64 ((ofI h).length : Int), .slice a3 (poR (ofI h)).length c3] 53, imm (.slice a3 (poR (ofI h)).length c3) (poR (ofI h)), box bb0 #[.slice a0 (ofV h).length c0, .slice a1 (ofI h).length c1, .slice a2 ([] : List Int).length c2] 30, imm (.slice a2 ([] : List Int).length c2) ([] : List Int), imm (.slice a1 (ofI h).length c1) (ofI h), imm (.slice a0 (ofV h).length c0) (ofV h), imm (.slice a_h h.length c_h) h]) w50 ad21 x0 := hp33 32 rfl rfl
              have H67 := H66.put (it := atI ad21 x0) rfl hA21
              refine gy rfl rfl s59 (po_pair hx0).2.1 (iaA rfl rfl s60 rfl (by omega) un61 ty3 ?_)
              exact ⟨_, rfl, Ext.refl _, ⟨ad21, rfl, (by assumption)⟩⟩
            refine ⟨fun _ => ⟨fun f36 w51 hf34 xt47 hp34 => ?_, fun _ _ _ _ h => h⟩, ?_⟩
            ·
              have H68 := H20.ext xt47
              have s61 : f36 100 = .bool (ahA (ofI h) x0.2 x0.1) := hp34 27 rfl rfl
              obtain ⟨ad22, s62, hA22⟩ : ∃ (ad22 : Addr), f36 106 = .pointer (some ((ad22).add 0)) ∧ At (MS M [imm (.slice a4 (pairsM ((ofI h).length : Int) (poR (ofI h))).length c4) (pairsM ((ofI h).length : Int) (poR (ofI h))), box bb1 #[.int .i64 ((ofI h).length : Int), .slice a3 (poR (ofI h)).length c3] 53, imm (.slice a3 (poR (ofI h)).length c3) (poR (ofI h)), box bb0 #[.slice a0 (ofV h).length c0, .slice a1 (ofI h).length c1, .slice a2 ([] : List Int).length c2] 30, imm (.slice a2 ([] : List Int).length c2) ([] : List Int), imm (.slice a1 (ofI h).length c1) (ofI h), imm (.slice a0 (ofV h).length c0) (ofV h), imm (.slice a_h h.length c_h) h]) w51 ad22 x0 := hp34 33 rfl rfl
              have H69 := H68.put (it := atI ad22 x0) rfl hA22
              refine gy rfl rfl s61 (po_pair hx0).2.1 (ldI ((H69.atv 0 rfl)).fst.w ty3 rfl s62 ?_)
              intro rv21
              exact ⟨_, rfl, Ext.refl _, ⟨rfl, rv21⟩⟩
            refine ⟨fun _ => ⟨fun f37 w52 hf35 xt48 hp35 => ?_, by rintro _ _ _ x_ ⟨ad5, e_, hA5⟩; exact ⟨ad5, e_, hA5.lift (Up.ext x_)⟩⟩, ?_⟩
            ·
              have H70 := H20.ext xt48
              have s63 : f37 100 = .bool (ahA (ofI h) x0.2 x0.1) := hp35 27 rfl rfl
              have s64 : f37 102 = .slice a1 (ofI h).length c1 := hp35 29 rfl rfl
              obtain ⟨s65, rv22⟩ : f37 107 = .int .i64 x0.1 ∧ I64 (x0.1) := hp35 34 rfl rfl
              refine gy rfl rfl s63 (po_pair hx0).2.1 (ia (H70.rv 5 rfl) rfl rfl s64 s65 (by obtain ⟨a1_, a2_, a3_, a4_, a5_, a6_, a7_⟩ := po_pair hx0; omega) un27 ty40 ?_)
              intro ad23 x13 hx13 hA23
              obtain rfl : x5 = x13 := Option.some.inj (hx5.symm.trans hx13)
              exact ⟨_, rfl, Ext.refl _, ⟨ad23, rfl, hA23⟩⟩
            refine ⟨fun _ => ⟨fun f38 w53 hf36 xt49 hp36 => ?_, by rintro _ _ _ x_ ⟨ad5, e_, hA5⟩; exact ⟨ad5, e_, hA5.lift (Up.ext x_)⟩⟩, ?_⟩
            ·
              have H71 := H20.ext xt49
              have s66 : f38 100 = .bool (ahA (ofI h) x0.2 x0.1) := hp36 27 rfl rfl
              obtain ⟨ad24, s67, hA24⟩ : ∃ (ad24 : Addr), f38 108 = .pointer (some ad24) ∧ At (MS M [imm (.slice a4 (pairsM ((ofI h).length : Int) (poR (ofI h))).length c4) (pairsM ((ofI h).length : Int) (poR (ofI h))), box bb1 #[.int .i64 ((ofI h).length : Int), .slice a3 (poR (ofI h)).length c3] 53, imm (.slice a3 (poR (ofI h)).length c3) (poR (ofI h)), box bb0 #[.slice a0 (ofV h).length c0, .slice a1 (ofI h).length c1, .slice a2 ([] : List Int).length c2] 30, imm (.slice a2 ([] : List Int).length c2) ([] : List Int), imm (.slice a1 (ofI h).length c1) (ofI h), imm (.slice a0 (ofV h).length c0) (ofV h), imm (.slice a_h h.length c_h) h]) w53 ad24 x5 := hp36 35 rfl rfl
              have H72 := H71.put (it := atI ad24 x5) rfl hA24
              refine gy rfl rfl s66 (po_pair hx0).2.1 (fa fl40_0 rfl s67 ?_)
              exact ⟨_, rfl, Ext.refl _, ⟨ad24, rfl, (by assumption)⟩⟩
            refine ⟨fun _ => ⟨fun f39 w54 hf37 xt50 hp37 => ?_, fun _ _ _ _ h => h⟩, ?_⟩
            ·
              have H73 := H20.ext xt50
              have s68 : f39 100 = .bool (ahA (ofI h) x0.2 x0.1) := hp37 27 rfl rfl
              obtain ⟨ad25, s69, hA25⟩ : ∃ (ad25 : Addr), f39 109 = .pointer (some ((ad25).add 0)) ∧ At (MS M [imm (.slice a4 (pairsM ((ofI h).length : Int) (poR (ofI h))).length c4) (pairsM ((ofI h).length : Int) (poR (ofI h))), box bb1 #[.int .i64 ((ofI h).length : Int), .slice a3 (poR (ofI h)).length c3] 53, imm (.slice a3 (poR (ofI h)).length c3) (poR (ofI h)), box bb0 #[.slice a0 (ofV h).length c0, .slice a1 (ofI h).length c1, .slice a2 ([] : List Int).length c2] 30, imm (.slice a2 ([] : List Int).length c2) ([] : List Int), imm (.slice a1 (ofI h).length c1) (ofI h), imm (.slice a0 (ofV h).length c0) (ofV h), imm (.slice a_h h.length c_h) h]) w54 ad25 x5 := hp37 36 rfl rfl
              have H74 := H73.put (it := atI ad25 x5) rfl hA25
              refine gy rfl rfl s68 (po_pair hx0).2.1 (ldI ((H74.atv 0 rfl)).fst.w ty3 rfl s69 ?_)
              intro rv23
              exact ⟨_, rfl, Ext.refl _, ⟨rfl, rv23⟩⟩
            refine ⟨fun _ => ⟨fun f40 w55 hf38 xt51 hp38 => ?_, fun _ _ _ _ h => h⟩, ?_⟩
            ·
              have H75 := H20.ext xt51
              have s70 : f40 100 = .bool (ahA (ofI h) x0.2 x0.1) := hp38 27 rfl rfl
              refine gy rfl rfl s70 (po_pair hx0).2.1 (fa fl30_1 rfl ((hf38 3 rfl).trans s6) ?_)
              exact ⟨_, rfl, Ext.refl _, rfl⟩
            refine ⟨fun _ => ⟨fun f41 w56 hf39 xt52 hp39 => ?_, fun _ _ _ _ h => h⟩, ?_⟩
            ·
              have H76 := H20.ext xt52
              have s71 : f41 100 = .bool (ahA (ofI h) x0.2 x0.1) := hp39 27 rfl rfl
              have s72 : f41 111 = .pointer (some ⟨bb0, 1, none⟩) := hp39 38 rfl rfl
              refine gy rfl rfl s71 (po_pair hx0).2.1 (ldX H76 3 rfl ty27 rfl s72 (by decide) rfl ?_)
              exact ⟨_, rfl, Ext.refl _, rfl⟩
            refine ⟨fun _ => ⟨fun f42 w57 hf40 xt53 hp40 => ?_, fun _ _ _ _ h => h⟩, ?_⟩
            ·
              have H77 := H20.ext xt53
              have s73 : f42 100 = .bool (ahA (ofI h) x0.2 x0.1) := hp40 27 rfl rfl
              refine gy rfl rfl s73 (po_pair hx0).2.1 (mv rfl ((hf40 10 rfl).trans s10) ?_)
              exact ⟨_, rfl, Ext.refl _, rfl⟩
            refine ⟨fun _ => ⟨fun f43 w58 hf41 xt54 hp41 => ?_, fun _ _ _ _ h => h⟩, ?_⟩
            ·
              have H78 := H20.ext xt54
              have s74 : f43 100 = .bool (ahA (ofI h) x0.2 x0.1) := hp41 27 rfl rfl
              refine gy rfl rfl s74 (po_pair hx0).2.1 (mv rfl ((hf41 11 rfl).trans s11) ?_)
              exact ⟨_, rfl, Ext.refl _, rfl⟩
            refine ⟨fun _ => ⟨fun f44 w59 hf42 xt55 hp42 => ?_, by rintro _ _ _ x_ ⟨ad6, e_, hA6⟩; exact ⟨ad6, e_, hA6.lift (Up.ext x_)⟩⟩, ?_⟩
            ·
              have H79 := H20.ext xt55
              have s75 : f44 100 = .bool (ahA (ofI h) x0.2 x0.1) := hp42 27 rfl rfl
              have s76 : f44 113 = .slice a4 (pairsM ((ofI h).length : Int) (poR (ofI h))).length c4 := hp42 40 rfl rfl
              have s77 : f44 114 = .int .i64 (q : Int) := hp42 41 rfl rfl
              refine gy rfl rfl s75 (po_pair hx0).2.1 (ia (H79.rv 0 rfl) rfl rfl s76 s77 (by first | omega | (simp; omega)) un59 ty61 ?_)
              intro ad26 x14 hx14 hA26
              obtain rfl : x0 = x14 := Option.some.inj (hx0.symm.trans hx14)
              exact ⟨_, rfl, Ext.refl _, ⟨ad26, rfl, hA26⟩⟩
            refine ⟨fun _ => ⟨fun f45 w60 hf43 xt56 hp43 => ?_, by rintro _ _ _ x_ ⟨ad6, e_, hA6⟩; exact ⟨ad6, e_, hA6.lift (Up.ext x_)⟩⟩, ?_⟩
            ·
              have H80 := H20.ext xt56
              have s78 : f45 100 = .bool (ahA (ofI h) x0.2 x0.1) := hp43 27 rfl rfl
              obtain ⟨ad27, s79, hA27⟩ : ∃ (ad27 : Addr), f45 115 = .pointer (some ad27) ∧ At (MS M [imm (.slice a4 (pairsM ((ofI h).length : Int) (poR (ofI h))).length c4) (pairsM ((ofI h).length : Int) (poR (ofI h))), box bb1 #[.int .i64 ((ofI h).length : Int), .slice a3 (poR (ofI h)).length c3] 53, imm (.slice a3 (poR (ofI h)).length c3) (poR (ofI h)), box bb0 #[.slice a0 (ofV h).length c0, .slice a1 (ofI h).length c1, .slice a2 ([] : List Int).length c2] 30, imm (.slice a2 ([] : List Int).length c2) ([] : List Int), imm (.slice a1 (ofI h).length c1) (ofI h), imm (.slice a0 (ofV h).length c0) (ofV h), imm (.slice a_h h.length c_h) h]) w60 ad27 x0 := hp43 42 rfl rfl
              have H81 := H80.put (it := atI ad27 x0) rfl hA27
              refine gy rfl rfl s78 (po_pair hx0).2.1 (iaA rfl rfl s79 rfl (by omega) un61 ty3 ?_)
              exact ⟨_, rfl, Ext.refl _, ⟨ad27, rfl, (by assumption)⟩⟩
            refine ⟨fun _ => ⟨fun f46 w61 hf44 xt57 hp44 => ?_, fun _ _ _ _ h => h⟩, ?_⟩
            ·
              have H82 := H20.ext xt57
              have s80 : f46 100 = .bool (ahA (ofI h) x0.2 x0.1) := hp44 27 rfl rfl
              obtain ⟨ad28, s81, hA28⟩ : ∃ (ad28 : Addr), f46 116 = .pointer (some ((ad28).add 1)) ∧ At (MS M [imm (.slice a4 (pairsM ((ofI h).length : Int) (poR (ofI h))).length c4) (pairsM ((ofI h).length : Int) (poR (ofI h))), box bb1 #[.int .i64 ((ofI h).length : Int), .slice a3 (poR (ofI h)).length c3] 53, imm (.slice a3 (poR (ofI h)).length c3) (poR (ofI h)), box bb0 #[.slice a0 (ofV h).length c0, .slice a1 (ofI h).length c1, .slice a2 ([] : List Int).length c2] 30, imm (.slice a2 ([] : List Int).length c2) ([] : List Int), imm (.slice a1 (ofI h).length c1) (ofI h), imm (.slice a0 (ofV h).length c0) (ofV h), imm (.slice a_h h.length c_h) h]) w61 ad28 x0 := hp44 43 rfl rfl
              have H83 := H82.put (it := atI ad28 x0) rfl hA28
              refine gy rfl rfl s80 (po_pair hx0).2.1 (ldI ((H83.atv 0 rfl)).snd.w ty3 rfl s81 ?_)
              intro rv24
              exact ⟨_, rfl, Ext.refl _, ⟨rfl, rv24⟩⟩
            refine ⟨fun _ => ⟨fun f47 w62 hf45 xt58 hp45 => ?_, by rintro _ _ _ x_ ⟨ad7, e_, hA7⟩; exact ⟨ad7, e_, hA7.lift (Up.ext x_)⟩⟩, ?_⟩
            ·
              have H84 := H20.ext xt58
              have s82 : f47 100 = .bool (ahA (ofI h) x0.2 x0.1) := hp45 27 rfl rfl
              have s83 : f47 112 = .slice a1 (ofI h).length c1 := hp45 39 rfl rfl
              obtain ⟨s84, rv25⟩ : f47 117 = .int .i64 x0.2 ∧ I64 (x0.2) := hp45 44 rfl rfl
              refine gy rfl rfl s82 (po_pair hx0).2.1 (ia (H84.rv 5 rfl) rfl rfl s83 s84 (by obtain ⟨a1_, a2_, a3_, a4_, a5_, a6_, a7_⟩ := po_pair hx0; omega) un27 ty40 ?_)
              intro ad29 x15 hx15 hA29
              obtain rfl : x7 = x15 := Option.some.inj (hx7.symm.trans hx15)
              exact ⟨_, rfl, Ext.refl _, ⟨ad29, rfl, hA29⟩⟩
            refine ⟨fun _ => ⟨fun f48 w63 hf46 xt59 hp46 => ?_, by rintro _ _ _ x_ ⟨ad7, e_, hA7⟩; exact ⟨ad7, e_, hA7.lift (Up.ext x_)⟩⟩, ?_⟩
            ·
              have H85 := H20.ext xt59
              have s85 : f48 100 = .bool (ahA (ofI h) x0.2 x0.1) := hp46 27 rfl rfl
              obtain ⟨ad30, s86, hA30⟩ : ∃ (ad30 : Addr), f48 118 = .pointer (some ad30) ∧ At (MS M [imm (.slice a4 (pairsM ((ofI h).length : Int) (poR (ofI h))).length c4) (pairsM ((ofI h).length : Int) (poR (ofI h))), box bb1 #[.int .i64 ((ofI h).length : Int), .slice a3 (poR (ofI h)).length c3] 53, imm (.slice a3 (poR (ofI h)).length c3) (poR (ofI h)), box bb0 #[.slice a0 (ofV h).length c0, .slice a1 (ofI h).length c1, .slice a2 ([] : List Int).length c2] 30, imm (.slice a2 ([] : List Int).length c2) ([] : List Int), imm (.slice a1 (ofI h).length c1) (ofI h), imm (.slice a0 (ofV h).length c0) (ofV h), imm (.slice a_h h.length c_h) h]) w63 ad30 x7 := hp46 45 rfl rfl
              have H86 := H85.put (it := atI ad30 x7) rfl hA30
              refine gy rfl rfl s85 (po_pair hx0).2.1 (fa fl40_0 rfl s86 ?_)
              exact ⟨_, rfl, Ext.refl _, ⟨ad30, rfl, (by assumption)⟩⟩
            refine ⟨fun _ => ⟨fun f49 w64 hf47 xt60 hp47 => ?_, fun _ _ _ _ h => h⟩, ?_⟩
            ·
              have H87 := H20.ext xt60
              have s87 : f49 100 = .bool (ahA (ofI h) x0.2 x0.1) := hp47 27 rfl rfl
              obtain ⟨ad31, s88, hA31⟩ : ∃ (ad31 : Addr), f49 119 = .pointer (some ((ad31).add 0)) ∧ At (MS M [imm (.slice a4 (pairsM ((ofI h).length : Int) (poR (ofI h))).length c4) (pairsM ((ofI h).length : Int) (poR (ofI h))), box bb1 #[.int .i64 ((ofI h).length : Int), .slice a3 (poR (ofI h)).length c3] 53, imm (.slice a3 (poR (ofI h)).length c3) (poR (ofI h)), box bb0 #[.slice a0 (ofV h).length c0, .slice a1 (ofI h).length c1, .slice a2 ([] : List Int).length c2] 30, imm (.slice a2 ([] : List Int).length c2) ([] : List Int), imm (.slice a1 (ofI h).length c1) (ofI h), imm (.slice a0 (ofV h).length c0) (ofV h), imm (.slice a_h h.length c_h) h]) w64 ad31 x7 := hp47 46 rfl rfl
              have H88 := H87.put (it := atI ad31 x7) rfl hA31
              refine gy rfl rfl s87 (po_pair hx0).2.1 (ldI ((H88.atv 0 rfl)).fst.w ty3 rfl s88 ?_)
              intro rv26
              exact ⟨_, rfl, Ext.refl _, ⟨rfl, rv26⟩⟩
            exact DSteps.rest rfl _
          · intro f50 w65 hf48 xt61 hp48
            have H89 := H20.ext xt61
            have s89 : f50 3 = .pointer (some ⟨bb0, 0, none⟩) := (hf48 3 rfl).trans s6
            have s90 : f50 5 = .pointer (some ⟨bb1, 0, none⟩) := (hf48 5 rfl).trans s7
            have s91 : f50 7 = .bool ((loopF ((ofI h).length : Int) (poR (ofI h))).isSome) := (hf48 7 rfl).trans s8
            have s92 : f50 8 = .int .i64 (triTo h j) := (hf48 8 rfl).trans s9
            have s93 : f50 10 = .slice a4 (pairsM ((ofI h).length : Int) (poR (ofI h))).length c4 := (hf48 10 rfl).trans s10
            have s94 : f50 11 = .int .i64 (q : Int) := (hf48 11 rfl).trans s11
            have s95 : f50 100 = .bool (ahA (ofI h) x0.2 x0.1) := hp48 27 rfl
            obtain ⟨s96, rv27⟩ : f50 110 = .int .i64 x5.1 ∧ I64 (x5.1) := hp48 37 rfl
            obtain ⟨s97, rv28⟩ : f50 120 = .int .i64 x7.1 ∧ I64 (x7.1) := hp48 47 rfl
            refine k (gy rfl rfl s95 (po_pair hx0).2.1 (neq rfl rfl s96 s97 (k (pickF rfl rfl rfl s95 (po_pair hx0).2.1 rfl (z (nx ?_))))))
            have tr1 : (decide (x5.1 = x7.1)) = true := (by obtain ⟨a1_, a2_, a3_, a4_, a5_, a6_, a7_⟩ := po_pair hx0; rw [ses_atI hx5, ses_atI hx7] at a7_; exact decide_eq_true a7_)
            refine cdF rfl rfl (by rw [show (decide (x5.1 = x7.1)) = true from tr1]; rfl) (sk (inb_normal (nx (rg (k (mv rfl s94 (k (add rfl rfl rfl rfl (by have h_ := pairs_small (n := (ofI h).length) (p := ahN (ofI h)); have h2_ : (ofI h).length * (ofI h).length ≤ 40 * 40 := Nat.mul_le_mul hl_ hl_; unfold poR at *; unfold I64; omega) (k (asg (v := .int .i64 ((q : Int) + 1)) rfl rfl (z ?_)))))))))))
            refine loopN _ ?_ ⟨(q + 1), rfl, s89, s90, s91, s92, s93, (ieq rfl (by first | rfl | omega | (push_cast; omega))), H89, (by first | assumption | omega | simp | (simp; omega))⟩
            omega
        ·
          have p3 := of_decide_eq_false b3
          refine ex (then_exit (loop_exit (inb_here (nx (sq (rg (k ?_)))))))
          have cc7 := awake12 (w := w12)
          refine ca go30 rfl e0 cc7 ?_
          rintro _ w13 ⟨rfl, xt9⟩
          have H21 := H20.ext xt9
          refine k (mv (v := .bool true) rfl rfl (k (gy rfl rfl rfl rfl (ldX H21 1 rfl ty53 rfl s7 (by decide) rfl (k (gy rfl rfl rfl rfl ?_))))))
          have cc8 := ref04_Closed (mn := ((ofI h).length : Int)) (mr := (poR (ofI h))) (w := w13) H21.mb (by unfold I64 at *; omega) (H21.rv 2 rfl) (by unfold poR; rw [matP_len]) (by exact matP_small (by omega)) (by first | assumption | omega)
          refine ca go41 rfl (ec rfl e0) cc8 ?_
          rintro _ w14 ⟨rfl, xt10⟩
          have H22 := H21.ext xt10
          refine k (pickT rfl rfl rfl rfl rfl rfl (k (mv (v := .bool (closedM ((ofI h).length : Int) (poR (ofI h)))) rfl rfl (k (gy rfl rfl rfl (po_closed _) (mv rfl s8 (k (gy rfl rfl rfl (po_closed _) (not_ rfl rfl (k (pickT rfl rfl rfl rfl (po_closed _) rfl (k (mv (v := .bool (!((loopF ((ofI h).length : Int) (poR (ofI h))).isSome))) rfl rfl ?_)))))))))))))
          have tr1 : ((loopF ((ofI h).length : Int) (poR (ofI h))).isSome) = false := (by rw [po_noloop]; rfl)
          refine k (gy rfl rfl rfl (by rw [show ((loopF ((ofI h).length : Int) (poR (ofI h))).isSome) = false from tr1]; rfl) (mv rfl s10 (k (gy rfl rfl rfl (by rw [show ((loopF ((ofI h).length : Int) (poR (ofI h))).isSome) = false from tr1]; rfl) (lnS rfl rfl un59 (k (gy rfl rfl rfl (by rw [show ((loopF ((ofI h).length : Int) (poR (ofI h))).isSome) = false from tr1]; rfl) (mv rfl s9 (k (gy rfl rfl rfl (by rw [show ((loopF ((ofI h).length : Int) (poR (ofI h))).isSome) = false from tr1]; rfl) (eql rfl rfl rfl rfl (k (pickT rfl rfl rfl rfl (by rw [show ((loopF ((ofI h).length : Int) (poR (ofI h))).isSome) = false from tr1]; rfl) rfl (k (asg (v := .bool (decide (((pairsM ((ofI h).length : Int) (poR (ofI h))).length : Int) = (triTo h j)))) rfl rfl (z (nx (rt (r1 rfl rfl ?_)))))))))))))))))))
          have e0 : (decide (((pairsM ((ofI h).length : Int) (poR (ofI h))).length : Int) = (triTo h j)) : Bool) = true := by exact (decide_eq_true (order_count rt_ (by omega)))
          have ev_ := cg1 (fun (x_0 : Bool) => (.bool x_0 : Value)) e0
          exact ⟨ev_, H22.below⟩
end Go.Proofs.Ytmliihgaoaolmaa
