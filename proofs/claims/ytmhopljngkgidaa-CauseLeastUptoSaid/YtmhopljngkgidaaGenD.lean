/- PRINTED by my own tool (wip/tool/gen.py): contracts of Go functions of this seat, each with its proof. -/
import Derived.Test.YtmhopljngkgidaaOwnA
import Derived.Test.YtmhopljngkgidaaOwnC
import Derived.Test.YtmhopljngkgidaaGenC
import Derived.Test.YtmhopljngkgidaaGenB
import Derived.Test.YtmhopljngkgidaaGenA
namespace Go.Proofs.Ytmhopljngkgidaa
open Go.Ew Go.RowKit
set_option linter.unusedVariables false
set_option linter.unusedSimpArgs false
attribute [local irreducible] WL WC SO Code.wp wpList retQ Ret
attribute [local irreducible] bitB hasW inR hasR setR countW countR subR words newR listR orR firstW tab8
theorem go6 : GoF Try.prog 6 := ⟨_, _, Try.func6, rfl, by kernel_rfl⟩
theorem go7 : GoF Try.prog 7 := ⟨_, _, Try.func7, rfl, by kernel_rfl⟩
theorem un38 : Try.prog.underlying 38 = some (.slice 44) := by kernel_rfl
theorem go16 : GoF Try.prog 16 := ⟨_, _, Try.func16, rfl, by kernel_rfl⟩
theorem go17 : GoF Try.prog 17 := ⟨_, _, Try.func17, rfl, by kernel_rfl⟩
theorem go18 : GoF Try.prog 18 := ⟨_, _, Try.func18, rfl, by kernel_rfl⟩
theorem ty44 : TyF Try.prog 44 2 true 2 (.agg #[.int .u8 0, .int .u8 0]) := ⟨by kernel_rfl, by kernel_rfl⟩
theorem un44 : Try.prog.underlying 44 = some (.array 2 5) := by kernel_rfl
theorem ty5 : TyF Try.prog 5 1 false 1 (.int .u8 0) := ⟨by kernel_rfl, by kernel_rfl⟩
theorem un5 : Try.prog.underlying 5 = some (.int .u8) := by kernel_rfl
/- eyewitness/eyewitnesslaw13.CauseLeast -/
set_option maxRecDepth 100000 in
set_option maxHeartbeats 1600000 in
theorem law_CauseLeast {M : Nat → Prop} {w : World} {a_h : Option Addr} {c_h : Nat} {h : List (List (Bool × ByteArray × Int))} {a_l : Option Addr} {c_l : Nat} {l : List (BitVec 8 × BitVec 8)} (hM : ∀ b, M b → b < w.heap.size) (h_h : RV M w (.slice a_h h.length c_h) h) (h_l : RV M w (.slice a_l l.length c_l) l) (hb_h : h.flatten.length ≤ 1048576) : Calls Try.prog 4 #[.slice a_h h.length c_h, .slice a_l l.length c_l] w (Ret fun v w' =>  v = .bool true ∧ Ext w w') := by
  refine enter 135 Try.func4 rfl rfl rfl fun f0 ha => ?_
  have H := HI.start (M0 := M) (w := w) hM
  have H0 := H.put (it := imm (.slice a_h h.length c_h) h) rfl (by rw [MS_nil]; exact h_h)
  have H1 := H0.put (it := imm (.slice a_l l.length c_l) l) rfl (by rw [MS_cons_none rfl, MS_nil]; exact h_l)
  have ln_h := rv_len h_h
  have ln_l := rv_len h_l
  have i0 : f0 0 = .slice a_h h.length c_h := ha 0 (by simp)
  have i1 : f0 1 = .slice a_l l.length c_l := ha 1 (by simp)
  refine sq (rg (k (asg (v := .bool false) rfl rfl (z (nx (sq (sq (rg (k (mv rfl i0 (k ?_)))))))))))
  have cc0 := ref06_Small (h := h) (m := 30) (w := w) H1.mb (H1.rv 1 rfl) (by unfold I64 at *; omega) (by omega)
  refine ca go6 rfl (ec rfl (ec rfl e0)) cc0 ?_
  rintro _ w0 ⟨rfl, xt0⟩
  have H2 := H1.ext xt0
  refine k (not_ rfl rfl (k (mv (v := .bool (!(smallH h 30))) rfl rfl ?_)))
  rcases Bool.eq_false_or_eq_true (!(smallH h 30)) with b0 | b0
  · -- !(smallH h 30) is True
    refine k (gn rfl rfl rfl b0 (k (gn rfl rfl rfl b0 (k (gn rfl rfl rfl b0 (k (pickT rfl rfl rfl rfl b0 rfl (z (nx (cdT rfl rfl rfl (sq (rg (k ?_)))))))))))))
    have cc1 := awake13 (w := w0)
    refine ca go7 rfl e0 cc1 ?_
    rintro _ w1 ⟨rfl, xt1⟩
    have H3 := H2.ext xt1
    refine k (asg (v := .bool true) rfl rfl (z (nx (rt (then_ret (r1 rfl rfl ?_))))))
    exact ⟨rfl, H3.below⟩
  · -- !(smallH h 30) is False
    refine k (gy rfl rfl rfl b0 (mv rfl i1 (k (gy rfl rfl rfl b0 (lnS rfl rfl un38 (k (gy rfl rfl rfl b0 (gtr rfl rfl rfl rfl (k (pickF rfl rfl rfl rfl b0 rfl (z (nx ?_))))))))))))
    refine cd (b := decide (40 < (l.length : Int))) rfl rfl (fun b1 => ?_) (fun b1 => ?_)
    ·
      have p1 := of_decide_eq_true b1
      refine sq (rg (k ?_))
      have cc1 := awake13 (w := w0)
      refine ca go7 rfl e0 cc1 ?_
      rintro _ w1 ⟨rfl, xt1⟩
      have H3 := H2.ext xt1
      refine k (asg (v := .bool true) rfl rfl (z (nx (rt (then_ret (r1 rfl rfl ?_))))))
      exact ⟨rfl, H3.below⟩
    ·
      have p1 := of_decide_eq_false b1
      refine sk (nx (sq ?_))
      have sm_ : smallH h 30 = true := by simpa using ‹(!smallH h 30) = false›
      have fl_ := (small_iff.1 sm_).2.1
      have il_ := o11I_len h
      refine rg (k (mv rfl i0 (k ?_)))
      have cc1 := ref11_Of (h := h) (w := w0) H2.mb (H2.rv 1 rfl) (by omega)
      refine ca go8 rfl (ec rfl e0) cc1 ?_
      rintro _ w1 ⟨a0, c0, a1, c1, a2, c2, rfl, xt1, rv0, rv1, rv2⟩
      have H3 := H2.ext xt1
      have H4 := H3.put (it := imm (.slice a0 (o11V h).length c0) (o11V h)) rfl rv0
      have H5 := H4.put (it := imm (.slice a1 (o11I h).length c1) (o11I h)) rfl (by rw [MS_cons_none rfl]; exact rv1)
      have H6 := H5.put (it := imm (.slice a2 (o11F h).length c2) (o11F h)) rfl (by rw [MS_cons_none rfl, MS_cons_none rfl]; exact rv2)
      refine k (mv (v := .tuple #[.agg #[.slice a0 (o11V h).length c0, .slice a1 (o11I h).length c1, .slice a2 (o11F h).length c2], .bool (o11 h)]) rfl rfl (k (xt rfl rfl rfl (k (xt rfl rfl rfl (k (al H6 ty29 ?_)))))))
      intro bb0 w2 xt2 (H7 : HI M w w2 [box bb0 #[.slice none 0 0, .slice none 0 0, .slice none 0 0] 29, imm (.slice a2 (o11F h).length c2) (o11F h), imm (.slice a1 (o11I h).length c1) (o11I h), imm (.slice a0 (o11V h).length c0) (o11V h), imm (.slice a_l l.length c_l) l, imm (.slice a_h h.length c_h) h])
      refine k (stX H7 0 rfl ty29 rfl rfl rfl rfl rfl rfl rfl ?_)
      intro w3 (H8 : HI M w w3 [box bb0 #[.slice a0 (o11V h).length c0, .slice a1 (o11I h).length c1, .slice a2 (o11F h).length c2] 29, imm (.slice a2 (o11F h).length c2) (o11F h), imm (.slice a1 (o11I h).length c1) (o11I h), imm (.slice a0 (o11V h).length c0) (o11V h), imm (.slice a_l l.length c_l) l, imm (.slice a_h h.length c_h) h])
      refine k (asg (v := .bool (o11 h)) rfl rfl (z (nx (sq (sq (rg (k (mv (v := .bool (o11 h)) rfl rfl (k (not_ rfl rfl (z (nx ?_))))))))))))
      refine cd (b := !(o11 h)) rfl rfl (fun b2 => ?_) (fun b2 => ?_)
      ·
        refine sq (rg (k ?_))
        have cc2 := awake13 (w := w3)
        refine ca go7 rfl e0 cc2 ?_
        rintro _ w4 ⟨rfl, xt3⟩
        have H9 := H8.ext xt3
        refine k (asg (v := .bool true) rfl rfl (z (nx (rt (then_ret (r1 rfl rfl ?_))))))
        exact ⟨rfl, H9.below⟩
      ·
        refine sk (nx (sq ?_))
        have ol_ := o11F_len h
        refine rg (k (ldX H8 0 rfl ty29 rfl rfl (by decide) rfl (k ?_)))
        have cc2 := cause_Co (fi := (o11I h)) (fo := (o11F h)) (a_fv := a0) (n_fv := (o11V h).length) (c_fv := c0) (w := w3) H8.mb (H8.rv 2 rfl) (H8.rv 1 rfl) (by exact o11_ord h) (by omega) (by exact o11F_len h) (by exact o11F_lt h)
        refine ca go14 rfl (ec rfl e0) cc2 ?_
        rintro _ w4 ⟨a3, c3, rfl, xt3, rv3⟩
        have H9 := H8.ext xt3
        have H10 := H9.put (it := imm (.slice a3 (coR (o11I h) (o11F h)).length c3) (coR (o11I h) (o11F h))) rfl rv3
        refine k (al H10 ty35 ?_)
        intro bb1 w5 xt4 (H11 : HI M w w5 [box bb1 #[.int .i64 0, .slice none 0 0] 35, imm (.slice a3 (coR (o11I h) (o11F h)).length c3) (coR (o11I h) (o11F h)), box bb0 #[.slice a0 (o11V h).length c0, .slice a1 (o11I h).length c1, .slice a2 (o11F h).length c2] 29, imm (.slice a2 (o11F h).length c2) (o11F h), imm (.slice a1 (o11I h).length c1) (o11I h), imm (.slice a0 (o11V h).length c0) (o11V h), imm (.slice a_l l.length c_l) l, imm (.slice a_h h.length c_h) h])
        refine k (stX H11 0 rfl ty35 rfl rfl rfl rfl rfl rfl rfl ?_)
        intro w6 (H12 : HI M w w6 [box bb1 #[.int .i64 ((o11I h).length : Int), .slice a3 (coR (o11I h) (o11F h)).length c3] 35, imm (.slice a3 (coR (o11I h) (o11F h)).length c3) (coR (o11I h) (o11F h)), box bb0 #[.slice a0 (o11V h).length c0, .slice a1 (o11I h).length c1, .slice a2 (o11F h).length c2] 29, imm (.slice a2 (o11F h).length c2) (o11F h), imm (.slice a1 (o11I h).length c1) (o11I h), imm (.slice a0 (o11V h).length c0) (o11V h), imm (.slice a_l l.length c_l) l, imm (.slice a_h h.length c_h) h])
        refine z (nx (sq (sq ?_)))
        refine dr 28 [fun (v : Value) (w' : World) => v = .pointer (some ⟨bb1, 0, none⟩), fun (v : Value) (w' : World) => v = .int .i64 ((o11I h).length : Int), fun (v : Value) (w' : World) => v = .pointer (some ⟨bb0, 1, none⟩), fun (v : Value) (w' : World) => v = .slice a1 (o11I h).length c1, fun (v : Value) (w' : World) => v = .int .i64 ((o11I h).length : Int), fun (v : Value) (w' : World) => v = .bool (!decide (((o11I h).length : Int) = ((o11I h).length : Int))), fun (v : Value) (w' : World) => v = .bool (!decide (((o11I h).length : Int) = ((o11I h).length : Int))), fun (v : Value) (w' : World) => v = .pointer (some ⟨bb1, 1, none⟩), fun (v : Value) (w' : World) => v = .slice a3 (coR (o11I h) (o11F h)).length c3, fun (v : Value) (w' : World) => v = .int .i64 ((coR (o11I h) (o11F h)).length : Int), fun (v : Value) (w' : World) => v = .pointer (some ⟨bb1, 0, none⟩), fun (v : Value) (w' : World) => v = .int .i64 ((o11I h).length : Int), fun (v : Value) (w' : World) => v = .bool (!decide (((coR (o11I h) (o11F h)).length : Int) = ((o11I h).length : Int))), fun (v : Value) (w' : World) => v = .bool (!decide (((coR (o11I h) (o11F h)).length : Int) = ((o11I h).length : Int))), fun (v : Value) (w' : World) => v = .bool (!decide (((coR (o11I h) (o11F h)).length : Int) = ((o11I h).length : Int))), fun (v : Value) (w' : World) => v = .agg #[.int .i64 ((o11I h).length : Int), .slice a3 (coR (o11I h) (o11F h)).length c3], fun (v : Value) (w' : World) => v = .bool (rightS ((o11I h).length : Int) (coR (o11I h) (o11F h))), fun (v : Value) (w' : World) => v = .bool (!(rightS ((o11I h).length : Int) (coR (o11I h) (o11F h)))), fun (v : Value) (w' : World) => v = .bool (!(rightS ((o11I h).length : Int) (coR (o11I h) (o11F h)))), fun (v : Value) (w' : World) => v = .bool (!(rightS ((o11I h).length : Int) (coR (o11I h) (o11F h)))), fun (v : Value) (w' : World) => v = .agg #[.int .i64 ((o11I h).length : Int), .slice a3 (coR (o11I h) (o11F h)).length c3], fun (v : Value) (w' : World) => v = .bool (closedM ((o11I h).length : Int) (coR (o11I h) (o11F h))), fun (v : Value) (w' : World) => v = .bool (!(closedM ((o11I h).length : Int) (coR (o11I h) (o11F h)))), fun (v : Value) (w' : World) => v = .bool (!(closedM ((o11I h).length : Int) (coR (o11I h) (o11F h)))), fun (v : Value) (w' : World) => v = .bool (!(closedM ((o11I h).length : Int) (coR (o11I h) (o11F h)))), fun (v : Value) (w' : World) => v = .agg #[.slice a0 (o11V h).length c0, .slice a1 (o11I h).length c1, .slice a2 (o11F h).length c2], fun (v : Value) (w' : World) => ∃ (a4 : Option Addr) (c4 : Nat), v = .agg #[.int .i64 ((o11I h).length : Int), .slice a4 (poR (o11I h)).length c4] ∧ RV (MS M [box bb1 #[.int .i64 ((o11I h).length : Int), .slice a3 (coR (o11I h) (o11F h)).length c3] 35, imm (.slice a3 (coR (o11I h) (o11F h)).length c3) (coR (o11I h) (o11F h)), box bb0 #[.slice a0 (o11V h).length c0, .slice a1 (o11I h).length c1, .slice a2 (o11F h).length c2] 29, imm (.slice a2 (o11F h).length c2) (o11F h), imm (.slice a1 (o11I h).length c1) (o11I h), imm (.slice a0 (o11V h).length c0) (o11V h), imm (.slice a_l l.length c_l) l, imm (.slice a_h h.length c_h) h]) w' (.slice a4 (poR (o11I h)).length c4) (poR (o11I h)), fun (v : Value) (w' : World) => v = .agg #[.int .i64 ((o11I h).length : Int), .slice a3 (coR (o11I h) (o11F h)).length c3]] rfl (by kernel_rfl) ?_ ?_
        ·
          refine ⟨fun _ => ⟨fun f0 w10 hf0 xt8 hp0 => ?_, fun _ _ _ _ h => h⟩, ?_⟩
          ·
            have H17 := H12.ext xt8
            refine fa fl35_0 rfl (hf0 7 rfl) ?_
            exact ⟨_, rfl, Ext.refl _, rfl⟩
          refine ⟨fun _ => ⟨fun f1 w11 hf1 xt9 hp1 => ?_, fun _ _ _ _ h => h⟩, ?_⟩
          ·
            have H18 := H12.ext xt9
            have s0 : f1 31 = .pointer (some ⟨bb1, 0, none⟩) := hp1 0 rfl rfl
            refine ldX H18 0 rfl ty3 rfl s0 (by decide) rfl ?_
            exact ⟨_, rfl, Ext.refl _, rfl⟩
          refine ⟨fun _ => ⟨fun f2 w12 hf2 xt10 hp2 => ?_, fun _ _ _ _ h => h⟩, ?_⟩
          ·
            have H19 := H12.ext xt10
            refine fa fl29_1 rfl (hf2 5 rfl) ?_
            exact ⟨_, rfl, Ext.refl _, rfl⟩
          refine ⟨fun _ => ⟨fun f3 w13 hf3 xt11 hp3 => ?_, fun _ _ _ _ h => h⟩, ?_⟩
          ·
            have H20 := H12.ext xt11
            have s1 : f3 33 = .pointer (some ⟨bb0, 1, none⟩) := hp3 2 rfl rfl
            refine ldX H20 2 rfl ty26 rfl s1 (by decide) rfl ?_
            exact ⟨_, rfl, Ext.refl _, rfl⟩
          refine ⟨fun _ => ⟨fun f4 w14 hf4 xt12 hp4 => ?_, fun _ _ _ _ h => h⟩, ?_⟩
          ·
            have H21 := H12.ext xt12
            have s2 : f4 34 = .slice a1 (o11I h).length c1 := hp4 3 rfl rfl
            refine lnS rfl s2 un26 ?_
            exact ⟨_, rfl, Ext.refl _, rfl⟩
          refine ⟨fun _ => ⟨fun f5 w15 hf5 xt13 hp5 => ?_, fun _ _ _ _ h => h⟩, ?_⟩
          ·
            have H22 := H12.ext xt13
            have s3 : f5 32 = .int .i64 ((o11I h).length : Int) := hp5 1 rfl rfl
            have s4 : f5 35 = .int .i64 ((o11I h).length : Int) := hp5 4 rfl rfl
            refine neq rfl rfl s3 s4 ?_
            exact ⟨_, rfl, Ext.refl _, rfl⟩
          refine ⟨fun _ => ⟨fun f6 w16 hf6 xt14 hp6 => ?_, fun _ _ _ _ h => h⟩, ?_⟩
          ·
            have H23 := H12.ext xt14
            have s5 : f6 36 = .bool (!decide (((o11I h).length : Int) = ((o11I h).length : Int))) := hp6 5 rfl rfl
            refine mv rfl s5 ?_
            exact ⟨_, rfl, Ext.refl _, rfl⟩
          refine ⟨fun _ => ⟨fun f7 w17 hf7 xt15 hp7 => ?_, fun _ _ _ _ h => h⟩, ?_⟩
          ·
            have H24 := H12.ext xt15
            have s6 : f7 37 = .bool (!decide (((o11I h).length : Int) = ((o11I h).length : Int))) := hp7 6 rfl rfl
            have tr2 : (decide (((o11I h).length : Int) = ((o11I h).length : Int))) = true := (by simp)
            refine gy rfl rfl s6 (by rw [show (decide (((o11I h).length : Int) = ((o11I h).length : Int))) = true from tr2]; rfl) (fa fl35_1 rfl (hf7 7 rfl) ?_)
            exact ⟨_, rfl, Ext.refl _, rfl⟩
          refine ⟨fun _ => ⟨fun f8 w18 hf8 xt16 hp8 => ?_, fun _ _ _ _ h => h⟩, ?_⟩
          ·
            have H25 := H12.ext xt16
            have s7 : f8 37 = .bool (!decide (((o11I h).length : Int) = ((o11I h).length : Int))) := hp8 6 rfl rfl
            have s8 : f8 38 = .pointer (some ⟨bb1, 1, none⟩) := hp8 7 rfl rfl
            have tr3 : (decide (((o11I h).length : Int) = ((o11I h).length : Int))) = true := (by simp)
            refine gy rfl rfl s7 (by rw [show (decide (((o11I h).length : Int) = ((o11I h).length : Int))) = true from tr3]; rfl) (ldX H25 0 rfl ty33 rfl s8 (by decide) rfl ?_)
            exact ⟨_, rfl, Ext.refl _, rfl⟩
          refine ⟨fun _ => ⟨fun f9 w19 hf9 xt17 hp9 => ?_, fun _ _ _ _ h => h⟩, ?_⟩
          ·
            have H26 := H12.ext xt17
            have s9 : f9 37 = .bool (!decide (((o11I h).length : Int) = ((o11I h).length : Int))) := hp9 6 rfl rfl
            have s10 : f9 39 = .slice a3 (coR (o11I h) (o11F h)).length c3 := hp9 8 rfl rfl
            have tr4 : (decide (((o11I h).length : Int) = ((o11I h).length : Int))) = true := (by simp)
            refine gy rfl rfl s9 (by rw [show (decide (((o11I h).length : Int) = ((o11I h).length : Int))) = true from tr4]; rfl) (lnS rfl s10 un33 ?_)
            exact ⟨_, rfl, Ext.refl _, rfl⟩
          refine ⟨fun _ => ⟨fun f10 w20 hf10 xt18 hp10 => ?_, fun _ _ _ _ h => h⟩, ?_⟩
          ·
            have H27 := H12.ext xt18
            have s11 : f10 37 = .bool (!decide (((o11I h).length : Int) = ((o11I h).length : Int))) := hp10 6 rfl rfl
            have tr5 : (decide (((o11I h).length : Int) = ((o11I h).length : Int))) = true := (by simp)
            refine gy rfl rfl s11 (by rw [show (decide (((o11I h).length : Int) = ((o11I h).length : Int))) = true from tr5]; rfl) (fa fl35_0 rfl (hf10 7 rfl) ?_)
            exact ⟨_, rfl, Ext.refl _, rfl⟩
          refine ⟨fun _ => ⟨fun f11 w21 hf11 xt19 hp11 => ?_, fun _ _ _ _ h => h⟩, ?_⟩
          ·
            have H28 := H12.ext xt19
            have s12 : f11 37 = .bool (!decide (((o11I h).length : Int) = ((o11I h).length : Int))) := hp11 6 rfl rfl
            have s13 : f11 41 = .pointer (some ⟨bb1, 0, none⟩) := hp11 10 rfl rfl
            have tr6 : (decide (((o11I h).length : Int) = ((o11I h).length : Int))) = true := (by simp)
            refine gy rfl rfl s12 (by rw [show (decide (((o11I h).length : Int) = ((o11I h).length : Int))) = true from tr6]; rfl) (ldX H28 0 rfl ty3 rfl s13 (by decide) rfl ?_)
            exact ⟨_, rfl, Ext.refl _, rfl⟩
          refine ⟨fun _ => ⟨fun f12 w22 hf12 xt20 hp12 => ?_, fun _ _ _ _ h => h⟩, ?_⟩
          ·
            have H29 := H12.ext xt20
            have s14 : f12 37 = .bool (!decide (((o11I h).length : Int) = ((o11I h).length : Int))) := hp12 6 rfl rfl
            have s15 : f12 40 = .int .i64 ((coR (o11I h) (o11F h)).length : Int) := hp12 9 rfl rfl
            have s16 : f12 42 = .int .i64 ((o11I h).length : Int) := hp12 11 rfl rfl
            have tr7 : (decide (((o11I h).length : Int) = ((o11I h).length : Int))) = true := (by simp)
            refine gy rfl rfl s14 (by rw [show (decide (((o11I h).length : Int) = ((o11I h).length : Int))) = true from tr7]; rfl) (neq rfl rfl s15 s16 ?_)
            exact ⟨_, rfl, Ext.refl _, rfl⟩
          refine ⟨fun _ => ⟨fun f13 w23 hf13 xt21 hp13 => ?_, fun _ _ _ _ h => h⟩, ?_⟩
          ·
            have H30 := H12.ext xt21
            have s17 : f13 37 = .bool (!decide (((o11I h).length : Int) = ((o11I h).length : Int))) := hp13 6 rfl rfl
            have s18 : f13 43 = .bool (!decide (((coR (o11I h) (o11F h)).length : Int) = ((o11I h).length : Int))) := hp13 12 rfl rfl
            have tr8 : (decide (((o11I h).length : Int) = ((o11I h).length : Int))) = true := (by simp)
            refine pickF rfl rfl rfl s17 (by rw [show (decide (((o11I h).length : Int) = ((o11I h).length : Int))) = true from tr8]; rfl) s18 ?_
            exact ⟨_, rfl, Ext.refl _, rfl⟩
          refine ⟨fun _ => ⟨fun f14 w24 hf14 xt22 hp14 => ?_, fun _ _ _ _ h => h⟩, ?_⟩
          ·
            have H31 := H12.ext xt22
            have s19 : f14 44 = .bool (!decide (((coR (o11I h) (o11F h)).length : Int) = ((o11I h).length : Int))) := hp14 13 rfl rfl
            refine mv rfl s19 ?_
            exact ⟨_, rfl, Ext.refl _, rfl⟩
          refine ⟨fun _ => ⟨fun f15 w25 hf15 xt23 hp15 => ?_, fun _ _ _ _ h => h⟩, ?_⟩
          ·
            have H32 := H12.ext xt23
            have s20 : f15 45 = .bool (!decide (((coR (o11I h) (o11F h)).length : Int) = ((o11I h).length : Int))) := hp15 14 rfl rfl
            have tr9 : (decide (((coR (o11I h) (o11F h)).length : Int) = ((o11I h).length : Int))) = true := (by unfold coR; rw [matP_len]; simp)
            refine gy rfl rfl s20 (by rw [show (decide (((coR (o11I h) (o11F h)).length : Int) = ((o11I h).length : Int))) = true from tr9]; rfl) (ldX H32 0 rfl ty35 rfl (hf15 7 rfl) (by decide) rfl ?_)
            exact ⟨_, rfl, Ext.refl _, rfl⟩
          refine ⟨fun _ => ⟨fun f16 w26 hf16 xt24 hp16 => ?_, fun _ _ _ _ h => h⟩, ?_⟩
          ·
            have H33 := H12.ext xt24
            have s21 : f16 45 = .bool (!decide (((coR (o11I h) (o11F h)).length : Int) = ((o11I h).length : Int))) := hp16 14 rfl rfl
            have s22 : f16 46 = .agg #[.int .i64 ((o11I h).length : Int), .slice a3 (coR (o11I h) (o11F h)).length c3] := hp16 15 rfl rfl
            have tr10 : (decide (((coR (o11I h) (o11F h)).length : Int) = ((o11I h).length : Int))) = true := (by unfold coR; rw [matP_len]; simp)
            refine gy rfl rfl s21 (by rw [show (decide (((coR (o11I h) (o11F h)).length : Int) = ((o11I h).length : Int))) = true from tr10]; rfl) ?_
            have cc6 := ref03_Right (mn := ((o11I h).length : Int)) (mr := (coR (o11I h) (o11F h))) (w := w26) H33.mb (by unfold I64 at *; omega) (H33.rv 1 rfl)
            refine ca go16 rfl (ec s22 e0) cc6 ?_
            rintro _ w27 ⟨rfl, xt25⟩
            have H34 := H33.ext xt25
            exact ⟨_, rfl, xt25, rfl⟩
          refine ⟨fun _ => ⟨fun f17 w28 hf17 xt26 hp17 => ?_, fun _ _ _ _ h => h⟩, ?_⟩
          ·
            have H35 := H12.ext xt26
            have s23 : f17 45 = .bool (!decide (((coR (o11I h) (o11F h)).length : Int) = ((o11I h).length : Int))) := hp17 14 rfl rfl
            have s24 : f17 47 = .bool (rightS ((o11I h).length : Int) (coR (o11I h) (o11F h))) := hp17 16 rfl rfl
            have tr11 : (decide (((coR (o11I h) (o11F h)).length : Int) = ((o11I h).length : Int))) = true := (by unfold coR; rw [matP_len]; simp)
            refine gy rfl rfl s23 (by rw [show (decide (((coR (o11I h) (o11F h)).length : Int) = ((o11I h).length : Int))) = true from tr11]; rfl) (not_ rfl s24 ?_)
            exact ⟨_, rfl, Ext.refl _, rfl⟩
          refine ⟨fun _ => ⟨fun f18 w29 hf18 xt27 hp18 => ?_, fun _ _ _ _ h => h⟩, ?_⟩
          ·
            have H36 := H12.ext xt27
            have s25 : f18 45 = .bool (!decide (((coR (o11I h) (o11F h)).length : Int) = ((o11I h).length : Int))) := hp18 14 rfl rfl
            have s26 : f18 48 = .bool (!(rightS ((o11I h).length : Int) (coR (o11I h) (o11F h)))) := hp18 17 rfl rfl
            have tr12 : (decide (((coR (o11I h) (o11F h)).length : Int) = ((o11I h).length : Int))) = true := (by unfold coR; rw [matP_len]; simp)
            refine pickF rfl rfl rfl s25 (by rw [show (decide (((coR (o11I h) (o11F h)).length : Int) = ((o11I h).length : Int))) = true from tr12]; rfl) s26 ?_
            exact ⟨_, rfl, Ext.refl _, rfl⟩
          refine ⟨fun _ => ⟨fun f19 w30 hf19 xt28 hp19 => ?_, fun _ _ _ _ h => h⟩, ?_⟩
          ·
            have H37 := H12.ext xt28
            have s27 : f19 49 = .bool (!(rightS ((o11I h).length : Int) (coR (o11I h) (o11F h)))) := hp19 18 rfl rfl
            refine mv rfl s27 ?_
            exact ⟨_, rfl, Ext.refl _, rfl⟩
          refine ⟨fun _ => ⟨fun f20 w31 hf20 xt29 hp20 => ?_, fun _ _ _ _ h => h⟩, ?_⟩
          ·
            have H38 := H12.ext xt29
            have s28 : f20 50 = .bool (!(rightS ((o11I h).length : Int) (coR (o11I h) (o11F h)))) := hp20 19 rfl rfl
            refine gy rfl rfl s28 (by rw [show (rightS ((o11I h).length : Int) (coR (o11I h) (o11F h))) = true from (co_right _ (by omega))]; rfl) (ldX H38 0 rfl ty35 rfl (hf20 7 rfl) (by decide) rfl ?_)
            exact ⟨_, rfl, Ext.refl _, rfl⟩
          refine ⟨fun _ => ⟨fun f21 w32 hf21 xt30 hp21 => ?_, fun _ _ _ _ h => h⟩, ?_⟩
          ·
            have H39 := H12.ext xt30
            have s29 : f21 50 = .bool (!(rightS ((o11I h).length : Int) (coR (o11I h) (o11F h)))) := hp21 19 rfl rfl
            have s30 : f21 51 = .agg #[.int .i64 ((o11I h).length : Int), .slice a3 (coR (o11I h) (o11F h)).length c3] := hp21 20 rfl rfl
            refine gy rfl rfl s29 (by rw [show (rightS ((o11I h).length : Int) (coR (o11I h) (o11F h))) = true from (co_right _ (by omega))]; rfl) ?_
            have cc7 := ref04_Closed (mn := ((o11I h).length : Int)) (mr := (coR (o11I h) (o11F h))) (w := w32) H39.mb (by unfold I64 at *; omega) (H39.rv 1 rfl) (by exact (mat_sq (by omega) _).1) (by exact (mat_sq (by omega) _).2) (by omega)
            refine ca go17 rfl (ec s30 e0) cc7 ?_
            rintro _ w33 ⟨rfl, xt31⟩
            have H40 := H39.ext xt31
            exact ⟨_, rfl, xt31, rfl⟩
          refine ⟨fun _ => ⟨fun f22 w34 hf22 xt32 hp22 => ?_, fun _ _ _ _ h => h⟩, ?_⟩
          ·
            have H41 := H12.ext xt32
            have s31 : f22 50 = .bool (!(rightS ((o11I h).length : Int) (coR (o11I h) (o11F h)))) := hp22 19 rfl rfl
            have s32 : f22 52 = .bool (closedM ((o11I h).length : Int) (coR (o11I h) (o11F h))) := hp22 21 rfl rfl
            refine gy rfl rfl s31 (by rw [show (rightS ((o11I h).length : Int) (coR (o11I h) (o11F h))) = true from (co_right _ (by omega))]; rfl) (not_ rfl s32 ?_)
            exact ⟨_, rfl, Ext.refl _, rfl⟩
          refine ⟨fun _ => ⟨fun f23 w35 hf23 xt33 hp23 => ?_, fun _ _ _ _ h => h⟩, ?_⟩
          ·
            have H42 := H12.ext xt33
            have s33 : f23 50 = .bool (!(rightS ((o11I h).length : Int) (coR (o11I h) (o11F h)))) := hp23 19 rfl rfl
            have s34 : f23 53 = .bool (!(closedM ((o11I h).length : Int) (coR (o11I h) (o11F h)))) := hp23 22 rfl rfl
            refine pickF rfl rfl rfl s33 (by rw [show (rightS ((o11I h).length : Int) (coR (o11I h) (o11F h))) = true from (co_right _ (by omega))]; rfl) s34 ?_
            exact ⟨_, rfl, Ext.refl _, rfl⟩
          refine ⟨fun _ => ⟨fun f24 w36 hf24 xt34 hp24 => ?_, fun _ _ _ _ h => h⟩, ?_⟩
          ·
            have H43 := H12.ext xt34
            have s35 : f24 54 = .bool (!(closedM ((o11I h).length : Int) (coR (o11I h) (o11F h)))) := hp24 23 rfl rfl
            refine mv rfl s35 ?_
            exact ⟨_, rfl, Ext.refl _, rfl⟩
          refine ⟨fun _ => ⟨fun f25 w37 hf25 xt35 hp25 => ?_, fun _ _ _ _ h => h⟩, ?_⟩
          ·
            have H44 := H12.ext xt35
            have s36 : f25 55 = .bool (!(closedM ((o11I h).length : Int) (coR (o11I h) (o11F h)))) := hp25 24 rfl rfl
            refine gy rfl rfl s36 (by rw [show (closedM ((o11I h).length : Int) (coR (o11I h) (o11F h))) = true from (co_closed _ _)]; rfl) (ldX H44 2 rfl ty29 rfl (hf25 5 rfl) (by decide) rfl ?_)
            exact ⟨_, rfl, Ext.refl _, rfl⟩
          refine ⟨fun _ => ⟨fun f26 w38 hf26 xt36 hp26 => ?_, by rintro _ _ _ x_ ⟨a4, c4, e_, rv4⟩; exact ⟨a4, c4, e_, rv4.lift (Up.ext x_)⟩⟩, ?_⟩
          ·
            have H45 := H12.ext xt36
            have s37 : f26 55 = .bool (!(closedM ((o11I h).length : Int) (coR (o11I h) (o11F h)))) := hp26 24 rfl rfl
            have s38 : f26 56 = .agg #[.slice a0 (o11V h).length c0, .slice a1 (o11I h).length c1, .slice a2 (o11F h).length c2] := hp26 25 rfl rfl
            refine gy rfl rfl s37 (by rw [show (closedM ((o11I h).length : Int) (coR (o11I h) (o11F h))) = true from (co_closed _ _)]; rfl) ?_
            have cc8 := ref12_Po (fi := (o11I h)) (a_fv := a0) (n_fv := (o11V h).length) (c_fv := c0) (a_fo := a2) (n_fo := (o11F h).length) (c_fo := c2) (w := w38) H45.mb (H45.rv 4 rfl) (by exact o11_ord h) (by omega)
            refine ca go19 rfl (ec s38 e0) cc8 ?_
            rintro _ w39 ⟨a5, c5, rfl, xt37, rv5⟩
            have H46 := H45.ext xt37
            have H47 := H46.put (it := imm (.slice a5 (poR (o11I h)).length c5) (poR (o11I h))) rfl rv5
            exact ⟨_, rfl, xt37, ⟨a5, c5, rfl, rv5⟩⟩
          refine ⟨fun _ => ⟨fun f27 w40 hf27 xt38 hp27 => ?_, fun _ _ _ _ h => h⟩, ?_⟩
          ·
            have H48 := H12.ext xt38
            have s39 : f27 55 = .bool (!(closedM ((o11I h).length : Int) (coR (o11I h) (o11F h)))) := hp27 24 rfl rfl
            refine gy rfl rfl s39 (by rw [show (closedM ((o11I h).length : Int) (coR (o11I h) (o11F h))) = true from (co_closed _ _)]; rfl) (ldX H48 0 rfl ty35 rfl (hf27 7 rfl) (by decide) rfl ?_)
            exact ⟨_, rfl, Ext.refl _, rfl⟩
          exact DSteps.rest rfl _
        · intro f28 w41 hf28 xt39 hp28
          have H49 := H12.ext xt39
          have s40 : f28 1 = .slice a_l l.length c_l := (hf28 1 rfl).trans i1
          have s41 : f28 5 = .pointer (some ⟨bb0, 0, none⟩) := hf28 5 rfl
          have s42 : f28 7 = .pointer (some ⟨bb1, 0, none⟩) := hf28 7 rfl
          have s43 : f28 55 = .bool (!(closedM ((o11I h).length : Int) (coR (o11I h) (o11F h)))) := hp28 24 rfl
          obtain ⟨a6, c6, s44, rv6⟩ : ∃ (a6 : Option Addr) (c6 : Nat), f28 57 = .agg #[.int .i64 ((o11I h).length : Int), .slice a6 (poR (o11I h)).length c6] ∧ RV (MS M [box bb1 #[.int .i64 ((o11I h).length : Int), .slice a3 (coR (o11I h) (o11F h)).length c3] 35, imm (.slice a3 (coR (o11I h) (o11F h)).length c3) (coR (o11I h) (o11F h)), box bb0 #[.slice a0 (o11V h).length c0, .slice a1 (o11I h).length c1, .slice a2 (o11F h).length c2] 29, imm (.slice a2 (o11F h).length c2) (o11F h), imm (.slice a1 (o11I h).length c1) (o11I h), imm (.slice a0 (o11V h).length c0) (o11V h), imm (.slice a_l l.length c_l) l, imm (.slice a_h h.length c_h) h]) w41 (.slice a6 (poR (o11I h)).length c6) (poR (o11I h)) := hp28 26 rfl
          have H50 := H49.put (it := imm (.slice a6 (poR (o11I h)).length c6) (poR (o11I h))) rfl rv6
          have s45 : f28 58 = .agg #[.int .i64 ((o11I h).length : Int), .slice a3 (coR (o11I h) (o11F h)).length c3] := hp28 27 rfl
          refine k (gy rfl rfl s43 (by rw [show (closedM ((o11I h).length : Int) (coR (o11I h) (o11F h))) = true from (co_closed _ _)]; rfl) ?_)
          have cc9 := ref03_Sub (an := ((o11I h).length : Int)) (ar := (poR (o11I h))) (bn := ((o11I h).length : Int)) (br := (coR (o11I h) (o11F h))) (w := w41) H50.mb (by unfold I64 at *; omega) (H50.rv 0 rfl) (by unfold I64 at *; omega) (H50.rv 2 rfl) (by exact (mat_sq (by omega) _).1) (by exact (mat_sq (by omega) _).2) (by omega) (by exact (mat_sq (by omega) _).1) (by exact (mat_sq (by omega) _).2) (by omega)
          refine ca go18 rfl (ec s44 (ec s45 e0)) cc9 ?_
          rintro _ w42 ⟨rfl, xt40⟩
          have H51 := H50.ext xt40
          refine k (gy rfl rfl s43 (by rw [show (closedM ((o11I h).length : Int) (coR (o11I h) (o11F h))) = true from (co_closed _ _)]; rfl) (not_ rfl rfl (k (pickF rfl rfl rfl s43 (by rw [show (closedM ((o11I h).length : Int) (coR (o11I h) (o11F h))) = true from (co_closed _ _)]; rfl) rfl (z (nx (cdF rfl rfl (by rw [show (subM ((o11I h).length : Int) (poR (o11I h)) ((o11I h).length : Int) (coR (o11I h) (o11F h))) = true from (po_co _ _)]; rfl) (sk (nx (sq (rg (k (ldX H51 3 rfl ty29 rfl s41 (by decide) rfl (k ?_))))))))))))))
          have cc10 := ref12_Po (fi := (o11I h)) (a_fv := a0) (n_fv := (o11V h).length) (c_fv := c0) (a_fo := a2) (n_fo := (o11F h).length) (c_fo := c2) (w := w42) H51.mb (H51.rv 5 rfl) (by exact o11_ord h) (by omega)
          refine ca go19 rfl (ec rfl e0) cc10 ?_
          rintro _ w43 ⟨a7, c7, rfl, xt41, rv7⟩
          have H52 := H51.ext xt41
          have H53 := H52.put (it := imm (.slice a7 (poR (o11I h)).length c7) (poR (o11I h))) rfl rv7
          refine k (al H53 ty35 ?_)
          intro bb2 w44 xt42 (H54 : HI M w w44 [box bb2 #[.int .i64 0, .slice none 0 0] 35, imm (.slice a7 (poR (o11I h)).length c7) (poR (o11I h)), imm (.slice a6 (poR (o11I h)).length c6) (poR (o11I h)), box bb1 #[.int .i64 ((o11I h).length : Int), .slice a3 (coR (o11I h) (o11F h)).length c3] 35, imm (.slice a3 (coR (o11I h) (o11F h)).length c3) (coR (o11I h) (o11F h)), box bb0 #[.slice a0 (o11V h).length c0, .slice a1 (o11I h).length c1, .slice a2 (o11F h).length c2] 29, imm (.slice a2 (o11F h).length c2) (o11F h), imm (.slice a1 (o11I h).length c1) (o11I h), imm (.slice a0 (o11V h).length c0) (o11V h), imm (.slice a_l l.length c_l) l, imm (.slice a_h h.length c_h) h])
          refine k (stX H54 0 rfl ty35 rfl rfl rfl rfl rfl rfl rfl ?_)
          intro w45 (H55 : HI M w w45 [box bb2 #[.int .i64 ((o11I h).length : Int), .slice a7 (poR (o11I h)).length c7] 35, imm (.slice a7 (poR (o11I h)).length c7) (poR (o11I h)), imm (.slice a6 (poR (o11I h)).length c6) (poR (o11I h)), box bb1 #[.int .i64 ((o11I h).length : Int), .slice a3 (coR (o11I h) (o11F h)).length c3] 35, imm (.slice a3 (coR (o11I h) (o11F h)).length c3) (coR (o11I h) (o11F h)), box bb0 #[.slice a0 (o11V h).length c0, .slice a1 (o11I h).length c1, .slice a2 (o11F h).length c2] 29, imm (.slice a2 (o11F h).length c2) (o11F h), imm (.slice a1 (o11I h).length c1) (o11I h), imm (.slice a0 (o11V h).length c0) (o11V h), imm (.slice a_l l.length c_l) l, imm (.slice a_h h.length c_h) h])
          refine z (nx (sq (sq (rg (k (asg (v := .int .i64 0) rfl rfl (z (nx (bk ?_)))))))))
          have H56 := H55.put (it := imm (.slice a7 (poR (o11I h)).length c7) (poR (o11I h))) rfl (H55.rv 1 rfl)
          refine lp (fun m f w' => ∃ (j : Nat) (n_ : Int) (rs : List (List (BitVec 64))) (a8 : Option Addr) (c8 : Nat), m = (o11F h).length - j ∧ f 1 = .slice a_l l.length c_l ∧ f 5 = .pointer (some ⟨bb0, 0, none⟩) ∧ f 7 = .pointer (some ⟨bb1, 0, none⟩) ∧ f 8 = .pointer (some ⟨bb2, 0, none⟩) ∧ f 9 = .int .i64 (j : Int) ∧  HI M w w' [imm (.slice a8 rs.length c8) rs, box bb2 #[.int .i64 n_, .slice a8 rs.length c8] 35, imm (.slice a7 (poR (o11I h)).length c7) (poR (o11I h)), imm (.slice a6 (poR (o11I h)).length c6) (poR (o11I h)), box bb1 #[.int .i64 ((o11I h).length : Int), .slice a3 (coR (o11I h) (o11F h)).length c3] 35, imm (.slice a3 (coR (o11I h) (o11F h)).length c3) (coR (o11I h) (o11F h)), box bb0 #[.slice a0 (o11V h).length c0, .slice a1 (o11I h).length c1, .slice a2 (o11F h).length c2] 29, imm (.slice a2 (o11F h).length c2) (o11F h), imm (.slice a1 (o11I h).length c1) (o11I h), imm (.slice a0 (o11V h).length c0) (o11V h), imm (.slice a_l l.length c_l) l, imm (.slice a_h h.length c_h) h] ∧ (j ≤ (o11F h).length) ∧ (n_ = ((o11I h).length : Int)) ∧ (rs = moR (o11I h) (o11F h) l j 0)) _ ⟨0, ((o11I h).length : Int), (poR (o11I h)), a7, c7, rfl, s40, s41, s42, rfl, (ieq rfl (by first | rfl | omega | simp)), H56, (by first | assumption | omega | simp | (simp; omega)), (by rfl), (by exact mo_start _ _ _)⟩ ?_
          rintro _ f29 w46 ⟨j, n_, rs, a8, c8, rfl, s46, s47, s48, s49, s50, H57, hk, h1, h2⟩
          refine sq (sq (rg (k (mv rfl s50 (k (fa fl29_2 rfl s47 (k (ldX H57 6 rfl ty27 rfl rfl (by decide) rfl (k (lnS rfl rfl un27 (k (lss rfl rfl rfl rfl (z (nx ?_))))))))))))))
          refine cd (b := decide ((j : Int) < ((o11F h).length : Int))) rfl rfl (fun b3 => ?_) (fun b3 => ?_)
          ·
            have p3 := of_decide_eq_true b3
            refine sk (nx (sq (bk (sq (rg (k (fa fl29_2 rfl s47 (k (ldX H57 6 rfl ty27 rfl rfl (by decide) rfl (k (mv rfl s50 (k (ia (H57.rv 7 rfl) rfl rfl rfl rfl (by first | omega | (simp; omega)) un27 ty3 ?_)))))))))))))
            intro ad0 x0 hx0 hA0
            refine k (ldI hA0.w ty3 rfl rfl ?_)
            intro rv8
            refine k (asg (v := .int .i64 x0) rfl rfl (z (nx (sq (sq ?_)))))
            have hw_ := o11F_lt h _ (List.mem_of_getElem? hx0)
            refine rg (k (mv (v := .int .i64 x0) rfl rfl (k (geq rfl rfl rfl rfl (k (mv (v := .bool (decide (0 ≤ x0))) rfl rfl ?_))))))
            rcases Bool.eq_false_or_eq_true (decide (0 ≤ x0)) with b4 | b4
            · -- decide (0 ≤ x0) is True
              have p4 := of_decide_eq_true b4
              refine k (gy rfl rfl rfl b4 (ldX H57 4 rfl ty35 rfl s48 (by decide) rfl (k (gy rfl rfl rfl b4 (mv (v := .int .i64 x0) rfl rfl (k (gy rfl rfl rfl b4 (mv rfl s50 (k (gy rfl rfl rfl b4 ?_))))))))))
              have cc11 := ref03_Has (mn := ((o11I h).length : Int)) (mr := (coR (o11I h) (o11F h))) (i := x0) (j := (j : Int)) (w := w46) H57.mb (by unfold I64 at *; omega) (H57.rv 5 rfl) (by unfold I64 at *; omega) (by unfold I64 at *; omega) (by exact (mat_sq (by omega) _).1) (by exact (mat_sq (by omega) _).2) (by omega)
              refine ca go20 rfl (ec rfl (ec rfl (ec rfl e0))) cc11 ?_
              rintro _ w47 ⟨rfl, xt43⟩
              have H58 := H57.ext xt43
              refine k (gy rfl rfl rfl b4 (not_ rfl rfl (k (pickT rfl rfl rfl rfl b4 rfl (z (nx (cdF rfl rfl (by rw [show (hasM ((o11I h).length : Int) (coR (o11I h) (o11F h)) x0 (j : Int)) = true from (rf_co hx0 (by omega) hw_ (by omega))]; rfl) (sk (nx (sq ?_))))))))))
              have hw_ := o11F_lt h _ (List.mem_of_getElem? hx0)
              refine rg (k (mv (v := .int .i64 x0) rfl rfl (k (geq rfl rfl rfl rfl (z (nx (cdT rfl rfl b4 (rg (k (ldX H58 1 rfl ty35 rfl s49 (by decide) rfl (k (mv (v := .int .i64 x0) rfl rfl (k (mv rfl s50 (k ?_)))))))))))))))
              have cc12 := ref03_Set (mn := n_) (mr := rs) (i := x0) (j := (j : Int)) (w := w47) H58.mb (by unfold I64; omega) (H58.rv 0 rfl) (by unfold I64 at *; omega) (by unfold I64 at *; omega) (by first | (rw [h1, h2]; exact (mat_sq (by omega) _).1) | (rw [h3, h4]; exact (mat_sq (by omega) _).1)) (by rw [h2]; exact (mat_sq (by omega) _).2) (by omega)
              refine ca go21 rfl (ec rfl (ec rfl (ec rfl e0))) cc12 ?_
              rintro _ w48 ⟨a9, c9, rfl, xt44, rv9⟩
              have H59 := H58.ownsG rv9
              refine k (mv (v := .tuple #[.agg #[.int .i64 (setMN n_ x0 (j : Int)), .slice a9 (setMR n_ rs x0 (j : Int)).length c9], .int .i64 (setME n_ x0 (j : Int))]) rfl rfl (k (xt rfl rfl rfl (k (xt rfl rfl rfl (k (stX H59 2 rfl ty35 rfl rfl s49 rfl rfl rfl rfl ?_)))))))
              intro w49 (H60 : HI M w w49 [own w.heap.size 60 (.slice a9 (setMR n_ rs x0 (j : Int)).length c9) (setMR n_ rs x0 (j : Int)), imm (.slice a8 rs.length c8) rs, box bb2 #[.int .i64 (setMN n_ x0 (j : Int)), .slice a9 (setMR n_ rs x0 (j : Int)).length c9] 35, imm (.slice a7 (poR (o11I h)).length c7) (poR (o11I h)), imm (.slice a6 (poR (o11I h)).length c6) (poR (o11I h)), box bb1 #[.int .i64 ((o11I h).length : Int), .slice a3 (coR (o11I h) (o11F h)).length c3] 35, imm (.slice a3 (coR (o11I h) (o11F h)).length c3) (coR (o11I h) (o11F h)), box bb0 #[.slice a0 (o11V h).length c0, .slice a1 (o11I h).length c1, .slice a2 (o11F h).length c2] 29, imm (.slice a2 (o11F h).length c2) (o11F h), imm (.slice a1 (o11I h).length c1) (o11I h), imm (.slice a0 (o11V h).length c0) (o11V h), imm (.slice a_l l.length c_l) l, imm (.slice a_h h.length c_h) h])
              refine z (inb_normal (nx (rg (k (mv rfl s50 (k (add rfl rfl rfl rfl (by unfold I64 at *; omega) (k (asg (v := .int .i64 ((j : Int) + 1)) rfl rfl (z ?_))))))))))
              have H61 := H60.freeze 0 rfl
              have H62 := H61.put (it := imm (.slice a9 (setMR n_ rs x0 (j : Int)).length c9) (setMR n_ rs x0 (j : Int))) rfl (H61.rv 0 rfl)
              have H63 : HI M w w49 [imm (.slice a9 (setMR n_ rs x0 (j : Int)).length c9) (setMR n_ rs x0 (j : Int)), box bb2 #[.int .i64 (setMN n_ x0 (j : Int)), .slice a9 (setMR n_ rs x0 (j : Int)).length c9] 35, imm (.slice a7 (poR (o11I h)).length c7) (poR (o11I h)), imm (.slice a6 (poR (o11I h)).length c6) (poR (o11I h)), box bb1 #[.int .i64 ((o11I h).length : Int), .slice a3 (coR (o11I h) (o11F h)).length c3] 35, imm (.slice a3 (coR (o11I h) (o11F h)).length c3) (coR (o11I h) (o11F h)), box bb0 #[.slice a0 (o11V h).length c0, .slice a1 (o11I h).length c1, .slice a2 (o11F h).length c2] 29, imm (.slice a2 (o11F h).length c2) (o11F h), imm (.slice a1 (o11I h).length c1) (o11I h), imm (.slice a0 (o11V h).length c0) (o11V h), imm (.slice a_l l.length c_l) l, imm (.slice a_h h.length c_h) h] := H62.pickN [0, 3, 4, 5, 6, 7, 8, 9, 10, 11, 12, 13] (by decide) rfl
              refine loopN _ ?_ ⟨(j + 1), (setMN n_ x0 (j : Int)), (setMR n_ rs x0 (j : Int)), a9, c9, rfl, s46, s47, s48, s49, (ieq rfl (by first | rfl | omega | (push_cast; omega))), H63, (by first | assumption | omega | simp | (simp; omega)), (by first | exact h1 | (rw [h1]; exact (mo_rf (l := l) h2 hx0 (by omega) hw_ (by omega)).1)), (by first | (rw [h1]; exact (mo_rf h2 hx0 (by omega) hw_ (by omega)).2) | (rw [h2]; exact mo_no hx0 (by omega)))⟩
              omega
            · -- decide (0 ≤ x0) is False
              have p4 := of_decide_eq_false b4
              refine k (gn rfl rfl rfl b4 (k (gn rfl rfl rfl b4 (k (gn rfl rfl rfl b4 (k (gn rfl rfl rfl b4 (k (gn rfl rfl rfl b4 (k (pickF rfl rfl rfl rfl b4 rfl (z (nx (cdF rfl rfl rfl (sk (nx (sq ?_)))))))))))))))))
              have hw_ := o11F_lt h _ (List.mem_of_getElem? hx0)
              refine rg (k (mv (v := .int .i64 x0) rfl rfl (k (geq rfl rfl rfl rfl (z (nx (cdF rfl rfl b4 (sk (inb_normal (nx (rg (k (mv rfl s50 (k (add rfl rfl rfl rfl (by unfold I64 at *; omega) (k (asg (v := .int .i64 ((j : Int) + 1)) rfl rfl (z ?_))))))))))))))))))
              have H58 := H57.put (it := imm (.slice a8 rs.length c8) rs) rfl (H57.rv 0 rfl)
              have H59 : HI M w w46 [imm (.slice a8 rs.length c8) rs, box bb2 #[.int .i64 n_, .slice a8 rs.length c8] 35, imm (.slice a7 (poR (o11I h)).length c7) (poR (o11I h)), imm (.slice a6 (poR (o11I h)).length c6) (poR (o11I h)), box bb1 #[.int .i64 ((o11I h).length : Int), .slice a3 (coR (o11I h) (o11F h)).length c3] 35, imm (.slice a3 (coR (o11I h) (o11F h)).length c3) (coR (o11I h) (o11F h)), box bb0 #[.slice a0 (o11V h).length c0, .slice a1 (o11I h).length c1, .slice a2 (o11F h).length c2] 29, imm (.slice a2 (o11F h).length c2) (o11F h), imm (.slice a1 (o11I h).length c1) (o11I h), imm (.slice a0 (o11V h).length c0) (o11V h), imm (.slice a_l l.length c_l) l, imm (.slice a_h h.length c_h) h] := H58.pickN [0, 2, 3, 4, 5, 6, 7, 8, 9, 10, 11, 12] (by decide) rfl
              refine loopN _ ?_ ⟨(j + 1), n_, rs, a8, c8, rfl, s46, s47, s48, s49, (ieq rfl (by first | rfl | omega | (push_cast; omega))), H59, (by first | assumption | omega | simp | (simp; omega)), (by first | exact h1 | (rw [h1]; exact (mo_rf (l := l) h2 hx0 (by omega) hw_ (by omega)).1)), (by first | (rw [h1]; exact (mo_rf h2 hx0 (by omega) hw_ (by omega)).2) | (rw [h2]; exact mo_no hx0 (by omega)))⟩
              omega
          ·
            have p3 := of_decide_eq_false b3
            refine ex (then_exit (loop_exit (inb_here (nx (sq (sq (rg (k (asg (v := .int .i64 0) rfl rfl (z (nx (bk ?_))))))))))))
            have H58 := H57.put (it := imm (.slice a8 rs.length c8) rs) rfl (H57.rv 0 rfl)
            refine lp (fun m f w' => ∃ (q : Nat) (n2_ : Int) (rs2 : List (List (BitVec 64))) (a9 : Option Addr) (c9 : Nat), m = l.length - q ∧ f 1 = .slice a_l l.length c_l ∧ f 7 = .pointer (some ⟨bb1, 0, none⟩) ∧ f 8 = .pointer (some ⟨bb2, 0, none⟩) ∧ f 11 = .int .i64 (q : Int) ∧  HI M w w' [imm (.slice a9 rs2.length c9) rs2, imm (.slice a8 rs.length c8) rs, box bb2 #[.int .i64 n2_, .slice a9 rs2.length c9] 35, imm (.slice a7 (poR (o11I h)).length c7) (poR (o11I h)), imm (.slice a6 (poR (o11I h)).length c6) (poR (o11I h)), box bb1 #[.int .i64 ((o11I h).length : Int), .slice a3 (coR (o11I h) (o11F h)).length c3] 35, imm (.slice a3 (coR (o11I h) (o11F h)).length c3) (coR (o11I h) (o11F h)), box bb0 #[.slice a0 (o11V h).length c0, .slice a1 (o11I h).length c1, .slice a2 (o11F h).length c2] 29, imm (.slice a2 (o11F h).length c2) (o11F h), imm (.slice a1 (o11I h).length c1) (o11I h), imm (.slice a0 (o11V h).length c0) (o11V h), imm (.slice a_l l.length c_l) l, imm (.slice a_h h.length c_h) h] ∧ (q ≤ l.length) ∧ (n2_ = ((o11I h).length : Int)) ∧ (rs2 = moR (o11I h) (o11F h) l j q)) _ ⟨0, n_, rs, a8, c8, rfl, s46, s48, s49, (ieq rfl (by first | rfl | omega | simp)), H58, (by first | assumption | omega | simp | (simp; omega)), (by exact h1), (by exact h2)⟩ ?_
            rintro _ f30 w47 ⟨q, n2_, rs2, a9, c9, rfl, s51, s52, s53, s54, H59, hq_, h3, h4⟩
            refine sq (sq (rg (k (mv rfl s54 (k (mv rfl s51 (k (lnS rfl rfl un38 (k (lss rfl rfl rfl rfl (k (mv (v := .bool (decide ((q : Int) < (l.length : Int)))) rfl rfl ?_))))))))))))
            rcases Bool.eq_false_or_eq_true (decide ((q : Int) < (l.length : Int))) with b4 | b4
            · -- decide ((q : Int) < (l.length : Int)) is True
              have p4 := of_decide_eq_true b4
              refine k (gy rfl rfl rfl b4 (fa fl35_0 rfl s52 (k (gy rfl rfl rfl b4 (ldX H59 5 rfl ty3 rfl rfl (by decide) rfl (k (gy rfl rfl rfl b4 (gtr rfl rfl rfl rfl (k (pickT rfl rfl rfl rfl b4 rfl (z (nx ?_))))))))))))
              refine cd (b := decide (0 < ((o11I h).length : Int))) rfl rfl (fun b5 => ?_) (fun b5 => ?_)
              ·
                have p5 := of_decide_eq_true b5
                refine sk (nx (sq (bk ?_)))
                have hn_ : 0 < ((o11I h).length : Int) := by omega
                obtain ⟨⟨_, _⟩, _, _⟩ := inM_two.1 (prK_in hn_ (l.getD q (0#8, 0#8)))
                obtain ⟨x0, hx0⟩ : ∃ x, l[(q : Int).toNat]? = some x := ⟨_, List.getElem?_eq_getElem (by first | omega | (simp; omega))⟩
                refine dr3 21 [fun (v : Value) (w' : World) => v = .agg #[.int .i64 n2_, .slice a9 rs2.length c9], fun (v : Value) (w' : World) => v = .slice a_l l.length c_l, fun (v : Value) (w' : World) => v = .int .i64 (q : Int), fun (v : Value) (w' : World) => ∃ (ad0 : Addr), v = .pointer (some ad0) ∧ At (MS M [imm (.slice a9 rs2.length c9) rs2, imm (.slice a8 rs.length c8) rs, box bb2 #[.int .i64 n2_, .slice a9 rs2.length c9] 35, imm (.slice a7 (poR (o11I h)).length c7) (poR (o11I h)), imm (.slice a6 (poR (o11I h)).length c6) (poR (o11I h)), box bb1 #[.int .i64 ((o11I h).length : Int), .slice a3 (coR (o11I h) (o11F h)).length c3] 35, imm (.slice a3 (coR (o11I h) (o11F h)).length c3) (coR (o11I h) (o11F h)), box bb0 #[.slice a0 (o11V h).length c0, .slice a1 (o11I h).length c1, .slice a2 (o11F h).length c2] 29, imm (.slice a2 (o11F h).length c2) (o11F h), imm (.slice a1 (o11I h).length c1) (o11I h), imm (.slice a0 (o11V h).length c0) (o11V h), imm (.slice a_l l.length c_l) l, imm (.slice a_h h.length c_h) h]) w' ad0 x0, fun (v : Value) (w' : World) => ∃ (ad0 : Addr), v = .pointer (some ((ad0).add 0)) ∧ At (MS M [imm (.slice a9 rs2.length c9) rs2, imm (.slice a8 rs.length c8) rs, box bb2 #[.int .i64 n2_, .slice a9 rs2.length c9] 35, imm (.slice a7 (poR (o11I h)).length c7) (poR (o11I h)), imm (.slice a6 (poR (o11I h)).length c6) (poR (o11I h)), box bb1 #[.int .i64 ((o11I h).length : Int), .slice a3 (coR (o11I h) (o11F h)).length c3] 35, imm (.slice a3 (coR (o11I h) (o11F h)).length c3) (coR (o11I h) (o11F h)), box bb0 #[.slice a0 (o11V h).length c0, .slice a1 (o11I h).length c1, .slice a2 (o11F h).length c2] 29, imm (.slice a2 (o11F h).length c2) (o11F h), imm (.slice a1 (o11I h).length c1) (o11I h), imm (.slice a0 (o11V h).length c0) (o11V h), imm (.slice a_l l.length c_l) l, imm (.slice a_h h.length c_h) h]) w' ad0 x0, fun (v : Value) (w' : World) => v = U8 x0.1, fun (v : Value) (w' : World) => v = .int .i64 (x0.1.toNat : Int), fun (v : Value) (w' : World) => v = .pointer (some ⟨bb1, 0, none⟩), fun (v : Value) (w' : World) => v = .int .i64 ((o11I h).length : Int), fun (v : Value) (w' : World) => v = .int .i64 ((x0.1.toNat : Int) % ((o11I h).length : Int)), fun (v : Value) (w' : World) => v = .slice a_l l.length c_l, fun (v : Value) (w' : World) => v = .int .i64 (q : Int), fun (v : Value) (w' : World) => ∃ (ad1 : Addr), v = .pointer (some ad1) ∧ At (MS M [imm (.slice a9 rs2.length c9) rs2, imm (.slice a8 rs.length c8) rs, box bb2 #[.int .i64 n2_, .slice a9 rs2.length c9] 35, imm (.slice a7 (poR (o11I h)).length c7) (poR (o11I h)), imm (.slice a6 (poR (o11I h)).length c6) (poR (o11I h)), box bb1 #[.int .i64 ((o11I h).length : Int), .slice a3 (coR (o11I h) (o11F h)).length c3] 35, imm (.slice a3 (coR (o11I h) (o11F h)).length c3) (coR (o11I h) (o11F h)), box bb0 #[.slice a0 (o11V h).length c0, .slice a1 (o11I h).length c1, .slice a2 (o11F h).length c2] 29, imm (.slice a2 (o11F h).length c2) (o11F h), imm (.slice a1 (o11I h).length c1) (o11I h), imm (.slice a0 (o11V h).length c0) (o11V h), imm (.slice a_l l.length c_l) l, imm (.slice a_h h.length c_h) h]) w' ad1 x0, fun (v : Value) (w' : World) => ∃ (ad1 : Addr), v = .pointer (some ((ad1).add 1)) ∧ At (MS M [imm (.slice a9 rs2.length c9) rs2, imm (.slice a8 rs.length c8) rs, box bb2 #[.int .i64 n2_, .slice a9 rs2.length c9] 35, imm (.slice a7 (poR (o11I h)).length c7) (poR (o11I h)), imm (.slice a6 (poR (o11I h)).length c6) (poR (o11I h)), box bb1 #[.int .i64 ((o11I h).length : Int), .slice a3 (coR (o11I h) (o11F h)).length c3] 35, imm (.slice a3 (coR (o11I h) (o11F h)).length c3) (coR (o11I h) (o11F h)), box bb0 #[.slice a0 (o11V h).length c0, .slice a1 (o11I h).length c1, .slice a2 (o11F h).length c2] 29, imm (.slice a2 (o11F h).length c2) (o11F h), imm (.slice a1 (o11I h).length c1) (o11I h), imm (.slice a0 (o11V h).length c0) (o11V h), imm (.slice a_l l.length c_l) l, imm (.slice a_h h.length c_h) h]) w' ad1 x0, fun (v : Value) (w' : World) => v = U8 x0.2, fun (v : Value) (w' : World) => v = .int .i64 (x0.2.toNat : Int), fun (v : Value) (w' : World) => v = .pointer (some ⟨bb1, 0, none⟩), fun (v : Value) (w' : World) => v = .int .i64 ((o11I h).length : Int), fun (v : Value) (w' : World) => v = .int .i64 ((x0.2.toNat : Int) % ((o11I h).length : Int)), fun (v : Value) (w' : World) => ∃ (a10 : Option Addr) (c10 : Nat), v = .tuple #[.agg #[.int .i64 (setMN n2_ ((x0.1.toNat : Int) % ((o11I h).length : Int)) ((x0.2.toNat : Int) % ((o11I h).length : Int))), .slice a10 (setMR n2_ rs2 ((x0.1.toNat : Int) % ((o11I h).length : Int)) ((x0.2.toNat : Int) % ((o11I h).length : Int))).length c10], .int .i64 (setME n2_ ((x0.1.toNat : Int) % ((o11I h).length : Int)) ((x0.2.toNat : Int) % ((o11I h).length : Int)))] ∧ RV (MS M [imm (.slice a9 rs2.length c9) rs2, imm (.slice a8 rs.length c8) rs, box bb2 #[.int .i64 n2_, .slice a9 rs2.length c9] 35, imm (.slice a7 (poR (o11I h)).length c7) (poR (o11I h)), imm (.slice a6 (poR (o11I h)).length c6) (poR (o11I h)), box bb1 #[.int .i64 ((o11I h).length : Int), .slice a3 (coR (o11I h) (o11F h)).length c3] 35, imm (.slice a3 (coR (o11I h) (o11F h)).length c3) (coR (o11I h) (o11F h)), box bb0 #[.slice a0 (o11V h).length c0, .slice a1 (o11I h).length c1, .slice a2 (o11F h).length c2] 29, imm (.slice a2 (o11F h).length c2) (o11F h), imm (.slice a1 (o11I h).length c1) (o11I h), imm (.slice a0 (o11V h).length c0) (o11V h), imm (.slice a_l l.length c_l) l, imm (.slice a_h h.length c_h) h]) w' (.slice a10 (setMR n2_ rs2 ((x0.1.toNat : Int) % ((o11I h).length : Int)) ((x0.2.toNat : Int) % ((o11I h).length : Int))).length c10) (setMR n2_ rs2 ((x0.1.toNat : Int) % ((o11I h).length : Int)) ((x0.2.toNat : Int) % ((o11I h).length : Int))), fun (v : Value) (w' : World) => ∃ (a10 : Option Addr) (c10 : Nat), v = .tuple #[.agg #[.int .i64 (setMN n2_ ((x0.1.toNat : Int) % ((o11I h).length : Int)) ((x0.2.toNat : Int) % ((o11I h).length : Int))), .slice a10 (setMR n2_ rs2 ((x0.1.toNat : Int) % ((o11I h).length : Int)) ((x0.2.toNat : Int) % ((o11I h).length : Int))).length c10], .int .i64 (setME n2_ ((x0.1.toNat : Int) % ((o11I h).length : Int)) ((x0.2.toNat : Int) % ((o11I h).length : Int)))] ∧ RV (MS M [imm (.slice a9 rs2.length c9) rs2, imm (.slice a8 rs.length c8) rs, box bb2 #[.int .i64 n2_, .slice a9 rs2.length c9] 35, imm (.slice a7 (poR (o11I h)).length c7) (poR (o11I h)), imm (.slice a6 (poR (o11I h)).length c6) (poR (o11I h)), box bb1 #[.int .i64 ((o11I h).length : Int), .slice a3 (coR (o11I h) (o11F h)).length c3] 35, imm (.slice a3 (coR (o11I h) (o11F h)).length c3) (coR (o11I h) (o11F h)), box bb0 #[.slice a0 (o11V h).length c0, .slice a1 (o11I h).length c1, .slice a2 (o11F h).length c2] 29, imm (.slice a2 (o11F h).length c2) (o11F h), imm (.slice a1 (o11I h).length c1) (o11I h), imm (.slice a0 (o11V h).length c0) (o11V h), imm (.slice a_l l.length c_l) l, imm (.slice a_h h.length c_h) h]) w' (.slice a10 (setMR n2_ rs2 ((x0.1.toNat : Int) % ((o11I h).length : Int)) ((x0.2.toNat : Int) % ((o11I h).length : Int))).length c10) (setMR n2_ rs2 ((x0.1.toNat : Int) % ((o11I h).length : Int)) ((x0.2.toNat : Int) % ((o11I h).length : Int)))] rfl (by kernel_rfl) ?_ ?_
                ·
                  refine ⟨fun _ => ⟨fun f31 w49 hf29 xt44 hp29 => ?_, fun _ _ _ _ h => h⟩, ?_⟩
                  ·
                    have H62 := H59.ext xt44
                    refine ldX H62 2 rfl ty35 rfl ((hf29 8 rfl).trans s53) (by decide) rfl ?_
                    exact ⟨_, rfl, Ext.refl _, rfl⟩
                  refine ⟨fun _ => ⟨fun f32 w50 hf30 xt45 hp30 => ?_, fun _ _ _ _ h => h⟩, ?_⟩
                  ·
                    have H63 := H59.ext xt45
                    refine mv rfl ((hf30 1 rfl).trans s51) ?_
                    exact ⟨_, rfl, Ext.refl _, rfl⟩
                  refine ⟨fun _ => ⟨fun f33 w51 hf31 xt46 hp31 => ?_, fun _ _ _ _ h => h⟩, ?_⟩
                  ·
                    have H64 := H59.ext xt46
                    refine mv rfl ((hf31 11 rfl).trans s54) ?_
                    exact ⟨_, rfl, Ext.refl _, rfl⟩
                  refine ⟨fun _ => ⟨fun f34 w52 hf32 xt47 hp32 => ?_, by rintro _ _ _ x_ ⟨ad0, e_, hA0⟩; exact ⟨ad0, e_, hA0.lift (Up.ext x_)⟩⟩, ?_⟩
                  ·
                    have H65 := H59.ext xt47
                    have s55 : f34 107 = .slice a_l l.length c_l := hp32 1 rfl rfl
                    have s56 : f34 108 = .int .i64 (q : Int) := hp32 2 rfl rfl
                    refine ia (H65.rv 11 rfl) rfl rfl s55 s56 (by first | omega | (simp; omega)) un38 ty44 ?_
                    intro ad2 x2 hx2 hA2
                    obtain rfl : x0 = x2 := Option.some.inj (hx0.symm.trans hx2)
                    exact ⟨_, rfl, Ext.refl _, ⟨ad2, rfl, hA2⟩⟩
                  refine ⟨fun _ => ⟨fun f35 w53 hf33 xt48 hp33 => ?_, by rintro _ _ _ x_ ⟨ad0, e_, hA0⟩; exact ⟨ad0, e_, hA0.lift (Up.ext x_)⟩⟩, ?_⟩
                  ·
                    have H66 := H59.ext xt48
                    obtain ⟨ad3, s57, hA3⟩ : ∃ (ad3 : Addr), f35 109 = .pointer (some ad3) ∧ At (MS M [imm (.slice a9 rs2.length c9) rs2, imm (.slice a8 rs.length c8) rs, box bb2 #[.int .i64 n2_, .slice a9 rs2.length c9] 35, imm (.slice a7 (poR (o11I h)).length c7) (poR (o11I h)), imm (.slice a6 (poR (o11I h)).length c6) (poR (o11I h)), box bb1 #[.int .i64 ((o11I h).length : Int), .slice a3 (coR (o11I h) (o11F h)).length c3] 35, imm (.slice a3 (coR (o11I h) (o11F h)).length c3) (coR (o11I h) (o11F h)), box bb0 #[.slice a0 (o11V h).length c0, .slice a1 (o11I h).length c1, .slice a2 (o11F h).length c2] 29, imm (.slice a2 (o11F h).length c2) (o11F h), imm (.slice a1 (o11I h).length c1) (o11I h), imm (.slice a0 (o11V h).length c0) (o11V h), imm (.slice a_l l.length c_l) l, imm (.slice a_h h.length c_h) h]) w53 ad3 x0 := hp33 3 rfl rfl
                    have H67 := H66.put (it := atI ad3 x0) rfl hA3
                    refine iaA rfl rfl s57 rfl (by omega) un44 ty5 ?_
                    exact ⟨_, rfl, Ext.refl _, ⟨ad3, rfl, (by assumption)⟩⟩
                  refine ⟨fun _ => ⟨fun f36 w54 hf34 xt49 hp34 => ?_, fun _ _ _ _ h => h⟩, ?_⟩
                  ·
                    have H68 := H59.ext xt49
                    obtain ⟨ad4, s58, hA4⟩ : ∃ (ad4 : Addr), f36 110 = .pointer (some ((ad4).add 0)) ∧ At (MS M [imm (.slice a9 rs2.length c9) rs2, imm (.slice a8 rs.length c8) rs, box bb2 #[.int .i64 n2_, .slice a9 rs2.length c9] 35, imm (.slice a7 (poR (o11I h)).length c7) (poR (o11I h)), imm (.slice a6 (poR (o11I h)).length c6) (poR (o11I h)), box bb1 #[.int .i64 ((o11I h).length : Int), .slice a3 (coR (o11I h) (o11F h)).length c3] 35, imm (.slice a3 (coR (o11I h) (o11F h)).length c3) (coR (o11I h) (o11F h)), box bb0 #[.slice a0 (o11V h).length c0, .slice a1 (o11I h).length c1, .slice a2 (o11F h).length c2] 29, imm (.slice a2 (o11F h).length c2) (o11F h), imm (.slice a1 (o11I h).length c1) (o11I h), imm (.slice a0 (o11V h).length c0) (o11V h), imm (.slice a_l l.length c_l) l, imm (.slice a_h h.length c_h) h]) w54 ad4 x0 := hp34 4 rfl rfl
                    have H69 := H68.put (it := atI ad4 x0) rfl hA4
                    refine ld8 ((H69.atv 0 rfl)).fst.w ty5 rfl s58 ?_
                    exact ⟨_, rfl, Ext.refl _, rfl⟩
                  refine ⟨fun _ => ⟨fun f37 w55 hf35 xt50 hp35 => ?_, fun _ _ _ _ h => h⟩, ?_⟩
                  ·
                    have H70 := H59.ext xt50
                    have s59 : f37 111 = U8 x0.1 := hp35 5 rfl rfl
                    refine cvI rfl s59 (by unfold I64 at *; omega) un5 un3 ?_
                    exact ⟨_, rfl, Ext.refl _, rfl⟩
                  refine ⟨fun _ => ⟨fun f38 w56 hf36 xt51 hp36 => ?_, fun _ _ _ _ h => h⟩, ?_⟩
                  ·
                    have H71 := H59.ext xt51
                    refine fa fl35_0 rfl ((hf36 7 rfl).trans s52) ?_
                    exact ⟨_, rfl, Ext.refl _, rfl⟩
                  refine ⟨fun _ => ⟨fun f39 w57 hf37 xt52 hp37 => ?_, fun _ _ _ _ h => h⟩, ?_⟩
                  ·
                    have H72 := H59.ext xt52
                    have s60 : f39 113 = .pointer (some ⟨bb1, 0, none⟩) := hp37 7 rfl rfl
                    refine ldX H72 5 rfl ty3 rfl s60 (by decide) rfl ?_
                    exact ⟨_, rfl, Ext.refl _, rfl⟩
                  refine ⟨fun _ => ⟨fun f40 w58 hf38 xt53 hp38 => ?_, fun _ _ _ _ h => h⟩, ?_⟩
                  ·
                    have H73 := H59.ext xt53
                    have s61 : f40 112 = .int .i64 (x0.1.toNat : Int) := hp38 6 rfl rfl
                    have s62 : f40 114 = .int .i64 ((o11I h).length : Int) := hp38 8 rfl rfl
                    refine rem rfl rfl s61 s62 (by first | omega | (simp; omega)) ?_
                    exact ⟨_, rfl, Ext.refl _, rfl⟩
                  refine ⟨fun _ => ⟨fun f41 w59 hf39 xt54 hp39 => ?_, fun _ _ _ _ h => h⟩, ?_⟩
                  ·
                    have H74 := H59.ext xt54
                    refine mv rfl ((hf39 1 rfl).trans s51) ?_
                    exact ⟨_, rfl, Ext.refl _, rfl⟩
                  refine ⟨fun _ => ⟨fun f42 w60 hf40 xt55 hp40 => ?_, fun _ _ _ _ h => h⟩, ?_⟩
                  ·
                    have H75 := H59.ext xt55
                    refine mv rfl ((hf40 11 rfl).trans s54) ?_
                    exact ⟨_, rfl, Ext.refl _, rfl⟩
                  refine ⟨fun _ => ⟨fun f43 w61 hf41 xt56 hp41 => ?_, by rintro _ _ _ x_ ⟨ad1, e_, hA1⟩; exact ⟨ad1, e_, hA1.lift (Up.ext x_)⟩⟩, ?_⟩
                  ·
                    have H76 := H59.ext xt56
                    have s63 : f43 116 = .slice a_l l.length c_l := hp41 10 rfl rfl
                    have s64 : f43 117 = .int .i64 (q : Int) := hp41 11 rfl rfl
                    refine ia (H76.rv 11 rfl) rfl rfl s63 s64 (by first | omega | (simp; omega)) un38 ty44 ?_
                    intro ad5 x3 hx3 hA5
                    obtain rfl : x0 = x3 := Option.some.inj (hx0.symm.trans hx3)
                    exact ⟨_, rfl, Ext.refl _, ⟨ad5, rfl, hA5⟩⟩
                  refine ⟨fun _ => ⟨fun f44 w62 hf42 xt57 hp42 => ?_, by rintro _ _ _ x_ ⟨ad1, e_, hA1⟩; exact ⟨ad1, e_, hA1.lift (Up.ext x_)⟩⟩, ?_⟩
                  ·
                    have H77 := H59.ext xt57
                    obtain ⟨ad6, s65, hA6⟩ : ∃ (ad6 : Addr), f44 118 = .pointer (some ad6) ∧ At (MS M [imm (.slice a9 rs2.length c9) rs2, imm (.slice a8 rs.length c8) rs, box bb2 #[.int .i64 n2_, .slice a9 rs2.length c9] 35, imm (.slice a7 (poR (o11I h)).length c7) (poR (o11I h)), imm (.slice a6 (poR (o11I h)).length c6) (poR (o11I h)), box bb1 #[.int .i64 ((o11I h).length : Int), .slice a3 (coR (o11I h) (o11F h)).length c3] 35, imm (.slice a3 (coR (o11I h) (o11F h)).length c3) (coR (o11I h) (o11F h)), box bb0 #[.slice a0 (o11V h).length c0, .slice a1 (o11I h).length c1, .slice a2 (o11F h).length c2] 29, imm (.slice a2 (o11F h).length c2) (o11F h), imm (.slice a1 (o11I h).length c1) (o11I h), imm (.slice a0 (o11V h).length c0) (o11V h), imm (.slice a_l l.length c_l) l, imm (.slice a_h h.length c_h) h]) w62 ad6 x0 := hp42 12 rfl rfl
                    have H78 := H77.put (it := atI ad6 x0) rfl hA6
                    refine iaA rfl rfl s65 rfl (by omega) un44 ty5 ?_
                    exact ⟨_, rfl, Ext.refl _, ⟨ad6, rfl, (by assumption)⟩⟩
                  refine ⟨fun _ => ⟨fun f45 w63 hf43 xt58 hp43 => ?_, fun _ _ _ _ h => h⟩, ?_⟩
                  ·
                    have H79 := H59.ext xt58
                    obtain ⟨ad7, s66, hA7⟩ : ∃ (ad7 : Addr), f45 119 = .pointer (some ((ad7).add 1)) ∧ At (MS M [imm (.slice a9 rs2.length c9) rs2, imm (.slice a8 rs.length c8) rs, box bb2 #[.int .i64 n2_, .slice a9 rs2.length c9] 35, imm (.slice a7 (poR (o11I h)).length c7) (poR (o11I h)), imm (.slice a6 (poR (o11I h)).length c6) (poR (o11I h)), box bb1 #[.int .i64 ((o11I h).length : Int), .slice a3 (coR (o11I h) (o11F h)).length c3] 35, imm (.slice a3 (coR (o11I h) (o11F h)).length c3) (coR (o11I h) (o11F h)), box bb0 #[.slice a0 (o11V h).length c0, .slice a1 (o11I h).length c1, .slice a2 (o11F h).length c2] 29, imm (.slice a2 (o11F h).length c2) (o11F h), imm (.slice a1 (o11I h).length c1) (o11I h), imm (.slice a0 (o11V h).length c0) (o11V h), imm (.slice a_l l.length c_l) l, imm (.slice a_h h.length c_h) h]) w63 ad7 x0 := hp43 13 rfl rfl
                    have H80 := H79.put (it := atI ad7 x0) rfl hA7
                    refine ld8 ((H80.atv 0 rfl)).snd.w ty5 rfl s66 ?_
                    exact ⟨_, rfl, Ext.refl _, rfl⟩
                  refine ⟨fun _ => ⟨fun f46 w64 hf44 xt59 hp44 => ?_, fun _ _ _ _ h => h⟩, ?_⟩
                  ·
                    have H81 := H59.ext xt59
                    have s67 : f46 120 = U8 x0.2 := hp44 14 rfl rfl
                    refine cvI rfl s67 (by unfold I64 at *; omega) un5 un3 ?_
                    exact ⟨_, rfl, Ext.refl _, rfl⟩
                  refine ⟨fun _ => ⟨fun f47 w65 hf45 xt60 hp45 => ?_, fun _ _ _ _ h => h⟩, ?_⟩
                  ·
                    have H82 := H59.ext xt60
                    refine fa fl35_0 rfl ((hf45 7 rfl).trans s52) ?_
                    exact ⟨_, rfl, Ext.refl _, rfl⟩
                  refine ⟨fun _ => ⟨fun f48 w66 hf46 xt61 hp46 => ?_, fun _ _ _ _ h => h⟩, ?_⟩
                  ·
                    have H83 := H59.ext xt61
                    have s68 : f48 122 = .pointer (some ⟨bb1, 0, none⟩) := hp46 16 rfl rfl
                    refine ldX H83 5 rfl ty3 rfl s68 (by decide) rfl ?_
                    exact ⟨_, rfl, Ext.refl _, rfl⟩
                  refine ⟨fun _ => ⟨fun f49 w67 hf47 xt62 hp47 => ?_, fun _ _ _ _ h => h⟩, ?_⟩
                  ·
                    have H84 := H59.ext xt62
                    have s69 : f49 121 = .int .i64 (x0.2.toNat : Int) := hp47 15 rfl rfl
                    have s70 : f49 123 = .int .i64 ((o11I h).length : Int) := hp47 17 rfl rfl
                    refine rem rfl rfl s69 s70 (by first | omega | (simp; omega)) ?_
                    exact ⟨_, rfl, Ext.refl _, rfl⟩
                  refine ⟨fun _ => ⟨fun f50 w68 hf48 xt63 hp48 => ?_, by rintro _ _ _ x_ ⟨a10, c10, e_, rv9⟩; exact ⟨a10, c10, e_, rv9.lift (Up.ext x_)⟩⟩, ?_⟩
                  ·
                    have H85 := H59.ext xt63
                    have s71 : f50 106 = .agg #[.int .i64 n2_, .slice a9 rs2.length c9] := hp48 0 rfl rfl
                    have s72 : f50 115 = .int .i64 ((x0.1.toNat : Int) % ((o11I h).length : Int)) := hp48 9 rfl rfl
                    have s73 : f50 124 = .int .i64 ((x0.2.toNat : Int) % ((o11I h).length : Int)) := hp48 18 rfl rfl
                    have cc12 := ref03_Set (mn := n2_) (mr := rs2) (i := ((x0.1.toNat : Int) % ((o11I h).length : Int))) (j := ((x0.2.toNat : Int) % ((o11I h).length : Int))) (w := w68) H85.mb (by unfold I64; omega) (H85.rv 0 rfl) (by obtain ⟨⟨_, _⟩, _, _⟩ := inM_two.1 (prK_in hn_ x0); unfold prK at *; unfold I64; omega) (by obtain ⟨⟨_, _⟩, _, _⟩ := inM_two.1 (prK_in hn_ x0); unfold prK at *; unfold I64; omega) (by first | (rw [h1, h2]; exact (mat_sq (by omega) _).1) | (rw [h3, h4]; exact (mat_sq (by omega) _).1)) (by rw [h4]; exact (mat_sq (by omega) _).2) (by omega)
                    refine ca go21 rfl (ec s71 (ec s72 (ec s73 e0))) cc12 ?_
                    rintro _ w69 ⟨a11, c11, rfl, xt64, rv10⟩
                    have rv11 := OwnsG.rv rv10 H85.mb
                    have H86 := H85.ext xt64
                    have H87 := H86.put (it := imm (.slice a11 (setMR n2_ rs2 ((x0.1.toNat : Int) % ((o11I h).length : Int)) ((x0.2.toNat : Int) % ((o11I h).length : Int))).length c11) (setMR n2_ rs2 ((x0.1.toNat : Int) % ((o11I h).length : Int)) ((x0.2.toNat : Int) % ((o11I h).length : Int)))) rfl rv11
                    exact ⟨_, rfl, xt64, ⟨a11, c11, rfl, rv11⟩⟩
                  refine ⟨fun _ => ⟨fun f51 w70 hf49 xt65 hp49 => ?_, by rintro _ _ _ x_ ⟨a10, c10, e_, rv9⟩; exact ⟨a10, c10, e_, rv9.lift (Up.ext x_)⟩⟩, ?_⟩
                  ·
                    have H88 := H59.ext xt65
                    obtain ⟨a12, c12, s74, rv12⟩ : ∃ (a12 : Option Addr) (c12 : Nat), f51 125 = .tuple #[.agg #[.int .i64 (setMN n2_ ((x0.1.toNat : Int) % ((o11I h).length : Int)) ((x0.2.toNat : Int) % ((o11I h).length : Int))), .slice a12 (setMR n2_ rs2 ((x0.1.toNat : Int) % ((o11I h).length : Int)) ((x0.2.toNat : Int) % ((o11I h).length : Int))).length c12], .int .i64 (setME n2_ ((x0.1.toNat : Int) % ((o11I h).length : Int)) ((x0.2.toNat : Int) % ((o11I h).length : Int)))] ∧ RV (MS M [imm (.slice a9 rs2.length c9) rs2, imm (.slice a8 rs.length c8) rs, box bb2 #[.int .i64 n2_, .slice a9 rs2.length c9] 35, imm (.slice a7 (poR (o11I h)).length c7) (poR (o11I h)), imm (.slice a6 (poR (o11I h)).length c6) (poR (o11I h)), box bb1 #[.int .i64 ((o11I h).length : Int), .slice a3 (coR (o11I h) (o11F h)).length c3] 35, imm (.slice a3 (coR (o11I h) (o11F h)).length c3) (coR (o11I h) (o11F h)), box bb0 #[.slice a0 (o11V h).length c0, .slice a1 (o11I h).length c1, .slice a2 (o11F h).length c2] 29, imm (.slice a2 (o11F h).length c2) (o11F h), imm (.slice a1 (o11I h).length c1) (o11I h), imm (.slice a0 (o11V h).length c0) (o11V h), imm (.slice a_l l.length c_l) l, imm (.slice a_h h.length c_h) h]) w70 (.slice a12 (setMR n2_ rs2 ((x0.1.toNat : Int) % ((o11I h).length : Int)) ((x0.2.toNat : Int) % ((o11I h).length : Int))).length c12) (setMR n2_ rs2 ((x0.1.toNat : Int) % ((o11I h).length : Int)) ((x0.2.toNat : Int) % ((o11I h).length : Int))) := hp49 19 rfl rfl
                    have H89 := H88.put (it := imm (.slice a12 (setMR n2_ rs2 ((x0.1.toNat : Int) % ((o11I h).length : Int)) ((x0.2.toNat : Int) % ((o11I h).length : Int))).length c12) (setMR n2_ rs2 ((x0.1.toNat : Int) % ((o11I h).length : Int)) ((x0.2.toNat : Int) % ((o11I h).length : Int)))) rfl rv12
                    refine mv rfl s74 ?_
                    exact ⟨_, rfl, Ext.refl _, ⟨a12, c12, rfl, rv12⟩⟩
                  exact DSteps.rest rfl _
                · intro f52 w71 hf50 xt66 hp50
                  have H90 := H59.ext xt66
                  have s75 : f52 1 = .slice a_l l.length c_l := (hf50 1 rfl).trans s51
                  have s76 : f52 7 = .pointer (some ⟨bb1, 0, none⟩) := (hf50 7 rfl).trans s52
                  have s77 : f52 8 = .pointer (some ⟨bb2, 0, none⟩) := (hf50 8 rfl).trans s53
                  have s78 : f52 11 = .int .i64 (q : Int) := (hf50 11 rfl).trans s54
                  obtain ⟨a13, c13, s79, rv13⟩ : ∃ (a13 : Option Addr) (c13 : Nat), f52 105 = .tuple #[.agg #[.int .i64 (setMN n2_ ((x0.1.toNat : Int) % ((o11I h).length : Int)) ((x0.2.toNat : Int) % ((o11I h).length : Int))), .slice a13 (setMR n2_ rs2 ((x0.1.toNat : Int) % ((o11I h).length : Int)) ((x0.2.toNat : Int) % ((o11I h).length : Int))).length c13], .int .i64 (setME n2_ ((x0.1.toNat : Int) % ((o11I h).length : Int)) ((x0.2.toNat : Int) % ((o11I h).length : Int)))] ∧ RV (MS M [imm (.slice a9 rs2.length c9) rs2, imm (.slice a8 rs.length c8) rs, box bb2 #[.int .i64 n2_, .slice a9 rs2.length c9] 35, imm (.slice a7 (poR (o11I h)).length c7) (poR (o11I h)), imm (.slice a6 (poR (o11I h)).length c6) (poR (o11I h)), box bb1 #[.int .i64 ((o11I h).length : Int), .slice a3 (coR (o11I h) (o11F h)).length c3] 35, imm (.slice a3 (coR (o11I h) (o11F h)).length c3) (coR (o11I h) (o11F h)), box bb0 #[.slice a0 (o11V h).length c0, .slice a1 (o11I h).length c1, .slice a2 (o11F h).length c2] 29, imm (.slice a2 (o11F h).length c2) (o11F h), imm (.slice a1 (o11I h).length c1) (o11I h), imm (.slice a0 (o11V h).length c0) (o11V h), imm (.slice a_l l.length c_l) l, imm (.slice a_h h.length c_h) h]) w71 (.slice a13 (setMR n2_ rs2 ((x0.1.toNat : Int) % ((o11I h).length : Int)) ((x0.2.toNat : Int) % ((o11I h).length : Int))).length c13) (setMR n2_ rs2 ((x0.1.toNat : Int) % ((o11I h).length : Int)) ((x0.2.toNat : Int) % ((o11I h).length : Int))) := hp50 20 rfl
                  have H91 := H90.put (it := imm (.slice a13 (setMR n2_ rs2 ((x0.1.toNat : Int) % ((o11I h).length : Int)) ((x0.2.toNat : Int) % ((o11I h).length : Int))).length c13) (setMR n2_ rs2 ((x0.1.toNat : Int) % ((o11I h).length : Int)) ((x0.2.toNat : Int) % ((o11I h).length : Int)))) rfl rv13
                  show TA _ _ _ _ 3 [true, true, true, true, true, true, true, true, true, true, true, true, true, true, true, true, true, true, true, true, true, false, false, false] _ _
                  refine ta [21, 22] (by kernel_rfl) rfl ⟨⟨_, rfl, ?_⟩, ⟨_, rfl, ?_⟩, trivial⟩
                  ·
                    refine xt rfl s79 rfl ?_
                    refine ta [22, 23] (by kernel_rfl) rfl ⟨⟨_, rfl, ?_⟩, ⟨_, rfl, ?_⟩, trivial⟩
                    ·
                      refine xt rfl s79 rfl ?_
                      refine ta [23] (by kernel_rfl) rfl ⟨⟨_, rfl, ?_⟩, trivial⟩
                      ·
                        refine stX H91 3 rfl ty35 rfl rfl s77 rfl rfl rfl rfl ?_
                        intro w72 (H92 : HI M w w72 [imm (.slice a13 (setMR n2_ rs2 ((x0.1.toNat : Int) % ((o11I h).length : Int)) ((x0.2.toNat : Int) % ((o11I h).length : Int))).length c13) (setMR n2_ rs2 ((x0.1.toNat : Int) % ((o11I h).length : Int)) ((x0.2.toNat : Int) % ((o11I h).length : Int))), imm (.slice a9 rs2.length c9) rs2, imm (.slice a8 rs.length c8) rs, box bb2 #[.int .i64 (setMN n2_ ((x0.1.toNat : Int) % ((o11I h).length : Int)) ((x0.2.toNat : Int) % ((o11I h).length : Int))), .slice a13 (setMR n2_ rs2 ((x0.1.toNat : Int) % ((o11I h).length : Int)) ((x0.2.toNat : Int) % ((o11I h).length : Int))).length c13] 35, imm (.slice a7 (poR (o11I h)).length c7) (poR (o11I h)), imm (.slice a6 (poR (o11I h)).length c6) (poR (o11I h)), box bb1 #[.int .i64 ((o11I h).length : Int), .slice a3 (coR (o11I h) (o11F h)).length c3] 35, imm (.slice a3 (coR (o11I h) (o11F h)).length c3) (coR (o11I h) (o11F h)), box bb0 #[.slice a0 (o11V h).length c0, .slice a1 (o11I h).length c1, .slice a2 (o11F h).length c2] 29, imm (.slice a2 (o11F h).length c2) (o11F h), imm (.slice a1 (o11I h).length c1) (o11I h), imm (.slice a0 (o11V h).length c0) (o11V h), imm (.slice a_l l.length c_l) l, imm (.slice a_h h.length c_h) h])
                        refine ta0 (by kernel_rfl) (inb_normal (nx (rg (k (mv rfl s78 (k (add rfl rfl rfl rfl (by unfold I64 at *; omega) (k (asg (v := .int .i64 ((q : Int) + 1)) rfl rfl (z ?_))))))))))
                        have H93 := H92.put (it := imm (.slice a13 (setMR n2_ rs2 ((x0.1.toNat : Int) % ((o11I h).length : Int)) ((x0.2.toNat : Int) % ((o11I h).length : Int))).length c13) (setMR n2_ rs2 ((x0.1.toNat : Int) % ((o11I h).length : Int)) ((x0.2.toNat : Int) % ((o11I h).length : Int)))) rfl (H92.rv 0 rfl)
                        have H94 : HI M w w72 [imm (.slice a13 (setMR n2_ rs2 ((x0.1.toNat : Int) % ((o11I h).length : Int)) ((x0.2.toNat : Int) % ((o11I h).length : Int))).length c13) (setMR n2_ rs2 ((x0.1.toNat : Int) % ((o11I h).length : Int)) ((x0.2.toNat : Int) % ((o11I h).length : Int))), imm (.slice a8 rs.length c8) rs, box bb2 #[.int .i64 (setMN n2_ ((x0.1.toNat : Int) % ((o11I h).length : Int)) ((x0.2.toNat : Int) % ((o11I h).length : Int))), .slice a13 (setMR n2_ rs2 ((x0.1.toNat : Int) % ((o11I h).length : Int)) ((x0.2.toNat : Int) % ((o11I h).length : Int))).length c13] 35, imm (.slice a7 (poR (o11I h)).length c7) (poR (o11I h)), imm (.slice a6 (poR (o11I h)).length c6) (poR (o11I h)), box bb1 #[.int .i64 ((o11I h).length : Int), .slice a3 (coR (o11I h) (o11F h)).length c3] 35, imm (.slice a3 (coR (o11I h) (o11F h)).length c3) (coR (o11I h) (o11F h)), box bb0 #[.slice a0 (o11V h).length c0, .slice a1 (o11I h).length c1, .slice a2 (o11F h).length c2] 29, imm (.slice a2 (o11F h).length c2) (o11F h), imm (.slice a1 (o11I h).length c1) (o11I h), imm (.slice a0 (o11V h).length c0) (o11V h), imm (.slice a_l l.length c_l) l, imm (.slice a_h h.length c_h) h] := H93.pickN [0, 3, 4, 5, 6, 7, 8, 9, 10, 11, 12, 13, 14] (by decide) rfl
                        refine loopN _ ?_ ⟨(q + 1), (setMN n2_ ((x0.1.toNat : Int) % ((o11I h).length : Int)) ((x0.2.toNat : Int) % ((o11I h).length : Int))), (setMR n2_ rs2 ((x0.1.toNat : Int) % ((o11I h).length : Int)) ((x0.2.toNat : Int) % ((o11I h).length : Int))), a13, c13, rfl, s75, s76, s77, (ieq rfl (by first | rfl | omega | (push_cast; omega))), H94, (by first | assumption | omega | simp | (simp; omega)), (by (try (have e_ := at_is hx1 hx0; subst e_)); (try (have e_ := at_is hx2 hx0; subst e_)); (try (have e_ := at_is hx3 hx0; subst e_)); (try (have e_ := at_is hx4 hx0; subst e_)); (try (have e_ := at_is hx5 hx0; subst e_)); (try (have e_ := at_is hx6 hx0; subst e_)); rw [h3]; exact (mo_pair (fo := o11F h) (l := l) h4 hx0 hn_).1), (by (try (have e_ := at_is hx1 hx0; subst e_)); (try (have e_ := at_is hx2 hx0; subst e_)); (try (have e_ := at_is hx3 hx0; subst e_)); (try (have e_ := at_is hx4 hx0; subst e_)); (try (have e_ := at_is hx5 hx0; subst e_)); (try (have e_ := at_is hx6 hx0; subst e_)); rw [h3]; exact (mo_pair h4 hx0 hn_).2)⟩
                        omega
                    ·
                      refine stX H91 3 rfl ty35 rfl rfl s77 rfl rfl rfl rfl ?_
                      intro w72 (H92 : HI M w w72 [imm (.slice a13 (setMR n2_ rs2 ((x0.1.toNat : Int) % ((o11I h).length : Int)) ((x0.2.toNat : Int) % ((o11I h).length : Int))).length c13) (setMR n2_ rs2 ((x0.1.toNat : Int) % ((o11I h).length : Int)) ((x0.2.toNat : Int) % ((o11I h).length : Int))), imm (.slice a9 rs2.length c9) rs2, imm (.slice a8 rs.length c8) rs, box bb2 #[.int .i64 (setMN n2_ ((x0.1.toNat : Int) % ((o11I h).length : Int)) ((x0.2.toNat : Int) % ((o11I h).length : Int))), .slice a13 (setMR n2_ rs2 ((x0.1.toNat : Int) % ((o11I h).length : Int)) ((x0.2.toNat : Int) % ((o11I h).length : Int))).length c13] 35, imm (.slice a7 (poR (o11I h)).length c7) (poR (o11I h)), imm (.slice a6 (poR (o11I h)).length c6) (poR (o11I h)), box bb1 #[.int .i64 ((o11I h).length : Int), .slice a3 (coR (o11I h) (o11F h)).length c3] 35, imm (.slice a3 (coR (o11I h) (o11F h)).length c3) (coR (o11I h) (o11F h)), box bb0 #[.slice a0 (o11V h).length c0, .slice a1 (o11I h).length c1, .slice a2 (o11F h).length c2] 29, imm (.slice a2 (o11F h).length c2) (o11F h), imm (.slice a1 (o11I h).length c1) (o11I h), imm (.slice a0 (o11V h).length c0) (o11V h), imm (.slice a_l l.length c_l) l, imm (.slice a_h h.length c_h) h])
                      refine ta [22] (by kernel_rfl) rfl ⟨⟨_, rfl, ?_⟩, trivial⟩
                      ·
                        refine xt rfl s79 rfl (ta0 (by kernel_rfl) (inb_normal (nx (rg (k (mv rfl s78 (k (add rfl rfl rfl rfl (by unfold I64 at *; omega) (k (asg (v := .int .i64 ((q : Int) + 1)) rfl rfl (z ?_)))))))))))
                        have H93 := H92.put (it := imm (.slice a13 (setMR n2_ rs2 ((x0.1.toNat : Int) % ((o11I h).length : Int)) ((x0.2.toNat : Int) % ((o11I h).length : Int))).length c13) (setMR n2_ rs2 ((x0.1.toNat : Int) % ((o11I h).length : Int)) ((x0.2.toNat : Int) % ((o11I h).length : Int)))) rfl (H92.rv 0 rfl)
                        have H94 : HI M w w72 [imm (.slice a13 (setMR n2_ rs2 ((x0.1.toNat : Int) % ((o11I h).length : Int)) ((x0.2.toNat : Int) % ((o11I h).length : Int))).length c13) (setMR n2_ rs2 ((x0.1.toNat : Int) % ((o11I h).length : Int)) ((x0.2.toNat : Int) % ((o11I h).length : Int))), imm (.slice a8 rs.length c8) rs, box bb2 #[.int .i64 (setMN n2_ ((x0.1.toNat : Int) % ((o11I h).length : Int)) ((x0.2.toNat : Int) % ((o11I h).length : Int))), .slice a13 (setMR n2_ rs2 ((x0.1.toNat : Int) % ((o11I h).length : Int)) ((x0.2.toNat : Int) % ((o11I h).length : Int))).length c13] 35, imm (.slice a7 (poR (o11I h)).length c7) (poR (o11I h)), imm (.slice a6 (poR (o11I h)).length c6) (poR (o11I h)), box bb1 #[.int .i64 ((o11I h).length : Int), .slice a3 (coR (o11I h) (o11F h)).length c3] 35, imm (.slice a3 (coR (o11I h) (o11F h)).length c3) (coR (o11I h) (o11F h)), box bb0 #[.slice a0 (o11V h).length c0, .slice a1 (o11I h).length c1, .slice a2 (o11F h).length c2] 29, imm (.slice a2 (o11F h).length c2) (o11F h), imm (.slice a1 (o11I h).length c1) (o11I h), imm (.slice a0 (o11V h).length c0) (o11V h), imm (.slice a_l l.length c_l) l, imm (.slice a_h h.length c_h) h] := H93.pickN [0, 3, 4, 5, 6, 7, 8, 9, 10, 11, 12, 13, 14] (by decide) rfl
                        refine loopN _ ?_ ⟨(q + 1), (setMN n2_ ((x0.1.toNat : Int) % ((o11I h).length : Int)) ((x0.2.toNat : Int) % ((o11I h).length : Int))), (setMR n2_ rs2 ((x0.1.toNat : Int) % ((o11I h).length : Int)) ((x0.2.toNat : Int) % ((o11I h).length : Int))), a13, c13, rfl, s75, s76, s77, (ieq rfl (by first | rfl | omega | (push_cast; omega))), H94, (by first | assumption | omega | simp | (simp; omega)), (by (try (have e_ := at_is hx1 hx0; subst e_)); (try (have e_ := at_is hx2 hx0; subst e_)); (try (have e_ := at_is hx3 hx0; subst e_)); (try (have e_ := at_is hx4 hx0; subst e_)); (try (have e_ := at_is hx5 hx0; subst e_)); (try (have e_ := at_is hx6 hx0; subst e_)); rw [h3]; exact (mo_pair (fo := o11F h) (l := l) h4 hx0 hn_).1), (by (try (have e_ := at_is hx1 hx0; subst e_)); (try (have e_ := at_is hx2 hx0; subst e_)); (try (have e_ := at_is hx3 hx0; subst e_)); (try (have e_ := at_is hx4 hx0; subst e_)); (try (have e_ := at_is hx5 hx0; subst e_)); (try (have e_ := at_is hx6 hx0; subst e_)); rw [h3]; exact (mo_pair h4 hx0 hn_).2)⟩
                        omega
                  ·
                    refine xt rfl s79 rfl ?_
                    refine ta [21] (by kernel_rfl) rfl ⟨⟨_, rfl, ?_⟩, trivial⟩
                    ·
                      refine xt rfl s79 rfl ?_
                      refine ta [23] (by kernel_rfl) rfl ⟨⟨_, rfl, ?_⟩, trivial⟩
                      ·
                        refine stX H91 3 rfl ty35 rfl rfl s77 rfl rfl rfl rfl ?_
                        intro w72 (H92 : HI M w w72 [imm (.slice a13 (setMR n2_ rs2 ((x0.1.toNat : Int) % ((o11I h).length : Int)) ((x0.2.toNat : Int) % ((o11I h).length : Int))).length c13) (setMR n2_ rs2 ((x0.1.toNat : Int) % ((o11I h).length : Int)) ((x0.2.toNat : Int) % ((o11I h).length : Int))), imm (.slice a9 rs2.length c9) rs2, imm (.slice a8 rs.length c8) rs, box bb2 #[.int .i64 (setMN n2_ ((x0.1.toNat : Int) % ((o11I h).length : Int)) ((x0.2.toNat : Int) % ((o11I h).length : Int))), .slice a13 (setMR n2_ rs2 ((x0.1.toNat : Int) % ((o11I h).length : Int)) ((x0.2.toNat : Int) % ((o11I h).length : Int))).length c13] 35, imm (.slice a7 (poR (o11I h)).length c7) (poR (o11I h)), imm (.slice a6 (poR (o11I h)).length c6) (poR (o11I h)), box bb1 #[.int .i64 ((o11I h).length : Int), .slice a3 (coR (o11I h) (o11F h)).length c3] 35, imm (.slice a3 (coR (o11I h) (o11F h)).length c3) (coR (o11I h) (o11F h)), box bb0 #[.slice a0 (o11V h).length c0, .slice a1 (o11I h).length c1, .slice a2 (o11F h).length c2] 29, imm (.slice a2 (o11F h).length c2) (o11F h), imm (.slice a1 (o11I h).length c1) (o11I h), imm (.slice a0 (o11V h).length c0) (o11V h), imm (.slice a_l l.length c_l) l, imm (.slice a_h h.length c_h) h])
                        refine ta0 (by kernel_rfl) (inb_normal (nx (rg (k (mv rfl s78 (k (add rfl rfl rfl rfl (by unfold I64 at *; omega) (k (asg (v := .int .i64 ((q : Int) + 1)) rfl rfl (z ?_))))))))))
                        have H93 := H92.put (it := imm (.slice a13 (setMR n2_ rs2 ((x0.1.toNat : Int) % ((o11I h).length : Int)) ((x0.2.toNat : Int) % ((o11I h).length : Int))).length c13) (setMR n2_ rs2 ((x0.1.toNat : Int) % ((o11I h).length : Int)) ((x0.2.toNat : Int) % ((o11I h).length : Int)))) rfl (H92.rv 0 rfl)
                        have H94 : HI M w w72 [imm (.slice a13 (setMR n2_ rs2 ((x0.1.toNat : Int) % ((o11I h).length : Int)) ((x0.2.toNat : Int) % ((o11I h).length : Int))).length c13) (setMR n2_ rs2 ((x0.1.toNat : Int) % ((o11I h).length : Int)) ((x0.2.toNat : Int) % ((o11I h).length : Int))), imm (.slice a8 rs.length c8) rs, box bb2 #[.int .i64 (setMN n2_ ((x0.1.toNat : Int) % ((o11I h).length : Int)) ((x0.2.toNat : Int) % ((o11I h).length : Int))), .slice a13 (setMR n2_ rs2 ((x0.1.toNat : Int) % ((o11I h).length : Int)) ((x0.2.toNat : Int) % ((o11I h).length : Int))).length c13] 35, imm (.slice a7 (poR (o11I h)).length c7) (poR (o11I h)), imm (.slice a6 (poR (o11I h)).length c6) (poR (o11I h)), box bb1 #[.int .i64 ((o11I h).length : Int), .slice a3 (coR (o11I h) (o11F h)).length c3] 35, imm (.slice a3 (coR (o11I h) (o11F h)).length c3) (coR (o11I h) (o11F h)), box bb0 #[.slice a0 (o11V h).length c0, .slice a1 (o11I h).length c1, .slice a2 (o11F h).length c2] 29, imm (.slice a2 (o11F h).length c2) (o11F h), imm (.slice a1 (o11I h).length c1) (o11I h), imm (.slice a0 (o11V h).length c0) (o11V h), imm (.slice a_l l.length c_l) l, imm (.slice a_h h.length c_h) h] := H93.pickN [0, 3, 4, 5, 6, 7, 8, 9, 10, 11, 12, 13, 14] (by decide) rfl
                        refine loopN _ ?_ ⟨(q + 1), (setMN n2_ ((x0.1.toNat : Int) % ((o11I h).length : Int)) ((x0.2.toNat : Int) % ((o11I h).length : Int))), (setMR n2_ rs2 ((x0.1.toNat : Int) % ((o11I h).length : Int)) ((x0.2.toNat : Int) % ((o11I h).length : Int))), a13, c13, rfl, s75, s76, s77, (ieq rfl (by first | rfl | omega | (push_cast; omega))), H94, (by first | assumption | omega | simp | (simp; omega)), (by (try (have e_ := at_is hx1 hx0; subst e_)); (try (have e_ := at_is hx2 hx0; subst e_)); (try (have e_ := at_is hx3 hx0; subst e_)); (try (have e_ := at_is hx4 hx0; subst e_)); (try (have e_ := at_is hx5 hx0; subst e_)); (try (have e_ := at_is hx6 hx0; subst e_)); rw [h3]; exact (mo_pair (fo := o11F h) (l := l) h4 hx0 hn_).1), (by (try (have e_ := at_is hx1 hx0; subst e_)); (try (have e_ := at_is hx2 hx0; subst e_)); (try (have e_ := at_is hx3 hx0; subst e_)); (try (have e_ := at_is hx4 hx0; subst e_)); (try (have e_ := at_is hx5 hx0; subst e_)); (try (have e_ := at_is hx6 hx0; subst e_)); rw [h3]; exact (mo_pair h4 hx0 hn_).2)⟩
                        omega
              ·
                have p5 := of_decide_eq_false b5
                refine ex (then_exit (loop_exit (inb_here (nx (sq ?_)))))
                refine dr 5 [fun (v : Value) (w' : World) => v = .bool true, fun (v : Value) (w' : World) => v = .bool true, fun (v : Value) (w' : World) => v = .agg #[.int .i64 ((o11I h).length : Int), .slice a3 (coR (o11I h) (o11F h)).length c3], fun (v : Value) (w' : World) => v = .agg #[.int .i64 n2_, .slice a9 rs2.length c9], fun (v : Value) (w' : World) => ∃ (a10 : Option Addr) (c10 : Nat), v = .agg #[.int .i64 n2_, .slice a10 (closeM n2_ rs2).length c10] ∧ RV (MS M [imm (.slice a9 rs2.length c9) rs2, imm (.slice a8 rs.length c8) rs, box bb2 #[.int .i64 n2_, .slice a9 rs2.length c9] 35, imm (.slice a7 (poR (o11I h)).length c7) (poR (o11I h)), imm (.slice a6 (poR (o11I h)).length c6) (poR (o11I h)), box bb1 #[.int .i64 ((o11I h).length : Int), .slice a3 (coR (o11I h) (o11F h)).length c3] 35, imm (.slice a3 (coR (o11I h) (o11F h)).length c3) (coR (o11I h) (o11F h)), box bb0 #[.slice a0 (o11V h).length c0, .slice a1 (o11I h).length c1, .slice a2 (o11F h).length c2] 29, imm (.slice a2 (o11F h).length c2) (o11F h), imm (.slice a1 (o11I h).length c1) (o11I h), imm (.slice a0 (o11V h).length c0) (o11V h), imm (.slice a_l l.length c_l) l, imm (.slice a_h h.length c_h) h]) w' (.slice a10 (closeM n2_ rs2).length c10) (closeM n2_ rs2)] rfl (by kernel_rfl) ?_ ?_
                ·
                  refine ⟨fun _ => ⟨fun f31 w50 hf29 xt45 hp29 => ?_, fun _ _ _ _ h => h⟩, ?_⟩
                  ·
                    have H63 := H59.ext xt45
                    have cc13 := awake13 (w := w50)
                    refine ca go7 rfl e0 cc13 ?_
                    rintro _ w51 ⟨rfl, xt46⟩
                    have H64 := H63.ext xt46
                    exact ⟨_, rfl, xt46, rfl⟩
                  refine ⟨fun _ => ⟨fun f32 w52 hf30 xt47 hp30 => ?_, fun _ _ _ _ h => h⟩, ?_⟩
                  ·
                    have H65 := H59.ext xt47
                    have s55 : f32 128 = .bool true := hp30 0 rfl rfl
                    refine mv rfl s55 ?_
                    exact ⟨_, rfl, Ext.refl _, rfl⟩
                  refine ⟨fun _ => ⟨fun f33 w53 hf31 xt48 hp31 => ?_, fun _ _ _ _ h => h⟩, ?_⟩
                  ·
                    have H66 := H59.ext xt48
                    have s56 : f33 129 = .bool true := hp31 1 rfl rfl
                    refine gy rfl rfl s56 rfl (ldX H66 5 rfl ty35 rfl ((hf31 7 rfl).trans s52) (by decide) rfl ?_)
                    exact ⟨_, rfl, Ext.refl _, rfl⟩
                  refine ⟨fun _ => ⟨fun f34 w54 hf32 xt49 hp32 => ?_, fun _ _ _ _ h => h⟩, ?_⟩
                  ·
                    have H67 := H59.ext xt49
                    have s57 : f34 129 = .bool true := hp32 1 rfl rfl
                    refine gy rfl rfl s57 rfl (ldX H67 2 rfl ty35 rfl ((hf32 8 rfl).trans s53) (by decide) rfl ?_)
                    exact ⟨_, rfl, Ext.refl _, rfl⟩
                  refine ⟨fun _ => ⟨fun f35 w55 hf33 xt50 hp33 => ?_, by rintro _ _ _ x_ ⟨a10, c10, e_, rv8⟩; exact ⟨a10, c10, e_, rv8.lift (Up.ext x_)⟩⟩, ?_⟩
                  ·
                    have H68 := H59.ext xt50
                    have s58 : f35 129 = .bool true := hp33 1 rfl rfl
                    have s59 : f35 131 = .agg #[.int .i64 n2_, .slice a9 rs2.length c9] := hp33 3 rfl rfl
                    refine gy rfl rfl s58 rfl ?_
                    have cc14 := ref04_Close (mn := n2_) (mr := rs2) (w := w55) H68.mb (by unfold I64; omega) (H68.rv 0 rfl) (by rw [h3, h4]; exact mo_right _ _ _ _ (by omega))
                    refine ca go22 rfl (ec s59 e0) cc14 ?_
                    rintro _ w56 ⟨a11, c11, rfl, xt51, rv9⟩
                    have H69 := H68.ext xt51
                    have H70 := H69.put (it := imm (.slice a11 (closeM n2_ rs2).length c11) (closeM n2_ rs2)) rfl rv9
                    exact ⟨_, rfl, xt51, ⟨a11, c11, rfl, rv9⟩⟩
                  exact DSteps.rest rfl _
                · intro f36 w57 hf34 xt52 hp34
                  have H71 := H59.ext xt52
                  have s60 : f36 129 = .bool true := hp34 1 rfl
                  have s61 : f36 130 = .agg #[.int .i64 ((o11I h).length : Int), .slice a3 (coR (o11I h) (o11F h)).length c3] := hp34 2 rfl
                  obtain ⟨a12, c12, s62, rv10⟩ : ∃ (a12 : Option Addr) (c12 : Nat), f36 132 = .agg #[.int .i64 n2_, .slice a12 (closeM n2_ rs2).length c12] ∧ RV (MS M [imm (.slice a9 rs2.length c9) rs2, imm (.slice a8 rs.length c8) rs, box bb2 #[.int .i64 n2_, .slice a9 rs2.length c9] 35, imm (.slice a7 (poR (o11I h)).length c7) (poR (o11I h)), imm (.slice a6 (poR (o11I h)).length c6) (poR (o11I h)), box bb1 #[.int .i64 ((o11I h).length : Int), .slice a3 (coR (o11I h) (o11F h)).length c3] 35, imm (.slice a3 (coR (o11I h) (o11F h)).length c3) (coR (o11I h) (o11F h)), box bb0 #[.slice a0 (o11V h).length c0, .slice a1 (o11I h).length c1, .slice a2 (o11F h).length c2] 29, imm (.slice a2 (o11F h).length c2) (o11F h), imm (.slice a1 (o11I h).length c1) (o11I h), imm (.slice a0 (o11V h).length c0) (o11V h), imm (.slice a_l l.length c_l) l, imm (.slice a_h h.length c_h) h]) w57 (.slice a12 (closeM n2_ rs2).length c12) (closeM n2_ rs2) := hp34 4 rfl
                  have H72 := H71.put (it := imm (.slice a12 (closeM n2_ rs2).length c12) (closeM n2_ rs2)) rfl rv10
                  refine k (gy rfl rfl s60 rfl ?_)
                  have cc15 := ref03_Sub (an := ((o11I h).length : Int)) (ar := (coR (o11I h) (o11F h))) (bn := n2_) (br := (closeM n2_ rs2)) (w := w57) H72.mb (by unfold I64 at *; omega) (H72.rv 7 rfl) (by unfold I64; omega) (H72.rv 0 rfl) (by exact (mat_sq (by omega) _).1) (by exact (mat_sq (by omega) _).2) (by omega) (by rw [h3, h4]; exact (right_sq (closeM_right (mo_right (o11F h) l j q (by omega)))).1) (by rw [h3, h4]; exact (right_sq (closeM_right (mo_right (o11F h) l j q (by omega)))).2.1) (by omega)
                  refine ca go18 rfl (ec s61 (ec s62 e0)) cc15 ?_
                  rintro _ w58 ⟨rfl, xt53⟩
                  have H73 := H72.ext xt53
                  refine k (pickT rfl rfl rfl s60 rfl rfl (k (asg (v := .bool (subM ((o11I h).length : Int) (coR (o11I h) (o11F h)) n2_ (closeM n2_ rs2))) rfl rfl (z (nx (rt (r1 rfl rfl ?_)))))))
                  have tr13 : (subM ((o11I h).length : Int) (coR (o11I h) (o11F h)) n2_ (closeM n2_ rs2)) = true := (by rw [h3, h4]; exact mo_end (o11F_len h) (by omega))
                  have e0 : (subM ((o11I h).length : Int) (coR (o11I h) (o11F h)) n2_ (closeM n2_ rs2) : Bool) = true := by exact tr13
                  have ev_ := cg1 (fun (x_0 : Bool) => (.bool x_0 : Value)) e0
                  exact ⟨ev_, H73.below⟩
            · -- decide ((q : Int) < (l.length : Int)) is False
              have p4 := of_decide_eq_false b4
              refine k (gn rfl rfl rfl b4 (k (gn rfl rfl rfl b4 (k (gn rfl rfl rfl b4 (k (pickF rfl rfl rfl rfl b4 rfl (z (nx (cdF rfl rfl rfl (ex (then_exit (loop_exit (inb_here (nx (sq ?_))))))))))))))))
              refine dr 5 [fun (v : Value) (w' : World) => v = .bool true, fun (v : Value) (w' : World) => v = .bool true, fun (v : Value) (w' : World) => v = .agg #[.int .i64 ((o11I h).length : Int), .slice a3 (coR (o11I h) (o11F h)).length c3], fun (v : Value) (w' : World) => v = .agg #[.int .i64 n2_, .slice a9 rs2.length c9], fun (v : Value) (w' : World) => ∃ (a10 : Option Addr) (c10 : Nat), v = .agg #[.int .i64 n2_, .slice a10 (closeM n2_ rs2).length c10] ∧ RV (MS M [imm (.slice a9 rs2.length c9) rs2, imm (.slice a8 rs.length c8) rs, box bb2 #[.int .i64 n2_, .slice a9 rs2.length c9] 35, imm (.slice a7 (poR (o11I h)).length c7) (poR (o11I h)), imm (.slice a6 (poR (o11I h)).length c6) (poR (o11I h)), box bb1 #[.int .i64 ((o11I h).length : Int), .slice a3 (coR (o11I h) (o11F h)).length c3] 35, imm (.slice a3 (coR (o11I h) (o11F h)).length c3) (coR (o11I h) (o11F h)), box bb0 #[.slice a0 (o11V h).length c0, .slice a1 (o11I h).length c1, .slice a2 (o11F h).length c2] 29, imm (.slice a2 (o11F h).length c2) (o11F h), imm (.slice a1 (o11I h).length c1) (o11I h), imm (.slice a0 (o11V h).length c0) (o11V h), imm (.slice a_l l.length c_l) l, imm (.slice a_h h.length c_h) h]) w' (.slice a10 (closeM n2_ rs2).length c10) (closeM n2_ rs2)] rfl (by kernel_rfl) ?_ ?_
              ·
                refine ⟨fun _ => ⟨fun f31 w50 hf29 xt45 hp29 => ?_, fun _ _ _ _ h => h⟩, ?_⟩
                ·
                  have H63 := H59.ext xt45
                  have cc13 := awake13 (w := w50)
                  refine ca go7 rfl e0 cc13 ?_
                  rintro _ w51 ⟨rfl, xt46⟩
                  have H64 := H63.ext xt46
                  exact ⟨_, rfl, xt46, rfl⟩
                refine ⟨fun _ => ⟨fun f32 w52 hf30 xt47 hp30 => ?_, fun _ _ _ _ h => h⟩, ?_⟩
                ·
                  have H65 := H59.ext xt47
                  have s55 : f32 128 = .bool true := hp30 0 rfl rfl
                  refine mv rfl s55 ?_
                  exact ⟨_, rfl, Ext.refl _, rfl⟩
                refine ⟨fun _ => ⟨fun f33 w53 hf31 xt48 hp31 => ?_, fun _ _ _ _ h => h⟩, ?_⟩
                ·
                  have H66 := H59.ext xt48
                  have s56 : f33 129 = .bool true := hp31 1 rfl rfl
                  refine gy rfl rfl s56 rfl (ldX H66 5 rfl ty35 rfl ((hf31 7 rfl).trans s52) (by decide) rfl ?_)
                  exact ⟨_, rfl, Ext.refl _, rfl⟩
                refine ⟨fun _ => ⟨fun f34 w54 hf32 xt49 hp32 => ?_, fun _ _ _ _ h => h⟩, ?_⟩
                ·
                  have H67 := H59.ext xt49
                  have s57 : f34 129 = .bool true := hp32 1 rfl rfl
                  refine gy rfl rfl s57 rfl (ldX H67 2 rfl ty35 rfl ((hf32 8 rfl).trans s53) (by decide) rfl ?_)
                  exact ⟨_, rfl, Ext.refl _, rfl⟩
                refine ⟨fun _ => ⟨fun f35 w55 hf33 xt50 hp33 => ?_, by rintro _ _ _ x_ ⟨a10, c10, e_, rv8⟩; exact ⟨a10, c10, e_, rv8.lift (Up.ext x_)⟩⟩, ?_⟩
                ·
                  have H68 := H59.ext xt50
                  have s58 : f35 129 = .bool true := hp33 1 rfl rfl
                  have s59 : f35 131 = .agg #[.int .i64 n2_, .slice a9 rs2.length c9] := hp33 3 rfl rfl
                  refine gy rfl rfl s58 rfl ?_
                  have cc14 := ref04_Close (mn := n2_) (mr := rs2) (w := w55) H68.mb (by unfold I64; omega) (H68.rv 0 rfl) (by rw [h3, h4]; exact mo_right _ _ _ _ (by omega))
                  refine ca go22 rfl (ec s59 e0) cc14 ?_
                  rintro _ w56 ⟨a11, c11, rfl, xt51, rv9⟩
                  have H69 := H68.ext xt51
                  have H70 := H69.put (it := imm (.slice a11 (closeM n2_ rs2).length c11) (closeM n2_ rs2)) rfl rv9
                  exact ⟨_, rfl, xt51, ⟨a11, c11, rfl, rv9⟩⟩
                exact DSteps.rest rfl _
              · intro f36 w57 hf34 xt52 hp34
                have H71 := H59.ext xt52
                have s60 : f36 129 = .bool true := hp34 1 rfl
                have s61 : f36 130 = .agg #[.int .i64 ((o11I h).length : Int), .slice a3 (coR (o11I h) (o11F h)).length c3] := hp34 2 rfl
                obtain ⟨a12, c12, s62, rv10⟩ : ∃ (a12 : Option Addr) (c12 : Nat), f36 132 = .agg #[.int .i64 n2_, .slice a12 (closeM n2_ rs2).length c12] ∧ RV (MS M [imm (.slice a9 rs2.length c9) rs2, imm (.slice a8 rs.length c8) rs, box bb2 #[.int .i64 n2_, .slice a9 rs2.length c9] 35, imm (.slice a7 (poR (o11I h)).length c7) (poR (o11I h)), imm (.slice a6 (poR (o11I h)).length c6) (poR (o11I h)), box bb1 #[.int .i64 ((o11I h).length : Int), .slice a3 (coR (o11I h) (o11F h)).length c3] 35, imm (.slice a3 (coR (o11I h) (o11F h)).length c3) (coR (o11I h) (o11F h)), box bb0 #[.slice a0 (o11V h).length c0, .slice a1 (o11I h).length c1, .slice a2 (o11F h).length c2] 29, imm (.slice a2 (o11F h).length c2) (o11F h), imm (.slice a1 (o11I h).length c1) (o11I h), imm (.slice a0 (o11V h).length c0) (o11V h), imm (.slice a_l l.length c_l) l, imm (.slice a_h h.length c_h) h]) w57 (.slice a12 (closeM n2_ rs2).length c12) (closeM n2_ rs2) := hp34 4 rfl
                have H72 := H71.put (it := imm (.slice a12 (closeM n2_ rs2).length c12) (closeM n2_ rs2)) rfl rv10
                refine k (gy rfl rfl s60 rfl ?_)
                have cc15 := ref03_Sub (an := ((o11I h).length : Int)) (ar := (coR (o11I h) (o11F h))) (bn := n2_) (br := (closeM n2_ rs2)) (w := w57) H72.mb (by unfold I64 at *; omega) (H72.rv 7 rfl) (by unfold I64; omega) (H72.rv 0 rfl) (by exact (mat_sq (by omega) _).1) (by exact (mat_sq (by omega) _).2) (by omega) (by rw [h3, h4]; exact (right_sq (closeM_right (mo_right (o11F h) l j q (by omega)))).1) (by rw [h3, h4]; exact (right_sq (closeM_right (mo_right (o11F h) l j q (by omega)))).2.1) (by omega)
                refine ca go18 rfl (ec s61 (ec s62 e0)) cc15 ?_
                rintro _ w58 ⟨rfl, xt53⟩
                have H73 := H72.ext xt53
                refine k (pickT rfl rfl rfl s60 rfl rfl (k (asg (v := .bool (subM ((o11I h).length : Int) (coR (o11I h) (o11F h)) n2_ (closeM n2_ rs2))) rfl rfl (z (nx (rt (r1 rfl rfl ?_)))))))
                have tr13 : (subM ((o11I h).length : Int) (coR (o11I h) (o11F h)) n2_ (closeM n2_ rs2)) = true := (by rw [h3, h4]; exact mo_end (o11F_len h) (by omega))
                have e0 : (subM ((o11I h).length : Int) (coR (o11I h) (o11F h)) n2_ (closeM n2_ rs2) : Bool) = true := by exact tr13
                have ev_ := cg1 (fun (x_0 : Bool) => (.bool x_0 : Value)) e0
                exact ⟨ev_, H73.below⟩
end Go.Proofs.Ytmhopljngkgidaa

