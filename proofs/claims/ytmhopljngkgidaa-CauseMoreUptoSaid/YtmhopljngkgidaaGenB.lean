/- PRINTED by my own tool (wip/tool/gen.py): contracts of Go functions of this seat, each with its proof. -/
import Derived.Test.YtmhopljngkgidaaOwnA
import Derived.Test.YtmhopljngkgidaaOwnB
import Derived.Test.YtmhopljngkgidaaGenA
namespace Go.Proofs.Ytmhopljngkgidaa
open Go.Ew Go.RowKit
set_option linter.unusedVariables false
set_option linter.unusedSimpArgs false
attribute [local irreducible] WL WC SO Code.wp wpList retQ Ret
attribute [local irreducible] bitB hasW inR hasR setR countW countR subR words newR listR orR firstW tab8
theorem fl29_2 : FldF Try.prog 29 2 2 := ⟨_, _, Try.underlying29, rfl, rfl, by kernel_rfl⟩
theorem ty27 : TyF Try.prog 27 1 false 24 (.slice none 0 0) := ⟨by kernel_rfl, by kernel_rfl⟩
theorem go33 : GoF Try.prog 33 := ⟨_, _, Try.func33, rfl, by kernel_rfl⟩
theorem go10 : GoF Try.prog 10 := ⟨_, _, Try.func10, rfl, by kernel_rfl⟩
theorem go32 : GoF Try.prog 32 := ⟨_, _, Try.func32, rfl, by kernel_rfl⟩
theorem go12 : GoF Try.prog 12 := ⟨_, _, Try.func12, rfl, by kernel_rfl⟩
theorem go35 : GoF Try.prog 35 := ⟨_, _, Try.func35, rfl, by kernel_rfl⟩
set_option maxRecDepth 100000 in
set_option maxHeartbeats 1600000 in
theorem cause_Rf {M : Nat → Prop} {w : World} {a_fv : Option Addr} {n_fv c_fv : Nat} {a_fi : Option Addr} {c_fi : Nat} {fi : List (Int × Int × Bool × Int × Int)} {a_fo : Option Addr} {c_fo : Nat} {fo : List Int} (hM : ∀ b, M b → b < w.heap.size) (h_fi : RV M w (.slice a_fi fi.length c_fi) fi) (h_fo : RV M w (.slice a_fo fo.length c_fo) fo) (hn_fi : fi.length ≤ 4096) (hfo : fo.length = fi.length) (hfr : ∀ x ∈ fo, x < ((fi.length : Nat) : Int)) : Calls Try.prog 10 #[.agg #[.slice a_fv n_fv c_fv, .slice a_fi fi.length c_fi, .slice a_fo fo.length c_fo]] w (Ret fun v w' => ∃ (a0 : Option Addr) (c0 : Nat), v = .agg #[.int .i64 (fi.length : Int), .slice a0 (rfR fi fo).length c0] ∧ Ext w w' ∧ OwnsG M 60 w (rfR fi fo) (.slice a0 (rfR fi fo).length c0) w') := by
  refine enter 37 Try.func10 rfl rfl rfl fun f0 ha => ?_
  have H := HI.start (M0 := M) (w := w) hM
  have H0 := H.put (it := imm (.slice a_fi fi.length c_fi) fi) rfl (by rw [MS_nil]; exact h_fi)
  have H1 := H0.put (it := imm (.slice a_fo fo.length c_fo) fo) rfl (by rw [MS_cons_none rfl, MS_nil]; exact h_fo)
  have ln_fi := rv_len h_fi
  have ln_fo := rv_len h_fo
  have i0 : f0 0 = .agg #[.slice a_fv n_fv c_fv, .slice a_fi fi.length c_fi, .slice a_fo fo.length c_fo] := ha 0 (by simp)
  refine sq (rg (k (bx H1 rfl i0 ?_)))
  intro bb0 w0 xt0 (H2 : HI M w w0 [box bb0 #[.slice a_fv n_fv c_fv, .slice a_fi fi.length c_fi, .slice a_fo fo.length c_fo] 29, imm (.slice a_fo fo.length c_fo) fo, imm (.slice a_fi fi.length c_fi) fi])
  refine k (al H2 ty35 ?_)
  intro bb1 w1 xt1 (H3 : HI M w w1 [box bb1 #[.int .i64 0, .slice none 0 0] 35, box bb0 #[.slice a_fv n_fv c_fv, .slice a_fi fi.length c_fi, .slice a_fo fo.length c_fo] 29, imm (.slice a_fo fo.length c_fo) fo, imm (.slice a_fi fi.length c_fi) fi])
  refine z (nx (sq (rg (k (fa fl29_1 rfl rfl (k (ldX H3 1 rfl ty26 rfl rfl (by decide) rfl (k (lnS rfl rfl un26 (k ?_))))))))))
  have cc0 := mat_New (n := (fi.length : Int)) (w := w1) H3.mb (by unfold I64 at *; omega)
  refine ca go29 rfl (ec rfl e0) cc0 ?_
  rintro _ w2 ⟨a0, c0, rfl, xt2, rv0⟩
  have H4 := H3.ownsG rv0
  refine k (mv (v := .tuple #[.agg #[.int .i64 (newMN (fi.length : Int)), .slice a0 (newMR (fi.length : Int)).length c0], .int .i64 (newME (fi.length : Int))]) rfl rfl (k (xt rfl rfl rfl (k (xt rfl rfl rfl (k (al H4 ty35 ?_)))))))
  intro bb2 w3 xt3 (H5 : HI M w w3 [box bb2 #[.int .i64 0, .slice none 0 0] 35, own w.heap.size 60 (.slice a0 (newMR (fi.length : Int)).length c0) (newMR (fi.length : Int)), box bb1 #[.int .i64 0, .slice none 0 0] 35, box bb0 #[.slice a_fv n_fv c_fv, .slice a_fi fi.length c_fi, .slice a_fo fo.length c_fo] 29, imm (.slice a_fo fo.length c_fo) fo, imm (.slice a_fi fi.length c_fi) fi])
  refine k (stX H5 0 rfl ty35 rfl rfl rfl rfl rfl rfl rfl ?_)
  intro w4 (H6 : HI M w w4 [box bb2 #[.int .i64 (newMN (fi.length : Int)), .slice a0 (newMR (fi.length : Int)).length c0] 35, own w.heap.size 60 (.slice a0 (newMR (fi.length : Int)).length c0) (newMR (fi.length : Int)), box bb1 #[.int .i64 0, .slice none 0 0] 35, box bb0 #[.slice a_fv n_fv c_fv, .slice a_fi fi.length c_fi, .slice a_fo fo.length c_fo] 29, imm (.slice a_fo fo.length c_fo) fo, imm (.slice a_fi fi.length c_fi) fi])
  refine k (asg (v := .int .i64 (newME (fi.length : Int))) rfl rfl (z (nx (sq (sq ?_)))))
  have hok_ : okN (fi.length : Int) = true := okN_iff.2 (by omega)
  obtain ⟨en, er, -⟩ := newM_yes hok_
  refine rg (k (fa fl29_2 rfl rfl (k (ldX H6 3 rfl ty27 rfl rfl (by decide) rfl (k (lnS rfl rfl un27 (k (mv (v := .int .i64 0) rfl rfl (z (nx (bk ?_)))))))))))
  refine lp (fun m f w' => ∃ (j : Nat) (xs : List (List (BitVec 64))), m = fo.length - j ∧ f 2 = .pointer (some ⟨bb1, 0, none⟩) ∧ f 3 = .pointer (some ⟨bb2, 0, none⟩) ∧ f 15 = .slice a_fo fo.length c_fo ∧ f 16 = .int .i64 (fo.length : Int) ∧ f 17 = .int .i64 (j : Int) ∧  HI M w w' [box bb2 #[.int .i64 (newMN (fi.length : Int)), .slice a0 (newMR (fi.length : Int)).length c0] 35, own w.heap.size 60 (.slice a0 (newMR (fi.length : Int)).length c0) xs, box bb1 #[.int .i64 0, .slice none 0 0] 35, box bb0 #[.slice a_fv n_fv c_fv, .slice a_fi fi.length c_fi, .slice a_fo fo.length c_fo] 29, imm (.slice a_fo fo.length c_fo) fo, imm (.slice a_fi fi.length c_fi) fi] ∧ (j ≤ fo.length) ∧ (xs.length = fi.length) ∧ (xs = rfTo fi.length fo j)) _ ⟨0, (newMR (fi.length : Int)), rfl, rfl, rfl, rfl, rfl, (ieq rfl (by first | rfl | omega | simp)), H6, (by first | assumption | omega | simp | (simp; omega)), (by rw [er, newM_length]; simp), (by rw [er]; exact rf_zero _ _)⟩ ?_
  rintro _ f0 w5 ⟨j, xs, rfl, s0, s1, s2, s3, s4, H7, hk, hl, hs⟩
  refine sq (rg (k (lss rfl rfl s4 s3 (z (nx (sq ?_))))))
  refine cd (b := decide ((j : Int) < (fo.length : Int))) rfl rfl (fun b0 => ?_) (fun b0 => ?_)
  ·
    have p0 := of_decide_eq_true b0
    refine sk (nx (sq (bk (sq (rg (k (mv rfl s4 (k (ia (H7.rv 4 rfl) rfl rfl s2 s4 (by first | omega | (simp; omega)) un27 ty3 ?_)))))))))
    intro ad0 x0 hx0 hA0
    refine k (ldI hA0.w ty3 rfl rfl ?_)
    intro rv1
    refine k (asg (v := .int .i64 (j : Int)) rfl rfl (k (asg (v := .int .i64 x0) rfl rfl (z (nx (sq ?_))))))
    have hw_ := hfr _ (List.mem_of_getElem? hx0)
    refine rg (k (mv (v := .int .i64 x0) rfl rfl (k (geq rfl rfl rfl rfl (z (nx ?_))))))
    refine cd (b := decide (0 ≤ x0)) rfl rfl (fun b1 => ?_) (fun b1 => ?_)
    ·
      have p1 := of_decide_eq_true b1
      obtain ⟨x1, hx1⟩ : ∃ x, xs[x0.toNat]? = some x := ⟨_, List.getElem?_eq_getElem (by first | omega | (simp; omega))⟩
      refine dr 10 [fun (v : Value) (w' : World) => v = .pointer (some ⟨bb2, 1, none⟩), fun (v : Value) (w' : World) => v = .slice a0 (newMR (fi.length : Int)).length c0, fun (v : Value) (w' : World) => v = .int .i64 x0 ∧ I64 (x0), fun (v : Value) (w' : World) => v = .pointer (some ⟨bb2, 1, none⟩), fun (v : Value) (w' : World) => v = .slice a0 (newMR (fi.length : Int)).length c0, fun (v : Value) (w' : World) => v = .int .i64 x0 ∧ I64 (x0), fun (v : Value) (w' : World) => ∃ (g0 : Nat), v = .pointer (some ⟨g0, x0.toNat * 1, none⟩) ∧ (.slice a0 (newMR (fi.length : Int)).length c0 : Value).ownBlock = some g0 ∧ AtW (MS M [box bb2 #[.int .i64 (newMN (fi.length : Int)), .slice a0 (newMR (fi.length : Int)).length c0] 35, own w.heap.size 60 (.slice a0 (newMR (fi.length : Int)).length c0) xs, box bb1 #[.int .i64 0, .slice none 0 0] 35, box bb0 #[.slice a_fv n_fv c_fv, .slice a_fi fi.length c_fi, .slice a_fo fo.length c_fo] 29, imm (.slice a_fo fo.length c_fo) fo, imm (.slice a_fi fi.length c_fi) fi]) w' ⟨g0, x0.toNat * 1, none⟩ x1, fun (v : Value) (w' : World) => ∃ (a1 : Option Addr) (c1 : Nat), v = .slice a1 x1.length c1 ∧ RV (MS M [box bb2 #[.int .i64 (newMN (fi.length : Int)), .slice a0 (newMR (fi.length : Int)).length c0] 35, own w.heap.size 60 (.slice a0 (newMR (fi.length : Int)).length c0) xs, box bb1 #[.int .i64 0, .slice none 0 0] 35, box bb0 #[.slice a_fv n_fv c_fv, .slice a_fi fi.length c_fi, .slice a_fo fo.length c_fo] 29, imm (.slice a_fo fo.length c_fo) fo, imm (.slice a_fi fi.length c_fi) fi]) w' (.slice a1 x1.length c1) x1, fun (v : Value) (w' : World) => v = .int .i64 (j : Int), fun (v : Value) (w' : World) => ∃ (a2 : Option Addr) (c2 : Nat), v = .slice a2 (setR x1 (j : Int)).length c2 ∧ RV (MS M [box bb2 #[.int .i64 (newMN (fi.length : Int)), .slice a0 (newMR (fi.length : Int)).length c0] 35, own w.heap.size 60 (.slice a0 (newMR (fi.length : Int)).length c0) xs, box bb1 #[.int .i64 0, .slice none 0 0] 35, box bb0 #[.slice a_fv n_fv c_fv, .slice a_fi fi.length c_fi, .slice a_fo fo.length c_fo] 29, imm (.slice a_fo fo.length c_fo) fo, imm (.slice a_fi fi.length c_fi) fi]) w' (.slice a2 (setR x1 (j : Int)).length c2) (setR x1 (j : Int))] rfl (by kernel_rfl) ?_ ?_
      ·
        refine ⟨fun _ => ⟨fun f1 w7 hf0 xt5 hp0 => ?_, fun _ _ _ _ h => h⟩, ?_⟩
        ·
          have H11 := H7.ext xt5
          refine fa fl35_1 rfl ((hf0 3 rfl).trans s1) ?_
          exact ⟨_, rfl, Ext.refl _, rfl⟩
        refine ⟨fun _ => ⟨fun f2 w8 hf1 xt6 hp1 => ?_, fun _ _ _ _ h => h⟩, ?_⟩
        ·
          have H12 := H7.ext xt6
          have s5 : f2 24 = .pointer (some ⟨bb2, 1, none⟩) := hp1 0 rfl rfl
          refine ldX H12 0 rfl ty33 rfl s5 (by decide) rfl ?_
          exact ⟨_, rfl, Ext.refl _, rfl⟩
        refine ⟨fun _ => ⟨fun f3 w9 hf2 xt7 hp2 => ?_, fun _ _ _ _ h => h⟩, ?_⟩
        ·
          have H13 := H7.ext xt7
          refine mv rfl (hf2 6 rfl) ?_
          exact ⟨_, rfl, Ext.refl _, ⟨rfl, rv1⟩⟩
        refine ⟨fun _ => ⟨fun f4 w10 hf3 xt8 hp3 => ?_, fun _ _ _ _ h => h⟩, ?_⟩
        ·
          have H14 := H7.ext xt8
          refine fa fl35_1 rfl ((hf3 3 rfl).trans s1) ?_
          exact ⟨_, rfl, Ext.refl _, rfl⟩
        refine ⟨fun _ => ⟨fun f5 w11 hf4 xt9 hp4 => ?_, fun _ _ _ _ h => h⟩, ?_⟩
        ·
          have H15 := H7.ext xt9
          have s6 : f5 27 = .pointer (some ⟨bb2, 1, none⟩) := hp4 3 rfl rfl
          refine ldX H15 0 rfl ty33 rfl s6 (by decide) rfl ?_
          exact ⟨_, rfl, Ext.refl _, rfl⟩
        refine ⟨fun _ => ⟨fun f6 w12 hf5 xt10 hp5 => ?_, fun _ _ _ _ h => h⟩, ?_⟩
        ·
          have H16 := H7.ext xt10
          refine mv rfl (hf5 6 rfl) ?_
          exact ⟨_, rfl, Ext.refl _, ⟨rfl, rv1⟩⟩
        refine ⟨fun _ => ⟨fun f7 w13 hf6 xt11 hp6 => ?_, by rintro _ _ _ x_ ⟨g0, e_, hv0, hA1⟩; exact ⟨g0, e_, hv0, hA1.ext x_⟩⟩, ?_⟩
        ·
          have H17 := H7.ext xt11
          have s7 : f7 28 = .slice a0 (newMR (fi.length : Int)).length c0 := hp6 4 rfl rfl
          obtain ⟨s8, rv5⟩ : f7 29 = .int .i64 x0 ∧ I64 (x0) := hp6 5 rfl rfl
          refine iaO (H17.at_ 1 rfl) rfl rfl s7 s8 (by first | omega | (simp; omega)) un33 ty60 ?_
          intro g1 x2 hv1 hx2 hA2
          obtain rfl : x1 = x2 := Option.some.inj (hx1.symm.trans hx2)
          exact ⟨_, rfl, Ext.refl _, ⟨g1, rfl, hv1, hA2⟩⟩
        refine ⟨fun _ => ⟨fun f8 w14 hf7 xt12 hp7 => ?_, by rintro _ _ _ x_ ⟨a1, c1, e_, rv2⟩; exact ⟨a1, c1, e_, rv2.lift (Up.ext x_)⟩⟩, ?_⟩
        ·
          have H18 := H7.ext xt12
          obtain ⟨g2, s9, hv2, hA3⟩ : ∃ (g2 : Nat), f8 30 = .pointer (some ⟨g2, x0.toNat * 1, none⟩) ∧ (.slice a0 (newMR (fi.length : Int)).length c0 : Value).ownBlock = some g2 ∧ AtW (MS M [box bb2 #[.int .i64 (newMN (fi.length : Int)), .slice a0 (newMR (fi.length : Int)).length c0] 35, own w.heap.size 60 (.slice a0 (newMR (fi.length : Int)).length c0) xs, box bb1 #[.int .i64 0, .slice none 0 0] 35, box bb0 #[.slice a_fv n_fv c_fv, .slice a_fi fi.length c_fi, .slice a_fo fo.length c_fo] 29, imm (.slice a_fo fo.length c_fo) fo, imm (.slice a_fi fi.length c_fi) fi]) w14 ⟨g2, x0.toNat * 1, none⟩ x1 := hp7 6 rfl rfl
          refine ldL hA3 ty60 rfl s9 ?_
          intro a3 c3 rv6
          have ln1 := rv_len rv6
          have H19 := H18.put (it := imm (.slice a3 x1.length c3) x1) rfl rv6
          exact ⟨_, rfl, Ext.refl _, ⟨a3, c3, rfl, rv6⟩⟩
        refine ⟨fun _ => ⟨fun f9 w15 hf8 xt13 hp8 => ?_, fun _ _ _ _ h => h⟩, ?_⟩
        ·
          have H20 := H7.ext xt13
          refine mv rfl (hf8 5 rfl) ?_
          exact ⟨_, rfl, Ext.refl _, rfl⟩
        refine ⟨fun _ => ⟨fun f10 w16 hf9 xt14 hp9 => ?_, by rintro _ _ _ x_ ⟨a2, c2, e_, rv4⟩; exact ⟨a2, c2, e_, rv4.lift (Up.ext x_)⟩⟩, ?_⟩
        ·
          have H21 := H7.ext xt14
          obtain ⟨a4, c4, s10, rv7⟩ : ∃ (a4 : Option Addr) (c4 : Nat), f10 31 = .slice a4 x1.length c4 ∧ RV (MS M [box bb2 #[.int .i64 (newMN (fi.length : Int)), .slice a0 (newMR (fi.length : Int)).length c0] 35, own w.heap.size 60 (.slice a0 (newMR (fi.length : Int)).length c0) xs, box bb1 #[.int .i64 0, .slice none 0 0] 35, box bb0 #[.slice a_fv n_fv c_fv, .slice a_fi fi.length c_fi, .slice a_fo fo.length c_fo] 29, imm (.slice a_fo fo.length c_fo) fo, imm (.slice a_fi fi.length c_fi) fi]) w16 (.slice a4 x1.length c4) x1 := hp9 7 rfl rfl
          have H22 := H21.put (it := imm (.slice a4 x1.length c4) x1) rfl rv7
          have s11 : f10 32 = .int .i64 (j : Int) := hp9 8 rfl rfl
          have cc2 := row_Set (r := x1) (i := (j : Int)) (w := w16) H22.mb (H22.rv 0 rfl) (by unfold I64 at *; omega) (by first | (have e1_ := hx1; rw [hs] at e1_; exact (rfTo_sq (n := fi.length) (by omega) fo j).2 _ (List.mem_of_getElem? e1_)) | (have e1_ := hx2; rw [hs] at e1_; exact (rfTo_sq (n := fi.length) (by omega) fo j).2 _ (List.mem_of_getElem? e1_)) | (have e1_ := hx3; rw [hs] at e1_; exact (rfTo_sq (n := fi.length) (by omega) fo j).2 _ (List.mem_of_getElem? e1_)) | (have e1_ := hx4; rw [hs] at e1_; exact (rfTo_sq (n := fi.length) (by omega) fo j).2 _ (List.mem_of_getElem? e1_)) | (have e1_ := hx5; rw [hs] at e1_; exact (rfTo_sq (n := fi.length) (by omega) fo j).2 _ (List.mem_of_getElem? e1_)))
          refine ca go30 rfl (ec s10 (ec s11 e0)) cc2 ?_
          rintro _ w17 ⟨a5, c5, rfl, xt15, rv8⟩
          have rv9 := OwnsG.rv rv8 H22.mb
          have H23 := H22.ext xt15
          have H24 := H23.put (it := imm (.slice a5 (setR x1 (j : Int)).length c5) (setR x1 (j : Int))) rfl rv9
          exact ⟨_, rfl, xt15, ⟨a5, c5, rfl, (rv_drop rfl rv9)⟩⟩
        exact DSteps.rest rfl _
      · intro f11 w18 hf10 xt16 hp10
        have H25 := H7.ext xt16
        have s12 : f11 2 = .pointer (some ⟨bb1, 0, none⟩) := (hf10 2 rfl).trans s0
        have s13 : f11 3 = .pointer (some ⟨bb2, 0, none⟩) := (hf10 3 rfl).trans s1
        have s14 : f11 15 = .slice a_fo fo.length c_fo := (hf10 15 rfl).trans s2
        have s15 : f11 16 = .int .i64 (fo.length : Int) := (hf10 16 rfl).trans s3
        have s16 : f11 17 = .int .i64 (j : Int) := (hf10 17 rfl).trans s4
        have s17 : f11 25 = .slice a0 (newMR (fi.length : Int)).length c0 := hp10 1 rfl
        obtain ⟨s18, rv10⟩ : f11 26 = .int .i64 x0 ∧ I64 (x0) := hp10 2 rfl
        obtain ⟨a6, c6, s19, rv11⟩ : ∃ (a6 : Option Addr) (c6 : Nat), f11 33 = .slice a6 (setR x1 (j : Int)).length c6 ∧ RV (MS M [box bb2 #[.int .i64 (newMN (fi.length : Int)), .slice a0 (newMR (fi.length : Int)).length c0] 35, own w.heap.size 60 (.slice a0 (newMR (fi.length : Int)).length c0) xs, box bb1 #[.int .i64 0, .slice none 0 0] 35, box bb0 #[.slice a_fv n_fv c_fv, .slice a_fi fi.length c_fi, .slice a_fo fo.length c_fo] 29, imm (.slice a_fo fo.length c_fo) fo, imm (.slice a_fi fi.length c_fi) fi]) w18 (.slice a6 (setR x1 (j : Int)).length c6) (setR x1 (j : Int)) := hp10 9 rfl
        have H26 := H25.put (it := imm (.slice a6 (setR x1 (j : Int)).length c6) (setR x1 (j : Int))) rfl rv11
        refine k (iaO (H26.at_ 2 rfl) rfl rfl s17 s18 (by first | omega | (simp; omega)) un33 ty60 ?_)
        intro g3 x3 hv3 hx3 hA4
        refine k (stO H26 2 rfl hv3 rfl (by first | omega | (simp; omega)) ty60 rfl rfl rfl s19 (H26.rv 0 rfl) ?_)
        intro w19 (H27 : HI M w w19 [imm (.slice a6 (setR x1 (j : Int)).length c6) (setR x1 (j : Int)), box bb2 #[.int .i64 (newMN (fi.length : Int)), .slice a0 (newMR (fi.length : Int)).length c0] 35, own w.heap.size 60 (.slice a0 (newMR (fi.length : Int)).length c0) (xs.set x0.toNat (setR x1 (j : Int))), box bb1 #[.int .i64 0, .slice none 0 0] 35, box bb0 #[.slice a_fv n_fv c_fv, .slice a_fi fi.length c_fi, .slice a_fo fo.length c_fo] 29, imm (.slice a_fo fo.length c_fo) fo, imm (.slice a_fi fi.length c_fi) fi])
        refine z (inb_normal (nx (rg (k (add rfl rfl s16 rfl (by unfold I64 at *; omega) (k (mv (v := .int .i64 ((j : Int) + 1)) rfl rfl (z ?_))))))))
        have H28 : HI M w w19 [box bb2 #[.int .i64 (newMN (fi.length : Int)), .slice a0 (newMR (fi.length : Int)).length c0] 35, own w.heap.size 60 (.slice a0 (newMR (fi.length : Int)).length c0) (xs.set x0.toNat (setR x1 (j : Int))), box bb1 #[.int .i64 0, .slice none 0 0] 35, box bb0 #[.slice a_fv n_fv c_fv, .slice a_fi fi.length c_fi, .slice a_fo fo.length c_fo] 29, imm (.slice a_fo fo.length c_fo) fo, imm (.slice a_fi fi.length c_fi) fi] := H27.pickN [1, 2, 3, 4, 5, 6] (by decide) rfl
        refine loopN _ ?_ ⟨(j + 1), (xs.set x0.toNat (setR x1 (j : Int))), rfl, s12, s13, s14, s15, (ieq rfl (by first | rfl | omega | (push_cast; omega))), H28, (by first | assumption | omega | simp | (simp; omega)), (by first | assumption | simpa using hl), (by first | exact rf_put hs hx0 (by omega) (by omega) (by omega) hx1 | exact rf_put hs hx0 (by omega) (by omega) (by omega) hx2 | exact rf_put hs hx0 (by omega) (by omega) (by omega) hx3 | exact rf_put hs hx0 (by omega) (by omega) (by omega) hx4 | exact rf_put hs hx0 (by omega) (by omega) (by omega) hx5 | (rw [hs]; exact rf_no hx0 (by omega)))⟩
        omega
    ·
      have p1 := of_decide_eq_false b1
      refine sk (inb_normal (nx (rg (k (add rfl rfl s4 rfl (by unfold I64 at *; omega) (k (mv (v := .int .i64 ((j : Int) + 1)) rfl rfl (z ?_))))))))
      refine loopN _ ?_ ⟨(j + 1), xs, rfl, s0, s1, s2, s3, (ieq rfl (by first | rfl | omega | (push_cast; omega))), H7, (by first | assumption | omega | simp | (simp; omega)), (by first | assumption | simpa using hl), (by first | exact rf_put hs hx0 (by omega) (by omega) (by omega) hx1 | exact rf_put hs hx0 (by omega) (by omega) (by omega) hx2 | exact rf_put hs hx0 (by omega) (by omega) (by omega) hx3 | exact rf_put hs hx0 (by omega) (by omega) (by omega) hx4 | exact rf_put hs hx0 (by omega) (by omega) (by omega) hx5 | (rw [hs]; exact rf_no hx0 (by omega)))⟩
      omega
  ·
    have p0 := of_decide_eq_false b0
    refine ex (then_exit (loop_exit (inb_here (nx (sq (rg (k (ldX H7 0 rfl ty35 rfl s1 (by decide) rfl (k (stX H7 2 rfl ty35 rfl rfl s0 rfl rfl rfl rfl ?_))))))))))
    intro w6 (H8 : HI M w w6 [box bb2 #[.int .i64 (newMN (fi.length : Int)), .slice a0 (newMR (fi.length : Int)).length c0] 35, own w.heap.size 60 (.slice a0 (newMR (fi.length : Int)).length c0) xs, box bb1 #[.int .i64 (newMN (fi.length : Int)), .slice a0 (newMR (fi.length : Int)).length c0] 35, box bb0 #[.slice a_fv n_fv c_fv, .slice a_fi fi.length c_fi, .slice a_fo fo.length c_fo] 29, imm (.slice a_fo fo.length c_fo) fo, imm (.slice a_fi fi.length c_fi) fi])
    refine z (nx (rt (rc1 H8 2 rfl ty35 rfl rfl s0 rfl (by decide) ?_)))
    have e0 : (newMN (fi.length : Int) : Int) = (fi.length : Int) := by rw [en]
    have e1 : (xs : List (List (BitVec 64))) = rfR fi fo := by rw [hs]; exact rf_end hfo (by omega)
    have l1 : (newMR (fi.length : Int)).length = (rfR fi fo).length := by first | (rw [← e1]; omega) | (rw [er, newM_length, rfR_len]; simp)
    have ev_ := cg2 (fun (x_0 : Int) (n_1 : Nat) => (.agg #[.int .i64 x_0, .slice a0 n_1 c0] : Value)) e0 l1
    exact ⟨a0, c0, ev_, H8.below, (congrArg (fun (n_ : Nat) => OwnsG _ _ _ (rfR fi fo) (.slice a0 n_ c0) _) l1).mp ((congrArg (fun (x_ : List (List (BitVec 64))) => OwnsG _ _ _ x_ (.slice a0 (newMR (fi.length : Int)).length c0) _) e1).mp (H8.ownsG_out 1 rfl))⟩
set_option maxRecDepth 100000 in
set_option maxHeartbeats 1600000 in
theorem cause_Edges {M : Nat → Prop} {w : World} {a_fv : Option Addr} {n_fv c_fv : Nat} {a_fi : Option Addr} {c_fi : Nat} {fi : List (Int × Int × Bool × Int × Int)} {a_fo : Option Addr} {c_fo : Nat} {fo : List Int} (hM : ∀ b, M b → b < w.heap.size) (h_fi : RV M w (.slice a_fi fi.length c_fi) fi) (h_fo : RV M w (.slice a_fo fo.length c_fo) fo) (ho : OrdI fi) (hn_fi : fi.length ≤ 4096) (hfo : fo.length = fi.length) (hfr : ∀ x ∈ fo, x < ((fi.length : Nat) : Int)) : Calls Try.prog 12 #[.agg #[.slice a_fv n_fv c_fv, .slice a_fi fi.length c_fi, .slice a_fo fo.length c_fo]] w (Ret fun v w' => ∃ (a0 : Option Addr) (c0 : Nat), v = .agg #[.int .i64 (fi.length : Int), .slice a0 (edR fi fo).length c0] ∧ Ext w w' ∧ RV M w' (.slice a0 (edR fi fo).length c0) (edR fi fo)) := by
  refine enter 14 Try.func12 rfl rfl rfl fun f0 ha => ?_
  have H := HI.start (M0 := M) (w := w) hM
  have H0 := H.put (it := imm (.slice a_fi fi.length c_fi) fi) rfl (by rw [MS_nil]; exact h_fi)
  have H1 := H0.put (it := imm (.slice a_fo fo.length c_fo) fo) rfl (by rw [MS_cons_none rfl, MS_nil]; exact h_fo)
  have ln_fi := rv_len h_fi
  have ln_fo := rv_len h_fo
  have i0 : f0 0 = .agg #[.slice a_fv n_fv c_fv, .slice a_fi fi.length c_fi, .slice a_fo fo.length c_fo] := ha 0 (by simp)
  refine sq (rg (k (bx H1 rfl i0 ?_)))
  intro bb0 w0 xt0 (H2 : HI M w w0 [box bb0 #[.slice a_fv n_fv c_fv, .slice a_fi fi.length c_fi, .slice a_fo fo.length c_fo] 29, imm (.slice a_fo fo.length c_fo) fo, imm (.slice a_fi fi.length c_fi) fi])
  refine k (al H2 ty35 ?_)
  intro bb1 w1 xt1 (H3 : HI M w w1 [box bb1 #[.int .i64 0, .slice none 0 0] 35, box bb0 #[.slice a_fv n_fv c_fv, .slice a_fi fi.length c_fi, .slice a_fo fo.length c_fo] 29, imm (.slice a_fo fo.length c_fo) fo, imm (.slice a_fi fi.length c_fi) fi])
  refine z (nx (sq ?_))
  refine drn [.v, .v, .v, .v, .v, .v, .v, .v, .n, .s 8 6, .v] [fun (N : Nat → Prop) (v : Value) (w' : World) => v = .agg #[.slice a_fv n_fv c_fv, .slice a_fi fi.length c_fi, .slice a_fo fo.length c_fo], fun (N : Nat → Prop) (v : Value) (w' : World) => ∃ (a0 : Option Addr) (c0 : Nat), v = .agg #[.int .i64 (fi.length : Int), .slice a0 (poR fi).length c0] ∧ RV (MN (MS M [box bb1 #[.int .i64 0, .slice none 0 0] 35, box bb0 #[.slice a_fv n_fv c_fv, .slice a_fi fi.length c_fi, .slice a_fo fo.length c_fo] 29, imm (.slice a_fo fo.length c_fo) fo, imm (.slice a_fi fi.length c_fi) fi]) N) w' (.slice a0 (poR fi).length c0) (poR fi), fun (N : Nat → Prop) (v : Value) (w' : World) => v = .agg #[.slice a_fv n_fv c_fv, .slice a_fi fi.length c_fi, .slice a_fo fo.length c_fo], fun (N : Nat → Prop) (v : Value) (w' : World) => ∃ (a1 : Option Addr) (c1 : Nat), v = .agg #[.int .i64 (fi.length : Int), .slice a1 (rfR fi fo).length c1] ∧ RV (MN (MS M [box bb1 #[.int .i64 0, .slice none 0 0] 35, box bb0 #[.slice a_fv n_fv c_fv, .slice a_fi fi.length c_fi, .slice a_fo fo.length c_fo] 29, imm (.slice a_fo fo.length c_fo) fo, imm (.slice a_fi fi.length c_fi) fi]) N) w' (.slice a1 (rfR fi fo).length c1) (rfR fi fo), fun (N : Nat → Prop) (v : Value) (w' : World) => ∃ (a2 : Option Addr) (c2 : Nat), v = .tuple #[.agg #[.int .i64 (orMN (fi.length : Int) (fi.length : Int)), .slice a2 (orMR (fi.length : Int) (poR fi) (fi.length : Int) (rfR fi fo)).length c2], .int .i64 (orME (fi.length : Int) (fi.length : Int))] ∧ RV (MN (MS M [box bb1 #[.int .i64 0, .slice none 0 0] 35, box bb0 #[.slice a_fv n_fv c_fv, .slice a_fi fi.length c_fi, .slice a_fo fo.length c_fo] 29, imm (.slice a_fo fo.length c_fo) fo, imm (.slice a_fi fi.length c_fi) fi]) N) w' (.slice a2 (orMR (fi.length : Int) (poR fi) (fi.length : Int) (rfR fi fo)).length c2) (orMR (fi.length : Int) (poR fi) (fi.length : Int) (rfR fi fo)), fun (N : Nat → Prop) (v : Value) (w' : World) => ∃ (a2 : Option Addr) (c2 : Nat), v = .tuple #[.agg #[.int .i64 (orMN (fi.length : Int) (fi.length : Int)), .slice a2 (orMR (fi.length : Int) (poR fi) (fi.length : Int) (rfR fi fo)).length c2], .int .i64 (orME (fi.length : Int) (fi.length : Int))] ∧ RV (MN (MS M [box bb1 #[.int .i64 0, .slice none 0 0] 35, box bb0 #[.slice a_fv n_fv c_fv, .slice a_fi fi.length c_fi, .slice a_fo fo.length c_fo] 29, imm (.slice a_fo fo.length c_fo) fo, imm (.slice a_fi fi.length c_fi) fi]) N) w' (.slice a2 (orMR (fi.length : Int) (poR fi) (fi.length : Int) (rfR fi fo)).length c2) (orMR (fi.length : Int) (poR fi) (fi.length : Int) (rfR fi fo)), fun (N : Nat → Prop) (v : Value) (w' : World) => ∃ (a2 : Option Addr) (c2 : Nat), v = .agg #[.int .i64 (orMN (fi.length : Int) (fi.length : Int)), .slice a2 (orMR (fi.length : Int) (poR fi) (fi.length : Int) (rfR fi fo)).length c2] ∧ RV (MN (MS M [box bb1 #[.int .i64 0, .slice none 0 0] 35, box bb0 #[.slice a_fv n_fv c_fv, .slice a_fi fi.length c_fi, .slice a_fo fo.length c_fo] 29, imm (.slice a_fo fo.length c_fo) fo, imm (.slice a_fi fi.length c_fi) fi]) N) w' (.slice a2 (orMR (fi.length : Int) (poR fi) (fi.length : Int) (rfR fi fo)).length c2) (orMR (fi.length : Int) (poR fi) (fi.length : Int) (rfR fi fo)), fun (N : Nat → Prop) (v : Value) (w' : World) => v = .int .i64 (orME (fi.length : Int) (fi.length : Int)), fun _ _ _ => True, fun _ _ _ => True, fun (N : Nat → Prop) (v : Value) (w' : World) => v = .int .i64 (orME (fi.length : Int) (fi.length : Int))] [(#[], 0), (#[], 0), (#[], 0), (#[], 0), (#[], 0), (#[], 0), (#[], 0), (#[], 0), (#[.int .i64 0, .slice none 0 0], 35), (#[], 0), (#[], 0)] rfl (by kernel_rfl) ?_ ?_
  ·
    refine ⟨⟨fun _ _ _ _ _ _ h => h, rfl, fun f0 w6 N0 hf0 xt6 hN0 hp0 => ?_⟩, ?_⟩
    ·
      refine ldX (H3.ext xt6) 1 rfl ty29 rfl (hf0 1 rfl) (by decide) rfl ?_
      exact ⟨_, rfl, Ext.refl _, rfl⟩
    refine ⟨⟨by rintro _ _ _ _ _ k_ ⟨a0, c0, e_, rv3⟩; exact ⟨a0, c0, e_, rvn_keep rv3 k_⟩, rfl, fun f1 w7 N1 hf1 xt7 hN1 hp1 => ?_⟩, ?_⟩
    ·
      have hq0 := hp1 0 rfl ⟨_, rfl, rfl⟩
      have s0 : f1 6 = .agg #[.slice a_fv n_fv c_fv, .slice a_fi fi.length c_fi, .slice a_fo fo.length c_fo] := hq0
      have cc3 := session_Po (fi := fi) (a_fv := a_fv) (n_fv := n_fv) (c_fv := c_fv) (a_fo := a_fo) (n_fo := fo.length) (c_fo := c_fo) (w := w7) (mn_below H3.mb xt7 hN1) (rvn_old (H3.rv 3 rfl) xt7 hN1) (by exact ho) (by first | exact hn_fi | omega)
      refine ca go33 rfl (ec s0 e0) cc3 ?_
      rintro _ w8 ⟨a3, c3, rfl, xt8, rv6⟩
      exact ⟨_, rfl, xt8, ⟨a3, c3, rfl, (OwnsG.rv rv6 (mn_below H3.mb xt7 hN1))⟩⟩
    refine ⟨⟨fun _ _ _ _ _ _ h => h, rfl, fun f2 w9 N2 hf2 xt9 hN2 hp2 => ?_⟩, ?_⟩
    ·
      refine ldX (H3.ext xt9) 1 rfl ty29 rfl (hf2 1 rfl) (by decide) rfl ?_
      exact ⟨_, rfl, Ext.refl _, rfl⟩
    refine ⟨⟨by rintro _ _ _ _ _ k_ ⟨a1, c1, e_, rv4⟩; exact ⟨a1, c1, e_, rvn_keep rv4 k_⟩, rfl, fun f3 w10 N3 hf3 xt10 hN3 hp3 => ?_⟩, ?_⟩
    ·
      have hq1 := hp3 2 rfl ⟨_, rfl, rfl⟩
      have s1 : f3 8 = .agg #[.slice a_fv n_fv c_fv, .slice a_fi fi.length c_fi, .slice a_fo fo.length c_fo] := hq1
      have cc4 := cause_Rf (fi := fi) (fo := fo) (a_fv := a_fv) (n_fv := n_fv) (c_fv := c_fv) (w := w10) (mn_below H3.mb xt10 hN3) (rvn_old (H3.rv 3 rfl) xt10 hN3) (rvn_old (H3.rv 2 rfl) xt10 hN3) (by first | exact hn_fi | omega) (by exact hfo) (by exact hfr)
      refine ca go10 rfl (ec s1 e0) cc4 ?_
      rintro _ w11 ⟨a4, c4, rfl, xt11, rv7⟩
      exact ⟨_, rfl, xt11, ⟨a4, c4, rfl, (OwnsG.rv rv7 (mn_below H3.mb xt10 hN3))⟩⟩
    refine ⟨⟨by rintro _ _ _ _ _ k_ ⟨a2, c2, e_, rv5⟩; exact ⟨a2, c2, e_, rvn_keep rv5 k_⟩, rfl, fun f4 w12 N4 hf4 xt12 hN4 hp4 => ?_⟩, ?_⟩
    ·
      have hq2 := hp4 1 rfl ⟨_, rfl, rfl⟩
      obtain ⟨a0, c0, s2, rv3⟩ := hq2
      have hq3 := hp4 3 rfl ⟨_, rfl, rfl⟩
      obtain ⟨a1, c1, s3, rv4⟩ := hq3
      have cc5 := mat_Or (an := (fi.length : Int)) (ar := (poR fi)) (bn := (fi.length : Int)) (br := (rfR fi fo)) (w := w12) (mn_below H3.mb xt12 hN4) (by unfold I64 at *; omega) rv3 (by unfold I64 at *; omega) rv4 (by exact (mat_sq (by omega) _).1) (by exact (mat_sq (by omega) _).2) (by omega) (by exact (mat_sq (by omega) _).1) (by exact (mat_sq (by omega) _).2) (by omega)
      refine ca go32 rfl (ec s2 (ec s3 e0)) cc5 ?_
      rintro _ w13 ⟨a5, c5, rfl, xt13, rv8⟩
      exact ⟨_, rfl, xt13, ⟨a5, c5, rfl, (OwnsG.rv rv8 (mn_below H3.mb xt12 hN4))⟩⟩
    refine ⟨⟨by rintro _ _ _ _ _ k_ ⟨a2, c2, e_, rv5⟩; exact ⟨a2, c2, e_, rvn_keep rv5 k_⟩, rfl, fun f5 w14 N5 hf5 xt14 hN5 hp5 => ?_⟩, ?_⟩
    ·
      have hq4 := hp5 4 rfl ⟨_, rfl, rfl⟩
      obtain ⟨a2, c2, s4, rv5⟩ := hq4
      refine mv rfl s4 ?_
      exact ⟨_, rfl, Ext.refl _, ⟨a2, c2, rfl, rv5⟩⟩
    refine ⟨⟨by rintro _ _ _ _ _ k_ ⟨a2, c2, e_, rv5⟩; exact ⟨a2, c2, e_, rvn_keep rv5 k_⟩, rfl, fun f6 w15 N6 hf6 xt15 hN6 hp6 => ?_⟩, ?_⟩
    ·
      have hq5 := hp6 5 rfl ⟨_, rfl, rfl⟩
      obtain ⟨a2, c2, s5, rv5⟩ := hq5
      refine xt rfl s5 rfl ?_
      exact ⟨_, rfl, Ext.refl _, ⟨a2, c2, rfl, rv5⟩⟩
    refine ⟨⟨fun _ _ _ _ _ _ h => h, rfl, fun f7 w16 N7 hf7 xt16 hN7 hp7 => ?_⟩, ?_⟩
    ·
      have hq6 := hp7 5 rfl ⟨_, rfl, rfl⟩
      obtain ⟨a2, c2, s6, rv5⟩ := hq6
      refine xt rfl s6 rfl ?_
      exact ⟨_, rfl, Ext.refl _, rfl⟩
    refine ⟨⟨fun _ _ _ _ _ _ h => h, rfl, fun _ _ _ => trivial, fun f8 w17 N8 hf8 xt17 hN8 hp8 => ?_⟩, ?_⟩
    ·
      refine alS ty35 ?_
      exact ⟨rfl, rfl⟩
    refine ⟨⟨fun _ _ _ _ _ _ h => h, rfl, rfl, rfl, ⟨_, rfl, rfl⟩, ⟨_, rfl, rfl⟩, by decide, trivial, by rintro _ _ _ ⟨a2, c2, e_, rv5⟩; subst e_; rfl, fun f9 w18 N_ bb3 cur0 xt18 s7 hb0 hc0 hv0 => ?_⟩, ?_⟩
    ·
      obtain ⟨a2, c2, e_, rv5⟩ := hv0
      exact stS ty35 rfl rfl s7 rfl hb0 ((congrArg (fun v => v.cells.size) e_).trans rfl) hc0 ((congrArg (fun v => v.cells.toList.all Value.oneCell') e_).trans rfl)
    refine ⟨⟨fun _ _ _ _ _ _ h => h, rfl, fun f10 w19 N9 hf9 xt19 hN9 hp9 => ?_⟩, ?_⟩
    ·
      have hq7 := hp9 7 rfl ⟨_, rfl, rfl⟩
      have s8 : f10 12 = .int .i64 (orME (fi.length : Int) (fi.length : Int)) := hq7
      refine asg rfl s8 ?_
      exact ⟨_, rfl, Ext.refl _, rfl⟩
    exact trivial
  · intro f11 w20 I0 hf10 xt20 hp10 hN10 hd0
    have s9 : f11 2 = .pointer (some ⟨bb1, 0, none⟩) := hf10 2 rfl
    obtain ⟨a6, c6, s10, rv9⟩ := (hp10 6 _ rfl rfl)
    obtain ⟨s11, hg0, -, cur1, hc1, hk0⟩ := hN10 8 (by decide) trivial
    have hq8 : cur1 = #[.int .i64 (orMN (fi.length : Int) (fi.length : Int)), .slice a6 (orMR (fi.length : Int) (poR fi) (fi.length : Int) (rfR fi fo)).length c6] := (hk0.2.1 9 6 rfl rfl).trans (congrArg Value.cells s10)
    rw [hq8] at hc1
    have hz8_ := hg0
    have H5 : HI M w w20 [box (I0 8) #[.int .i64 (orMN (fi.length : Int) (fi.length : Int)), .slice a6 (orMR (fi.length : Int) (poR fi) (fi.length : Int) (rfR fi fo)).length c6] 35, box bb1 #[.int .i64 0, .slice none 0 0] 35, box bb0 #[.slice a_fv n_fv c_fv, .slice a_fi fi.length c_fi, .slice a_fo fo.length c_fo] 29, imm (.slice a_fo fo.length c_fo) fo, imm (.slice a_fi fi.length c_fi) fi] := H3.lays xt20 [((I0 8), #[.int .i64 (orMN (fi.length : Int) (fi.length : Int)), .slice a6 (orMR (fi.length : Int) (poR fi) (fi.length : Int) (rfR fi fo)).length c6], 35)] (by intro q_ hq_; simp only [List.mem_cons, List.not_mem_nil, or_false] at hq_; rcases hq_ with rfl <;> first | exact ⟨hz8_, hc1⟩) (by simp only [List.map_cons, List.map_nil, List.nodup_cons, List.mem_cons, List.not_mem_nil, or_false, List.nodup_nil, and_true, not_or, not_false_eq_true, true_and] <;> omega)
    have H6 := H5.put (it := imm (.slice a6 (orMR (fi.length : Int) (poR fi) (fi.length : Int) (rfR fi fo)).length c6) (orMR (fi.length : Int) (poR fi) (fi.length : Int) (rfR fi fo))) rfl (rvn_out [((I0 8), #[.int .i64 (orMN (fi.length : Int) (fi.length : Int)), .slice a6 (orMR (fi.length : Int) (poR fi) (fi.length : Int) (rfR fi fo)).length c6], 35)] rv9 (by intro q_ hq_; simp only [List.mem_cons, List.not_mem_nil, or_false] at hq_; rcases hq_ with rfl <;> first | exact ⟨8, by decide, rfl, trivial, rfl⟩))
    refine nx (sq (rg (k (ldX H6 1 rfl ty35 rfl s11 (by decide) rfl (k (stX H6 2 rfl ty35 rfl rfl s9 rfl rfl rfl rfl ?_))))))
    intro w21 (H7 : HI M w w21 [imm (.slice a6 (orMR (fi.length : Int) (poR fi) (fi.length : Int) (rfR fi fo)).length c6) (orMR (fi.length : Int) (poR fi) (fi.length : Int) (rfR fi fo)), box (I0 8) #[.int .i64 (orMN (fi.length : Int) (fi.length : Int)), .slice a6 (orMR (fi.length : Int) (poR fi) (fi.length : Int) (rfR fi fo)).length c6] 35, box bb1 #[.int .i64 (orMN (fi.length : Int) (fi.length : Int)), .slice a6 (orMR (fi.length : Int) (poR fi) (fi.length : Int) (rfR fi fo)).length c6] 35, box bb0 #[.slice a_fv n_fv c_fv, .slice a_fi fi.length c_fi, .slice a_fo fo.length c_fo] 29, imm (.slice a_fo fo.length c_fo) fo, imm (.slice a_fi fi.length c_fi) fi])
    refine z (nx (rt (rc1 H7 2 rfl ty35 rfl rfl s9 rfl (by decide) ?_)))
    have e0 : (orMN (fi.length : Int) (fi.length : Int) : Int) = (fi.length : Int) := by exact (ed_or fi fo).1
    have e1 : (orMR (fi.length : Int) (poR fi) (fi.length : Int) (rfR fi fo) : List (List (BitVec 64))) = edR fi fo := by exact (ed_or fi fo).2
    have ev_ := cg2 (fun (x_0 : Int) (x_1 : List (List (BitVec 64))) => (.agg #[.int .i64 x_0, .slice a6 x_1.length c6] : Value)) e0 e1
    exact ⟨a6, c6, ev_, H7.below, (congrArg (fun (x_ : List (List (BitVec 64))) => RV _ _ (.slice a6 x_.length c6) x_) e1).mp (H7.gives_out 0 rfl)⟩
set_option maxRecDepth 100000 in
set_option maxHeartbeats 1600000 in
theorem cause_Co {M : Nat → Prop} {w : World} {a_fv : Option Addr} {n_fv c_fv : Nat} {a_fi : Option Addr} {c_fi : Nat} {fi : List (Int × Int × Bool × Int × Int)} {a_fo : Option Addr} {c_fo : Nat} {fo : List Int} (hM : ∀ b, M b → b < w.heap.size) (h_fi : RV M w (.slice a_fi fi.length c_fi) fi) (h_fo : RV M w (.slice a_fo fo.length c_fo) fo) (ho : OrdI fi) (hn_fi : fi.length ≤ 4096) (hfo : fo.length = fi.length) (hfr : ∀ x ∈ fo, x < ((fi.length : Nat) : Int)) : Calls Try.prog 14 #[.agg #[.slice a_fv n_fv c_fv, .slice a_fi fi.length c_fi, .slice a_fo fo.length c_fo]] w (Ret fun v w' => ∃ (a0 : Option Addr) (c0 : Nat), v = .agg #[.int .i64 (fi.length : Int), .slice a0 (coR fi fo).length c0] ∧ Ext w w' ∧ RV M w' (.slice a0 (coR fi fo).length c0) (coR fi fo)) := by
  refine enter 6 Try.func14 rfl rfl rfl fun f0 ha => ?_
  have H := HI.start (M0 := M) (w := w) hM
  have H0 := H.put (it := imm (.slice a_fi fi.length c_fi) fi) rfl (by rw [MS_nil]; exact h_fi)
  have H1 := H0.put (it := imm (.slice a_fo fo.length c_fo) fo) rfl (by rw [MS_cons_none rfl, MS_nil]; exact h_fo)
  have ln_fi := rv_len h_fi
  have ln_fo := rv_len h_fo
  have i0 : f0 0 = .agg #[.slice a_fv n_fv c_fv, .slice a_fi fi.length c_fi, .slice a_fo fo.length c_fo] := ha 0 (by simp)
  refine sq (rg (k (bx H1 rfl i0 ?_)))
  intro bb0 w0 xt0 (H2 : HI M w w0 [box bb0 #[.slice a_fv n_fv c_fv, .slice a_fi fi.length c_fi, .slice a_fo fo.length c_fo] 29, imm (.slice a_fo fo.length c_fo) fo, imm (.slice a_fi fi.length c_fi) fi])
  refine k (al H2 ty35 ?_)
  intro bb1 w1 xt1 (H3 : HI M w w1 [box bb1 #[.int .i64 0, .slice none 0 0] 35, box bb0 #[.slice a_fv n_fv c_fv, .slice a_fi fi.length c_fi, .slice a_fo fo.length c_fo] 29, imm (.slice a_fo fo.length c_fo) fo, imm (.slice a_fi fi.length c_fi) fi])
  refine z (nx (sq (rg (k (ldX H3 1 rfl ty29 rfl rfl (by decide) rfl (k ?_))))))
  have cc0 := cause_Edges (fi := fi) (fo := fo) (a_fv := a_fv) (n_fv := n_fv) (c_fv := c_fv) (w := w1) H3.mb (H3.rv 3 rfl) (H3.rv 2 rfl) (by exact ho) (by first | exact hn_fi | omega) (by exact hfo) (by exact hfr)
  refine ca go12 rfl (ec rfl e0) cc0 ?_
  rintro _ w2 ⟨a0, c0, rfl, xt2, rv0⟩
  have H4 := H3.ext xt2
  have H5 := H4.put (it := imm (.slice a0 (edR fi fo).length c0) (edR fi fo)) rfl rv0
  refine k ?_
  have cc1 := hull_Close (mn := (fi.length : Int)) (mr := (edR fi fo)) (w := w2) H5.mb (by unfold I64 at *; omega) (H5.rv 0 rfl) (by exact ed_right fo hn_fi)
  refine ca go35 rfl (ec rfl e0) cc1 ?_
  rintro _ w3 ⟨a1, c1, rfl, xt3, rv1⟩
  have H6 := H5.ownsG rv1
  refine k (stX H6 2 rfl ty35 rfl rfl rfl rfl rfl rfl rfl ?_)
  intro w4 (H7 : HI M w w4 [own w.heap.size 60 (.slice a1 (closeM (fi.length : Int) (edR fi fo)).length c1) (closeM (fi.length : Int) (edR fi fo)), imm (.slice a0 (edR fi fo).length c0) (edR fi fo), box bb1 #[.int .i64 (fi.length : Int), .slice a1 (closeM (fi.length : Int) (edR fi fo)).length c1] 35, box bb0 #[.slice a_fv n_fv c_fv, .slice a_fi fi.length c_fi, .slice a_fo fo.length c_fo] 29, imm (.slice a_fo fo.length c_fo) fo, imm (.slice a_fi fi.length c_fi) fi])
  refine z (nx (rt (rc1 H7 2 rfl ty35 rfl rfl rfl rfl (by decide) ?_)))
  have e1 : (closeM (fi.length : Int) (edR fi fo) : List (List (BitVec 64))) = coR fi fo := by exact co_close fi fo
  have ev_ := cg1 (fun (x_1 : List (List (BitVec 64))) => (.agg #[.int .i64 (fi.length : Int), .slice a1 x_1.length c1] : Value)) e1
  exact ⟨a1, c1, ev_, H7.below, (congrArg (fun (x_ : List (List (BitVec 64))) => RV _ _ (.slice a1 x_.length c1) x_) e1).mp (H7.outO 0 rfl)⟩
end Go.Proofs.Ytmhopljngkgidaa
namespace Go.Proofs.Ytmhopljngkgidaa
open Go.Ew Go.RowKit
set_option linter.unusedVariables false
set_option linter.unusedSimpArgs false
attribute [local irreducible] WL WC SO Code.wp wpList retQ Ret
attribute [local irreducible] bitB hasW inR hasR setR countW countR subR words newR listR orR firstW tab8
theorem go8 : GoF Try.prog 8 := ⟨_, _, Try.func8, rfl, by kernel_rfl⟩
theorem go14 : GoF Try.prog 14 := ⟨_, _, Try.func14, rfl, by kernel_rfl⟩
set_option maxRecDepth 100000 in
set_option maxHeartbeats 1600000 in
theorem awake13 {w : World}  : Calls Try.prog 7 #[] w (Ret fun v w' =>  v = .bool true ∧ Ext w w') := by
  refine enter 36 Try.func7 rfl rfl rfl fun f0 ha => ?_
  have H := HI.start (M0 := (fun _ => False)) (w := w) (fun _ h => h.elim)
  refine sq (rg (k (asg (v := .bool false) rfl rfl (z (nx (sq (rg (k (bd (v := .agg #[.bool true, .string ⟨#[120]⟩, .int .i64 1]) rfl (pbc rfl (pbc rfl (pbc rfl pb0))) (fun _ => by kernel_rfl) (k (bs (xs := ([(true, ⟨#[120]⟩, 1)] : List (Bool × ByteArray × Int))) (cells := #[.bool true, .string ⟨#[120]⟩, .int .i64 1]) (e := 50) H rfl (pbc rfl pb0) (fun _ => by kernel_rfl) ⟨[.bool true, .string ⟨#[120]⟩, .int .i64 1], [], rfl, ⟨_, _, rfl, rfl, ⟨_, _, rfl, ⟨rfl, (by decide +kernel)⟩, ⟨rfl, (show I64 (1) from (by first | (unfold I64; decide +kernel) | decide +kernel))⟩⟩⟩, rfl⟩ rfl (by unfold maxLen; omega) ?_)))))))))))
  intro g0 w0 xt0 (H0 : HI (fun _ => False) w w0 [own w.heap.size 50 (.slice (some ⟨g0, 0, none⟩) 1 1) ([(true, ⟨#[120]⟩, 1)] : List (Bool × ByteArray × Int))])
  refine k (bd (v := .agg #[.bool false, .string ⟨#[120]⟩, .int .i64 1]) rfl (pbc rfl (pbc rfl pb0)) (fun _ => by kernel_rfl) (k (bd (v := .agg #[.bool true, .string ⟨#[121]⟩, .int .i64 1]) rfl (pbc rfl (pbc rfl (pbc rfl pb0))) (fun _ => by kernel_rfl) (k (bs (xs := ([(false, ⟨#[120]⟩, 1), (true, ⟨#[121]⟩, 1)] : List (Bool × ByteArray × Int))) (cells := #[.bool false, .string ⟨#[120]⟩, .int .i64 1, .bool true, .string ⟨#[121]⟩, .int .i64 1]) (e := 50) H0 rfl (pbc rfl (pbc rfl pb0)) (fun _ => by kernel_rfl) ⟨[.bool false, .string ⟨#[120]⟩, .int .i64 1], [.bool true, .string ⟨#[121]⟩, .int .i64 1], rfl, ⟨_, _, rfl, rfl, ⟨_, _, rfl, ⟨rfl, (by decide +kernel)⟩, ⟨rfl, (show I64 (1) from (by first | (unfold I64; decide +kernel) | decide +kernel))⟩⟩⟩, ⟨[.bool true, .string ⟨#[121]⟩, .int .i64 1], [], rfl, ⟨_, _, rfl, rfl, ⟨_, _, rfl, ⟨rfl, (by decide +kernel)⟩, ⟨rfl, (show I64 (1) from (by first | (unfold I64; decide +kernel) | decide +kernel))⟩⟩⟩, rfl⟩⟩ rfl (by unfold maxLen; omega) ?_)))))
  intro g1 w1 xt1 (H1 : HI (fun _ => False) w w1 [own w.heap.size 50 (.slice (some ⟨g1, 0, none⟩) 2 2) ([(false, ⟨#[120]⟩, 1), (true, ⟨#[121]⟩, 1)] : List (Bool × ByteArray × Int)), own w.heap.size 50 (.slice (some ⟨g0, 0, none⟩) 1 1) ([(true, ⟨#[120]⟩, 1)] : List (Bool × ByteArray × Int))])
  refine k ?_
  have H2 := H1.freeze 1 rfl
  have H3 := H2.freeze 0 rfl
  refine bs (xs := ([([(true, ⟨#[120]⟩, 1)] : List (Bool × ByteArray × Int)), ([(false, ⟨#[120]⟩, 1), (true, ⟨#[121]⟩, 1)] : List (Bool × ByteArray × Int))] : List (List (Bool × ByteArray × Int)))) (cells := #[.slice (some ⟨g0, 0, none⟩) ([(true, ⟨#[120]⟩, 1)] : List (Bool × ByteArray × Int)).length 1, .slice (some ⟨g1, 0, none⟩) ([(false, ⟨#[120]⟩, 1), (true, ⟨#[121]⟩, 1)] : List (Bool × ByteArray × Int)).length 2]) (e := 47) H3 rfl (pbc rfl (pbc rfl pb0)) (fun _ => by kernel_rfl) ⟨[.slice (some ⟨g0, 0, none⟩) ([(true, ⟨#[120]⟩, 1)] : List (Bool × ByteArray × Int)).length 1], [.slice (some ⟨g1, 0, none⟩) ([(false, ⟨#[120]⟩, 1), (true, ⟨#[121]⟩, 1)] : List (Bool × ByteArray × Int)).length 2], rfl, ⟨_, rfl, RV.list.1 (H3.rv 1 rfl)⟩, ⟨[.slice (some ⟨g1, 0, none⟩) ([(false, ⟨#[120]⟩, 1), (true, ⟨#[121]⟩, 1)] : List (Bool × ByteArray × Int)).length 2], [], rfl, ⟨_, rfl, RV.list.1 (H3.rv 0 rfl)⟩, rfl⟩⟩ rfl (by unfold maxLen; omega) ?_
  intro g2 w2 xt2 (H4 : HI (fun _ => False) w w2 [own w.heap.size 47 (.slice (some ⟨g2, 0, none⟩) 2 2) ([([(true, ⟨#[120]⟩, 1)] : List (Bool × ByteArray × Int)), ([(false, ⟨#[120]⟩, 1), (true, ⟨#[121]⟩, 1)] : List (Bool × ByteArray × Int))] : List (List (Bool × ByteArray × Int))), imm (.slice (some ⟨g1, 0, none⟩) 2 2) ([(false, ⟨#[120]⟩, 1), (true, ⟨#[121]⟩, 1)] : List (Bool × ByteArray × Int)), imm (.slice (some ⟨g0, 0, none⟩) 1 1) ([(true, ⟨#[120]⟩, 1)] : List (Bool × ByteArray × Int))])
  refine k ?_
  have H5 := H4.freeze 0 rfl
  have cc0 := ref11_Of (h := ([([(true, ⟨#[120]⟩, 1)] : List (Bool × ByteArray × Int)), ([(false, ⟨#[120]⟩, 1), (true, ⟨#[121]⟩, 1)] : List (Bool × ByteArray × Int))] : List (List (Bool × ByteArray × Int)))) (w := w2) H5.mb (H5.rv 0 rfl) (by decide +kernel)
  refine ca go8 rfl (ec rfl e0) cc0 ?_
  rintro _ w3 ⟨a0, c0, a1, c1, a2, c2, rfl, xt3, rv0, rv1, rv2⟩
  have H6 := H5.ext xt3
  have H7 := H6.put (it := imm (.slice a0 (o11V ([([(true, ⟨#[120]⟩, 1)] : List (Bool × ByteArray × Int)), ([(false, ⟨#[120]⟩, 1), (true, ⟨#[121]⟩, 1)] : List (Bool × ByteArray × Int))] : List (List (Bool × ByteArray × Int)))).length c0) (o11V ([([(true, ⟨#[120]⟩, 1)] : List (Bool × ByteArray × Int)), ([(false, ⟨#[120]⟩, 1), (true, ⟨#[121]⟩, 1)] : List (Bool × ByteArray × Int))] : List (List (Bool × ByteArray × Int))))) rfl rv0
  have H8 := H7.put (it := imm (.slice a1 (o11I ([([(true, ⟨#[120]⟩, 1)] : List (Bool × ByteArray × Int)), ([(false, ⟨#[120]⟩, 1), (true, ⟨#[121]⟩, 1)] : List (Bool × ByteArray × Int))] : List (List (Bool × ByteArray × Int)))).length c1) (o11I ([([(true, ⟨#[120]⟩, 1)] : List (Bool × ByteArray × Int)), ([(false, ⟨#[120]⟩, 1), (true, ⟨#[121]⟩, 1)] : List (Bool × ByteArray × Int))] : List (List (Bool × ByteArray × Int))))) rfl (by rw [MS_cons_none rfl]; exact rv1)
  have H9 := H8.put (it := imm (.slice a2 (o11F ([([(true, ⟨#[120]⟩, 1)] : List (Bool × ByteArray × Int)), ([(false, ⟨#[120]⟩, 1), (true, ⟨#[121]⟩, 1)] : List (Bool × ByteArray × Int))] : List (List (Bool × ByteArray × Int)))).length c2) (o11F ([([(true, ⟨#[120]⟩, 1)] : List (Bool × ByteArray × Int)), ([(false, ⟨#[120]⟩, 1), (true, ⟨#[121]⟩, 1)] : List (Bool × ByteArray × Int))] : List (List (Bool × ByteArray × Int))))) rfl (by rw [MS_cons_none rfl, MS_cons_none rfl]; exact rv2)
  refine k (mv (v := .tuple #[.agg #[.slice a0 (o11V ([([(true, ⟨#[120]⟩, 1)] : List (Bool × ByteArray × Int)), ([(false, ⟨#[120]⟩, 1), (true, ⟨#[121]⟩, 1)] : List (Bool × ByteArray × Int))] : List (List (Bool × ByteArray × Int)))).length c0, .slice a1 (o11I ([([(true, ⟨#[120]⟩, 1)] : List (Bool × ByteArray × Int)), ([(false, ⟨#[120]⟩, 1), (true, ⟨#[121]⟩, 1)] : List (Bool × ByteArray × Int))] : List (List (Bool × ByteArray × Int)))).length c1, .slice a2 (o11F ([([(true, ⟨#[120]⟩, 1)] : List (Bool × ByteArray × Int)), ([(false, ⟨#[120]⟩, 1), (true, ⟨#[121]⟩, 1)] : List (Bool × ByteArray × Int))] : List (List (Bool × ByteArray × Int)))).length c2], .bool (o11 ([([(true, ⟨#[120]⟩, 1)] : List (Bool × ByteArray × Int)), ([(false, ⟨#[120]⟩, 1), (true, ⟨#[121]⟩, 1)] : List (Bool × ByteArray × Int))] : List (List (Bool × ByteArray × Int))))]) rfl rfl (k (xt rfl rfl rfl (k (xt rfl rfl rfl (k (al H9 ty29 ?_)))))))
  intro bb0 w4 xt4 (H10 : HI (fun _ => False) w w4 [box bb0 #[.slice none 0 0, .slice none 0 0, .slice none 0 0] 29, imm (.slice a2 (o11F ([([(true, ⟨#[120]⟩, 1)] : List (Bool × ByteArray × Int)), ([(false, ⟨#[120]⟩, 1), (true, ⟨#[121]⟩, 1)] : List (Bool × ByteArray × Int))] : List (List (Bool × ByteArray × Int)))).length c2) (o11F ([([(true, ⟨#[120]⟩, 1)] : List (Bool × ByteArray × Int)), ([(false, ⟨#[120]⟩, 1), (true, ⟨#[121]⟩, 1)] : List (Bool × ByteArray × Int))] : List (List (Bool × ByteArray × Int)))), imm (.slice a1 (o11I ([([(true, ⟨#[120]⟩, 1)] : List (Bool × ByteArray × Int)), ([(false, ⟨#[120]⟩, 1), (true, ⟨#[121]⟩, 1)] : List (Bool × ByteArray × Int))] : List (List (Bool × ByteArray × Int)))).length c1) (o11I ([([(true, ⟨#[120]⟩, 1)] : List (Bool × ByteArray × Int)), ([(false, ⟨#[120]⟩, 1), (true, ⟨#[121]⟩, 1)] : List (Bool × ByteArray × Int))] : List (List (Bool × ByteArray × Int)))), imm (.slice a0 (o11V ([([(true, ⟨#[120]⟩, 1)] : List (Bool × ByteArray × Int)), ([(false, ⟨#[120]⟩, 1), (true, ⟨#[121]⟩, 1)] : List (Bool × ByteArray × Int))] : List (List (Bool × ByteArray × Int)))).length c0) (o11V ([([(true, ⟨#[120]⟩, 1)] : List (Bool × ByteArray × Int)), ([(false, ⟨#[120]⟩, 1), (true, ⟨#[121]⟩, 1)] : List (Bool × ByteArray × Int))] : List (List (Bool × ByteArray × Int)))), imm (.slice (some ⟨g2, 0, none⟩) 2 2) ([([(true, ⟨#[120]⟩, 1)] : List (Bool × ByteArray × Int)), ([(false, ⟨#[120]⟩, 1), (true, ⟨#[121]⟩, 1)] : List (Bool × ByteArray × Int))] : List (List (Bool × ByteArray × Int))), imm (.slice (some ⟨g1, 0, none⟩) 2 2) ([(false, ⟨#[120]⟩, 1), (true, ⟨#[121]⟩, 1)] : List (Bool × ByteArray × Int)), imm (.slice (some ⟨g0, 0, none⟩) 1 1) ([(true, ⟨#[120]⟩, 1)] : List (Bool × ByteArray × Int))])
  refine k (stX H10 0 rfl ty29 rfl rfl rfl rfl rfl rfl rfl ?_)
  intro w5 (H11 : HI (fun _ => False) w w5 [box bb0 #[.slice a0 (o11V ([([(true, ⟨#[120]⟩, 1)] : List (Bool × ByteArray × Int)), ([(false, ⟨#[120]⟩, 1), (true, ⟨#[121]⟩, 1)] : List (Bool × ByteArray × Int))] : List (List (Bool × ByteArray × Int)))).length c0, .slice a1 (o11I ([([(true, ⟨#[120]⟩, 1)] : List (Bool × ByteArray × Int)), ([(false, ⟨#[120]⟩, 1), (true, ⟨#[121]⟩, 1)] : List (Bool × ByteArray × Int))] : List (List (Bool × ByteArray × Int)))).length c1, .slice a2 (o11F ([([(true, ⟨#[120]⟩, 1)] : List (Bool × ByteArray × Int)), ([(false, ⟨#[120]⟩, 1), (true, ⟨#[121]⟩, 1)] : List (Bool × ByteArray × Int))] : List (List (Bool × ByteArray × Int)))).length c2] 29, imm (.slice a2 (o11F ([([(true, ⟨#[120]⟩, 1)] : List (Bool × ByteArray × Int)), ([(false, ⟨#[120]⟩, 1), (true, ⟨#[121]⟩, 1)] : List (Bool × ByteArray × Int))] : List (List (Bool × ByteArray × Int)))).length c2) (o11F ([([(true, ⟨#[120]⟩, 1)] : List (Bool × ByteArray × Int)), ([(false, ⟨#[120]⟩, 1), (true, ⟨#[121]⟩, 1)] : List (Bool × ByteArray × Int))] : List (List (Bool × ByteArray × Int)))), imm (.slice a1 (o11I ([([(true, ⟨#[120]⟩, 1)] : List (Bool × ByteArray × Int)), ([(false, ⟨#[120]⟩, 1), (true, ⟨#[121]⟩, 1)] : List (Bool × ByteArray × Int))] : List (List (Bool × ByteArray × Int)))).length c1) (o11I ([([(true, ⟨#[120]⟩, 1)] : List (Bool × ByteArray × Int)), ([(false, ⟨#[120]⟩, 1), (true, ⟨#[121]⟩, 1)] : List (Bool × ByteArray × Int))] : List (List (Bool × ByteArray × Int)))), imm (.slice a0 (o11V ([([(true, ⟨#[120]⟩, 1)] : List (Bool × ByteArray × Int)), ([(false, ⟨#[120]⟩, 1), (true, ⟨#[121]⟩, 1)] : List (Bool × ByteArray × Int))] : List (List (Bool × ByteArray × Int)))).length c0) (o11V ([([(true, ⟨#[120]⟩, 1)] : List (Bool × ByteArray × Int)), ([(false, ⟨#[120]⟩, 1), (true, ⟨#[121]⟩, 1)] : List (Bool × ByteArray × Int))] : List (List (Bool × ByteArray × Int)))), imm (.slice (some ⟨g2, 0, none⟩) 2 2) ([([(true, ⟨#[120]⟩, 1)] : List (Bool × ByteArray × Int)), ([(false, ⟨#[120]⟩, 1), (true, ⟨#[121]⟩, 1)] : List (Bool × ByteArray × Int))] : List (List (Bool × ByteArray × Int))), imm (.slice (some ⟨g1, 0, none⟩) 2 2) ([(false, ⟨#[120]⟩, 1), (true, ⟨#[121]⟩, 1)] : List (Bool × ByteArray × Int)), imm (.slice (some ⟨g0, 0, none⟩) 1 1) ([(true, ⟨#[120]⟩, 1)] : List (Bool × ByteArray × Int))])
  refine k (asg (v := .bool (o11 ([([(true, ⟨#[120]⟩, 1)] : List (Bool × ByteArray × Int)), ([(false, ⟨#[120]⟩, 1), (true, ⟨#[121]⟩, 1)] : List (Bool × ByteArray × Int))] : List (List (Bool × ByteArray × Int))))) rfl rfl (z (nx (sq (rg (k (ldX H11 0 rfl ty29 rfl rfl (by decide) rfl (k ?_))))))))
  have cc1 := cause_Co (fi := (o11I ([([(true, ⟨#[120]⟩, 1)] : List (Bool × ByteArray × Int)), ([(false, ⟨#[120]⟩, 1), (true, ⟨#[121]⟩, 1)] : List (Bool × ByteArray × Int))] : List (List (Bool × ByteArray × Int))))) (fo := (o11F ([([(true, ⟨#[120]⟩, 1)] : List (Bool × ByteArray × Int)), ([(false, ⟨#[120]⟩, 1), (true, ⟨#[121]⟩, 1)] : List (Bool × ByteArray × Int))] : List (List (Bool × ByteArray × Int))))) (a_fv := a0) (n_fv := (o11V ([([(true, ⟨#[120]⟩, 1)] : List (Bool × ByteArray × Int)), ([(false, ⟨#[120]⟩, 1), (true, ⟨#[121]⟩, 1)] : List (Bool × ByteArray × Int))] : List (List (Bool × ByteArray × Int)))).length) (c_fv := c0) (w := w5) H11.mb (H11.rv 2 rfl) (H11.rv 1 rfl) (by exact o11_ord _) (by decide +kernel) (by decide +kernel) (by decide +kernel)
  refine ca go14 rfl (ec rfl e0) cc1 ?_
  rintro _ w6 ⟨a3, c3, rfl, xt5, rv3⟩
  have H12 := H11.ext xt5
  have H13 := H12.put (it := imm (.slice a3 (coR (o11I ([([(true, ⟨#[120]⟩, 1)] : List (Bool × ByteArray × Int)), ([(false, ⟨#[120]⟩, 1), (true, ⟨#[121]⟩, 1)] : List (Bool × ByteArray × Int))] : List (List (Bool × ByteArray × Int)))) (o11F ([([(true, ⟨#[120]⟩, 1)] : List (Bool × ByteArray × Int)), ([(false, ⟨#[120]⟩, 1), (true, ⟨#[121]⟩, 1)] : List (Bool × ByteArray × Int))] : List (List (Bool × ByteArray × Int))))).length c3) (coR (o11I ([([(true, ⟨#[120]⟩, 1)] : List (Bool × ByteArray × Int)), ([(false, ⟨#[120]⟩, 1), (true, ⟨#[121]⟩, 1)] : List (Bool × ByteArray × Int))] : List (List (Bool × ByteArray × Int)))) (o11F ([([(true, ⟨#[120]⟩, 1)] : List (Bool × ByteArray × Int)), ([(false, ⟨#[120]⟩, 1), (true, ⟨#[121]⟩, 1)] : List (Bool × ByteArray × Int))] : List (List (Bool × ByteArray × Int)))))) rfl rv3
  refine k (al H13 ty35 ?_)
  intro bb1 w7 xt6 (H14 : HI (fun _ => False) w w7 [box bb1 #[.int .i64 0, .slice none 0 0] 35, imm (.slice a3 (coR (o11I ([([(true, ⟨#[120]⟩, 1)] : List (Bool × ByteArray × Int)), ([(false, ⟨#[120]⟩, 1), (true, ⟨#[121]⟩, 1)] : List (Bool × ByteArray × Int))] : List (List (Bool × ByteArray × Int)))) (o11F ([([(true, ⟨#[120]⟩, 1)] : List (Bool × ByteArray × Int)), ([(false, ⟨#[120]⟩, 1), (true, ⟨#[121]⟩, 1)] : List (Bool × ByteArray × Int))] : List (List (Bool × ByteArray × Int))))).length c3) (coR (o11I ([([(true, ⟨#[120]⟩, 1)] : List (Bool × ByteArray × Int)), ([(false, ⟨#[120]⟩, 1), (true, ⟨#[121]⟩, 1)] : List (Bool × ByteArray × Int))] : List (List (Bool × ByteArray × Int)))) (o11F ([([(true, ⟨#[120]⟩, 1)] : List (Bool × ByteArray × Int)), ([(false, ⟨#[120]⟩, 1), (true, ⟨#[121]⟩, 1)] : List (Bool × ByteArray × Int))] : List (List (Bool × ByteArray × Int))))), box bb0 #[.slice a0 (o11V ([([(true, ⟨#[120]⟩, 1)] : List (Bool × ByteArray × Int)), ([(false, ⟨#[120]⟩, 1), (true, ⟨#[121]⟩, 1)] : List (Bool × ByteArray × Int))] : List (List (Bool × ByteArray × Int)))).length c0, .slice a1 (o11I ([([(true, ⟨#[120]⟩, 1)] : List (Bool × ByteArray × Int)), ([(false, ⟨#[120]⟩, 1), (true, ⟨#[121]⟩, 1)] : List (Bool × ByteArray × Int))] : List (List (Bool × ByteArray × Int)))).length c1, .slice a2 (o11F ([([(true, ⟨#[120]⟩, 1)] : List (Bool × ByteArray × Int)), ([(false, ⟨#[120]⟩, 1), (true, ⟨#[121]⟩, 1)] : List (Bool × ByteArray × Int))] : List (List (Bool × ByteArray × Int)))).length c2] 29, imm (.slice a2 (o11F ([([(true, ⟨#[120]⟩, 1)] : List (Bool × ByteArray × Int)), ([(false, ⟨#[120]⟩, 1), (true, ⟨#[121]⟩, 1)] : List (Bool × ByteArray × Int))] : List (List (Bool × ByteArray × Int)))).length c2) (o11F ([([(true, ⟨#[120]⟩, 1)] : List (Bool × ByteArray × Int)), ([(false, ⟨#[120]⟩, 1), (true, ⟨#[121]⟩, 1)] : List (Bool × ByteArray × Int))] : List (List (Bool × ByteArray × Int)))), imm (.slice a1 (o11I ([([(true, ⟨#[120]⟩, 1)] : List (Bool × ByteArray × Int)), ([(false, ⟨#[120]⟩, 1), (true, ⟨#[121]⟩, 1)] : List (Bool × ByteArray × Int))] : List (List (Bool × ByteArray × Int)))).length c1) (o11I ([([(true, ⟨#[120]⟩, 1)] : List (Bool × ByteArray × Int)), ([(false, ⟨#[120]⟩, 1), (true, ⟨#[121]⟩, 1)] : List (Bool × ByteArray × Int))] : List (List (Bool × ByteArray × Int)))), imm (.slice a0 (o11V ([([(true, ⟨#[120]⟩, 1)] : List (Bool × ByteArray × Int)), ([(false, ⟨#[120]⟩, 1), (true, ⟨#[121]⟩, 1)] : List (Bool × ByteArray × Int))] : List (List (Bool × ByteArray × Int)))).length c0) (o11V ([([(true, ⟨#[120]⟩, 1)] : List (Bool × ByteArray × Int)), ([(false, ⟨#[120]⟩, 1), (true, ⟨#[121]⟩, 1)] : List (Bool × ByteArray × Int))] : List (List (Bool × ByteArray × Int)))), imm (.slice (some ⟨g2, 0, none⟩) 2 2) ([([(true, ⟨#[120]⟩, 1)] : List (Bool × ByteArray × Int)), ([(false, ⟨#[120]⟩, 1), (true, ⟨#[121]⟩, 1)] : List (Bool × ByteArray × Int))] : List (List (Bool × ByteArray × Int))), imm (.slice (some ⟨g1, 0, none⟩) 2 2) ([(false, ⟨#[120]⟩, 1), (true, ⟨#[121]⟩, 1)] : List (Bool × ByteArray × Int)), imm (.slice (some ⟨g0, 0, none⟩) 1 1) ([(true, ⟨#[120]⟩, 1)] : List (Bool × ByteArray × Int))])
  refine k (stX H14 0 rfl ty35 rfl rfl rfl rfl rfl rfl rfl ?_)
  intro w8 (H15 : HI (fun _ => False) w w8 [box bb1 #[.int .i64 ((o11I ([([(true, ⟨#[120]⟩, 1)] : List (Bool × ByteArray × Int)), ([(false, ⟨#[120]⟩, 1), (true, ⟨#[121]⟩, 1)] : List (Bool × ByteArray × Int))] : List (List (Bool × ByteArray × Int)))).length : Int), .slice a3 (coR (o11I ([([(true, ⟨#[120]⟩, 1)] : List (Bool × ByteArray × Int)), ([(false, ⟨#[120]⟩, 1), (true, ⟨#[121]⟩, 1)] : List (Bool × ByteArray × Int))] : List (List (Bool × ByteArray × Int)))) (o11F ([([(true, ⟨#[120]⟩, 1)] : List (Bool × ByteArray × Int)), ([(false, ⟨#[120]⟩, 1), (true, ⟨#[121]⟩, 1)] : List (Bool × ByteArray × Int))] : List (List (Bool × ByteArray × Int))))).length c3] 35, imm (.slice a3 (coR (o11I ([([(true, ⟨#[120]⟩, 1)] : List (Bool × ByteArray × Int)), ([(false, ⟨#[120]⟩, 1), (true, ⟨#[121]⟩, 1)] : List (Bool × ByteArray × Int))] : List (List (Bool × ByteArray × Int)))) (o11F ([([(true, ⟨#[120]⟩, 1)] : List (Bool × ByteArray × Int)), ([(false, ⟨#[120]⟩, 1), (true, ⟨#[121]⟩, 1)] : List (Bool × ByteArray × Int))] : List (List (Bool × ByteArray × Int))))).length c3) (coR (o11I ([([(true, ⟨#[120]⟩, 1)] : List (Bool × ByteArray × Int)), ([(false, ⟨#[120]⟩, 1), (true, ⟨#[121]⟩, 1)] : List (Bool × ByteArray × Int))] : List (List (Bool × ByteArray × Int)))) (o11F ([([(true, ⟨#[120]⟩, 1)] : List (Bool × ByteArray × Int)), ([(false, ⟨#[120]⟩, 1), (true, ⟨#[121]⟩, 1)] : List (Bool × ByteArray × Int))] : List (List (Bool × ByteArray × Int))))), box bb0 #[.slice a0 (o11V ([([(true, ⟨#[120]⟩, 1)] : List (Bool × ByteArray × Int)), ([(false, ⟨#[120]⟩, 1), (true, ⟨#[121]⟩, 1)] : List (Bool × ByteArray × Int))] : List (List (Bool × ByteArray × Int)))).length c0, .slice a1 (o11I ([([(true, ⟨#[120]⟩, 1)] : List (Bool × ByteArray × Int)), ([(false, ⟨#[120]⟩, 1), (true, ⟨#[121]⟩, 1)] : List (Bool × ByteArray × Int))] : List (List (Bool × ByteArray × Int)))).length c1, .slice a2 (o11F ([([(true, ⟨#[120]⟩, 1)] : List (Bool × ByteArray × Int)), ([(false, ⟨#[120]⟩, 1), (true, ⟨#[121]⟩, 1)] : List (Bool × ByteArray × Int))] : List (List (Bool × ByteArray × Int)))).length c2] 29, imm (.slice a2 (o11F ([([(true, ⟨#[120]⟩, 1)] : List (Bool × ByteArray × Int)), ([(false, ⟨#[120]⟩, 1), (true, ⟨#[121]⟩, 1)] : List (Bool × ByteArray × Int))] : List (List (Bool × ByteArray × Int)))).length c2) (o11F ([([(true, ⟨#[120]⟩, 1)] : List (Bool × ByteArray × Int)), ([(false, ⟨#[120]⟩, 1), (true, ⟨#[121]⟩, 1)] : List (Bool × ByteArray × Int))] : List (List (Bool × ByteArray × Int)))), imm (.slice a1 (o11I ([([(true, ⟨#[120]⟩, 1)] : List (Bool × ByteArray × Int)), ([(false, ⟨#[120]⟩, 1), (true, ⟨#[121]⟩, 1)] : List (Bool × ByteArray × Int))] : List (List (Bool × ByteArray × Int)))).length c1) (o11I ([([(true, ⟨#[120]⟩, 1)] : List (Bool × ByteArray × Int)), ([(false, ⟨#[120]⟩, 1), (true, ⟨#[121]⟩, 1)] : List (Bool × ByteArray × Int))] : List (List (Bool × ByteArray × Int)))), imm (.slice a0 (o11V ([([(true, ⟨#[120]⟩, 1)] : List (Bool × ByteArray × Int)), ([(false, ⟨#[120]⟩, 1), (true, ⟨#[121]⟩, 1)] : List (Bool × ByteArray × Int))] : List (List (Bool × ByteArray × Int)))).length c0) (o11V ([([(true, ⟨#[120]⟩, 1)] : List (Bool × ByteArray × Int)), ([(false, ⟨#[120]⟩, 1), (true, ⟨#[121]⟩, 1)] : List (Bool × ByteArray × Int))] : List (List (Bool × ByteArray × Int)))), imm (.slice (some ⟨g2, 0, none⟩) 2 2) ([([(true, ⟨#[120]⟩, 1)] : List (Bool × ByteArray × Int)), ([(false, ⟨#[120]⟩, 1), (true, ⟨#[121]⟩, 1)] : List (Bool × ByteArray × Int))] : List (List (Bool × ByteArray × Int))), imm (.slice (some ⟨g1, 0, none⟩) 2 2) ([(false, ⟨#[120]⟩, 1), (true, ⟨#[121]⟩, 1)] : List (Bool × ByteArray × Int)), imm (.slice (some ⟨g0, 0, none⟩) 1 1) ([(true, ⟨#[120]⟩, 1)] : List (Bool × ByteArray × Int))])
  refine z (nx (sq (rg (k (mv (v := .bool (o11 ([([(true, ⟨#[120]⟩, 1)] : List (Bool × ByteArray × Int)), ([(false, ⟨#[120]⟩, 1), (true, ⟨#[121]⟩, 1)] : List (Bool × ByteArray × Int))] : List (List (Bool × ByteArray × Int))))) rfl rfl (k (mv (v := .bool (o11 ([([(true, ⟨#[120]⟩, 1)] : List (Bool × ByteArray × Int)), ([(false, ⟨#[120]⟩, 1), (true, ⟨#[121]⟩, 1)] : List (Bool × ByteArray × Int))] : List (List (Bool × ByteArray × Int))))) rfl rfl ?_)))))))
  have tr0 : (o11 ([([(true, ⟨#[120]⟩, 1)] : List (Bool × ByteArray × Int)), ([(false, ⟨#[120]⟩, 1), (true, ⟨#[121]⟩, 1)] : List (Bool × ByteArray × Int))] : List (List (Bool × ByteArray × Int)))) = true := (by decide +kernel)
  refine k (gy rfl rfl rfl tr0 (ldX H15 0 rfl ty35 rfl rfl (by decide) rfl (k (gy rfl rfl rfl tr0 ?_))))
  have cc2 := ref03_Has (mn := ((o11I ([([(true, ⟨#[120]⟩, 1)] : List (Bool × ByteArray × Int)), ([(false, ⟨#[120]⟩, 1), (true, ⟨#[121]⟩, 1)] : List (Bool × ByteArray × Int))] : List (List (Bool × ByteArray × Int)))).length : Int)) (mr := (coR (o11I ([([(true, ⟨#[120]⟩, 1)] : List (Bool × ByteArray × Int)), ([(false, ⟨#[120]⟩, 1), (true, ⟨#[121]⟩, 1)] : List (Bool × ByteArray × Int))] : List (List (Bool × ByteArray × Int)))) (o11F ([([(true, ⟨#[120]⟩, 1)] : List (Bool × ByteArray × Int)), ([(false, ⟨#[120]⟩, 1), (true, ⟨#[121]⟩, 1)] : List (Bool × ByteArray × Int))] : List (List (Bool × ByteArray × Int)))))) (i := 0) (j := 1) (w := w8) H15.mb (by first | (unfold I64; decide +kernel) | decide +kernel) (H15.rv 1 rfl) (by first | (unfold I64; decide +kernel) | decide +kernel) (by first | (unfold I64; decide +kernel) | decide +kernel) (by decide +kernel) (by decide +kernel) (by decide +kernel)
  refine ca go20 rfl (ec rfl (ec rfl (ec rfl e0))) cc2 ?_
  rintro _ w9 ⟨rfl, xt7⟩
  have H16 := H15.ext xt7
  refine k (pickT rfl rfl rfl rfl tr0 rfl (k (mv (v := .bool (hasM ((o11I ([([(true, ⟨#[120]⟩, 1)] : List (Bool × ByteArray × Int)), ([(false, ⟨#[120]⟩, 1), (true, ⟨#[121]⟩, 1)] : List (Bool × ByteArray × Int))] : List (List (Bool × ByteArray × Int)))).length : Int) (coR (o11I ([([(true, ⟨#[120]⟩, 1)] : List (Bool × ByteArray × Int)), ([(false, ⟨#[120]⟩, 1), (true, ⟨#[121]⟩, 1)] : List (Bool × ByteArray × Int))] : List (List (Bool × ByteArray × Int)))) (o11F ([([(true, ⟨#[120]⟩, 1)] : List (Bool × ByteArray × Int)), ([(false, ⟨#[120]⟩, 1), (true, ⟨#[121]⟩, 1)] : List (Bool × ByteArray × Int))] : List (List (Bool × ByteArray × Int))))) 0 1)) rfl rfl ?_)))
  have tr1 : (hasM ((o11I ([([(true, ⟨#[120]⟩, 1)] : List (Bool × ByteArray × Int)), ([(false, ⟨#[120]⟩, 1), (true, ⟨#[121]⟩, 1)] : List (Bool × ByteArray × Int))] : List (List (Bool × ByteArray × Int)))).length : Int) (coR (o11I ([([(true, ⟨#[120]⟩, 1)] : List (Bool × ByteArray × Int)), ([(false, ⟨#[120]⟩, 1), (true, ⟨#[121]⟩, 1)] : List (Bool × ByteArray × Int))] : List (List (Bool × ByteArray × Int)))) (o11F ([([(true, ⟨#[120]⟩, 1)] : List (Bool × ByteArray × Int)), ([(false, ⟨#[120]⟩, 1), (true, ⟨#[121]⟩, 1)] : List (Bool × ByteArray × Int))] : List (List (Bool × ByteArray × Int))))) 0 1) = true := (by decide +kernel)
  refine k (gy rfl rfl rfl tr1 (ldX H16 0 rfl ty35 rfl rfl (by decide) rfl (k (gy rfl rfl rfl tr1 ?_))))
  have cc3 := ref03_Has (mn := ((o11I ([([(true, ⟨#[120]⟩, 1)] : List (Bool × ByteArray × Int)), ([(false, ⟨#[120]⟩, 1), (true, ⟨#[121]⟩, 1)] : List (Bool × ByteArray × Int))] : List (List (Bool × ByteArray × Int)))).length : Int)) (mr := (coR (o11I ([([(true, ⟨#[120]⟩, 1)] : List (Bool × ByteArray × Int)), ([(false, ⟨#[120]⟩, 1), (true, ⟨#[121]⟩, 1)] : List (Bool × ByteArray × Int))] : List (List (Bool × ByteArray × Int)))) (o11F ([([(true, ⟨#[120]⟩, 1)] : List (Bool × ByteArray × Int)), ([(false, ⟨#[120]⟩, 1), (true, ⟨#[121]⟩, 1)] : List (Bool × ByteArray × Int))] : List (List (Bool × ByteArray × Int)))))) (i := 0) (j := 2) (w := w9) H16.mb (by first | (unfold I64; decide +kernel) | decide +kernel) (H16.rv 1 rfl) (by first | (unfold I64; decide +kernel) | decide +kernel) (by first | (unfold I64; decide +kernel) | decide +kernel) (by decide +kernel) (by decide +kernel) (by decide +kernel)
  refine ca go20 rfl (ec rfl (ec rfl (ec rfl e0))) cc3 ?_
  rintro _ w10 ⟨rfl, xt8⟩
  have H17 := H16.ext xt8
  refine k (pickT rfl rfl rfl rfl tr1 rfl (k (mv (v := .bool (hasM ((o11I ([([(true, ⟨#[120]⟩, 1)] : List (Bool × ByteArray × Int)), ([(false, ⟨#[120]⟩, 1), (true, ⟨#[121]⟩, 1)] : List (Bool × ByteArray × Int))] : List (List (Bool × ByteArray × Int)))).length : Int) (coR (o11I ([([(true, ⟨#[120]⟩, 1)] : List (Bool × ByteArray × Int)), ([(false, ⟨#[120]⟩, 1), (true, ⟨#[121]⟩, 1)] : List (Bool × ByteArray × Int))] : List (List (Bool × ByteArray × Int)))) (o11F ([([(true, ⟨#[120]⟩, 1)] : List (Bool × ByteArray × Int)), ([(false, ⟨#[120]⟩, 1), (true, ⟨#[121]⟩, 1)] : List (Bool × ByteArray × Int))] : List (List (Bool × ByteArray × Int))))) 0 2)) rfl rfl ?_)))
  have tr2 : (hasM ((o11I ([([(true, ⟨#[120]⟩, 1)] : List (Bool × ByteArray × Int)), ([(false, ⟨#[120]⟩, 1), (true, ⟨#[121]⟩, 1)] : List (Bool × ByteArray × Int))] : List (List (Bool × ByteArray × Int)))).length : Int) (coR (o11I ([([(true, ⟨#[120]⟩, 1)] : List (Bool × ByteArray × Int)), ([(false, ⟨#[120]⟩, 1), (true, ⟨#[121]⟩, 1)] : List (Bool × ByteArray × Int))] : List (List (Bool × ByteArray × Int)))) (o11F ([([(true, ⟨#[120]⟩, 1)] : List (Bool × ByteArray × Int)), ([(false, ⟨#[120]⟩, 1), (true, ⟨#[121]⟩, 1)] : List (Bool × ByteArray × Int))] : List (List (Bool × ByteArray × Int))))) 0 2) = true := (by decide +kernel)
  refine k (gy rfl rfl rfl tr2 (ldX H17 0 rfl ty35 rfl rfl (by decide) rfl (k (gy rfl rfl rfl tr2 ?_))))
  have cc4 := ref03_Has (mn := ((o11I ([([(true, ⟨#[120]⟩, 1)] : List (Bool × ByteArray × Int)), ([(false, ⟨#[120]⟩, 1), (true, ⟨#[121]⟩, 1)] : List (Bool × ByteArray × Int))] : List (List (Bool × ByteArray × Int)))).length : Int)) (mr := (coR (o11I ([([(true, ⟨#[120]⟩, 1)] : List (Bool × ByteArray × Int)), ([(false, ⟨#[120]⟩, 1), (true, ⟨#[121]⟩, 1)] : List (Bool × ByteArray × Int))] : List (List (Bool × ByteArray × Int)))) (o11F ([([(true, ⟨#[120]⟩, 1)] : List (Bool × ByteArray × Int)), ([(false, ⟨#[120]⟩, 1), (true, ⟨#[121]⟩, 1)] : List (Bool × ByteArray × Int))] : List (List (Bool × ByteArray × Int)))))) (i := 2) (j := 0) (w := w10) H17.mb (by first | (unfold I64; decide +kernel) | decide +kernel) (H17.rv 1 rfl) (by first | (unfold I64; decide +kernel) | decide +kernel) (by first | (unfold I64; decide +kernel) | decide +kernel) (by decide +kernel) (by decide +kernel) (by decide +kernel)
  refine ca go20 rfl (ec rfl (ec rfl (ec rfl e0))) cc4 ?_
  rintro _ w11 ⟨rfl, xt9⟩
  have H18 := H17.ext xt9
  refine k (gy rfl rfl rfl tr2 (not_ rfl rfl (k (pickT rfl rfl rfl rfl tr2 rfl (k (mv (v := .bool (!(hasM ((o11I ([([(true, ⟨#[120]⟩, 1)] : List (Bool × ByteArray × Int)), ([(false, ⟨#[120]⟩, 1), (true, ⟨#[121]⟩, 1)] : List (Bool × ByteArray × Int))] : List (List (Bool × ByteArray × Int)))).length : Int) (coR (o11I ([([(true, ⟨#[120]⟩, 1)] : List (Bool × ByteArray × Int)), ([(false, ⟨#[120]⟩, 1), (true, ⟨#[121]⟩, 1)] : List (Bool × ByteArray × Int))] : List (List (Bool × ByteArray × Int)))) (o11F ([([(true, ⟨#[120]⟩, 1)] : List (Bool × ByteArray × Int)), ([(false, ⟨#[120]⟩, 1), (true, ⟨#[121]⟩, 1)] : List (Bool × ByteArray × Int))] : List (List (Bool × ByteArray × Int))))) 2 0))) rfl rfl ?_))))))
  have tr3 : (hasM ((o11I ([([(true, ⟨#[120]⟩, 1)] : List (Bool × ByteArray × Int)), ([(false, ⟨#[120]⟩, 1), (true, ⟨#[121]⟩, 1)] : List (Bool × ByteArray × Int))] : List (List (Bool × ByteArray × Int)))).length : Int) (coR (o11I ([([(true, ⟨#[120]⟩, 1)] : List (Bool × ByteArray × Int)), ([(false, ⟨#[120]⟩, 1), (true, ⟨#[121]⟩, 1)] : List (Bool × ByteArray × Int))] : List (List (Bool × ByteArray × Int)))) (o11F ([([(true, ⟨#[120]⟩, 1)] : List (Bool × ByteArray × Int)), ([(false, ⟨#[120]⟩, 1), (true, ⟨#[121]⟩, 1)] : List (Bool × ByteArray × Int))] : List (List (Bool × ByteArray × Int))))) 2 0) = false := (by decide +kernel)
  refine k (gy rfl rfl rfl (by rw [show (hasM ((o11I ([([(true, ⟨#[120]⟩, 1)] : List (Bool × ByteArray × Int)), ([(false, ⟨#[120]⟩, 1), (true, ⟨#[121]⟩, 1)] : List (Bool × ByteArray × Int))] : List (List (Bool × ByteArray × Int)))).length : Int) (coR (o11I ([([(true, ⟨#[120]⟩, 1)] : List (Bool × ByteArray × Int)), ([(false, ⟨#[120]⟩, 1), (true, ⟨#[121]⟩, 1)] : List (Bool × ByteArray × Int))] : List (List (Bool × ByteArray × Int)))) (o11F ([([(true, ⟨#[120]⟩, 1)] : List (Bool × ByteArray × Int)), ([(false, ⟨#[120]⟩, 1), (true, ⟨#[121]⟩, 1)] : List (Bool × ByteArray × Int))] : List (List (Bool × ByteArray × Int))))) 2 0) = false from tr3]; rfl) (ldX H18 2 rfl ty29 rfl rfl (by decide) rfl (k (gy rfl rfl rfl (by rw [show (hasM ((o11I ([([(true, ⟨#[120]⟩, 1)] : List (Bool × ByteArray × Int)), ([(false, ⟨#[120]⟩, 1), (true, ⟨#[121]⟩, 1)] : List (Bool × ByteArray × Int))] : List (List (Bool × ByteArray × Int)))).length : Int) (coR (o11I ([([(true, ⟨#[120]⟩, 1)] : List (Bool × ByteArray × Int)), ([(false, ⟨#[120]⟩, 1), (true, ⟨#[121]⟩, 1)] : List (Bool × ByteArray × Int))] : List (List (Bool × ByteArray × Int)))) (o11F ([([(true, ⟨#[120]⟩, 1)] : List (Bool × ByteArray × Int)), ([(false, ⟨#[120]⟩, 1), (true, ⟨#[121]⟩, 1)] : List (Bool × ByteArray × Int))] : List (List (Bool × ByteArray × Int))))) 2 0) = false from tr3]; rfl) ?_))))
  have cc5 := cause_Edges (fi := (o11I ([([(true, ⟨#[120]⟩, 1)] : List (Bool × ByteArray × Int)), ([(false, ⟨#[120]⟩, 1), (true, ⟨#[121]⟩, 1)] : List (Bool × ByteArray × Int))] : List (List (Bool × ByteArray × Int))))) (fo := (o11F ([([(true, ⟨#[120]⟩, 1)] : List (Bool × ByteArray × Int)), ([(false, ⟨#[120]⟩, 1), (true, ⟨#[121]⟩, 1)] : List (Bool × ByteArray × Int))] : List (List (Bool × ByteArray × Int))))) (a_fv := a0) (n_fv := (o11V ([([(true, ⟨#[120]⟩, 1)] : List (Bool × ByteArray × Int)), ([(false, ⟨#[120]⟩, 1), (true, ⟨#[121]⟩, 1)] : List (Bool × ByteArray × Int))] : List (List (Bool × ByteArray × Int)))).length) (c_fv := c0) (w := w11) H18.mb (H18.rv 4 rfl) (H18.rv 3 rfl) (by exact o11_ord _) (by decide +kernel) (by decide +kernel) (by decide +kernel)
  refine ca go12 rfl (ec rfl e0) cc5 ?_
  rintro _ w12 ⟨a4, c4, rfl, xt10, rv4⟩
  have H19 := H18.ext xt10
  have H20 := H19.put (it := imm (.slice a4 (edR (o11I ([([(true, ⟨#[120]⟩, 1)] : List (Bool × ByteArray × Int)), ([(false, ⟨#[120]⟩, 1), (true, ⟨#[121]⟩, 1)] : List (Bool × ByteArray × Int))] : List (List (Bool × ByteArray × Int)))) (o11F ([([(true, ⟨#[120]⟩, 1)] : List (Bool × ByteArray × Int)), ([(false, ⟨#[120]⟩, 1), (true, ⟨#[121]⟩, 1)] : List (Bool × ByteArray × Int))] : List (List (Bool × ByteArray × Int))))).length c4) (edR (o11I ([([(true, ⟨#[120]⟩, 1)] : List (Bool × ByteArray × Int)), ([(false, ⟨#[120]⟩, 1), (true, ⟨#[121]⟩, 1)] : List (Bool × ByteArray × Int))] : List (List (Bool × ByteArray × Int)))) (o11F ([([(true, ⟨#[120]⟩, 1)] : List (Bool × ByteArray × Int)), ([(false, ⟨#[120]⟩, 1), (true, ⟨#[121]⟩, 1)] : List (Bool × ByteArray × Int))] : List (List (Bool × ByteArray × Int)))))) rfl rv4
  refine k (gy rfl rfl rfl (by rw [show (hasM ((o11I ([([(true, ⟨#[120]⟩, 1)] : List (Bool × ByteArray × Int)), ([(false, ⟨#[120]⟩, 1), (true, ⟨#[121]⟩, 1)] : List (Bool × ByteArray × Int))] : List (List (Bool × ByteArray × Int)))).length : Int) (coR (o11I ([([(true, ⟨#[120]⟩, 1)] : List (Bool × ByteArray × Int)), ([(false, ⟨#[120]⟩, 1), (true, ⟨#[121]⟩, 1)] : List (Bool × ByteArray × Int))] : List (List (Bool × ByteArray × Int)))) (o11F ([([(true, ⟨#[120]⟩, 1)] : List (Bool × ByteArray × Int)), ([(false, ⟨#[120]⟩, 1), (true, ⟨#[121]⟩, 1)] : List (Bool × ByteArray × Int))] : List (List (Bool × ByteArray × Int))))) 2 0) = false from tr3]; rfl) ?_)
  have cc6 := ref03_Has (mn := ((o11I ([([(true, ⟨#[120]⟩, 1)] : List (Bool × ByteArray × Int)), ([(false, ⟨#[120]⟩, 1), (true, ⟨#[121]⟩, 1)] : List (Bool × ByteArray × Int))] : List (List (Bool × ByteArray × Int)))).length : Int)) (mr := (edR (o11I ([([(true, ⟨#[120]⟩, 1)] : List (Bool × ByteArray × Int)), ([(false, ⟨#[120]⟩, 1), (true, ⟨#[121]⟩, 1)] : List (Bool × ByteArray × Int))] : List (List (Bool × ByteArray × Int)))) (o11F ([([(true, ⟨#[120]⟩, 1)] : List (Bool × ByteArray × Int)), ([(false, ⟨#[120]⟩, 1), (true, ⟨#[121]⟩, 1)] : List (Bool × ByteArray × Int))] : List (List (Bool × ByteArray × Int)))))) (i := 0) (j := 2) (w := w12) H20.mb (by first | (unfold I64; decide +kernel) | decide +kernel) (H20.rv 0 rfl) (by first | (unfold I64; decide +kernel) | decide +kernel) (by first | (unfold I64; decide +kernel) | decide +kernel) (by decide +kernel) (by decide +kernel) (by decide +kernel)
  refine ca go20 rfl (ec rfl (ec rfl (ec rfl e0))) cc6 ?_
  rintro _ w13 ⟨rfl, xt11⟩
  have H21 := H20.ext xt11
  refine k (gy rfl rfl rfl (by rw [show (hasM ((o11I ([([(true, ⟨#[120]⟩, 1)] : List (Bool × ByteArray × Int)), ([(false, ⟨#[120]⟩, 1), (true, ⟨#[121]⟩, 1)] : List (Bool × ByteArray × Int))] : List (List (Bool × ByteArray × Int)))).length : Int) (coR (o11I ([([(true, ⟨#[120]⟩, 1)] : List (Bool × ByteArray × Int)), ([(false, ⟨#[120]⟩, 1), (true, ⟨#[121]⟩, 1)] : List (Bool × ByteArray × Int))] : List (List (Bool × ByteArray × Int)))) (o11F ([([(true, ⟨#[120]⟩, 1)] : List (Bool × ByteArray × Int)), ([(false, ⟨#[120]⟩, 1), (true, ⟨#[121]⟩, 1)] : List (Bool × ByteArray × Int))] : List (List (Bool × ByteArray × Int))))) 2 0) = false from tr3]; rfl) (not_ rfl rfl (k (pickT rfl rfl rfl rfl (by rw [show (hasM ((o11I ([([(true, ⟨#[120]⟩, 1)] : List (Bool × ByteArray × Int)), ([(false, ⟨#[120]⟩, 1), (true, ⟨#[121]⟩, 1)] : List (Bool × ByteArray × Int))] : List (List (Bool × ByteArray × Int)))).length : Int) (coR (o11I ([([(true, ⟨#[120]⟩, 1)] : List (Bool × ByteArray × Int)), ([(false, ⟨#[120]⟩, 1), (true, ⟨#[121]⟩, 1)] : List (Bool × ByteArray × Int))] : List (List (Bool × ByteArray × Int)))) (o11F ([([(true, ⟨#[120]⟩, 1)] : List (Bool × ByteArray × Int)), ([(false, ⟨#[120]⟩, 1), (true, ⟨#[121]⟩, 1)] : List (Bool × ByteArray × Int))] : List (List (Bool × ByteArray × Int))))) 2 0) = false from tr3]; rfl) rfl (k (asg (v := .bool (!(hasM ((o11I ([([(true, ⟨#[120]⟩, 1)] : List (Bool × ByteArray × Int)), ([(false, ⟨#[120]⟩, 1), (true, ⟨#[121]⟩, 1)] : List (Bool × ByteArray × Int))] : List (List (Bool × ByteArray × Int)))).length : Int) (edR (o11I ([([(true, ⟨#[120]⟩, 1)] : List (Bool × ByteArray × Int)), ([(false, ⟨#[120]⟩, 1), (true, ⟨#[121]⟩, 1)] : List (Bool × ByteArray × Int))] : List (List (Bool × ByteArray × Int)))) (o11F ([([(true, ⟨#[120]⟩, 1)] : List (Bool × ByteArray × Int)), ([(false, ⟨#[120]⟩, 1), (true, ⟨#[121]⟩, 1)] : List (Bool × ByteArray × Int))] : List (List (Bool × ByteArray × Int))))) 0 2))) rfl rfl (z (nx (rt (r1 rfl rfl ?_))))))))))
  have tr4 : (hasM ((o11I ([([(true, ⟨#[120]⟩, 1)] : List (Bool × ByteArray × Int)), ([(false, ⟨#[120]⟩, 1), (true, ⟨#[121]⟩, 1)] : List (Bool × ByteArray × Int))] : List (List (Bool × ByteArray × Int)))).length : Int) (edR (o11I ([([(true, ⟨#[120]⟩, 1)] : List (Bool × ByteArray × Int)), ([(false, ⟨#[120]⟩, 1), (true, ⟨#[121]⟩, 1)] : List (Bool × ByteArray × Int))] : List (List (Bool × ByteArray × Int)))) (o11F ([([(true, ⟨#[120]⟩, 1)] : List (Bool × ByteArray × Int)), ([(false, ⟨#[120]⟩, 1), (true, ⟨#[121]⟩, 1)] : List (Bool × ByteArray × Int))] : List (List (Bool × ByteArray × Int))))) 0 2) = false := (by decide +kernel)
  have e0 : (!(hasM ((o11I ([([(true, ⟨#[120]⟩, 1)] : List (Bool × ByteArray × Int)), ([(false, ⟨#[120]⟩, 1), (true, ⟨#[121]⟩, 1)] : List (Bool × ByteArray × Int))] : List (List (Bool × ByteArray × Int)))).length : Int) (edR (o11I ([([(true, ⟨#[120]⟩, 1)] : List (Bool × ByteArray × Int)), ([(false, ⟨#[120]⟩, 1), (true, ⟨#[121]⟩, 1)] : List (Bool × ByteArray × Int))] : List (List (Bool × ByteArray × Int)))) (o11F ([([(true, ⟨#[120]⟩, 1)] : List (Bool × ByteArray × Int)), ([(false, ⟨#[120]⟩, 1), (true, ⟨#[121]⟩, 1)] : List (Bool × ByteArray × Int))] : List (List (Bool × ByteArray × Int))))) 0 2) : Bool) = true := by exact (by rw [show (hasM ((o11I ([([(true, ⟨#[120]⟩, 1)] : List (Bool × ByteArray × Int)), ([(false, ⟨#[120]⟩, 1), (true, ⟨#[121]⟩, 1)] : List (Bool × ByteArray × Int))] : List (List (Bool × ByteArray × Int)))).length : Int) (edR (o11I ([([(true, ⟨#[120]⟩, 1)] : List (Bool × ByteArray × Int)), ([(false, ⟨#[120]⟩, 1), (true, ⟨#[121]⟩, 1)] : List (Bool × ByteArray × Int))] : List (List (Bool × ByteArray × Int)))) (o11F ([([(true, ⟨#[120]⟩, 1)] : List (Bool × ByteArray × Int)), ([(false, ⟨#[120]⟩, 1), (true, ⟨#[121]⟩, 1)] : List (Bool × ByteArray × Int))] : List (List (Bool × ByteArray × Int))))) 0 2) = false from tr4]; rfl)
  have ev_ := cg1 (fun (x_0 : Bool) => (.bool x_0 : Value)) e0
  exact ⟨ev_, H21.below⟩
end Go.Proofs.Ytmhopljngkgidaa
namespace Go.Proofs.Ytmhopljngkgidaa
open Go.Ew Go.RowKit
set_option linter.unusedVariables false
set_option linter.unusedSimpArgs false
attribute [local irreducible] WL WC SO Code.wp wpList retQ Ret
attribute [local irreducible] bitB hasW inR hasR setR countW countR subR words newR listR orR firstW tab8
theorem go6 : GoF Try.prog 6 := ⟨_, _, Try.func6, rfl, by kernel_rfl⟩
theorem go7 : GoF Try.prog 7 := ⟨_, _, Try.func7, rfl, by kernel_rfl⟩
theorem un48 : Try.prog.underlying 48 = some (.slice 5) := by kernel_rfl
theorem un5 : Try.prog.underlying 5 = some (.int .u8) := by kernel_rfl
theorem un4 : Try.prog.underlying 4 = some (.bool) := by kernel_rfl
set_option maxRecDepth 100000 in
set_option maxHeartbeats 1600000 in
theorem law_CauseMore {M : Nat → Prop} {w : World} {a_h : Option Addr} {c_h : Nat} {h : List (List (Bool × ByteArray × Int))} {cv_ : Int} {cn_ : Int} (hM : ∀ b, M b → b < w.heap.size) (h_h : RV M w (.slice a_h h.length c_h) h) (h_cv_ : 0 ≤ cv_ ∧ cv_ ≤ 255) (h_cn_ : 0 ≤ cn_ ∧ cn_ ≤ 255) (hb_h : h.flatten.length ≤ 1048576) : Calls Try.prog 5 #[.slice a_h h.length c_h, .int .u8 cv_, .int .u8 cn_] w (Ret fun v w' =>  v = .bool true ∧ Ext w w') := by
  refine enter 115 Try.func5 rfl rfl rfl fun f0 ha => ?_
  have H := HI.start (M0 := M) (w := w) hM
  have H0 := H.put (it := imm (.slice a_h h.length c_h) h) rfl (by rw [MS_nil]; exact h_h)
  have ln_h := rv_len h_h
  have i0 : f0 0 = .slice a_h h.length c_h := ha 0 (by simp)
  have i1 : f0 1 = .int .u8 cv_ := ha 1 (by simp)
  have i2 : f0 2 = .int .u8 cn_ := ha 2 (by simp)
  refine sq (rg (k (asg (v := .bool false) rfl rfl (z (nx (sq (sq (rg (k (mv rfl i0 (k ?_)))))))))))
  have cc0 := ref06_Small (h := h) (m := 30) (w := w) H0.mb (H0.rv 0 rfl) (by first | assumption | (unfold I64 at *; omega)) (by omega)
  refine ca go6 rfl (ec rfl (ec rfl e0)) cc0 ?_
  rintro _ w0 ⟨rfl, xt0⟩
  have H1 := H0.ext xt0
  refine k (not_ rfl rfl (k (mv (v := .bool (!(smallH h 30))) rfl rfl ?_)))
  rcases Bool.eq_false_or_eq_true (!(smallH h 30)) with b0 | b0
  · -- !(smallH h 30) is True
    refine k (gn rfl rfl rfl b0 (k (gn rfl rfl rfl b0 (k (gn rfl rfl rfl b0 (k (pickT rfl rfl rfl rfl b0 rfl (z (nx (cdT rfl rfl rfl (sq (rg (k ?_)))))))))))))
    have cc1 := awake13 (w := w0)
    refine ca go7 rfl e0 cc1 ?_
    rintro _ w1 ⟨rfl, xt1⟩
    have H2 := H1.ext xt1
    refine k (asg (v := .bool true) rfl rfl (z (nx (rt (then_ret (r1 rfl rfl ?_))))))
    exact ⟨rfl, H2.below⟩
  · -- !(smallH h 30) is False
    refine k (gy rfl rfl rfl b0 (mv rfl i0 (k (gy rfl rfl rfl b0 (lnS rfl rfl un22 (k (gy rfl rfl rfl b0 (eql rfl rfl rfl rfl (k (pickF rfl rfl rfl rfl b0 rfl (z (nx ?_))))))))))))
    refine cd (b := decide ((h.length : Int) = 0)) rfl rfl (fun b1 => ?_) (fun b1 => ?_)
    ·
      have p1 := of_decide_eq_true b1
      refine sq (rg (k ?_))
      have cc1 := awake13 (w := w0)
      refine ca go7 rfl e0 cc1 ?_
      rintro _ w1 ⟨rfl, xt1⟩
      have H2 := H1.ext xt1
      refine k (asg (v := .bool true) rfl rfl (z (nx (rt (then_ret (r1 rfl rfl ?_))))))
      exact ⟨rfl, H2.below⟩
    ·
      have p1 := of_decide_eq_false b1
      refine sk (nx (sq ?_))
      have sm_ : smallH h 30 = true := by simpa using ‹(!smallH h 30) = false›
      have fl_ := (small_iff.1 sm_).2.1
      have il_ := o11I_len h
      have hlen_ := (small_iff.1 sm_).1
      refine rg (k (mv rfl i0 (k ?_)))
      have cc1 := ref11_Of (h := h) (w := w0) H1.mb (H1.rv 0 rfl) (by omega)
      refine ca go8 rfl (ec rfl e0) cc1 ?_
      rintro _ w1 ⟨a0, c0, a1, c1, a2, c2, rfl, xt1, rv0, rv1, rv2⟩
      have H2 := H1.ext xt1
      have H3 := H2.put (it := imm (.slice a0 (o11V h).length c0) (o11V h)) rfl rv0
      have H4 := H3.put (it := imm (.slice a1 (o11I h).length c1) (o11I h)) rfl (by rw [MS_cons_none rfl]; exact rv1)
      have H5 := H4.put (it := imm (.slice a2 (o11F h).length c2) (o11F h)) rfl (by rw [MS_cons_none rfl, MS_cons_none rfl]; exact rv2)
      refine k (mv (v := .tuple #[.agg #[.slice a0 (o11V h).length c0, .slice a1 (o11I h).length c1, .slice a2 (o11F h).length c2], .bool (o11 h)]) rfl rfl (k (xt rfl rfl rfl (k (xt rfl rfl rfl (k (al H5 ty29 ?_)))))))
      intro bb0 w2 xt2 (H6 : HI M w w2 [box bb0 #[.slice none 0 0, .slice none 0 0, .slice none 0 0] 29, imm (.slice a2 (o11F h).length c2) (o11F h), imm (.slice a1 (o11I h).length c1) (o11I h), imm (.slice a0 (o11V h).length c0) (o11V h), imm (.slice a_h h.length c_h) h])
      refine k (stX H6 0 rfl ty29 rfl rfl rfl rfl rfl rfl rfl ?_)
      intro w3 (H7 : HI M w w3 [box bb0 #[.slice a0 (o11V h).length c0, .slice a1 (o11I h).length c1, .slice a2 (o11F h).length c2] 29, imm (.slice a2 (o11F h).length c2) (o11F h), imm (.slice a1 (o11I h).length c1) (o11I h), imm (.slice a0 (o11V h).length c0) (o11V h), imm (.slice a_h h.length c_h) h])
      refine k (asg (v := .bool (o11 h)) rfl rfl (z (nx (sq (rg (k (mv rfl i0 (k (lnS rfl rfl un22 (k (sub rfl rfl rfl rfl (by first | assumption | (unfold I64 at *; omega)) (k (asg (v := .int .i64 ((h.length : Int) - 1)) rfl rfl (z (nx (sq (rg (k (bs (xs := ([] : List (List (Bool × ByteArray × Int)))) (cells := #[]) (e := 47) H7 rfl pb0 (fun _ => by kernel_rfl) rfl rfl (by unfold maxLen; omega) ?_)))))))))))))))))))
      intro g0 w4 xt3 (H8 : HI M w w4 [own w.heap.size 47 (.slice (some ⟨g0, 0, none⟩) 0 0) ([] : List (List (Bool × ByteArray × Int))), box bb0 #[.slice a0 (o11V h).length c0, .slice a1 (o11I h).length c1, .slice a2 (o11F h).length c2] 29, imm (.slice a2 (o11F h).length c2) (o11F h), imm (.slice a1 (o11I h).length c1) (o11I h), imm (.slice a0 (o11V h).length c0) (o11V h), imm (.slice a_h h.length c_h) h])
      refine k (mv rfl i0 (k (mv (v := .int .i64 ((h.length : Int) - 1)) rfl rfl (k (slH (H8.rv 5 rfl) rfl rfl rfl rfl (by first | omega | (simp; omega)) un22 ty47 ?_)))))
      intro a3 c3 rv3
      have H9 := H8.put (it := imm (.slice a3 (h.take ((h.length : Int) - 1).toNat).length c3) (h.take ((h.length : Int) - 1).toNat)) rfl rv3
      refine k (ap H9 1 rfl rfl rfl rfl rfl rfl (H9.rv 0 rfl).src un22 ty47 rfl (by first | omega | (simp; omega) | (have h_ := flat_len (h := h) (j := ((h.length : Int) - 1).toNat) (x := x0) (by rw [Int.toNat_natCast]; exact hx0); first | omega | (simp; omega))) (by first | omega | (simp; omega) | (have h_ := flat_len (h := h) (j := ((h.length : Int) - 1).toNat) (x := x0) (by rw [Int.toNat_natCast]; exact hx0); first | omega | (simp; omega))) ?_)
      intro a4 c4 w5 (H10 : HI M w w5 [imm (.slice a3 (h.take ((h.length : Int) - 1).toNat).length c3) (h.take ((h.length : Int) - 1).toNat), own w.heap.size 47 (.slice a4 (h.take ((h.length : Int) - 1).toNat).length c4) (h.take ((h.length : Int) - 1).toNat), box bb0 #[.slice a0 (o11V h).length c0, .slice a1 (o11I h).length c1, .slice a2 (o11F h).length c2] 29, imm (.slice a2 (o11F h).length c2) (o11F h), imm (.slice a1 (o11I h).length c1) (o11I h), imm (.slice a0 (o11V h).length c0) (o11V h), imm (.slice a_h h.length c_h) h])
      refine k (asg (v := .slice a4 (h.take ((h.length : Int) - 1).toNat).length c4) rfl rfl (z (nx (sq ?_))))
      obtain ⟨x0, hx0⟩ : ∃ x, h[((h.length : Int) - 1).toNat]? = some x := ⟨_, List.getElem?_eq_getElem (by first | omega | (simp; omega))⟩
      have H21 : HI M w w5 [imm (.slice a3 (h.take ((h.length : Int) - 1).toNat).length c3) (h.take ((h.length : Int) - 1).toNat), box bb0 #[.slice a0 (o11V h).length c0, .slice a1 (o11I h).length c1, .slice a2 (o11F h).length c2] 29, imm (.slice a2 (o11F h).length c2) (o11F h), imm (.slice a1 (o11I h).length c1) (o11I h), imm (.slice a0 (o11V h).length c0) (o11V h), imm (.slice a_h h.length c_h) h, own w.heap.size 47 (.slice a4 (h.take ((h.length : Int) - 1).toNat).length c4) (h.take ((h.length : Int) - 1).toNat)] := H10.pickN [0, 2, 3, 4, 5, 6, 1] (by decide) rfl
      refine drgL [none, some 6, none, none, none, none, some 17, none, none, none, none, none, none, none, none, none, none, some 18, none, some 20, none, some 19] [0, 0, 0, 0, 12, 28, 62, 0, 128, 384, 896, 1920, 0, 4096, 12288, 32640, 65408, 131070, 262142, 524287, 1048575] [fun _ => [], fun v_ => [own w.heap.size 50 (.slice (some ⟨((vA v_).elim 0 (·.block)), 0, none⟩) 0 0) ([] : List (Bool × ByteArray × Int))], fun _ => [], fun _ => [], fun v_ => [atI (vP v_) x0], fun v_ => [imm (.slice (vA v_) x0.length (vC v_)) x0], fun v_ => [own w.heap.size 50 (.slice (vA v_) x0.length (vC v_)) x0], fun _ => [], fun _ => [], fun _ => [], fun v_ => [own w.heap.size 5 (.slice (some ⟨((vA v_).elim 0 (·.block)), 0, none⟩) 1 1) ([BitVec.ofInt 8 (120 + (cv_ % 3))] : List (BitVec 8))], fun _ => [], fun _ => [], fun _ => [], fun _ => [], fun _ => [], fun v_ => [own w.heap.size 50 (.slice (some ⟨((vA v_).elim 0 (·.block)), 0, none⟩) 1 1) ([(false, chS (BitVec.ofInt 8 (120 + (cv_ % 3))), cn_ % 8)] : List (Bool × ByteArray × Int))], fun v_ => [own w.heap.size 50 (.slice (vA v_) (x0 ++ ([(false, chS (BitVec.ofInt 8 (120 + (cv_ % 3))), cn_ % 8)] : List (Bool × ByteArray × Int))).length (vC v_)) (x0 ++ ([(false, chS (BitVec.ofInt 8 (120 + (cv_ % 3))), cn_ % 8)] : List (Bool × ByteArray × Int)))], fun v_ => [own w.heap.size 47 (.slice (some ⟨((vA v_).elim 0 (·.block)), 0, none⟩) 1 1) ([(x0 ++ ([(false, chS (BitVec.ofInt 8 (120 + (cv_ % 3))), cn_ % 8)] : List (Bool × ByteArray × Int)))] : List (List (Bool × ByteArray × Int)))], fun v_ => [own w.heap.size 47 (.slice (vA v_) ((h.take ((h.length : Int) - 1).toNat) ++ ([(x0 ++ ([(false, chS (BitVec.ofInt 8 (120 + (cv_ % 3))), cn_ % 8)] : List (Bool × ByteArray × Int)))] : List (List (Bool × ByteArray × Int)))).length (vC v_)) ((h.take ((h.length : Int) - 1).toNat) ++ ([(x0 ++ ([(false, chS (BitVec.ofInt 8 (120 + (cv_ % 3))), cn_ % 8)] : List (Bool × ByteArray × Int)))] : List (List (Bool × ByteArray × Int))))], fun v_ => [own w.heap.size 47 (.slice (vA v_) ((h.take ((h.length : Int) - 1).toNat) ++ ([(x0 ++ ([(false, chS (BitVec.ofInt 8 (120 + (cv_ % 3))), cn_ % 8)] : List (Bool × ByteArray × Int)))] : List (List (Bool × ByteArray × Int)))).length (vC v_)) ((h.take ((h.length : Int) - 1).toNat) ++ ([(x0 ++ ([(false, chS (BitVec.ofInt 8 (120 + (cv_ % 3))), cn_ % 8)] : List (Bool × ByteArray × Int)))] : List (List (Bool × ByteArray × Int))))], fun _ => [own w.heap.size 47 (.slice a4 (h.take ((h.length : Int) - 1).toNat).length c4) (h.take ((h.length : Int) - 1).toNat)]] [[], [], [], [], [], [4], [1, 5], [], [], [], [], [10], [], [], [], [], [], [6, 16], [17], [18, 21], [19]] [fun v_ => v_ = .slice a4 (h.take ((h.length : Int) - 1).toNat).length c4, fun v_ => ∃ (g1 : Nat), v_ = .slice (some ⟨g1, 0, none⟩) 0 0, fun v_ => v_ = .slice a_h h.length c_h, fun v_ => v_ = .int .i64 ((h.length : Int) - 1), fun v_ => ∃ (ad0 : Addr), v_ = .pointer (some ad0), fun v_ => ∃ (a5 : Option Addr) (c5 : Nat), v_ = .slice a5 x0.length c5, fun v_ => ∃ (a6 : Option Addr) (c6 : Nat), v_ = .slice a6 x0.length c6, fun v_ => v_ = .int .u8 cv_, fun v_ => v_ = .int .u8 (cv_ % 3), fun v_ => v_ = U8 (BitVec.ofInt 8 (120 + (cv_ % 3))), fun v_ => ∃ (g2 : Nat), v_ = .slice (some ⟨g2, 0, none⟩) 1 1, fun v_ => v_ = .string (chS (BitVec.ofInt 8 (120 + (cv_ % 3)))), fun v_ => v_ = .int .u8 cn_, fun v_ => v_ = .int .u8 (cn_ % 8), fun v_ => v_ = .int .i64 (cn_ % 8), fun v_ => v_ = .agg #[.bool false, .string (chS (BitVec.ofInt 8 (120 + (cv_ % 3)))), .int .i64 (cn_ % 8)], fun v_ => ∃ (g3 : Nat), v_ = .slice (some ⟨g3, 0, none⟩) 1 1, fun v_ => ∃ (a7 : Option Addr) (c7 : Nat), v_ = .slice a7 (x0 ++ ([(false, chS (BitVec.ofInt 8 (120 + (cv_ % 3))), cn_ % 8)] : List (Bool × ByteArray × Int))).length c7, fun v_ => ∃ (g4 : Nat), v_ = .slice (some ⟨g4, 0, none⟩) 1 1, fun v_ => ∃ (a8 : Option Addr) (c8 : Nat), v_ = .slice a8 ((h.take ((h.length : Int) - 1).toNat) ++ ([(x0 ++ ([(false, chS (BitVec.ofInt 8 (120 + (cv_ % 3))), cn_ % 8)] : List (Bool × ByteArray × Int)))] : List (List (Bool × ByteArray × Int)))).length c8, fun v_ => ∃ (a8 : Option Addr) (c8 : Nat), v_ = .slice a8 ((h.take ((h.length : Int) - 1).toNat) ++ ([(x0 ++ ([(false, chS (BitVec.ofInt 8 (120 + (cv_ % 3))), cn_ % 8)] : List (Bool × ByteArray × Int)))] : List (List (Bool × ByteArray × Int)))).length c8] [imm (.slice a3 (h.take ((h.length : Int) - 1).toNat).length c3) (h.take ((h.length : Int) - 1).toNat), box bb0 #[.slice a0 (o11V h).length c0, .slice a1 (o11I h).length c1, .slice a2 (o11F h).length c2] 29, imm (.slice a2 (o11F h).length c2) (o11F h), imm (.slice a1 (o11I h).length c1) (o11I h), imm (.slice a0 (o11V h).length c0) (o11V h), imm (.slice a_h h.length c_h) h] rfl (by kernel_rfl) rfl H21 ?_ ?_
      ·
        refine ⟨fun f0 w13 V_ rg_ hs0 hp0 hq0 H22 => ?_, ?_⟩
        ·
          have H23 : HI M w w13 ([imm (.slice a3 (h.take ((h.length : Int) - 1).toNat).length c3) (h.take ((h.length : Int) - 1).toNat), box bb0 #[.slice a0 (o11V h).length c0, .slice a1 (o11I h).length c1, .slice a2 (o11F h).length c2] 29, imm (.slice a2 (o11F h).length c2) (o11F h), imm (.slice a1 (o11I h).length c1) (o11I h), imm (.slice a0 (o11V h).length c0) (o11V h), imm (.slice a_h h.length c_h) h] ++ rg_) := (by have h_ : HI M w w13 ([imm (.slice a3 (h.take ((h.length : Int) - 1).toNat).length c3) (h.take ((h.length : Int) - 1).toNat), box bb0 #[.slice a0 (o11V h).length c0, .slice a1 (o11I h).length c1, .slice a2 (o11F h).length c2] 29, imm (.slice a2 (o11F h).length c2) (o11F h), imm (.slice a1 (o11I h).length c1) (o11I h), imm (.slice a0 (o11V h).length c0) (o11V h), imm (.slice a_h h.length c_h) h] ++ (rg_)) := H22; exact h_)
          refine mv rfl (hq0 20 _ rfl rfl (by first | exact .inl rfl | exact .inr rfl)) ?_
          exact ⟨_, rfl, rfl, H23⟩
        refine ⟨fun f1 w14 V_ rg_ hs1 hp1 hq1 H25 => ?_, ?_⟩
        ·
          have H26 : HI M w w14 ([imm (.slice a3 (h.take ((h.length : Int) - 1).toNat).length c3) (h.take ((h.length : Int) - 1).toNat), box bb0 #[.slice a0 (o11V h).length c0, .slice a1 (o11I h).length c1, .slice a2 (o11F h).length c2] 29, imm (.slice a2 (o11F h).length c2) (o11F h), imm (.slice a1 (o11I h).length c1) (o11I h), imm (.slice a0 (o11V h).length c0) (o11V h), imm (.slice a_h h.length c_h) h] ++ rg_) := (by have h_ : HI M w w14 ([imm (.slice a3 (h.take ((h.length : Int) - 1).toNat).length c3) (h.take ((h.length : Int) - 1).toNat), box bb0 #[.slice a0 (o11V h).length c0, .slice a1 (o11I h).length c1, .slice a2 (o11F h).length c2] 29, imm (.slice a2 (o11F h).length c2) (o11F h), imm (.slice a1 (o11I h).length c1) (o11I h), imm (.slice a0 (o11V h).length c0) (o11V h), imm (.slice a_h h.length c_h) h] ++ (rg_)) := H25; exact h_)
          refine bs (xs := ([] : List (Bool × ByteArray × Int))) (cells := #[]) (e := 50) H26 rfl pb0 (fun _ => by kernel_rfl) rfl rfl (by unfold maxLen; omega) ?_
          intro g5 w15 xt8 (H27 : HI M w w15 ([own w.heap.size 50 (.slice (some ⟨g5, 0, none⟩) 0 0) ([] : List (Bool × ByteArray × Int)), imm (.slice a3 (h.take ((h.length : Int) - 1).toNat).length c3) (h.take ((h.length : Int) - 1).toNat), box bb0 #[.slice a0 (o11V h).length c0, .slice a1 (o11I h).length c1, .slice a2 (o11F h).length c2] 29, imm (.slice a2 (o11F h).length c2) (o11F h), imm (.slice a1 (o11I h).length c1) (o11I h), imm (.slice a0 (o11V h).length c0) (o11V h), imm (.slice a_h h.length c_h) h] ++ rg_))
          have H28 := HI.pickT (l := [own w.heap.size 50 (.slice (some ⟨g5, 0, none⟩) 0 0) ([] : List (Bool × ByteArray × Int)), imm (.slice a3 (h.take ((h.length : Int) - 1).toNat).length c3) (h.take ((h.length : Int) - 1).toNat), box bb0 #[.slice a0 (o11V h).length c0, .slice a1 (o11I h).length c1, .slice a2 (o11F h).length c2] 29, imm (.slice a2 (o11F h).length c2) (o11F h), imm (.slice a1 (o11I h).length c1) (o11I h), imm (.slice a0 (o11V h).length c0) (o11V h), imm (.slice a_h h.length c_h) h]) (l' := [imm (.slice a3 (h.take ((h.length : Int) - 1).toNat).length c3) (h.take ((h.length : Int) - 1).toNat), box bb0 #[.slice a0 (o11V h).length c0, .slice a1 (o11I h).length c1, .slice a2 (o11F h).length c2] 29, imm (.slice a2 (o11F h).length c2) (o11F h), imm (.slice a1 (o11I h).length c1) (o11I h), imm (.slice a0 (o11V h).length c0) (o11V h), imm (.slice a_h h.length c_h) h, own w.heap.size 50 (.slice (some ⟨g5, 0, none⟩) 0 0) ([] : List (Bool × ByteArray × Int))]) (t := rg_) H27 [1, 2, 3, 4, 5, 6, 0] (by decide) rfl rfl
          exact ⟨_, rfl, ⟨g5, rfl⟩, H28⟩
        refine ⟨fun f2 w16 V_ rg_ hs2 hp2 hq2 H29 => ?_, ?_⟩
        ·
          have H30 : HI M w w16 ([imm (.slice a3 (h.take ((h.length : Int) - 1).toNat).length c3) (h.take ((h.length : Int) - 1).toNat), box bb0 #[.slice a0 (o11V h).length c0, .slice a1 (o11I h).length c1, .slice a2 (o11F h).length c2] 29, imm (.slice a2 (o11F h).length c2) (o11F h), imm (.slice a1 (o11I h).length c1) (o11I h), imm (.slice a0 (o11V h).length c0) (o11V h), imm (.slice a_h h.length c_h) h] ++ rg_) := (by have h_ : HI M w w16 ([imm (.slice a3 (h.take ((h.length : Int) - 1).toNat).length c3) (h.take ((h.length : Int) - 1).toNat), box bb0 #[.slice a0 (o11V h).length c0, .slice a1 (o11I h).length c1, .slice a2 (o11F h).length c2] 29, imm (.slice a2 (o11F h).length c2) (o11F h), imm (.slice a1 (o11I h).length c1) (o11I h), imm (.slice a0 (o11V h).length c0) (o11V h), imm (.slice a_h h.length c_h) h] ++ (rg_)) := H29; exact h_)
          refine mv rfl ((hs2 0 rfl).trans i0) ?_
          exact ⟨_, rfl, rfl, H30⟩
        refine ⟨fun f3 w17 V_ rg_ hs3 hp3 hq3 H32 => ?_, ?_⟩
        ·
          have H33 : HI M w w17 ([imm (.slice a3 (h.take ((h.length : Int) - 1).toNat).length c3) (h.take ((h.length : Int) - 1).toNat), box bb0 #[.slice a0 (o11V h).length c0, .slice a1 (o11I h).length c1, .slice a2 (o11F h).length c2] 29, imm (.slice a2 (o11F h).length c2) (o11F h), imm (.slice a1 (o11I h).length c1) (o11I h), imm (.slice a0 (o11V h).length c0) (o11V h), imm (.slice a_h h.length c_h) h] ++ rg_) := (by have h_ : HI M w w17 ([imm (.slice a3 (h.take ((h.length : Int) - 1).toNat).length c3) (h.take ((h.length : Int) - 1).toNat), box bb0 #[.slice a0 (o11V h).length c0, .slice a1 (o11I h).length c1, .slice a2 (o11F h).length c2] 29, imm (.slice a2 (o11F h).length c2) (o11F h), imm (.slice a1 (o11I h).length c1) (o11I h), imm (.slice a0 (o11V h).length c0) (o11V h), imm (.slice a_h h.length c_h) h] ++ (rg_)) := H32; exact h_)
          refine mv rfl (hs3 9 rfl) ?_
          exact ⟨_, rfl, rfl, H33⟩
        refine ⟨fun f4 w18 V_ rg_ hs4 hp4 hq4 H35 => ?_, ?_⟩
        ·
          obtain ⟨e0, q0⟩ := hp4 2 _ rfl rfl rfl
          have e1 : V_ 2 = .slice a_h h.length c_h := q0
          have s0 : f4 41 = .slice a_h h.length c_h := e0.trans e1
          obtain ⟨e2, q1⟩ := hp4 3 _ rfl rfl rfl
          have e3 : V_ 3 = .int .i64 ((h.length : Int) - 1) := q1
          have s1 : f4 42 = .int .i64 ((h.length : Int) - 1) := e2.trans e3
          have H36 : HI M w w18 ([imm (.slice a3 (h.take ((h.length : Int) - 1).toNat).length c3) (h.take ((h.length : Int) - 1).toNat), box bb0 #[.slice a0 (o11V h).length c0, .slice a1 (o11I h).length c1, .slice a2 (o11F h).length c2] 29, imm (.slice a2 (o11F h).length c2) (o11F h), imm (.slice a1 (o11I h).length c1) (o11I h), imm (.slice a0 (o11V h).length c0) (o11V h), imm (.slice a_h h.length c_h) h] ++ rg_) := (by have h_ : HI M w w18 ([imm (.slice a3 (h.take ((h.length : Int) - 1).toNat).length c3) (h.take ((h.length : Int) - 1).toNat), box bb0 #[.slice a0 (o11V h).length c0, .slice a1 (o11I h).length c1, .slice a2 (o11F h).length c2] 29, imm (.slice a2 (o11F h).length c2) (o11F h), imm (.slice a1 (o11I h).length c1) (o11I h), imm (.slice a0 (o11V h).length c0) (o11V h), imm (.slice a_h h.length c_h) h] ++ (rg_)) := H35; exact h_)
          refine ia (H36.rv 5 rfl) rfl rfl s0 s1 (by first | omega | (simp; omega)) un22 ty47 ?_
          intro ad1 x1 hx1 hA1
          obtain rfl : x0 = x1 := Option.some.inj (hx0.symm.trans hx1)
          have H37 := H36.put (it := atI ad1 x0) rfl hA1
          have H38 : HI M w w18 ([atI ad1 x0, imm (.slice a3 (h.take ((h.length : Int) - 1).toNat).length c3) (h.take ((h.length : Int) - 1).toNat), box bb0 #[.slice a0 (o11V h).length c0, .slice a1 (o11I h).length c1, .slice a2 (o11F h).length c2] 29, imm (.slice a2 (o11F h).length c2) (o11F h), imm (.slice a1 (o11I h).length c1) (o11I h), imm (.slice a0 (o11V h).length c0) (o11V h), imm (.slice a_h h.length c_h) h] ++ rg_) := H37
          have H39 := HI.pickT (l := [atI ad1 x0, imm (.slice a3 (h.take ((h.length : Int) - 1).toNat).length c3) (h.take ((h.length : Int) - 1).toNat), box bb0 #[.slice a0 (o11V h).length c0, .slice a1 (o11I h).length c1, .slice a2 (o11F h).length c2] 29, imm (.slice a2 (o11F h).length c2) (o11F h), imm (.slice a1 (o11I h).length c1) (o11I h), imm (.slice a0 (o11V h).length c0) (o11V h), imm (.slice a_h h.length c_h) h]) (l' := [imm (.slice a3 (h.take ((h.length : Int) - 1).toNat).length c3) (h.take ((h.length : Int) - 1).toNat), box bb0 #[.slice a0 (o11V h).length c0, .slice a1 (o11I h).length c1, .slice a2 (o11F h).length c2] 29, imm (.slice a2 (o11F h).length c2) (o11F h), imm (.slice a1 (o11I h).length c1) (o11I h), imm (.slice a0 (o11V h).length c0) (o11V h), imm (.slice a_h h.length c_h) h, atI ad1 x0]) (t := rg_) H38 [1, 2, 3, 4, 5, 6, 0] (by decide) rfl rfl
          exact ⟨_, rfl, ⟨ad1, rfl⟩, H39⟩
        refine ⟨fun f5 w19 V_ rg_ hs5 hp5 hq5 H40 => ?_, ?_⟩
        ·
          obtain ⟨e4, q2⟩ := hp5 4 _ rfl rfl rfl
          obtain ⟨ad2, e5⟩ : ∃ (ad2 : Addr), V_ 4 = .pointer (some ad2) := q2
          have s2 : f5 43 = .pointer (some ad2) := e4.trans e5
          have H41 : HI M w w19 ([imm (.slice a3 (h.take ((h.length : Int) - 1).toNat).length c3) (h.take ((h.length : Int) - 1).toNat), box bb0 #[.slice a0 (o11V h).length c0, .slice a1 (o11I h).length c1, .slice a2 (o11F h).length c2] 29, imm (.slice a2 (o11F h).length c2) (o11F h), imm (.slice a1 (o11I h).length c1) (o11I h), imm (.slice a0 (o11V h).length c0) (o11V h), imm (.slice a_h h.length c_h) h, atI ad2 x0] ++ rg_) := (by have h_ : HI M w w19 ([imm (.slice a3 (h.take ((h.length : Int) - 1).toNat).length c3) (h.take ((h.length : Int) - 1).toNat), box bb0 #[.slice a0 (o11V h).length c0, .slice a1 (o11I h).length c1, .slice a2 (o11F h).length c2] 29, imm (.slice a2 (o11F h).length c2) (o11F h), imm (.slice a1 (o11I h).length c1) (o11I h), imm (.slice a0 (o11V h).length c0) (o11V h), imm (.slice a_h h.length c_h) h] ++ ([atI (vP (V_ 4)) x0] ++ (rg_))) := H40; rw [e5] at h_; exact h_)
          refine ldL (H41.atv 6 rfl).w ty47 rfl s2 ?_
          intro a9 c9 rv5
          have ln1 := rv_len rv5
          have H42 := H41.put (it := imm (.slice a9 x0.length c9) x0) rfl rv5
          have H43 : HI M w w19 ([imm (.slice a9 x0.length c9) x0, imm (.slice a3 (h.take ((h.length : Int) - 1).toNat).length c3) (h.take ((h.length : Int) - 1).toNat), box bb0 #[.slice a0 (o11V h).length c0, .slice a1 (o11I h).length c1, .slice a2 (o11F h).length c2] 29, imm (.slice a2 (o11F h).length c2) (o11F h), imm (.slice a1 (o11I h).length c1) (o11I h), imm (.slice a0 (o11V h).length c0) (o11V h), imm (.slice a_h h.length c_h) h, atI ad2 x0] ++ rg_) := H42
          have H44 := HI.pickT (l := [imm (.slice a9 x0.length c9) x0, imm (.slice a3 (h.take ((h.length : Int) - 1).toNat).length c3) (h.take ((h.length : Int) - 1).toNat), box bb0 #[.slice a0 (o11V h).length c0, .slice a1 (o11I h).length c1, .slice a2 (o11F h).length c2] 29, imm (.slice a2 (o11F h).length c2) (o11F h), imm (.slice a1 (o11I h).length c1) (o11I h), imm (.slice a0 (o11V h).length c0) (o11V h), imm (.slice a_h h.length c_h) h, atI ad2 x0]) (l' := [imm (.slice a3 (h.take ((h.length : Int) - 1).toNat).length c3) (h.take ((h.length : Int) - 1).toNat), box bb0 #[.slice a0 (o11V h).length c0, .slice a1 (o11I h).length c1, .slice a2 (o11F h).length c2] 29, imm (.slice a2 (o11F h).length c2) (o11F h), imm (.slice a1 (o11I h).length c1) (o11I h), imm (.slice a0 (o11V h).length c0) (o11V h), imm (.slice a_h h.length c_h) h, atI ad2 x0, imm (.slice a9 x0.length c9) x0]) (t := rg_) H43 [1, 2, 3, 4, 5, 6, 7, 0] (by decide) rfl rfl
          exact ⟨_, rfl, ⟨a9, c9, rfl⟩, (by have h_ := H44; rw [show (ad2 : Addr) = (vP (V_ 4)) from by rw [e5] <;> rfl] at h_; exact h_)⟩
        refine ⟨fun f6 w20 V_ rg_ hs6 hp6 hq6 H45 => ?_, ?_⟩
        ·
          obtain ⟨e6, q3⟩ := hp6 1 _ rfl rfl rfl
          obtain ⟨g6, e7⟩ : ∃ (g6 : Nat), V_ 1 = .slice (some ⟨g6, 0, none⟩) 0 0 := q3
          have s3 : f6 40 = .slice (some ⟨g6, 0, none⟩) 0 0 := e6.trans e7
          obtain ⟨e8, q4⟩ := hp6 5 _ rfl rfl rfl
          obtain ⟨a10, c10, e9⟩ : ∃ (a10 : Option Addr) (c10 : Nat), V_ 5 = .slice a10 x0.length c10 := q4
          have s4 : f6 44 = .slice a10 x0.length c10 := e8.trans e9
          have H46 : HI M w w20 ([imm (.slice a3 (h.take ((h.length : Int) - 1).toNat).length c3) (h.take ((h.length : Int) - 1).toNat), box bb0 #[.slice a0 (o11V h).length c0, .slice a1 (o11I h).length c1, .slice a2 (o11F h).length c2] 29, imm (.slice a2 (o11F h).length c2) (o11F h), imm (.slice a1 (o11I h).length c1) (o11I h), imm (.slice a0 (o11V h).length c0) (o11V h), imm (.slice a_h h.length c_h) h, own w.heap.size 50 (.slice (some ⟨g6, 0, none⟩) 0 0) ([] : List (Bool × ByteArray × Int)), imm (.slice a10 x0.length c10) x0] ++ rg_) := (by have h_ : HI M w w20 ([imm (.slice a3 (h.take ((h.length : Int) - 1).toNat).length c3) (h.take ((h.length : Int) - 1).toNat), box bb0 #[.slice a0 (o11V h).length c0, .slice a1 (o11I h).length c1, .slice a2 (o11F h).length c2] 29, imm (.slice a2 (o11F h).length c2) (o11F h), imm (.slice a1 (o11I h).length c1) (o11I h), imm (.slice a0 (o11V h).length c0) (o11V h), imm (.slice a_h h.length c_h) h] ++ ([own w.heap.size 50 (.slice (some ⟨((vA (V_ 1)).elim 0 (·.block)), 0, none⟩) 0 0) ([] : List (Bool × ByteArray × Int))] ++ ([imm (.slice (vA (V_ 5)) x0.length (vC (V_ 5))) x0] ++ (rg_)))) := H45; rw [e7] at h_; rw [e9] at h_; exact h_)
          refine ap H46 6 rfl rfl rfl rfl s3 s4 (H46.rv 7 rfl).src un47 ty50 rfl (by first | omega | (simp; omega) | (have h_ := flat_len (h := h) (j := ((h.length : Int) - 1).toNat) (x := x0) (by rw [Int.toNat_natCast]; exact hx0); first | omega | (simp; omega))) (by first | omega | (simp; omega) | (have h_ := flat_len (h := h) (j := ((h.length : Int) - 1).toNat) (x := x0) (by rw [Int.toNat_natCast]; exact hx0); first | omega | (simp; omega))) ?_
          intro a11 c11 w21 (H47 : HI M w w21 ([imm (.slice a3 (h.take ((h.length : Int) - 1).toNat).length c3) (h.take ((h.length : Int) - 1).toNat), box bb0 #[.slice a0 (o11V h).length c0, .slice a1 (o11I h).length c1, .slice a2 (o11F h).length c2] 29, imm (.slice a2 (o11F h).length c2) (o11F h), imm (.slice a1 (o11I h).length c1) (o11I h), imm (.slice a0 (o11V h).length c0) (o11V h), imm (.slice a_h h.length c_h) h, own w.heap.size 50 (.slice a11 x0.length c11) x0, imm (.slice a10 x0.length c10) x0] ++ rg_))
          have H48 := HI.pickT (l := [imm (.slice a3 (h.take ((h.length : Int) - 1).toNat).length c3) (h.take ((h.length : Int) - 1).toNat), box bb0 #[.slice a0 (o11V h).length c0, .slice a1 (o11I h).length c1, .slice a2 (o11F h).length c2] 29, imm (.slice a2 (o11F h).length c2) (o11F h), imm (.slice a1 (o11I h).length c1) (o11I h), imm (.slice a0 (o11V h).length c0) (o11V h), imm (.slice a_h h.length c_h) h, own w.heap.size 50 (.slice a11 x0.length c11) x0, imm (.slice a10 x0.length c10) x0]) (l' := [imm (.slice a3 (h.take ((h.length : Int) - 1).toNat).length c3) (h.take ((h.length : Int) - 1).toNat), box bb0 #[.slice a0 (o11V h).length c0, .slice a1 (o11I h).length c1, .slice a2 (o11F h).length c2] 29, imm (.slice a2 (o11F h).length c2) (o11F h), imm (.slice a1 (o11I h).length c1) (o11I h), imm (.slice a0 (o11V h).length c0) (o11V h), imm (.slice a_h h.length c_h) h, imm (.slice a10 x0.length c10) x0, own w.heap.size 50 (.slice a11 x0.length c11) x0]) (t := rg_) H47 [0, 1, 2, 3, 4, 5, 7, 6] (by decide) rfl rfl
          exact ⟨_, rfl, ⟨a11, c11, rfl⟩, (by have h_ := H48; rw [show (a10 : Option Addr) = (vA (V_ 5)) from by rw [e9] <;> rfl, show (c10 : Nat) = (vC (V_ 5)) from by rw [e9] <;> rfl] at h_; exact h_)⟩
        refine ⟨fun f7 w22 V_ rg_ hs7 hp7 hq7 H49 => ?_, ?_⟩
        ·
          have H50 : HI M w w22 ([imm (.slice a3 (h.take ((h.length : Int) - 1).toNat).length c3) (h.take ((h.length : Int) - 1).toNat), box bb0 #[.slice a0 (o11V h).length c0, .slice a1 (o11I h).length c1, .slice a2 (o11F h).length c2] 29, imm (.slice a2 (o11F h).length c2) (o11F h), imm (.slice a1 (o11I h).length c1) (o11I h), imm (.slice a0 (o11V h).length c0) (o11V h), imm (.slice a_h h.length c_h) h] ++ rg_) := (by have h_ : HI M w w22 ([imm (.slice a3 (h.take ((h.length : Int) - 1).toNat).length c3) (h.take ((h.length : Int) - 1).toNat), box bb0 #[.slice a0 (o11V h).length c0, .slice a1 (o11I h).length c1, .slice a2 (o11F h).length c2] 29, imm (.slice a2 (o11F h).length c2) (o11F h), imm (.slice a1 (o11I h).length c1) (o11I h), imm (.slice a0 (o11V h).length c0) (o11V h), imm (.slice a_h h.length c_h) h] ++ (rg_)) := H49; exact h_)
          refine mv rfl ((hs7 1 rfl).trans i1) ?_
          exact ⟨_, rfl, rfl, H50⟩
        refine ⟨fun f8 w23 V_ rg_ hs8 hp8 hq8 H52 => ?_, ?_⟩
        ·
          obtain ⟨e10, q5⟩ := hp8 7 _ rfl rfl rfl
          have e11 : V_ 7 = .int .u8 cv_ := q5
          have s5 : f8 46 = .int .u8 cv_ := e10.trans e11
          have H53 : HI M w w23 ([imm (.slice a3 (h.take ((h.length : Int) - 1).toNat).length c3) (h.take ((h.length : Int) - 1).toNat), box bb0 #[.slice a0 (o11V h).length c0, .slice a1 (o11I h).length c1, .slice a2 (o11F h).length c2] 29, imm (.slice a2 (o11F h).length c2) (o11F h), imm (.slice a1 (o11I h).length c1) (o11I h), imm (.slice a0 (o11V h).length c0) (o11V h), imm (.slice a_h h.length c_h) h] ++ rg_) := (by have h_ : HI M w w23 ([imm (.slice a3 (h.take ((h.length : Int) - 1).toNat).length c3) (h.take ((h.length : Int) - 1).toNat), box bb0 #[.slice a0 (o11V h).length c0, .slice a1 (o11I h).length c1, .slice a2 (o11F h).length c2] 29, imm (.slice a2 (o11F h).length c2) (o11F h), imm (.slice a1 (o11I h).length c1) (o11I h), imm (.slice a0 (o11V h).length c0) (o11V h), imm (.slice a_h h.length c_h) h] ++ (rg_)) := H52; exact h_)
          refine rem rfl rfl s5 rfl (by first | omega | (simp; omega)) ?_
          exact ⟨_, rfl, rfl, H53⟩
        refine ⟨fun f9 w24 V_ rg_ hs9 hp9 hq9 H55 => ?_, ?_⟩
        ·
          obtain ⟨e12, q6⟩ := hp9 8 _ rfl rfl rfl
          have e13 : V_ 8 = .int .u8 (cv_ % 3) := q6
          have s6 : f9 47 = .int .u8 (cv_ % 3) := e12.trans e13
          have H56 : HI M w w24 ([imm (.slice a3 (h.take ((h.length : Int) - 1).toNat).length c3) (h.take ((h.length : Int) - 1).toNat), box bb0 #[.slice a0 (o11V h).length c0, .slice a1 (o11I h).length c1, .slice a2 (o11F h).length c2] 29, imm (.slice a2 (o11F h).length c2) (o11F h), imm (.slice a1 (o11I h).length c1) (o11I h), imm (.slice a0 (o11V h).length c0) (o11V h), imm (.slice a_h h.length c_h) h] ++ rg_) := (by have h_ : HI M w w24 ([imm (.slice a3 (h.take ((h.length : Int) - 1).toNat).length c3) (h.take ((h.length : Int) - 1).toNat), box bb0 #[.slice a0 (o11V h).length c0, .slice a1 (o11I h).length c1, .slice a2 (o11F h).length c2] 29, imm (.slice a2 (o11F h).length c2) (o11F h), imm (.slice a1 (o11I h).length c1) (o11I h), imm (.slice a0 (o11V h).length c0) (o11V h), imm (.slice a_h h.length c_h) h] ++ (rg_)) := H55; exact h_)
          refine add8 rfl rfl rfl s6 (by omega) ?_
          exact ⟨_, rfl, rfl, H56⟩
        refine ⟨fun f10 w25 V_ rg_ hs10 hp10 hq10 H58 => ?_, ?_⟩
        ·
          obtain ⟨e14, q7⟩ := hp10 9 _ rfl rfl rfl
          have e15 : V_ 9 = U8 (BitVec.ofInt 8 (120 + (cv_ % 3))) := q7
          have s7 : f10 48 = U8 (BitVec.ofInt 8 (120 + (cv_ % 3))) := e14.trans e15
          have H59 : HI M w w25 ([imm (.slice a3 (h.take ((h.length : Int) - 1).toNat).length c3) (h.take ((h.length : Int) - 1).toNat), box bb0 #[.slice a0 (o11V h).length c0, .slice a1 (o11I h).length c1, .slice a2 (o11F h).length c2] 29, imm (.slice a2 (o11F h).length c2) (o11F h), imm (.slice a1 (o11I h).length c1) (o11I h), imm (.slice a0 (o11V h).length c0) (o11V h), imm (.slice a_h h.length c_h) h] ++ rg_) := (by have h_ : HI M w w25 ([imm (.slice a3 (h.take ((h.length : Int) - 1).toNat).length c3) (h.take ((h.length : Int) - 1).toNat), box bb0 #[.slice a0 (o11V h).length c0, .slice a1 (o11I h).length c1, .slice a2 (o11F h).length c2] 29, imm (.slice a2 (o11F h).length c2) (o11F h), imm (.slice a1 (o11I h).length c1) (o11I h), imm (.slice a0 (o11V h).length c0) (o11V h), imm (.slice a_h h.length c_h) h] ++ (rg_)) := H58; exact h_)
          refine bs (xs := ([BitVec.ofInt 8 (120 + (cv_ % 3))] : List (BitVec 8))) (cells := #[U8 (BitVec.ofInt 8 (120 + (cv_ % 3)))]) (e := 5) H59 rfl (pbc s7 pb0) (fun _ => by kernel_rfl) ⟨[U8 (BitVec.ofInt 8 (120 + (cv_ % 3)))], [], rfl, rfl, rfl⟩ rfl (by unfold maxLen; omega) ?_
          intro g7 w26 xt9 (H60 : HI M w w26 ([own w.heap.size 5 (.slice (some ⟨g7, 0, none⟩) 1 1) ([BitVec.ofInt 8 (120 + (cv_ % 3))] : List (BitVec 8)), imm (.slice a3 (h.take ((h.length : Int) - 1).toNat).length c3) (h.take ((h.length : Int) - 1).toNat), box bb0 #[.slice a0 (o11V h).length c0, .slice a1 (o11I h).length c1, .slice a2 (o11F h).length c2] 29, imm (.slice a2 (o11F h).length c2) (o11F h), imm (.slice a1 (o11I h).length c1) (o11I h), imm (.slice a0 (o11V h).length c0) (o11V h), imm (.slice a_h h.length c_h) h] ++ rg_))
          have H61 := HI.pickT (l := [own w.heap.size 5 (.slice (some ⟨g7, 0, none⟩) 1 1) ([BitVec.ofInt 8 (120 + (cv_ % 3))] : List (BitVec 8)), imm (.slice a3 (h.take ((h.length : Int) - 1).toNat).length c3) (h.take ((h.length : Int) - 1).toNat), box bb0 #[.slice a0 (o11V h).length c0, .slice a1 (o11I h).length c1, .slice a2 (o11F h).length c2] 29, imm (.slice a2 (o11F h).length c2) (o11F h), imm (.slice a1 (o11I h).length c1) (o11I h), imm (.slice a0 (o11V h).length c0) (o11V h), imm (.slice a_h h.length c_h) h]) (l' := [imm (.slice a3 (h.take ((h.length : Int) - 1).toNat).length c3) (h.take ((h.length : Int) - 1).toNat), box bb0 #[.slice a0 (o11V h).length c0, .slice a1 (o11I h).length c1, .slice a2 (o11F h).length c2] 29, imm (.slice a2 (o11F h).length c2) (o11F h), imm (.slice a1 (o11I h).length c1) (o11I h), imm (.slice a0 (o11V h).length c0) (o11V h), imm (.slice a_h h.length c_h) h, own w.heap.size 5 (.slice (some ⟨g7, 0, none⟩) 1 1) ([BitVec.ofInt 8 (120 + (cv_ % 3))] : List (BitVec 8))]) (t := rg_) H60 [1, 2, 3, 4, 5, 6, 0] (by decide) rfl rfl
          exact ⟨_, rfl, ⟨g7, rfl⟩, H61⟩
        refine ⟨fun f11 w27 V_ rg_ hs11 hp11 hq11 H62 => ?_, ?_⟩
        ·
          obtain ⟨e16, q8⟩ := hp11 10 _ rfl rfl rfl
          obtain ⟨g8, e17⟩ : ∃ (g8 : Nat), V_ 10 = .slice (some ⟨g8, 0, none⟩) 1 1 := q8
          have s8 : f11 49 = .slice (some ⟨g8, 0, none⟩) 1 1 := e16.trans e17
          have H63 : HI M w w27 ([imm (.slice a3 (h.take ((h.length : Int) - 1).toNat).length c3) (h.take ((h.length : Int) - 1).toNat), box bb0 #[.slice a0 (o11V h).length c0, .slice a1 (o11I h).length c1, .slice a2 (o11F h).length c2] 29, imm (.slice a2 (o11F h).length c2) (o11F h), imm (.slice a1 (o11I h).length c1) (o11I h), imm (.slice a0 (o11V h).length c0) (o11V h), imm (.slice a_h h.length c_h) h, own w.heap.size 5 (.slice (some ⟨g8, 0, none⟩) 1 1) ([BitVec.ofInt 8 (120 + (cv_ % 3))] : List (BitVec 8))] ++ rg_) := (by have h_ : HI M w w27 ([imm (.slice a3 (h.take ((h.length : Int) - 1).toNat).length c3) (h.take ((h.length : Int) - 1).toNat), box bb0 #[.slice a0 (o11V h).length c0, .slice a1 (o11I h).length c1, .slice a2 (o11F h).length c2] 29, imm (.slice a2 (o11F h).length c2) (o11F h), imm (.slice a1 (o11I h).length c1) (o11I h), imm (.slice a0 (o11V h).length c0) (o11V h), imm (.slice a_h h.length c_h) h] ++ ([own w.heap.size 5 (.slice (some ⟨((vA (V_ 10)).elim 0 (·.block)), 0, none⟩) 1 1) ([BitVec.ofInt 8 (120 + (cv_ % 3))] : List (BitVec 8))] ++ (rg_))) := H62; rw [e17] at h_; exact h_)
          refine cvBS (H63.at_ 6 rfl) rfl s8 un48 un5 un9 ?_
          exact ⟨_, rfl, rfl, (by have h_ := H63; rw [show (g8 : Nat) = ((vA (V_ 10)).elim 0 (·.block)) from by rw [e17] <;> rfl] at h_; exact h_)⟩
        refine ⟨fun f12 w28 V_ rg_ hs12 hp12 hq12 H65 => ?_, ?_⟩
        ·
          have H66 : HI M w w28 ([imm (.slice a3 (h.take ((h.length : Int) - 1).toNat).length c3) (h.take ((h.length : Int) - 1).toNat), box bb0 #[.slice a0 (o11V h).length c0, .slice a1 (o11I h).length c1, .slice a2 (o11F h).length c2] 29, imm (.slice a2 (o11F h).length c2) (o11F h), imm (.slice a1 (o11I h).length c1) (o11I h), imm (.slice a0 (o11V h).length c0) (o11V h), imm (.slice a_h h.length c_h) h] ++ rg_) := (by have h_ : HI M w w28 ([imm (.slice a3 (h.take ((h.length : Int) - 1).toNat).length c3) (h.take ((h.length : Int) - 1).toNat), box bb0 #[.slice a0 (o11V h).length c0, .slice a1 (o11I h).length c1, .slice a2 (o11F h).length c2] 29, imm (.slice a2 (o11F h).length c2) (o11F h), imm (.slice a1 (o11I h).length c1) (o11I h), imm (.slice a0 (o11V h).length c0) (o11V h), imm (.slice a_h h.length c_h) h] ++ (rg_)) := H65; exact h_)
          refine mv rfl ((hs12 2 rfl).trans i2) ?_
          exact ⟨_, rfl, rfl, H66⟩
        refine ⟨fun f13 w29 V_ rg_ hs13 hp13 hq13 H68 => ?_, ?_⟩
        ·
          obtain ⟨e18, q9⟩ := hp13 12 _ rfl rfl rfl
          have e19 : V_ 12 = .int .u8 cn_ := q9
          have s9 : f13 51 = .int .u8 cn_ := e18.trans e19
          have H69 : HI M w w29 ([imm (.slice a3 (h.take ((h.length : Int) - 1).toNat).length c3) (h.take ((h.length : Int) - 1).toNat), box bb0 #[.slice a0 (o11V h).length c0, .slice a1 (o11I h).length c1, .slice a2 (o11F h).length c2] 29, imm (.slice a2 (o11F h).length c2) (o11F h), imm (.slice a1 (o11I h).length c1) (o11I h), imm (.slice a0 (o11V h).length c0) (o11V h), imm (.slice a_h h.length c_h) h] ++ rg_) := (by have h_ : HI M w w29 ([imm (.slice a3 (h.take ((h.length : Int) - 1).toNat).length c3) (h.take ((h.length : Int) - 1).toNat), box bb0 #[.slice a0 (o11V h).length c0, .slice a1 (o11I h).length c1, .slice a2 (o11F h).length c2] 29, imm (.slice a2 (o11F h).length c2) (o11F h), imm (.slice a1 (o11I h).length c1) (o11I h), imm (.slice a0 (o11V h).length c0) (o11V h), imm (.slice a_h h.length c_h) h] ++ (rg_)) := H68; exact h_)
          refine rem rfl rfl s9 rfl (by first | omega | (simp; omega)) ?_
          exact ⟨_, rfl, rfl, H69⟩
        refine ⟨fun f14 w30 V_ rg_ hs14 hp14 hq14 H71 => ?_, ?_⟩
        ·
          obtain ⟨e20, q10⟩ := hp14 13 _ rfl rfl rfl
          have e21 : V_ 13 = .int .u8 (cn_ % 8) := q10
          have s10 : f14 52 = .int .u8 (cn_ % 8) := e20.trans e21
          have H72 : HI M w w30 ([imm (.slice a3 (h.take ((h.length : Int) - 1).toNat).length c3) (h.take ((h.length : Int) - 1).toNat), box bb0 #[.slice a0 (o11V h).length c0, .slice a1 (o11I h).length c1, .slice a2 (o11F h).length c2] 29, imm (.slice a2 (o11F h).length c2) (o11F h), imm (.slice a1 (o11I h).length c1) (o11I h), imm (.slice a0 (o11V h).length c0) (o11V h), imm (.slice a_h h.length c_h) h] ++ rg_) := (by have h_ : HI M w w30 ([imm (.slice a3 (h.take ((h.length : Int) - 1).toNat).length c3) (h.take ((h.length : Int) - 1).toNat), box bb0 #[.slice a0 (o11V h).length c0, .slice a1 (o11I h).length c1, .slice a2 (o11F h).length c2] 29, imm (.slice a2 (o11F h).length c2) (o11F h), imm (.slice a1 (o11I h).length c1) (o11I h), imm (.slice a0 (o11V h).length c0) (o11V h), imm (.slice a_h h.length c_h) h] ++ (rg_)) := H71; exact h_)
          refine cvI rfl s10 (by first | assumption | (unfold I64 at *; omega)) un5 un3 ?_
          exact ⟨_, rfl, rfl, H72⟩
        refine ⟨fun f15 w31 V_ rg_ hs15 hp15 hq15 H74 => ?_, ?_⟩
        ·
          obtain ⟨e22, q11⟩ := hp15 11 _ rfl rfl rfl
          have e23 : V_ 11 = .string (chS (BitVec.ofInt 8 (120 + (cv_ % 3)))) := q11
          have s11 : f15 50 = .string (chS (BitVec.ofInt 8 (120 + (cv_ % 3)))) := e22.trans e23
          obtain ⟨e24, q12⟩ := hp15 14 _ rfl rfl rfl
          have e25 : V_ 14 = .int .i64 (cn_ % 8) := q12
          have s12 : f15 53 = .int .i64 (cn_ % 8) := e24.trans e25
          have H75 : HI M w w31 ([imm (.slice a3 (h.take ((h.length : Int) - 1).toNat).length c3) (h.take ((h.length : Int) - 1).toNat), box bb0 #[.slice a0 (o11V h).length c0, .slice a1 (o11I h).length c1, .slice a2 (o11F h).length c2] 29, imm (.slice a2 (o11F h).length c2) (o11F h), imm (.slice a1 (o11I h).length c1) (o11I h), imm (.slice a0 (o11V h).length c0) (o11V h), imm (.slice a_h h.length c_h) h] ++ rg_) := (by have h_ : HI M w w31 ([imm (.slice a3 (h.take ((h.length : Int) - 1).toNat).length c3) (h.take ((h.length : Int) - 1).toNat), box bb0 #[.slice a0 (o11V h).length c0, .slice a1 (o11I h).length c1, .slice a2 (o11F h).length c2] 29, imm (.slice a2 (o11F h).length c2) (o11F h), imm (.slice a1 (o11I h).length c1) (o11I h), imm (.slice a0 (o11V h).length c0) (o11V h), imm (.slice a_h h.length c_h) h] ++ (rg_)) := H74; exact h_)
          refine bd (v := .agg #[.bool false, .string (chS (BitVec.ofInt 8 (120 + (cv_ % 3)))), .int .i64 (cn_ % 8)]) rfl (pbc s11 (pbc s12 pb0)) (fun _ => by kernel_rfl) ?_
          exact ⟨_, rfl, rfl, H75⟩
        refine ⟨fun f16 w32 V_ rg_ hs16 hp16 hq16 H77 => ?_, ?_⟩
        ·
          obtain ⟨e26, q13⟩ := hp16 15 _ rfl rfl rfl
          have e27 : V_ 15 = .agg #[.bool false, .string (chS (BitVec.ofInt 8 (120 + (cv_ % 3)))), .int .i64 (cn_ % 8)] := q13
          have s13 : f16 54 = .agg #[.bool false, .string (chS (BitVec.ofInt 8 (120 + (cv_ % 3)))), .int .i64 (cn_ % 8)] := e26.trans e27
          have H78 : HI M w w32 ([imm (.slice a3 (h.take ((h.length : Int) - 1).toNat).length c3) (h.take ((h.length : Int) - 1).toNat), box bb0 #[.slice a0 (o11V h).length c0, .slice a1 (o11I h).length c1, .slice a2 (o11F h).length c2] 29, imm (.slice a2 (o11F h).length c2) (o11F h), imm (.slice a1 (o11I h).length c1) (o11I h), imm (.slice a0 (o11V h).length c0) (o11V h), imm (.slice a_h h.length c_h) h] ++ rg_) := (by have h_ : HI M w w32 ([imm (.slice a3 (h.take ((h.length : Int) - 1).toNat).length c3) (h.take ((h.length : Int) - 1).toNat), box bb0 #[.slice a0 (o11V h).length c0, .slice a1 (o11I h).length c1, .slice a2 (o11F h).length c2] 29, imm (.slice a2 (o11F h).length c2) (o11F h), imm (.slice a1 (o11I h).length c1) (o11I h), imm (.slice a0 (o11V h).length c0) (o11V h), imm (.slice a_h h.length c_h) h] ++ (rg_)) := H77; exact h_)
          refine bs (xs := ([(false, chS (BitVec.ofInt 8 (120 + (cv_ % 3))), cn_ % 8)] : List (Bool × ByteArray × Int))) (cells := #[.bool false, .string (chS (BitVec.ofInt 8 (120 + (cv_ % 3)))), .int .i64 (cn_ % 8)]) (e := 50) H78 rfl (pbc s13 pb0) (fun _ => by kernel_rfl) ⟨[.bool false, .string (chS (BitVec.ofInt 8 (120 + (cv_ % 3)))), .int .i64 (cn_ % 8)], [], rfl, ⟨_, _, rfl, rfl, ⟨_, _, rfl, ⟨rfl, (by first | exact chS_size _ | assumption)⟩, ⟨rfl, (show I64 (cn_ % 8) from (by first | assumption | (unfold I64 at *; omega)))⟩⟩⟩, rfl⟩ rfl (by unfold maxLen; omega) ?_
          intro g9 w33 xt10 (H79 : HI M w w33 ([own w.heap.size 50 (.slice (some ⟨g9, 0, none⟩) 1 1) ([(false, chS (BitVec.ofInt 8 (120 + (cv_ % 3))), cn_ % 8)] : List (Bool × ByteArray × Int)), imm (.slice a3 (h.take ((h.length : Int) - 1).toNat).length c3) (h.take ((h.length : Int) - 1).toNat), box bb0 #[.slice a0 (o11V h).length c0, .slice a1 (o11I h).length c1, .slice a2 (o11F h).length c2] 29, imm (.slice a2 (o11F h).length c2) (o11F h), imm (.slice a1 (o11I h).length c1) (o11I h), imm (.slice a0 (o11V h).length c0) (o11V h), imm (.slice a_h h.length c_h) h] ++ rg_))
          have H80 := HI.pickT (l := [own w.heap.size 50 (.slice (some ⟨g9, 0, none⟩) 1 1) ([(false, chS (BitVec.ofInt 8 (120 + (cv_ % 3))), cn_ % 8)] : List (Bool × ByteArray × Int)), imm (.slice a3 (h.take ((h.length : Int) - 1).toNat).length c3) (h.take ((h.length : Int) - 1).toNat), box bb0 #[.slice a0 (o11V h).length c0, .slice a1 (o11I h).length c1, .slice a2 (o11F h).length c2] 29, imm (.slice a2 (o11F h).length c2) (o11F h), imm (.slice a1 (o11I h).length c1) (o11I h), imm (.slice a0 (o11V h).length c0) (o11V h), imm (.slice a_h h.length c_h) h]) (l' := [imm (.slice a3 (h.take ((h.length : Int) - 1).toNat).length c3) (h.take ((h.length : Int) - 1).toNat), box bb0 #[.slice a0 (o11V h).length c0, .slice a1 (o11I h).length c1, .slice a2 (o11F h).length c2] 29, imm (.slice a2 (o11F h).length c2) (o11F h), imm (.slice a1 (o11I h).length c1) (o11I h), imm (.slice a0 (o11V h).length c0) (o11V h), imm (.slice a_h h.length c_h) h, own w.heap.size 50 (.slice (some ⟨g9, 0, none⟩) 1 1) ([(false, chS (BitVec.ofInt 8 (120 + (cv_ % 3))), cn_ % 8)] : List (Bool × ByteArray × Int))]) (t := rg_) H79 [1, 2, 3, 4, 5, 6, 0] (by decide) rfl rfl
          exact ⟨_, rfl, ⟨g9, rfl⟩, H80⟩
        refine ⟨fun f17 w34 V_ rg_ hs17 hp17 hq17 H81 => ?_, ?_⟩
        ·
          obtain ⟨e28, q14⟩ := hp17 6 _ rfl rfl rfl
          obtain ⟨a12, c12, e29⟩ : ∃ (a12 : Option Addr) (c12 : Nat), V_ 6 = .slice a12 x0.length c12 := q14
          have s14 : f17 45 = .slice a12 x0.length c12 := e28.trans e29
          obtain ⟨e30, q15⟩ := hp17 16 _ rfl rfl rfl
          obtain ⟨g10, e31⟩ : ∃ (g10 : Nat), V_ 16 = .slice (some ⟨g10, 0, none⟩) 1 1 := q15
          have s15 : f17 55 = .slice (some ⟨g10, 0, none⟩) 1 1 := e30.trans e31
          have H82 : HI M w w34 ([imm (.slice a3 (h.take ((h.length : Int) - 1).toNat).length c3) (h.take ((h.length : Int) - 1).toNat), box bb0 #[.slice a0 (o11V h).length c0, .slice a1 (o11I h).length c1, .slice a2 (o11F h).length c2] 29, imm (.slice a2 (o11F h).length c2) (o11F h), imm (.slice a1 (o11I h).length c1) (o11I h), imm (.slice a0 (o11V h).length c0) (o11V h), imm (.slice a_h h.length c_h) h, own w.heap.size 50 (.slice a12 x0.length c12) x0, own w.heap.size 50 (.slice (some ⟨g10, 0, none⟩) 1 1) ([(false, chS (BitVec.ofInt 8 (120 + (cv_ % 3))), cn_ % 8)] : List (Bool × ByteArray × Int))] ++ rg_) := (by have h_ : HI M w w34 ([imm (.slice a3 (h.take ((h.length : Int) - 1).toNat).length c3) (h.take ((h.length : Int) - 1).toNat), box bb0 #[.slice a0 (o11V h).length c0, .slice a1 (o11I h).length c1, .slice a2 (o11F h).length c2] 29, imm (.slice a2 (o11F h).length c2) (o11F h), imm (.slice a1 (o11I h).length c1) (o11I h), imm (.slice a0 (o11V h).length c0) (o11V h), imm (.slice a_h h.length c_h) h] ++ ([own w.heap.size 50 (.slice (vA (V_ 6)) x0.length (vC (V_ 6))) x0] ++ ([own w.heap.size 50 (.slice (some ⟨((vA (V_ 16)).elim 0 (·.block)), 0, none⟩) 1 1) ([(false, chS (BitVec.ofInt 8 (120 + (cv_ % 3))), cn_ % 8)] : List (Bool × ByteArray × Int))] ++ (rg_)))) := H81; rw [e29] at h_; rw [e31] at h_; exact h_)
          refine ap H82 6 rfl rfl rfl rfl s14 s15 (own_src (H82.at_ 7 rfl)) un47 ty50 rfl (by first | omega | (simp; omega) | (have h_ := flat_len (h := h) (j := ((h.length : Int) - 1).toNat) (x := x0) (by rw [Int.toNat_natCast]; exact hx0); first | omega | (simp; omega))) (by first | omega | (simp; omega) | (have h_ := flat_len (h := h) (j := ((h.length : Int) - 1).toNat) (x := x0) (by rw [Int.toNat_natCast]; exact hx0); first | omega | (simp; omega))) ?_
          intro a13 c13 w35 (H83 : HI M w w35 ([imm (.slice a3 (h.take ((h.length : Int) - 1).toNat).length c3) (h.take ((h.length : Int) - 1).toNat), box bb0 #[.slice a0 (o11V h).length c0, .slice a1 (o11I h).length c1, .slice a2 (o11F h).length c2] 29, imm (.slice a2 (o11F h).length c2) (o11F h), imm (.slice a1 (o11I h).length c1) (o11I h), imm (.slice a0 (o11V h).length c0) (o11V h), imm (.slice a_h h.length c_h) h, own w.heap.size 50 (.slice a13 (x0 ++ ([(false, chS (BitVec.ofInt 8 (120 + (cv_ % 3))), cn_ % 8)] : List (Bool × ByteArray × Int))).length c13) (x0 ++ ([(false, chS (BitVec.ofInt 8 (120 + (cv_ % 3))), cn_ % 8)] : List (Bool × ByteArray × Int))), own w.heap.size 50 (.slice (some ⟨g10, 0, none⟩) 1 1) ([(false, chS (BitVec.ofInt 8 (120 + (cv_ % 3))), cn_ % 8)] : List (Bool × ByteArray × Int))] ++ rg_))
          have H84 := HI.pickT (l := [imm (.slice a3 (h.take ((h.length : Int) - 1).toNat).length c3) (h.take ((h.length : Int) - 1).toNat), box bb0 #[.slice a0 (o11V h).length c0, .slice a1 (o11I h).length c1, .slice a2 (o11F h).length c2] 29, imm (.slice a2 (o11F h).length c2) (o11F h), imm (.slice a1 (o11I h).length c1) (o11I h), imm (.slice a0 (o11V h).length c0) (o11V h), imm (.slice a_h h.length c_h) h, own w.heap.size 50 (.slice a13 (x0 ++ ([(false, chS (BitVec.ofInt 8 (120 + (cv_ % 3))), cn_ % 8)] : List (Bool × ByteArray × Int))).length c13) (x0 ++ ([(false, chS (BitVec.ofInt 8 (120 + (cv_ % 3))), cn_ % 8)] : List (Bool × ByteArray × Int))), own w.heap.size 50 (.slice (some ⟨g10, 0, none⟩) 1 1) ([(false, chS (BitVec.ofInt 8 (120 + (cv_ % 3))), cn_ % 8)] : List (Bool × ByteArray × Int))]) (l' := [imm (.slice a3 (h.take ((h.length : Int) - 1).toNat).length c3) (h.take ((h.length : Int) - 1).toNat), box bb0 #[.slice a0 (o11V h).length c0, .slice a1 (o11I h).length c1, .slice a2 (o11F h).length c2] 29, imm (.slice a2 (o11F h).length c2) (o11F h), imm (.slice a1 (o11I h).length c1) (o11I h), imm (.slice a0 (o11V h).length c0) (o11V h), imm (.slice a_h h.length c_h) h, own w.heap.size 50 (.slice (some ⟨g10, 0, none⟩) 1 1) ([(false, chS (BitVec.ofInt 8 (120 + (cv_ % 3))), cn_ % 8)] : List (Bool × ByteArray × Int)), own w.heap.size 50 (.slice a13 (x0 ++ ([(false, chS (BitVec.ofInt 8 (120 + (cv_ % 3))), cn_ % 8)] : List (Bool × ByteArray × Int))).length c13) (x0 ++ ([(false, chS (BitVec.ofInt 8 (120 + (cv_ % 3))), cn_ % 8)] : List (Bool × ByteArray × Int)))]) (t := rg_) H83 [0, 1, 2, 3, 4, 5, 7, 6] (by decide) rfl rfl
          exact ⟨_, rfl, ⟨a13, c13, rfl⟩, (by have h_ := H84; rw [show (g10 : Nat) = ((vA (V_ 16)).elim 0 (·.block)) from by rw [e31] <;> rfl] at h_; exact h_)⟩
        refine ⟨fun f18 w36 V_ rg_ hs18 hp18 hq18 H85 => ?_, ?_⟩
        ·
          obtain ⟨e32, q16⟩ := hp18 17 _ rfl rfl rfl
          obtain ⟨a14, c14, e33⟩ : ∃ (a14 : Option Addr) (c14 : Nat), V_ 17 = .slice a14 (x0 ++ ([(false, chS (BitVec.ofInt 8 (120 + (cv_ % 3))), cn_ % 8)] : List (Bool × ByteArray × Int))).length c14 := q16
          have s16 : f18 56 = .slice a14 (x0 ++ ([(false, chS (BitVec.ofInt 8 (120 + (cv_ % 3))), cn_ % 8)] : List (Bool × ByteArray × Int))).length c14 := e32.trans e33
          have H86 : HI M w w36 ([imm (.slice a3 (h.take ((h.length : Int) - 1).toNat).length c3) (h.take ((h.length : Int) - 1).toNat), box bb0 #[.slice a0 (o11V h).length c0, .slice a1 (o11I h).length c1, .slice a2 (o11F h).length c2] 29, imm (.slice a2 (o11F h).length c2) (o11F h), imm (.slice a1 (o11I h).length c1) (o11I h), imm (.slice a0 (o11V h).length c0) (o11V h), imm (.slice a_h h.length c_h) h, own w.heap.size 50 (.slice a14 (x0 ++ ([(false, chS (BitVec.ofInt 8 (120 + (cv_ % 3))), cn_ % 8)] : List (Bool × ByteArray × Int))).length c14) (x0 ++ ([(false, chS (BitVec.ofInt 8 (120 + (cv_ % 3))), cn_ % 8)] : List (Bool × ByteArray × Int)))] ++ rg_) := (by have h_ : HI M w w36 ([imm (.slice a3 (h.take ((h.length : Int) - 1).toNat).length c3) (h.take ((h.length : Int) - 1).toNat), box bb0 #[.slice a0 (o11V h).length c0, .slice a1 (o11I h).length c1, .slice a2 (o11F h).length c2] 29, imm (.slice a2 (o11F h).length c2) (o11F h), imm (.slice a1 (o11I h).length c1) (o11I h), imm (.slice a0 (o11V h).length c0) (o11V h), imm (.slice a_h h.length c_h) h] ++ ([own w.heap.size 50 (.slice (vA (V_ 17)) (x0 ++ ([(false, chS (BitVec.ofInt 8 (120 + (cv_ % 3))), cn_ % 8)] : List (Bool × ByteArray × Int))).length (vC (V_ 17))) (x0 ++ ([(false, chS (BitVec.ofInt 8 (120 + (cv_ % 3))), cn_ % 8)] : List (Bool × ByteArray × Int)))] ++ (rg_))) := H85; rw [e33] at h_; exact h_)
          have H87 := H86.freeze 6 rfl
          have H88 : HI M w w36 ([imm (.slice a3 (h.take ((h.length : Int) - 1).toNat).length c3) (h.take ((h.length : Int) - 1).toNat), box bb0 #[.slice a0 (o11V h).length c0, .slice a1 (o11I h).length c1, .slice a2 (o11F h).length c2] 29, imm (.slice a2 (o11F h).length c2) (o11F h), imm (.slice a1 (o11I h).length c1) (o11I h), imm (.slice a0 (o11V h).length c0) (o11V h), imm (.slice a_h h.length c_h) h, imm (.slice a14 (x0 ++ ([(false, chS (BitVec.ofInt 8 (120 + (cv_ % 3))), cn_ % 8)] : List (Bool × ByteArray × Int))).length c14) (x0 ++ ([(false, chS (BitVec.ofInt 8 (120 + (cv_ % 3))), cn_ % 8)] : List (Bool × ByteArray × Int)))] ++ rg_) := H87
          refine bs (xs := ([(x0 ++ ([(false, chS (BitVec.ofInt 8 (120 + (cv_ % 3))), cn_ % 8)] : List (Bool × ByteArray × Int)))] : List (List (Bool × ByteArray × Int)))) (cells := #[.slice a14 (x0 ++ ([(false, chS (BitVec.ofInt 8 (120 + (cv_ % 3))), cn_ % 8)] : List (Bool × ByteArray × Int))).length c14]) (e := 47) H88 rfl (pbc s16 pb0) (fun _ => by kernel_rfl) ⟨[.slice a14 (x0 ++ ([(false, chS (BitVec.ofInt 8 (120 + (cv_ % 3))), cn_ % 8)] : List (Bool × ByteArray × Int))).length c14], [], rfl, ⟨_, rfl, RV.list.1 (H88.rv 6 rfl)⟩, rfl⟩ rfl (by unfold maxLen; omega) ?_
          intro g11 w37 xt11 (H89 : HI M w w37 ([own w.heap.size 47 (.slice (some ⟨g11, 0, none⟩) 1 1) ([(x0 ++ ([(false, chS (BitVec.ofInt 8 (120 + (cv_ % 3))), cn_ % 8)] : List (Bool × ByteArray × Int)))] : List (List (Bool × ByteArray × Int))), imm (.slice a3 (h.take ((h.length : Int) - 1).toNat).length c3) (h.take ((h.length : Int) - 1).toNat), box bb0 #[.slice a0 (o11V h).length c0, .slice a1 (o11I h).length c1, .slice a2 (o11F h).length c2] 29, imm (.slice a2 (o11F h).length c2) (o11F h), imm (.slice a1 (o11I h).length c1) (o11I h), imm (.slice a0 (o11V h).length c0) (o11V h), imm (.slice a_h h.length c_h) h, imm (.slice a14 (x0 ++ ([(false, chS (BitVec.ofInt 8 (120 + (cv_ % 3))), cn_ % 8)] : List (Bool × ByteArray × Int))).length c14) (x0 ++ ([(false, chS (BitVec.ofInt 8 (120 + (cv_ % 3))), cn_ % 8)] : List (Bool × ByteArray × Int)))] ++ rg_))
          have H90 := HI.pickT (l := [own w.heap.size 47 (.slice (some ⟨g11, 0, none⟩) 1 1) ([(x0 ++ ([(false, chS (BitVec.ofInt 8 (120 + (cv_ % 3))), cn_ % 8)] : List (Bool × ByteArray × Int)))] : List (List (Bool × ByteArray × Int))), imm (.slice a3 (h.take ((h.length : Int) - 1).toNat).length c3) (h.take ((h.length : Int) - 1).toNat), box bb0 #[.slice a0 (o11V h).length c0, .slice a1 (o11I h).length c1, .slice a2 (o11F h).length c2] 29, imm (.slice a2 (o11F h).length c2) (o11F h), imm (.slice a1 (o11I h).length c1) (o11I h), imm (.slice a0 (o11V h).length c0) (o11V h), imm (.slice a_h h.length c_h) h, imm (.slice a14 (x0 ++ ([(false, chS (BitVec.ofInt 8 (120 + (cv_ % 3))), cn_ % 8)] : List (Bool × ByteArray × Int))).length c14) (x0 ++ ([(false, chS (BitVec.ofInt 8 (120 + (cv_ % 3))), cn_ % 8)] : List (Bool × ByteArray × Int)))]) (l' := [imm (.slice a3 (h.take ((h.length : Int) - 1).toNat).length c3) (h.take ((h.length : Int) - 1).toNat), box bb0 #[.slice a0 (o11V h).length c0, .slice a1 (o11I h).length c1, .slice a2 (o11F h).length c2] 29, imm (.slice a2 (o11F h).length c2) (o11F h), imm (.slice a1 (o11I h).length c1) (o11I h), imm (.slice a0 (o11V h).length c0) (o11V h), imm (.slice a_h h.length c_h) h, own w.heap.size 47 (.slice (some ⟨g11, 0, none⟩) 1 1) ([(x0 ++ ([(false, chS (BitVec.ofInt 8 (120 + (cv_ % 3))), cn_ % 8)] : List (Bool × ByteArray × Int)))] : List (List (Bool × ByteArray × Int)))]) (t := rg_) H89 [1, 2, 3, 4, 5, 6, 0] (by decide) rfl rfl
          exact ⟨_, rfl, ⟨g11, rfl⟩, H90⟩
        refine ⟨fun f19 w38 V_ rg_ hs19 hp19 hq19 H91 => ?_, ?_⟩
        ·
          obtain ⟨e34, q17⟩ := hp19 0 _ rfl rfl rfl
          have e35 : V_ 0 = .slice a4 (h.take ((h.length : Int) - 1).toNat).length c4 := q17
          have s17 : f19 39 = .slice a4 (h.take ((h.length : Int) - 1).toNat).length c4 := e34.trans e35
          obtain ⟨e36, q18⟩ := hp19 18 _ rfl rfl rfl
          obtain ⟨g12, e37⟩ : ∃ (g12 : Nat), V_ 18 = .slice (some ⟨g12, 0, none⟩) 1 1 := q18
          have s18 : f19 57 = .slice (some ⟨g12, 0, none⟩) 1 1 := e36.trans e37
          have H92 : HI M w w38 ([imm (.slice a3 (h.take ((h.length : Int) - 1).toNat).length c3) (h.take ((h.length : Int) - 1).toNat), box bb0 #[.slice a0 (o11V h).length c0, .slice a1 (o11I h).length c1, .slice a2 (o11F h).length c2] 29, imm (.slice a2 (o11F h).length c2) (o11F h), imm (.slice a1 (o11I h).length c1) (o11I h), imm (.slice a0 (o11V h).length c0) (o11V h), imm (.slice a_h h.length c_h) h, own w.heap.size 47 (.slice (some ⟨g12, 0, none⟩) 1 1) ([(x0 ++ ([(false, chS (BitVec.ofInt 8 (120 + (cv_ % 3))), cn_ % 8)] : List (Bool × ByteArray × Int)))] : List (List (Bool × ByteArray × Int))), own w.heap.size 47 (.slice a4 (h.take ((h.length : Int) - 1).toNat).length c4) (h.take ((h.length : Int) - 1).toNat)] ++ rg_) := (by have h_ : HI M w w38 ([imm (.slice a3 (h.take ((h.length : Int) - 1).toNat).length c3) (h.take ((h.length : Int) - 1).toNat), box bb0 #[.slice a0 (o11V h).length c0, .slice a1 (o11I h).length c1, .slice a2 (o11F h).length c2] 29, imm (.slice a2 (o11F h).length c2) (o11F h), imm (.slice a1 (o11I h).length c1) (o11I h), imm (.slice a0 (o11V h).length c0) (o11V h), imm (.slice a_h h.length c_h) h] ++ ([own w.heap.size 47 (.slice (some ⟨((vA (V_ 18)).elim 0 (·.block)), 0, none⟩) 1 1) ([(x0 ++ ([(false, chS (BitVec.ofInt 8 (120 + (cv_ % 3))), cn_ % 8)] : List (Bool × ByteArray × Int)))] : List (List (Bool × ByteArray × Int)))] ++ ([own w.heap.size 47 (.slice a4 (h.take ((h.length : Int) - 1).toNat).length c4) (h.take ((h.length : Int) - 1).toNat)] ++ (rg_)))) := H91; rw [e37] at h_; exact h_)
          refine ap H92 7 rfl rfl rfl rfl s17 s18 (own_src (H92.at_ 6 rfl)) un22 ty47 rfl (by first | omega | (simp; omega) | (have h_ := flat_len (h := h) (j := ((h.length : Int) - 1).toNat) (x := x0) (by rw [Int.toNat_natCast]; exact hx0); first | omega | (simp; omega))) (by first | omega | (simp; omega) | (have h_ := flat_len (h := h) (j := ((h.length : Int) - 1).toNat) (x := x0) (by rw [Int.toNat_natCast]; exact hx0); first | omega | (simp; omega))) ?_
          intro a15 c15 w39 (H93 : HI M w w39 ([imm (.slice a3 (h.take ((h.length : Int) - 1).toNat).length c3) (h.take ((h.length : Int) - 1).toNat), box bb0 #[.slice a0 (o11V h).length c0, .slice a1 (o11I h).length c1, .slice a2 (o11F h).length c2] 29, imm (.slice a2 (o11F h).length c2) (o11F h), imm (.slice a1 (o11I h).length c1) (o11I h), imm (.slice a0 (o11V h).length c0) (o11V h), imm (.slice a_h h.length c_h) h, own w.heap.size 47 (.slice (some ⟨g12, 0, none⟩) 1 1) ([(x0 ++ ([(false, chS (BitVec.ofInt 8 (120 + (cv_ % 3))), cn_ % 8)] : List (Bool × ByteArray × Int)))] : List (List (Bool × ByteArray × Int))), own w.heap.size 47 (.slice a15 ((h.take ((h.length : Int) - 1).toNat) ++ ([(x0 ++ ([(false, chS (BitVec.ofInt 8 (120 + (cv_ % 3))), cn_ % 8)] : List (Bool × ByteArray × Int)))] : List (List (Bool × ByteArray × Int)))).length c15) ((h.take ((h.length : Int) - 1).toNat) ++ ([(x0 ++ ([(false, chS (BitVec.ofInt 8 (120 + (cv_ % 3))), cn_ % 8)] : List (Bool × ByteArray × Int)))] : List (List (Bool × ByteArray × Int))))] ++ rg_))
          exact ⟨_, rfl, ⟨a15, c15, rfl⟩, (by have h_ := H93; rw [show (g12 : Nat) = ((vA (V_ 18)).elim 0 (·.block)) from by rw [e37] <;> rfl] at h_; exact h_)⟩
        refine ⟨fun f20 w40 V_ rg_ hs20 hp20 hq20 H95 => ?_, ?_⟩
        ·
          obtain ⟨e38, q19⟩ := hp20 19 _ rfl rfl rfl
          obtain ⟨a16, c16, e39⟩ : ∃ (a16 : Option Addr) (c16 : Nat), V_ 19 = .slice a16 ((h.take ((h.length : Int) - 1).toNat) ++ ([(x0 ++ ([(false, chS (BitVec.ofInt 8 (120 + (cv_ % 3))), cn_ % 8)] : List (Bool × ByteArray × Int)))] : List (List (Bool × ByteArray × Int)))).length c16 := q19
          have s19 : f20 58 = .slice a16 ((h.take ((h.length : Int) - 1).toNat) ++ ([(x0 ++ ([(false, chS (BitVec.ofInt 8 (120 + (cv_ % 3))), cn_ % 8)] : List (Bool × ByteArray × Int)))] : List (List (Bool × ByteArray × Int)))).length c16 := e38.trans e39
          have H96 : HI M w w40 ([imm (.slice a3 (h.take ((h.length : Int) - 1).toNat).length c3) (h.take ((h.length : Int) - 1).toNat), box bb0 #[.slice a0 (o11V h).length c0, .slice a1 (o11I h).length c1, .slice a2 (o11F h).length c2] 29, imm (.slice a2 (o11F h).length c2) (o11F h), imm (.slice a1 (o11I h).length c1) (o11I h), imm (.slice a0 (o11V h).length c0) (o11V h), imm (.slice a_h h.length c_h) h, own w.heap.size 47 (.slice a16 ((h.take ((h.length : Int) - 1).toNat) ++ ([(x0 ++ ([(false, chS (BitVec.ofInt 8 (120 + (cv_ % 3))), cn_ % 8)] : List (Bool × ByteArray × Int)))] : List (List (Bool × ByteArray × Int)))).length c16) ((h.take ((h.length : Int) - 1).toNat) ++ ([(x0 ++ ([(false, chS (BitVec.ofInt 8 (120 + (cv_ % 3))), cn_ % 8)] : List (Bool × ByteArray × Int)))] : List (List (Bool × ByteArray × Int))))] ++ rg_) := (by have h_ : HI M w w40 ([imm (.slice a3 (h.take ((h.length : Int) - 1).toNat).length c3) (h.take ((h.length : Int) - 1).toNat), box bb0 #[.slice a0 (o11V h).length c0, .slice a1 (o11I h).length c1, .slice a2 (o11F h).length c2] 29, imm (.slice a2 (o11F h).length c2) (o11F h), imm (.slice a1 (o11I h).length c1) (o11I h), imm (.slice a0 (o11V h).length c0) (o11V h), imm (.slice a_h h.length c_h) h] ++ ([own w.heap.size 47 (.slice (vA (V_ 19)) ((h.take ((h.length : Int) - 1).toNat) ++ ([(x0 ++ ([(false, chS (BitVec.ofInt 8 (120 + (cv_ % 3))), cn_ % 8)] : List (Bool × ByteArray × Int)))] : List (List (Bool × ByteArray × Int)))).length (vC (V_ 19))) ((h.take ((h.length : Int) - 1).toNat) ++ ([(x0 ++ ([(false, chS (BitVec.ofInt 8 (120 + (cv_ % 3))), cn_ % 8)] : List (Bool × ByteArray × Int)))] : List (List (Bool × ByteArray × Int))))] ++ (rg_))) := H95; rw [e39] at h_; exact h_)
          refine asg rfl s19 ?_
          exact ⟨_, rfl, ⟨a16, c16, rfl⟩, H96⟩
        exact trivial
      · intro f21 w41 V_ hs21 hp21 H98
        obtain ⟨e40, q20⟩ := hp21 20 _ rfl rfl
        obtain ⟨a17, c17, e41⟩ : ∃ (a17 : Option Addr) (c17 : Nat), V_ 20 = .slice a17 ((h.take ((h.length : Int) - 1).toNat) ++ ([(x0 ++ ([(false, chS (BitVec.ofInt 8 (120 + (cv_ % 3))), cn_ % 8)] : List (Bool × ByteArray × Int)))] : List (List (Bool × ByteArray × Int)))).length c17 := q20
        have s20 : f21 10 = .slice a17 ((h.take ((h.length : Int) - 1).toNat) ++ ([(x0 ++ ([(false, chS (BitVec.ofInt 8 (120 + (cv_ % 3))), cn_ % 8)] : List (Bool × ByteArray × Int)))] : List (List (Bool × ByteArray × Int)))).length c17 := e40.trans e41
        obtain ⟨e42, q21⟩ := hp21 4 _ rfl rfl
        obtain ⟨ad3, e43⟩ : ∃ (ad3 : Addr), V_ 4 = .pointer (some ad3) := q21
        have s21 : f21 43 = .pointer (some ad3) := e42.trans e43
        obtain ⟨e44, q22⟩ := hp21 5 _ rfl rfl
        obtain ⟨a18, c18, e45⟩ : ∃ (a18 : Option Addr) (c18 : Nat), V_ 5 = .slice a18 x0.length c18 := q22
        have s22 : f21 44 = .slice a18 x0.length c18 := e44.trans e45
        obtain ⟨e46, q23⟩ := hp21 10 _ rfl rfl
        obtain ⟨g13, e47⟩ : ∃ (g13 : Nat), V_ 10 = .slice (some ⟨g13, 0, none⟩) 1 1 := q23
        have s23 : f21 49 = .slice (some ⟨g13, 0, none⟩) 1 1 := e46.trans e47
        obtain ⟨e48, q24⟩ := hp21 16 _ rfl rfl
        obtain ⟨g14, e49⟩ : ∃ (g14 : Nat), V_ 16 = .slice (some ⟨g14, 0, none⟩) 1 1 := q24
        have s24 : f21 55 = .slice (some ⟨g14, 0, none⟩) 1 1 := e48.trans e49
        obtain ⟨e50, q25⟩ := hp21 18 _ rfl rfl
        obtain ⟨g15, e51⟩ : ∃ (g15 : Nat), V_ 18 = .slice (some ⟨g15, 0, none⟩) 1 1 := q25
        have s25 : f21 57 = .slice (some ⟨g15, 0, none⟩) 1 1 := e50.trans e51
        have s26 : f21 7 = .pointer (some ⟨bb0, 0, none⟩) := hs21 7 rfl
        have s27 : f21 8 = .bool (o11 h) := hs21 8 rfl
        have H99 : HI M w w41 [imm (.slice a3 (h.take ((h.length : Int) - 1).toNat).length c3) (h.take ((h.length : Int) - 1).toNat), box bb0 #[.slice a0 (o11V h).length c0, .slice a1 (o11I h).length c1, .slice a2 (o11F h).length c2] 29, imm (.slice a2 (o11F h).length c2) (o11F h), imm (.slice a1 (o11I h).length c1) (o11I h), imm (.slice a0 (o11V h).length c0) (o11V h), imm (.slice a_h h.length c_h) h, atI ad3 x0, imm (.slice a18 x0.length c18) x0, own w.heap.size 5 (.slice (some ⟨g13, 0, none⟩) 1 1) ([BitVec.ofInt 8 (120 + (cv_ % 3))] : List (BitVec 8)), own w.heap.size 50 (.slice (some ⟨g14, 0, none⟩) 1 1) ([(false, chS (BitVec.ofInt 8 (120 + (cv_ % 3))), cn_ % 8)] : List (Bool × ByteArray × Int)), own w.heap.size 47 (.slice (some ⟨g15, 0, none⟩) 1 1) ([(x0 ++ ([(false, chS (BitVec.ofInt 8 (120 + (cv_ % 3))), cn_ % 8)] : List (Bool × ByteArray × Int)))] : List (List (Bool × ByteArray × Int))), own w.heap.size 47 (.slice a17 ((h.take ((h.length : Int) - 1).toNat) ++ ([(x0 ++ ([(false, chS (BitVec.ofInt 8 (120 + (cv_ % 3))), cn_ % 8)] : List (Bool × ByteArray × Int)))] : List (List (Bool × ByteArray × Int)))).length c17) ((h.take ((h.length : Int) - 1).toNat) ++ ([(x0 ++ ([(false, chS (BitVec.ofInt 8 (120 + (cv_ % 3))), cn_ % 8)] : List (Bool × ByteArray × Int)))] : List (List (Bool × ByteArray × Int))))] := (by have h_ : HI M w w41 ([imm (.slice a3 (h.take ((h.length : Int) - 1).toNat).length c3) (h.take ((h.length : Int) - 1).toNat), box bb0 #[.slice a0 (o11V h).length c0, .slice a1 (o11I h).length c1, .slice a2 (o11F h).length c2] 29, imm (.slice a2 (o11F h).length c2) (o11F h), imm (.slice a1 (o11I h).length c1) (o11I h), imm (.slice a0 (o11V h).length c0) (o11V h), imm (.slice a_h h.length c_h) h] ++ ([] ++ ([] ++ ([] ++ ([atI (vP (V_ 4)) x0] ++ ([imm (.slice (vA (V_ 5)) x0.length (vC (V_ 5))) x0] ++ ([] ++ ([] ++ ([] ++ ([own w.heap.size 5 (.slice (some ⟨((vA (V_ 10)).elim 0 (·.block)), 0, none⟩) 1 1) ([BitVec.ofInt 8 (120 + (cv_ % 3))] : List (BitVec 8))] ++ ([] ++ ([] ++ ([] ++ ([] ++ ([] ++ ([own w.heap.size 50 (.slice (some ⟨((vA (V_ 16)).elim 0 (·.block)), 0, none⟩) 1 1) ([(false, chS (BitVec.ofInt 8 (120 + (cv_ % 3))), cn_ % 8)] : List (Bool × ByteArray × Int))] ++ ([own w.heap.size 47 (.slice (some ⟨((vA (V_ 18)).elim 0 (·.block)), 0, none⟩) 1 1) ([(x0 ++ ([(false, chS (BitVec.ofInt 8 (120 + (cv_ % 3))), cn_ % 8)] : List (Bool × ByteArray × Int)))] : List (List (Bool × ByteArray × Int)))] ++ ([own w.heap.size 47 (.slice (vA (V_ 20)) ((h.take ((h.length : Int) - 1).toNat) ++ ([(x0 ++ ([(false, chS (BitVec.ofInt 8 (120 + (cv_ % 3))), cn_ % 8)] : List (Bool × ByteArray × Int)))] : List (List (Bool × ByteArray × Int)))).length (vC (V_ 20))) ((h.take ((h.length : Int) - 1).toNat) ++ ([(x0 ++ ([(false, chS (BitVec.ofInt 8 (120 + (cv_ % 3))), cn_ % 8)] : List (Bool × ByteArray × Int)))] : List (List (Bool × ByteArray × Int))))] ++ ([]))))))))))))))))))) := H98; rw [e41] at h_; rw [e43] at h_; rw [e45] at h_; rw [e47] at h_; rw [e49] at h_; rw [e51] at h_; exact h_)
        refine nx (sq ?_)
        obtain ⟨g_, hg_⟩ : ∃ z, z = ((h.take ((h.length : Int) - 1).toNat) ++ ([(x0 ++ ([(false, chS (BitVec.ofInt 8 (120 + (cv_ % 3))), cn_ % 8)] : List (Bool × ByteArray × Int)))] : List (List (Bool × ByteArray × Int)))) := ⟨_, rfl⟩
        have s28 : f21 10 = .slice a17 g_.length c17 := by rw [hg_]; exact s20
        have H100 : HI M w w41 [imm (.slice a3 (h.take ((h.length : Int) - 1).toNat).length c3) (h.take ((h.length : Int) - 1).toNat), box bb0 #[.slice a0 (o11V h).length c0, .slice a1 (o11I h).length c1, .slice a2 (o11F h).length c2] 29, imm (.slice a2 (o11F h).length c2) (o11F h), imm (.slice a1 (o11I h).length c1) (o11I h), imm (.slice a0 (o11V h).length c0) (o11V h), imm (.slice a_h h.length c_h) h, atI ad3 x0, imm (.slice a18 x0.length c18) x0, own w.heap.size 5 (.slice (some ⟨g13, 0, none⟩) 1 1) ([BitVec.ofInt 8 (120 + (cv_ % 3))] : List (BitVec 8)), own w.heap.size 50 (.slice (some ⟨g14, 0, none⟩) 1 1) ([(false, chS (BitVec.ofInt 8 (120 + (cv_ % 3))), cn_ % 8)] : List (Bool × ByteArray × Int)), own w.heap.size 47 (.slice (some ⟨g15, 0, none⟩) 1 1) ([(x0 ++ ([(false, chS (BitVec.ofInt 8 (120 + (cv_ % 3))), cn_ % 8)] : List (Bool × ByteArray × Int)))] : List (List (Bool × ByteArray × Int))), own w.heap.size 47 (.slice a17 g_.length c17) g_] := (by have h_ := H99; rw [← hg_] at h_; exact h_)
        have hl_ : ((h.length : Int) - 1).toNat + 1 = h.length := by omega
        have hf_ : h.flatten.length ≤ 30 := by omega
        have hn_ : nameS (chS (BitVec.ofInt 8 (120 + cv_ % 3))) = true := nameS_ch (by omega)
        have hgm_ : g_ = (moreH h ((h.length : Int) - 1).toNat x0 (false, chS (BitVec.ofInt 8 (120 + cv_ % 3)), cn_ % 8)) := hg_
        have hmo_ : o11 g_ = o11 h := by rw [hgm_]; exact more_o11 (o := (false, chS (BitVec.ofInt 8 (120 + cv_ % 3)), cn_ % 8)) hl_ hx0 rfl hn_ hf_
        have hms_ : g_.flatten.length ≤ 4096 := by rw [hgm_]; exact more_small (o := (false, chS (BitVec.ofInt 8 (120 + cv_ % 3)), cn_ % 8)) hl_ hx0 rfl hn_ hf_
        have hmi_ : (o11I g_).length ≤ 4096 := by rw [hgm_]; exact more_items (o := (false, chS (BitVec.ofInt 8 (120 + cv_ % 3)), cn_ % 8)) hl_ hx0 rfl hn_ hf_
        refine rg (k (mv rfl s28 (k ?_)))
        have H101 := H100.freeze 11 rfl
        have cc2 := ref11_Of (h := g_) (w := w41) H101.mb (H101.rv 11 rfl) (by omega)
        refine ca go8 rfl (ec rfl e0) cc2 ?_
        rintro _ w42 ⟨a19, c19, a20, c20, a21, c21, rfl, xt12, rv6, rv7, rv8⟩
        have H102 := H101.ext xt12
        have H103 := H102.put (it := imm (.slice a19 (o11V g_).length c19) (o11V g_)) rfl rv6
        have H104 := H103.put (it := imm (.slice a20 (o11I g_).length c20) (o11I g_)) rfl (by rw [MS_cons_none rfl]; exact rv7)
        have H105 := H104.put (it := imm (.slice a21 (o11F g_).length c21) (o11F g_)) rfl (by rw [MS_cons_none rfl, MS_cons_none rfl]; exact rv8)
        refine k (mv (v := .tuple #[.agg #[.slice a19 (o11V g_).length c19, .slice a20 (o11I g_).length c20, .slice a21 (o11F g_).length c21], .bool (o11 g_)]) rfl rfl (k (xt rfl rfl rfl (k (xt rfl rfl rfl (k (al H105 ty29 ?_)))))))
        intro bb1 w43 xt13 (H106 : HI M w w43 [box bb1 #[.slice none 0 0, .slice none 0 0, .slice none 0 0] 29, imm (.slice a21 (o11F g_).length c21) (o11F g_), imm (.slice a20 (o11I g_).length c20) (o11I g_), imm (.slice a19 (o11V g_).length c19) (o11V g_), imm (.slice a3 (h.take ((h.length : Int) - 1).toNat).length c3) (h.take ((h.length : Int) - 1).toNat), box bb0 #[.slice a0 (o11V h).length c0, .slice a1 (o11I h).length c1, .slice a2 (o11F h).length c2] 29, imm (.slice a2 (o11F h).length c2) (o11F h), imm (.slice a1 (o11I h).length c1) (o11I h), imm (.slice a0 (o11V h).length c0) (o11V h), imm (.slice a_h h.length c_h) h, atI ad3 x0, imm (.slice a18 x0.length c18) x0, own w.heap.size 5 (.slice (some ⟨g13, 0, none⟩) 1 1) ([BitVec.ofInt 8 (120 + (cv_ % 3))] : List (BitVec 8)), own w.heap.size 50 (.slice (some ⟨g14, 0, none⟩) 1 1) ([(false, chS (BitVec.ofInt 8 (120 + (cv_ % 3))), cn_ % 8)] : List (Bool × ByteArray × Int)), own w.heap.size 47 (.slice (some ⟨g15, 0, none⟩) 1 1) ([(x0 ++ ([(false, chS (BitVec.ofInt 8 (120 + (cv_ % 3))), cn_ % 8)] : List (Bool × ByteArray × Int)))] : List (List (Bool × ByteArray × Int))), imm (.slice a17 g_.length c17) g_])
        refine k (stX H106 0 rfl ty29 rfl rfl rfl rfl rfl rfl rfl ?_)
        intro w44 (H107 : HI M w w44 [box bb1 #[.slice a19 (o11V g_).length c19, .slice a20 (o11I g_).length c20, .slice a21 (o11F g_).length c21] 29, imm (.slice a21 (o11F g_).length c21) (o11F g_), imm (.slice a20 (o11I g_).length c20) (o11I g_), imm (.slice a19 (o11V g_).length c19) (o11V g_), imm (.slice a3 (h.take ((h.length : Int) - 1).toNat).length c3) (h.take ((h.length : Int) - 1).toNat), box bb0 #[.slice a0 (o11V h).length c0, .slice a1 (o11I h).length c1, .slice a2 (o11F h).length c2] 29, imm (.slice a2 (o11F h).length c2) (o11F h), imm (.slice a1 (o11I h).length c1) (o11I h), imm (.slice a0 (o11V h).length c0) (o11V h), imm (.slice a_h h.length c_h) h, atI ad3 x0, imm (.slice a18 x0.length c18) x0, own w.heap.size 5 (.slice (some ⟨g13, 0, none⟩) 1 1) ([BitVec.ofInt 8 (120 + (cv_ % 3))] : List (BitVec 8)), own w.heap.size 50 (.slice (some ⟨g14, 0, none⟩) 1 1) ([(false, chS (BitVec.ofInt 8 (120 + (cv_ % 3))), cn_ % 8)] : List (Bool × ByteArray × Int)), own w.heap.size 47 (.slice (some ⟨g15, 0, none⟩) 1 1) ([(x0 ++ ([(false, chS (BitVec.ofInt 8 (120 + (cv_ % 3))), cn_ % 8)] : List (Bool × ByteArray × Int)))] : List (List (Bool × ByteArray × Int))), imm (.slice a17 g_.length c17) g_])
        refine k (asg (v := .bool (o11 g_)) rfl rfl (z (nx (sq (sq (rg (k (mv rfl s27 (k (not_ rfl rfl (k (mv (v := .bool (!(o11 h))) rfl rfl ?_))))))))))))
        rcases Bool.eq_false_or_eq_true (!(o11 h)) with b2 | b2
        · -- !(o11 h) is True
          refine k (gn rfl rfl rfl b2 (k (gn rfl rfl rfl b2 (k (pickT rfl rfl rfl rfl b2 rfl (z (nx (cdT rfl rfl rfl (sq (rg (k ?_)))))))))))
          have cc3 := awake13 (w := w44)
          refine ca go7 rfl e0 cc3 ?_
          rintro _ w45 ⟨rfl, xt14⟩
          have H108 := H107.ext xt14
          refine k (mv (v := .bool true) rfl rfl (k (gy rfl rfl rfl rfl (mv rfl s27 (k (gy rfl rfl rfl rfl (mv (v := .bool (o11 g_)) rfl rfl (k (gy rfl rfl rfl rfl (eqB rfl rfl rfl rfl un4 (k (pickT rfl rfl rfl rfl rfl rfl (k (asg (v := .bool ((o11 h) == (o11 g_))) rfl rfl (z (nx (rt (then_ret (r1 rfl rfl ?_)))))))))))))))))))
          have tr0 : ((o11 h) == (o11 g_)) = true := (by rw [beq_iff_eq]; exact hmo_.symm)
          have e0 : ((o11 h) == (o11 g_) : Bool) = true := by exact tr0
          have ev_ := cg1 (fun (x_0 : Bool) => (.bool x_0 : Value)) e0
          exact ⟨ev_, H108.below⟩
        · -- !(o11 h) is False
          refine k (gy rfl rfl rfl b2 (mv (v := .bool (o11 g_)) rfl rfl (k (gy rfl rfl rfl b2 (not_ rfl rfl (k (pickF rfl rfl rfl rfl b2 rfl (z (nx (cdF rfl rfl (by rw [show (o11 g_) = true from (hmo_.trans (notf b2))]; rfl) (sk (nx (sq ?_)))))))))))))
          refine drn [.v, .v, .v, .v, .n, .n, .s 4 1, .s 5 3] [fun (N : Nat → Prop) (v : Value) (w' : World) => v = .agg #[.slice a0 (o11V h).length c0, .slice a1 (o11I h).length c1, .slice a2 (o11F h).length c2], fun (N : Nat → Prop) (v : Value) (w' : World) => ∃ (a22 : Option Addr) (c22 : Nat), v = .agg #[.int .i64 ((o11I h).length : Int), .slice a22 (coR (o11I h) (o11F h)).length c22] ∧ RV (MN (MS M [box bb1 #[.slice a19 (o11V g_).length c19, .slice a20 (o11I g_).length c20, .slice a21 (o11F g_).length c21] 29, imm (.slice a21 (o11F g_).length c21) (o11F g_), imm (.slice a20 (o11I g_).length c20) (o11I g_), imm (.slice a19 (o11V g_).length c19) (o11V g_), imm (.slice a3 (h.take ((h.length : Int) - 1).toNat).length c3) (h.take ((h.length : Int) - 1).toNat), box bb0 #[.slice a0 (o11V h).length c0, .slice a1 (o11I h).length c1, .slice a2 (o11F h).length c2] 29, imm (.slice a2 (o11F h).length c2) (o11F h), imm (.slice a1 (o11I h).length c1) (o11I h), imm (.slice a0 (o11V h).length c0) (o11V h), imm (.slice a_h h.length c_h) h, atI ad3 x0, imm (.slice a18 x0.length c18) x0, own w.heap.size 5 (.slice (some ⟨g13, 0, none⟩) 1 1) ([BitVec.ofInt 8 (120 + (cv_ % 3))] : List (BitVec 8)), own w.heap.size 50 (.slice (some ⟨g14, 0, none⟩) 1 1) ([(false, chS (BitVec.ofInt 8 (120 + (cv_ % 3))), cn_ % 8)] : List (Bool × ByteArray × Int)), own w.heap.size 47 (.slice (some ⟨g15, 0, none⟩) 1 1) ([(x0 ++ ([(false, chS (BitVec.ofInt 8 (120 + (cv_ % 3))), cn_ % 8)] : List (Bool × ByteArray × Int)))] : List (List (Bool × ByteArray × Int))), imm (.slice a17 g_.length c17) g_]) N) w' (.slice a22 (coR (o11I h) (o11F h)).length c22) (coR (o11I h) (o11F h)), fun (N : Nat → Prop) (v : Value) (w' : World) => v = .agg #[.slice a19 (o11V g_).length c19, .slice a20 (o11I g_).length c20, .slice a21 (o11F g_).length c21], fun (N : Nat → Prop) (v : Value) (w' : World) => ∃ (a23 : Option Addr) (c23 : Nat), v = .agg #[.int .i64 ((o11I g_).length : Int), .slice a23 (coR (o11I g_) (o11F g_)).length c23] ∧ RV (MN (MS M [box bb1 #[.slice a19 (o11V g_).length c19, .slice a20 (o11I g_).length c20, .slice a21 (o11F g_).length c21] 29, imm (.slice a21 (o11F g_).length c21) (o11F g_), imm (.slice a20 (o11I g_).length c20) (o11I g_), imm (.slice a19 (o11V g_).length c19) (o11V g_), imm (.slice a3 (h.take ((h.length : Int) - 1).toNat).length c3) (h.take ((h.length : Int) - 1).toNat), box bb0 #[.slice a0 (o11V h).length c0, .slice a1 (o11I h).length c1, .slice a2 (o11F h).length c2] 29, imm (.slice a2 (o11F h).length c2) (o11F h), imm (.slice a1 (o11I h).length c1) (o11I h), imm (.slice a0 (o11V h).length c0) (o11V h), imm (.slice a_h h.length c_h) h, atI ad3 x0, imm (.slice a18 x0.length c18) x0, own w.heap.size 5 (.slice (some ⟨g13, 0, none⟩) 1 1) ([BitVec.ofInt 8 (120 + (cv_ % 3))] : List (BitVec 8)), own w.heap.size 50 (.slice (some ⟨g14, 0, none⟩) 1 1) ([(false, chS (BitVec.ofInt 8 (120 + (cv_ % 3))), cn_ % 8)] : List (Bool × ByteArray × Int)), own w.heap.size 47 (.slice (some ⟨g15, 0, none⟩) 1 1) ([(x0 ++ ([(false, chS (BitVec.ofInt 8 (120 + (cv_ % 3))), cn_ % 8)] : List (Bool × ByteArray × Int)))] : List (List (Bool × ByteArray × Int))), imm (.slice a17 g_.length c17) g_]) N) w' (.slice a23 (coR (o11I g_) (o11F g_)).length c23) (coR (o11I g_) (o11F g_)), fun _ _ _ => True, fun _ _ _ => True, fun _ _ _ => True, fun _ _ _ => True] [(#[], 0), (#[], 0), (#[], 0), (#[], 0), (#[.int .i64 0, .slice none 0 0], 35), (#[.int .i64 0, .slice none 0 0], 35), (#[], 0), (#[], 0)] rfl (by kernel_rfl) ?_ ?_
          ·
            refine ⟨⟨fun _ _ _ _ _ _ h => h, rfl, fun f22 w49 N0 hf0 xt18 hN0 hp22 => ?_⟩, ?_⟩
            ·
              refine ldX (H107.ext xt18) 5 rfl ty29 rfl ((hf0 7 rfl).trans s26) (by decide) rfl ?_
              exact ⟨_, rfl, Ext.refl _, rfl⟩
            refine ⟨⟨by rintro _ _ _ _ _ k_ ⟨a22, c22, e_, rv11⟩; exact ⟨a22, c22, e_, rvn_keep rv11 k_⟩, rfl, fun f23 w50 N1 hf1 xt19 hN1 hp23 => ?_⟩, ?_⟩
            ·
              have hq21 := hp23 0 rfl ⟨_, rfl, rfl⟩
              have s29 : f23 76 = .agg #[.slice a0 (o11V h).length c0, .slice a1 (o11I h).length c1, .slice a2 (o11F h).length c2] := hq21
              have cc5 := cause_Co (fi := (o11I h)) (fo := (o11F h)) (a_fv := a0) (n_fv := (o11V h).length) (c_fv := c0) (w := w50) (mn_below H107.mb xt19 hN1) (rvn_old (H107.rv 7 rfl) xt19 hN1) (rvn_old (H107.rv 6 rfl) xt19 hN1) (by exact o11_ord _) (by omega) (by exact o11F_len _) (by exact o11F_lt _)
              refine ca go14 rfl (ec s29 e0) cc5 ?_
              rintro _ w51 ⟨a24, c24, rfl, xt20, rv13⟩
              exact ⟨_, rfl, xt20, ⟨a24, c24, rfl, rv13⟩⟩
            refine ⟨⟨fun _ _ _ _ _ _ h => h, rfl, fun f24 w52 N2 hf2 xt21 hN2 hp24 => ?_⟩, ?_⟩
            ·
              refine ldX (H107.ext xt21) 0 rfl ty29 rfl (hf2 11 rfl) (by decide) rfl ?_
              exact ⟨_, rfl, Ext.refl _, rfl⟩
            refine ⟨⟨by rintro _ _ _ _ _ k_ ⟨a23, c23, e_, rv12⟩; exact ⟨a23, c23, e_, rvn_keep rv12 k_⟩, rfl, fun f25 w53 N3 hf3 xt22 hN3 hp25 => ?_⟩, ?_⟩
            ·
              have hq22 := hp25 2 rfl ⟨_, rfl, rfl⟩
              have s30 : f25 78 = .agg #[.slice a19 (o11V g_).length c19, .slice a20 (o11I g_).length c20, .slice a21 (o11F g_).length c21] := hq22
              have cc6 := cause_Co (fi := (o11I g_)) (fo := (o11F g_)) (a_fv := a19) (n_fv := (o11V g_).length) (c_fv := c19) (w := w53) (mn_below H107.mb xt22 hN3) (rvn_old (H107.rv 2 rfl) xt22 hN3) (rvn_old (H107.rv 1 rfl) xt22 hN3) (by exact o11_ord _) (by omega) (by exact o11F_len _) (by exact o11F_lt _)
              refine ca go14 rfl (ec s30 e0) cc6 ?_
              rintro _ w54 ⟨a25, c25, rfl, xt23, rv14⟩
              exact ⟨_, rfl, xt23, ⟨a25, c25, rfl, rv14⟩⟩
            refine ⟨⟨fun _ _ _ _ _ _ h => h, rfl, fun _ _ _ => trivial, fun f26 w55 N4 hf4 xt24 hN4 hp26 => ?_⟩, ?_⟩
            ·
              refine alS ty35 ?_
              exact ⟨rfl, rfl⟩
            refine ⟨⟨fun _ _ _ _ _ _ h => h, rfl, fun _ _ _ => trivial, fun f27 w56 N5 hf5 xt25 hN5 hp27 => ?_⟩, ?_⟩
            ·
              refine alS ty35 ?_
              exact ⟨rfl, rfl⟩
            refine ⟨⟨fun _ _ _ _ _ _ h => h, rfl, rfl, rfl, ⟨_, rfl, rfl⟩, ⟨_, rfl, rfl⟩, by decide, trivial, by rintro _ _ _ ⟨a22, c22, e_, rv11⟩; subst e_; rfl, fun f28 w57 N_ bb4 cur0 xt26 s31 hb0 hc0 hv0 => ?_⟩, ?_⟩
            ·
              obtain ⟨a22, c22, e_, rv11⟩ := hv0
              exact stS ty35 rfl rfl s31 rfl hb0 ((congrArg (fun v => v.cells.size) e_).trans rfl) hc0 ((congrArg (fun v => v.cells.toList.all Value.oneCell') e_).trans rfl)
            refine ⟨⟨fun _ _ _ _ _ _ h => h, rfl, rfl, rfl, ⟨_, rfl, rfl⟩, ⟨_, rfl, rfl⟩, by decide, trivial, by rintro _ _ _ ⟨a23, c23, e_, rv12⟩; subst e_; rfl, fun f29 w58 N_ bb5 cur1 xt27 s32 hb1 hc1 hv1 => ?_⟩, ?_⟩
            ·
              obtain ⟨a23, c23, e_, rv12⟩ := hv1
              exact stS ty35 rfl rfl s32 rfl hb1 ((congrArg (fun v => v.cells.size) e_).trans rfl) hc1 ((congrArg (fun v => v.cells.toList.all Value.oneCell') e_).trans rfl)
            exact trivial
          · intro f30 w59 I0 hf6 xt28 hp28 hN6 hd0
            obtain ⟨a26, c26, s33, rv15⟩ := (hp28 1 _ rfl rfl)
            obtain ⟨a27, c27, s34, rv16⟩ := (hp28 3 _ rfl rfl)
            obtain ⟨s35, hg0, -, cur2, hc2, hk0⟩ := hN6 4 (by decide) trivial
            have hq23 : cur2 = #[.int .i64 ((o11I h).length : Int), .slice a26 (coR (o11I h) (o11F h)).length c26] := (hk0.2.1 6 1 rfl rfl).trans (congrArg Value.cells s33)
            rw [hq23] at hc2
            have hz4_ := hg0
            obtain ⟨s36, hg1, -, cur3, hc3, hk1⟩ := hN6 5 (by decide) trivial
            have hq24 : cur3 = #[.int .i64 ((o11I g_).length : Int), .slice a27 (coR (o11I g_) (o11F g_)).length c27] := (hk1.2.1 7 3 rfl rfl).trans (congrArg Value.cells s34)
            rw [hq24] at hc3
            have hz5_ := hg1
            have hd4_5 := hd0 4 5 (by decide) (by decide) (by decide) trivial trivial
            have H110 : HI M w w59 [box (I0 4) #[.int .i64 ((o11I h).length : Int), .slice a26 (coR (o11I h) (o11F h)).length c26] 35, box (I0 5) #[.int .i64 ((o11I g_).length : Int), .slice a27 (coR (o11I g_) (o11F g_)).length c27] 35, box bb1 #[.slice a19 (o11V g_).length c19, .slice a20 (o11I g_).length c20, .slice a21 (o11F g_).length c21] 29, imm (.slice a21 (o11F g_).length c21) (o11F g_), imm (.slice a20 (o11I g_).length c20) (o11I g_), imm (.slice a19 (o11V g_).length c19) (o11V g_), imm (.slice a3 (h.take ((h.length : Int) - 1).toNat).length c3) (h.take ((h.length : Int) - 1).toNat), box bb0 #[.slice a0 (o11V h).length c0, .slice a1 (o11I h).length c1, .slice a2 (o11F h).length c2] 29, imm (.slice a2 (o11F h).length c2) (o11F h), imm (.slice a1 (o11I h).length c1) (o11I h), imm (.slice a0 (o11V h).length c0) (o11V h), imm (.slice a_h h.length c_h) h, atI ad3 x0, imm (.slice a18 x0.length c18) x0, own w.heap.size 5 (.slice (some ⟨g13, 0, none⟩) 1 1) ([BitVec.ofInt 8 (120 + (cv_ % 3))] : List (BitVec 8)), own w.heap.size 50 (.slice (some ⟨g14, 0, none⟩) 1 1) ([(false, chS (BitVec.ofInt 8 (120 + (cv_ % 3))), cn_ % 8)] : List (Bool × ByteArray × Int)), own w.heap.size 47 (.slice (some ⟨g15, 0, none⟩) 1 1) ([(x0 ++ ([(false, chS (BitVec.ofInt 8 (120 + (cv_ % 3))), cn_ % 8)] : List (Bool × ByteArray × Int)))] : List (List (Bool × ByteArray × Int))), imm (.slice a17 g_.length c17) g_] := H107.lays xt28 [((I0 4), #[.int .i64 ((o11I h).length : Int), .slice a26 (coR (o11I h) (o11F h)).length c26], 35), ((I0 5), #[.int .i64 ((o11I g_).length : Int), .slice a27 (coR (o11I g_) (o11F g_)).length c27], 35)] (by intro q_ hq_; simp only [List.mem_cons, List.not_mem_nil, or_false] at hq_; rcases hq_ with rfl | rfl <;> first | exact ⟨hz4_, hc2⟩ | exact ⟨hz5_, hc3⟩) (by simp only [List.map_cons, List.map_nil, List.nodup_cons, List.mem_cons, List.not_mem_nil, or_false, List.nodup_nil, and_true, not_or, not_false_eq_true, true_and] <;> omega)
            have H111 := H110.put (it := imm (.slice a26 (coR (o11I h) (o11F h)).length c26) (coR (o11I h) (o11F h))) rfl (rvn_out [((I0 4), #[.int .i64 ((o11I h).length : Int), .slice a26 (coR (o11I h) (o11F h)).length c26], 35), ((I0 5), #[.int .i64 ((o11I g_).length : Int), .slice a27 (coR (o11I g_) (o11F g_)).length c27], 35)] rv15 (by intro q_ hq_; simp only [List.mem_cons, List.not_mem_nil, or_false] at hq_; rcases hq_ with rfl | rfl <;> first | exact ⟨4, by decide, rfl, trivial, rfl⟩ | exact ⟨5, by decide, rfl, trivial, rfl⟩))
            have H112 := H111.put (it := imm (.slice a27 (coR (o11I g_) (o11F g_)).length c27) (coR (o11I g_) (o11F g_))) rfl (by rw [MS_cons_none rfl]; exact (rvn_out [((I0 4), #[.int .i64 ((o11I h).length : Int), .slice a26 (coR (o11I h) (o11F h)).length c26], 35), ((I0 5), #[.int .i64 ((o11I g_).length : Int), .slice a27 (coR (o11I g_) (o11F g_)).length c27], 35)] rv16 (by intro q_ hq_; simp only [List.mem_cons, List.not_mem_nil, or_false] at hq_; rcases hq_ with rfl | rfl <;> first | exact ⟨4, by decide, rfl, trivial, rfl⟩ | exact ⟨5, by decide, rfl, trivial, rfl⟩)))
            refine nx (sq (sq (rg (k (asg (v := .int .i64 0) rfl rfl (z (nx (bk ?_))))))))
            refine lp (fun m f w' => ∃ (i : Nat), m = (o11I h).length - i ∧ f 13 = .pointer (some ⟨(I0 4), 0, none⟩) ∧ f 14 = .pointer (some ⟨(I0 5), 0, none⟩) ∧ f 15 = .int .i64 (i : Int) ∧  HI M w w' [imm (.slice a27 (coR (o11I g_) (o11F g_)).length c27) (coR (o11I g_) (o11F g_)), imm (.slice a26 (coR (o11I h) (o11F h)).length c26) (coR (o11I h) (o11F h)), box (I0 4) #[.int .i64 ((o11I h).length : Int), .slice a26 (coR (o11I h) (o11F h)).length c26] 35, box (I0 5) #[.int .i64 ((o11I g_).length : Int), .slice a27 (coR (o11I g_) (o11F g_)).length c27] 35, box bb1 #[.slice a19 (o11V g_).length c19, .slice a20 (o11I g_).length c20, .slice a21 (o11F g_).length c21] 29, imm (.slice a21 (o11F g_).length c21) (o11F g_), imm (.slice a20 (o11I g_).length c20) (o11I g_), imm (.slice a19 (o11V g_).length c19) (o11V g_), imm (.slice a3 (h.take ((h.length : Int) - 1).toNat).length c3) (h.take ((h.length : Int) - 1).toNat), box bb0 #[.slice a0 (o11V h).length c0, .slice a1 (o11I h).length c1, .slice a2 (o11F h).length c2] 29, imm (.slice a2 (o11F h).length c2) (o11F h), imm (.slice a1 (o11I h).length c1) (o11I h), imm (.slice a0 (o11V h).length c0) (o11V h), imm (.slice a_h h.length c_h) h, atI ad3 x0, imm (.slice a18 x0.length c18) x0, own w.heap.size 5 (.slice (some ⟨g13, 0, none⟩) 1 1) ([BitVec.ofInt 8 (120 + (cv_ % 3))] : List (BitVec 8)), own w.heap.size 50 (.slice (some ⟨g14, 0, none⟩) 1 1) ([(false, chS (BitVec.ofInt 8 (120 + (cv_ % 3))), cn_ % 8)] : List (Bool × ByteArray × Int)), own w.heap.size 47 (.slice (some ⟨g15, 0, none⟩) 1 1) ([(x0 ++ ([(false, chS (BitVec.ofInt 8 (120 + (cv_ % 3))), cn_ % 8)] : List (Bool × ByteArray × Int)))] : List (List (Bool × ByteArray × Int))), imm (.slice a17 g_.length c17) g_] ∧ (i ≤ (o11I h).length)) _ ⟨0, rfl, s35, s36, (ieq rfl (by first | rfl | omega | simp)), H112, (by first | assumption | omega | simp | (simp; omega))⟩ ?_
            rintro _ f31 w60 ⟨i, rfl, s37, s38, s39, H113, hi_⟩
            refine sq (sq (rg (k (mv rfl s39 (k (fa fl35_0 rfl s37 (k (ldX H113 2 rfl ty3 rfl rfl (by decide) rfl (k (lss rfl rfl rfl rfl (z (nx ?_))))))))))))
            refine cd (b := decide ((i : Int) < ((o11I h).length : Int))) rfl rfl (fun b3 => ?_) (fun b3 => ?_)
            ·
              have p3 := of_decide_eq_true b3
              refine sk (nx (sq (bk (sq (sq (rg (k (asg (v := .int .i64 0) rfl rfl (z (nx (bk ?_)))))))))))
              refine lp (fun m f w' => ∃ (j : Nat), m = (o11I h).length - j ∧ f 13 = .pointer (some ⟨(I0 4), 0, none⟩) ∧ f 14 = .pointer (some ⟨(I0 5), 0, none⟩) ∧ f 15 = .int .i64 (i : Int) ∧ f 16 = .int .i64 (j : Int) ∧  HI M w w' [imm (.slice a27 (coR (o11I g_) (o11F g_)).length c27) (coR (o11I g_) (o11F g_)), imm (.slice a26 (coR (o11I h) (o11F h)).length c26) (coR (o11I h) (o11F h)), box (I0 4) #[.int .i64 ((o11I h).length : Int), .slice a26 (coR (o11I h) (o11F h)).length c26] 35, box (I0 5) #[.int .i64 ((o11I g_).length : Int), .slice a27 (coR (o11I g_) (o11F g_)).length c27] 35, box bb1 #[.slice a19 (o11V g_).length c19, .slice a20 (o11I g_).length c20, .slice a21 (o11F g_).length c21] 29, imm (.slice a21 (o11F g_).length c21) (o11F g_), imm (.slice a20 (o11I g_).length c20) (o11I g_), imm (.slice a19 (o11V g_).length c19) (o11V g_), imm (.slice a3 (h.take ((h.length : Int) - 1).toNat).length c3) (h.take ((h.length : Int) - 1).toNat), box bb0 #[.slice a0 (o11V h).length c0, .slice a1 (o11I h).length c1, .slice a2 (o11F h).length c2] 29, imm (.slice a2 (o11F h).length c2) (o11F h), imm (.slice a1 (o11I h).length c1) (o11I h), imm (.slice a0 (o11V h).length c0) (o11V h), imm (.slice a_h h.length c_h) h, atI ad3 x0, imm (.slice a18 x0.length c18) x0, own w.heap.size 5 (.slice (some ⟨g13, 0, none⟩) 1 1) ([BitVec.ofInt 8 (120 + (cv_ % 3))] : List (BitVec 8)), own w.heap.size 50 (.slice (some ⟨g14, 0, none⟩) 1 1) ([(false, chS (BitVec.ofInt 8 (120 + (cv_ % 3))), cn_ % 8)] : List (Bool × ByteArray × Int)), own w.heap.size 47 (.slice (some ⟨g15, 0, none⟩) 1 1) ([(x0 ++ ([(false, chS (BitVec.ofInt 8 (120 + (cv_ % 3))), cn_ % 8)] : List (Bool × ByteArray × Int)))] : List (List (Bool × ByteArray × Int))), imm (.slice a17 g_.length c17) g_] ∧ (j ≤ (o11I h).length)) _ ⟨0, rfl, s37, s38, s39, (ieq rfl (by first | rfl | omega | simp)), H113, (by first | assumption | omega | simp | (simp; omega))⟩ ?_
              rintro _ f32 w61 ⟨j, rfl, s40, s41, s42, s43, H114, hj_⟩
              refine sq (sq (rg (k (mv rfl s43 (k (fa fl35_0 rfl s40 (k (ldX H114 2 rfl ty3 rfl rfl (by decide) rfl (k (lss rfl rfl rfl rfl (z (nx ?_))))))))))))
              refine cd (b := decide ((j : Int) < ((o11I h).length : Int))) rfl rfl (fun b4 => ?_) (fun b4 => ?_)
              ·
                have p4 := of_decide_eq_true b4
                refine sk (nx (sq (bk (sq ?_))))
                refine dr 7 [fun (v : Value) (w' : World) => v = .agg #[.int .i64 ((o11I h).length : Int), .slice a26 (coR (o11I h) (o11F h)).length c26], fun (v : Value) (w' : World) => v = .int .i64 (i : Int), fun (v : Value) (w' : World) => v = .int .i64 (j : Int), fun (v : Value) (w' : World) => v = .bool (hasM ((o11I h).length : Int) (coR (o11I h) (o11F h)) (i : Int) (j : Int)), fun (v : Value) (w' : World) => v = .agg #[.int .i64 ((o11I g_).length : Int), .slice a27 (coR (o11I g_) (o11F g_)).length c27], fun (v : Value) (w' : World) => v = .int .i64 (i : Int), fun (v : Value) (w' : World) => v = .int .i64 (j : Int)] rfl (by kernel_rfl) ?_ ?_
                ·
                  refine ⟨fun _ => ⟨fun f33 w63 hf7 xt30 hp29 => ?_, fun _ _ _ _ h => h⟩, ?_⟩
                  ·
                    have H116 := H114.ext xt30
                    refine ldX H116 2 rfl ty35 rfl ((hf7 13 rfl).trans s40) (by decide) rfl ?_
                    exact ⟨_, rfl, Ext.refl _, rfl⟩
                  refine ⟨fun _ => ⟨fun f34 w64 hf8 xt31 hp30 => ?_, fun _ _ _ _ h => h⟩, ?_⟩
                  ·
                    have H117 := H114.ext xt31
                    refine mv rfl ((hf8 15 rfl).trans s42) ?_
                    exact ⟨_, rfl, Ext.refl _, rfl⟩
                  refine ⟨fun _ => ⟨fun f35 w65 hf9 xt32 hp31 => ?_, fun _ _ _ _ h => h⟩, ?_⟩
                  ·
                    have H118 := H114.ext xt32
                    refine mv rfl ((hf9 16 rfl).trans s43) ?_
                    exact ⟨_, rfl, Ext.refl _, rfl⟩
                  refine ⟨fun _ => ⟨fun f36 w66 hf10 xt33 hp32 => ?_, fun _ _ _ _ h => h⟩, ?_⟩
                  ·
                    have H119 := H114.ext xt33
                    have s44 : f36 92 = .agg #[.int .i64 ((o11I h).length : Int), .slice a26 (coR (o11I h) (o11F h)).length c26] := hp32 0 rfl rfl
                    have s45 : f36 93 = .int .i64 (i : Int) := hp32 1 rfl rfl
                    have s46 : f36 94 = .int .i64 (j : Int) := hp32 2 rfl rfl
                    have cc8 := ref03_Has (mn := ((o11I h).length : Int)) (mr := (coR (o11I h) (o11F h))) (i := (i : Int)) (j := (j : Int)) (w := w66) H119.mb (by first | assumption | (unfold I64 at *; omega)) (H119.rv 1 rfl) (by first | assumption | (unfold I64 at *; omega)) (by first | assumption | (unfold I64 at *; omega)) (by first | exact (right_sq (co_right _ (by omega))).1 | exact (right_sq (co_right _ hmi_)).1) (by first | exact (right_sq (co_right _ (by omega))).2.1 | exact (right_sq (co_right _ hmi_)).2.1) (by omega)
                    refine ca go20 rfl (ec s44 (ec s45 (ec s46 e0))) cc8 ?_
                    rintro _ w67 ⟨rfl, xt34⟩
                    have H120 := H119.ext xt34
                    exact ⟨_, rfl, xt34, rfl⟩
                  refine ⟨fun _ => ⟨fun f37 w68 hf11 xt35 hp33 => ?_, fun _ _ _ _ h => h⟩, ?_⟩
                  ·
                    have H121 := H114.ext xt35
                    refine ldX H121 3 rfl ty35 rfl ((hf11 14 rfl).trans s41) (by decide) rfl ?_
                    exact ⟨_, rfl, Ext.refl _, rfl⟩
                  refine ⟨fun _ => ⟨fun f38 w69 hf12 xt36 hp34 => ?_, fun _ _ _ _ h => h⟩, ?_⟩
                  ·
                    have H122 := H114.ext xt36
                    refine mv rfl ((hf12 15 rfl).trans s42) ?_
                    exact ⟨_, rfl, Ext.refl _, rfl⟩
                  refine ⟨fun _ => ⟨fun f39 w70 hf13 xt37 hp35 => ?_, fun _ _ _ _ h => h⟩, ?_⟩
                  ·
                    have H123 := H114.ext xt37
                    refine mv rfl ((hf13 16 rfl).trans s43) ?_
                    exact ⟨_, rfl, Ext.refl _, rfl⟩
                  exact DSteps.rest rfl _
                · intro f40 w71 hf14 xt38 hp36
                  have H124 := H114.ext xt38
                  have s47 : f40 13 = .pointer (some ⟨(I0 4), 0, none⟩) := (hf14 13 rfl).trans s40
                  have s48 : f40 14 = .pointer (some ⟨(I0 5), 0, none⟩) := (hf14 14 rfl).trans s41
                  have s49 : f40 15 = .int .i64 (i : Int) := (hf14 15 rfl).trans s42
                  have s50 : f40 16 = .int .i64 (j : Int) := (hf14 16 rfl).trans s43
                  have s51 : f40 95 = .bool (hasM ((o11I h).length : Int) (coR (o11I h) (o11F h)) (i : Int) (j : Int)) := hp36 3 rfl
                  have s52 : f40 96 = .agg #[.int .i64 ((o11I g_).length : Int), .slice a27 (coR (o11I g_) (o11F g_)).length c27] := hp36 4 rfl
                  have s53 : f40 97 = .int .i64 (i : Int) := hp36 5 rfl
                  have s54 : f40 98 = .int .i64 (j : Int) := hp36 6 rfl
                  refine k ?_
                  have cc9 := ref03_Has (mn := ((o11I g_).length : Int)) (mr := (coR (o11I g_) (o11F g_))) (i := (i : Int)) (j := (j : Int)) (w := w71) H124.mb (by first | assumption | (unfold I64 at *; omega)) (H124.rv 0 rfl) (by first | assumption | (unfold I64 at *; omega)) (by first | assumption | (unfold I64 at *; omega)) (by first | exact (right_sq (co_right _ (by omega))).1 | exact (right_sq (co_right _ hmi_)).1) (by first | exact (right_sq (co_right _ (by omega))).2.1 | exact (right_sq (co_right _ hmi_)).2.1) (by omega)
                  refine ca go20 rfl (ec s52 (ec s53 (ec s54 e0))) cc9 ?_
                  rintro _ w72 ⟨rfl, xt39⟩
                  have H125 := H124.ext xt39
                  refine k (neB rfl rfl s51 rfl un4 (z (nx ?_)))
                  have tr0 : ((hasM ((o11I h).length : Int) (coR (o11I h) (o11F h)) (i : Int) (j : Int)) == (hasM ((o11I g_).length : Int) (coR (o11I g_) (o11F g_)) (i : Int) (j : Int))) = true := (by rw [beq_iff_eq, hgm_]; exact (mo_has (o := (false, chS (BitVec.ofInt 8 (120 + cv_ % 3)), cn_ % 8)) hl_ hx0 rfl hn_ hf_ (notf b2) (i := i) (j := j) (by omega) (by omega)).symm)
                  refine cdF rfl rfl (by rw [show ((hasM ((o11I h).length : Int) (coR (o11I h) (o11F h)) (i : Int) (j : Int)) == (hasM ((o11I g_).length : Int) (coR (o11I g_) (o11F g_)) (i : Int) (j : Int))) = true from tr0]; rfl) (sk (inb_normal (nx (rg (k (mv rfl s50 (k (add rfl rfl rfl rfl (by first | assumption | (unfold I64 at *; omega)) (k (asg (v := .int .i64 ((j : Int) + 1)) rfl rfl (z ?_)))))))))))
                  refine loopN _ ?_ ⟨(j + 1), rfl, s47, s48, s49, (ieq rfl (by first | rfl | omega | (push_cast; omega))), H125, (by first | assumption | omega | simp | (simp; omega))⟩
                  omega
              ·
                have p4 := of_decide_eq_false b4
                refine ex (then_exit (loop_exit (inb_here (nx (sq (rg (k (ldX H114 3 rfl ty35 rfl s41 (by decide) rfl (k (fa fl35_0 rfl s40 (k (ldX H114 2 rfl ty3 rfl rfl (by decide) rfl (k (mv rfl s42 (k ?_)))))))))))))))
                have cc7 := ref03_Has (mn := ((o11I g_).length : Int)) (mr := (coR (o11I g_) (o11F g_))) (i := ((o11I h).length : Int)) (j := (i : Int)) (w := w61) H114.mb (by first | assumption | (unfold I64 at *; omega)) (H114.rv 0 rfl) (by first | assumption | (unfold I64 at *; omega)) (by first | assumption | (unfold I64 at *; omega)) (by first | exact (right_sq (co_right _ (by omega))).1 | exact (right_sq (co_right _ hmi_)).1) (by first | exact (right_sq (co_right _ (by omega))).2.1 | exact (right_sq (co_right _ hmi_)).2.1) (by omega)
                refine ca go20 rfl (ec rfl (ec rfl (ec rfl e0))) cc7 ?_
                rintro _ w62 ⟨rfl, xt29⟩
                have H115 := H114.ext xt29
                refine z (nx ?_)
                have tr0 : (hasM ((o11I g_).length : Int) (coR (o11I g_) (o11F g_)) ((o11I h).length : Int) (i : Int)) = false := (by rw [hgm_]; exact mo_out (o := (false, chS (BitVec.ofInt 8 (120 + cv_ % 3)), cn_ % 8)) hl_ hx0 rfl hn_ hf_ (notf b2) (j := i) (by omega))
                refine cdF rfl rfl tr0 (sk (inb_normal (nx (rg (k (mv rfl s42 (k (add rfl rfl rfl rfl (by first | assumption | (unfold I64 at *; omega)) (k (asg (v := .int .i64 ((i : Int) + 1)) rfl rfl (z ?_)))))))))))
                refine loopN _ ?_ ⟨(i + 1), rfl, s40, s41, (ieq rfl (by first | rfl | omega | (push_cast; omega))), H115, (by first | assumption | omega | simp | (simp; omega))⟩
                omega
            ·
              have p3 := of_decide_eq_false b3
              refine ex (then_exit (loop_exit (inb_here (nx (sq (rg (k ?_)))))))
              have cc7 := awake13 (w := w60)
              refine ca go7 rfl e0 cc7 ?_
              rintro _ w61 ⟨rfl, xt29⟩
              have H114 := H113.ext xt29
              refine k (mv (v := .bool true) rfl rfl (k (gy rfl rfl rfl rfl (fa fl35_0 rfl s38 (k (gy rfl rfl rfl rfl (ldX H114 3 rfl ty3 rfl rfl (by decide) rfl (k (gy rfl rfl rfl rfl (fa fl35_0 rfl s37 (k (gy rfl rfl rfl rfl (ldX H114 2 rfl ty3 rfl rfl (by decide) rfl (k (gy rfl rfl rfl rfl (add rfl rfl rfl rfl (by first | assumption | (unfold I64 at *; omega)) (k (gy rfl rfl rfl rfl (eql rfl rfl rfl rfl (k (pickT rfl rfl rfl rfl rfl rfl (k (asg (v := .bool (decide (((o11I g_).length : Int) = (((o11I h).length : Int) + 1)))) rfl rfl (z (nx (rt (r1 rfl rfl ?_)))))))))))))))))))))))))))
              have e0 : (decide (((o11I g_).length : Int) = (((o11I h).length : Int) + 1)) : Bool) = true := by exact (decide_eq_true (by rw [hgm_]; exact mo_len (o := (false, chS (BitVec.ofInt 8 (120 + cv_ % 3)), cn_ % 8)) hl_ hx0 rfl hn_ hf_ (notf b2)))
              have ev_ := cg1 (fun (x_0 : Bool) => (.bool x_0 : Value)) e0
              exact ⟨ev_, H114.below⟩
end Go.Proofs.Ytmhopljngkgidaa
