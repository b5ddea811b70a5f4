/- PRINTED by my own tool (wip/tool/gen.py): contracts of Go functions of this seat, each with its proof. -/
import Derived.Test.YtefcbihikknlkaaGreatDoorOwnA
import Derived.Test.YtefcbihikknlkaaGreatDoorOwnB
import Derived.Test.YtefcbihikknlkaaGreatDoorGenA
set_option linter.unusedVariables false
set_option linter.unusedSimpArgs false
namespace Go.Proofs.YtefcbihikknlkaaGreatDoor
open Go.Ew Go.RowKit
set_option maxRecDepth 100000
set_option maxHeartbeats 1600000
attribute [local irreducible] WL WC SO PW PX Code.wp wpList retQ Ret
attribute [local irreducible] bitB hasW inR hasR setR countW countR subR words newR listR orR firstW tab8
variable {M : Nat → Prop} {w w_ : World}
theorem go127 : GoF Tryz.prog 127 := ⟨_, _, Tryz.func127, rfl, by kernel_rfl⟩
theorem fl85_0 : FldF Tryz.prog 85 0 0 := ⟨_, _, Tryz.underlying85, rfl, rfl, by kernel_rfl⟩
theorem go112 : GoF Tryz.prog 112 := ⟨_, _, Tryz.func112, rfl, by kernel_rfl⟩
theorem fl85_1 : FldF Tryz.prog 85 1 1 := ⟨_, _, Tryz.underlying85, rfl, rfl, by kernel_rfl⟩
theorem go78 : GoF Tryz.prog 78 := ⟨_, _, Tryz.func78, rfl, by kernel_rfl⟩
theorem go97 : GoF Tryz.prog 97 := ⟨_, _, Tryz.func97, rfl, by kernel_rfl⟩
theorem go36 : GoF Tryz.prog 36 := ⟨_, _, Tryz.func36, rfl, by kernel_rfl⟩
theorem session_Po {a_fv : OA} {n_fv c_fv : Nat} {a_fi : OA} {c_fi : Nat} {fi : List ItemL} {a_fo : OA} {n_fo c_fo : Nat} (hM : ∀ b, M b → b < w.heap.size) (h_fi : RV M w (.slice a_fi fi.length c_fi) fi) (ho : OrdI fi) (hn_fi : fi.length ≤ 4096) : Calls Tryz.prog 133 #[.agg #[.slice a_fv n_fv c_fv, .slice a_fi fi.length c_fi, .slice a_fo n_fo c_fo]] w (Ret fun v w' => ∃ (a0 : OA) (c0 : Nat), v = .agg #[.int .i64 (fi.length : Int), .slice a0 (poR fi).length c0] ∧ Ext w w' ∧ OwnsG M 115 w (poR fi) (.slice a0 (poR fi).length c0) w') := by
 refine enter 49 Tryz.func133 rfl rfl rfl fun f0 ha => ?_
 have H := HI.start (M0 := M) (w := w) hM
 have H0 := H.put (it := iL a_fi fi c_fi) rfl (by rw [MS_nil]; exact h_fi)
 have ln_fi := rv_len h_fi
 have i0 : f0 0 = .agg #[.slice a_fv n_fv c_fv, sL a_fi fi c_fi, .slice a_fo n_fo c_fo] := ha 0 (by simp)
 refine sq (rg (k (bx H0 rfl i0 ?_)))
 intro bb0 w0 xt0 (H1 : HI M w w0 [box bb0 #[.slice a_fv n_fv c_fv, sL a_fi fi c_fi, .slice a_fo n_fo c_fo] 32, iL a_fi fi c_fi])
 refine k (al H1 ty68 ?_)
 intro bb1 w1 xt1 (H2 : HI M w w1 [box bb1 #[iV 0, .slice none 0 0] 68, box bb0 #[.slice a_fv n_fv c_fv, sL a_fi fi c_fi, .slice a_fo n_fo c_fo] 32, iL a_fi fi c_fi])
 refine z (nx (sq (rg (k (fa fl32_1 rfl rfl (k (lx H2 1 rfl ty29 rfl rfl rfl (k (lnS rfl rfl un29 (k ?_))))))))))
 have cc0 := mat_New (n := (fi.length : Int)) (w := w1) H2.mb (by unfold I64 at *; omega)
 refine ca go127 rfl (ec rfl e0) cc0 ?_
 rintro _ w2 ⟨a0, c0, rfl, xt2, rv0⟩
 have H3 := H2.ownsG rv0
 refine k (mv (v := .tuple #[.agg #[iV (newMN (fi.length : Int)), sL a0 (newMR (fi.length : Int)) c0], iV (newME (fi.length : Int))]) rfl rfl (k (xt rfl rfl rfl (k (xt rfl rfl rfl (k (al H3 ty68 ?_)))))))
 intro bb2 w3 xt3 (H4 : HI M w w3 [box bb2 #[iV 0, .slice none 0 0] 68, oL w 115 a0 (newMR (fi.length : Int)) c0, box bb1 #[iV 0, .slice none 0 0] 68, box bb0 #[.slice a_fv n_fv c_fv, sL a_fi fi c_fi, .slice a_fo n_fo c_fo] 32, iL a_fi fi c_fi])
 refine k (stX H4 0 rfl ty68 rfl rfl rfl rfl rfl rfl rfl ?_)
 intro w4 (H5 : HI M w w4 [box bb2 #[iV (newMN (fi.length : Int)), sL a0 (newMR (fi.length : Int)) c0] 68, oL w 115 a0 (newMR (fi.length : Int)) c0, box bb1 #[iV 0, .slice none 0 0] 68, box bb0 #[.slice a_fv n_fv c_fv, sL a_fi fi c_fi, .slice a_fo n_fo c_fo] 32, iL a_fi fi c_fi])
 refine k (asg (v := iV (newME (fi.length : Int))) rfl rfl (z (nx (sq (sq ?_)))))
 have hok_ : okN (fi.length : Int) = true := okN_iff.2 (by omega)
 obtain ⟨en, er, -⟩ := newM_yes hok_
 refine rg (k (fa fl32_1 rfl rfl (k (lx H5 3 rfl ty29 rfl rfl rfl (k (lnS rfl rfl un29 (k (sub rfl rfl rfl rfl (by unfold I64 at *; omega) (k (asg (v := iV ((fi.length : Int) - 2)) rfl rfl (z (nx (bk ?_)))))))))))))
 refine lp (fun m f w' => ∃ (j : Nat) (xs : List (List (BitVec 64))), m = fi.length - j ∧ f 1 = pV bb0 0 ∧ f 2 = pV bb1 0 ∧ f 3 = pV bb2 0 ∧ f 5 = iV ((fi.length : Int) - 2 - (j : Int)) ∧  HI M w w' [box bb2 #[iV (newMN (fi.length : Int)), sL a0 (newMR (fi.length : Int)) c0] 68, own w.heap.size 115 (.slice a0 (newMR (fi.length : Int)).length c0) xs, box bb1 #[iV 0, .slice none 0 0] 68, box bb0 #[.slice a_fv n_fv c_fv, sL a_fi fi c_fi, .slice a_fo n_fo c_fo] 32, iL a_fi fi c_fi] ∧ (j ≤ fi.length) ∧ (xs.length = fi.length) ∧ (xs = poTo fi ((fi.length : Int) - 2 - (j : Int)))) _ ⟨0, (newMR (fi.length : Int)), rfl, rfl, rfl, rfl, (ieq rfl (by omega)), H5, (by first | omega | assumption | simp), (by rw [er, newM_length]; simp), (by rw [er]; exact poTo_start _ _ (by omega))⟩ ?_
 rintro _ f0 w5 ⟨j, xs, rfl, s0, s1, s2, s3, H6, hk, hl, hs⟩
 refine sq (sq (rg (k (mv rfl s3 (k (geq rfl rfl rfl rfl (z (nx ?_))))))))
 refine cd (b := decide (0 ≤ ((fi.length : Int) - 2 - (j : Int)))) rfl rfl (fun b0 => ?_) (fun b0 => ?_)
 ·
  have p0 := dT b0
  refine sk (nx (sq (bk (sq ?_))))
  refine drS rfl (by kernel_rfl) ?_
  refine kq (fun _ _ => fa fl32_1 rfl s0 e1) (kq (fun _ x_ => lx (H6.ext x_) 3 rfl ty29 rfl rfl rfl e1) (kq (fun _ _ => mv rfl s3 e1) (q_ia (H6.rv 4 rfl) rfl rfl rfl rfl (by omega) un29 ty85 ?_)))
  intro ad0 x0 hx0 hA0
  refine kq (fun _ _ => fa fl85_0 rfl rfl e1) (q_ldI (hA0).fst.w ty3 rfl rfl ?_)
  intro rv1
  refine kq (fun _ _ => fa fl32_1 rfl s0 e1) (kq (fun _ x_ => lx (H6.ext x_) 3 rfl ty29 rfl rfl rfl e1) (kq (fun _ _ => mv rfl s3 e1) (kq (fun _ _ => add rfl rfl rfl rfl (by unfold I64 at *; omega) e1) (q_ia (H6.rv 4 rfl) rfl rfl rfl rfl (by omega) un29 ty85 ?_))))
  intro ad1 x1 hx1 hA1
  refine kq (fun _ _ => fa fl85_0 rfl rfl e1) (q_ldI (hA1).fst.w ty3 rfl rfl ?_)
  intro rv2
  refine kq (fun _ _ => eql rfl rfl rfl rfl e1) (zq ?_)
  intro w6 xt4
  have H7 := H6.ext xt4
  refine nx ?_
  refine cd (b := decide (x0.1 = x1.1)) rfl rfl (fun b1 => ?_) (fun b1 => ?_)
  ·
   have p1 := dT b1
   obtain ⟨x2, hx2⟩ : ∃ x, xs[(((fi.length : Int) - 2 - (j : Int)) + 1).toNat]? = some x := ⟨_, gE_ (by omega)⟩
   refine dr 12 [eV (pV bb2 1), eV (sL a0 (newMR (fi.length : Int)) c0), eV (iV ((fi.length : Int) - 2 - (j : Int))), eV (pV bb2 1), eV (sL a0 (newMR (fi.length : Int)) c0), eV (iV ((fi.length : Int) - 2 - (j : Int))), eV (iV (((fi.length : Int) - 2 - (j : Int)) + 1)), fun v w' => ∃ (g0 : Nat), v = .pointer (some ⟨g0, (((fi.length : Int) - 2 - (j : Int)) + 1).toNat * 1, none⟩) ∧ (.slice a0 (newMR (fi.length : Int)).length c0 : Value).ownBlock = some g0 ∧ AtW (MS M [box bb2 #[iV (newMN (fi.length : Int)), sL a0 (newMR (fi.length : Int)) c0] 68, own w.heap.size 115 (.slice a0 (newMR (fi.length : Int)).length c0) xs, box bb1 #[iV 0, .slice none 0 0] 68, box bb0 #[.slice a_fv n_fv c_fv, sL a_fi fi c_fi, .slice a_fo n_fo c_fo] 32, iL a_fi fi c_fi]) w' ⟨g0, (((fi.length : Int) - 2 - (j : Int)) + 1).toNat * 1, none⟩ x2, fun v w' => ∃ (a1 : OA) (c1 : Nat), v = sL a1 x2 c1 ∧ RV (MS M [box bb2 #[iV (newMN (fi.length : Int)), sL a0 (newMR (fi.length : Int)) c0] 68, own w.heap.size 115 (.slice a0 (newMR (fi.length : Int)).length c0) xs, box bb1 #[iV 0, .slice none 0 0] 68, box bb0 #[.slice a_fv n_fv c_fv, sL a_fi fi c_fi, .slice a_fo n_fo c_fo] 32, iL a_fi fi c_fi]) w' (sL a1 x2 c1) x2, eV (iV ((fi.length : Int) - 2 - (j : Int))), eV (iV (((fi.length : Int) - 2 - (j : Int)) + 1)), fun v w' => ∃ (a2 : OA) (c2 : Nat), v = sL a2 (setR x2 (((fi.length : Int) - 2 - (j : Int)) + 1)) c2 ∧ RV (MS M [box bb2 #[iV (newMN (fi.length : Int)), sL a0 (newMR (fi.length : Int)) c0] 68, own w.heap.size 115 (.slice a0 (newMR (fi.length : Int)).length c0) xs, box bb1 #[iV 0, .slice none 0 0] 68, box bb0 #[.slice a_fv n_fv c_fv, sL a_fi fi c_fi, .slice a_fo n_fo c_fo] 32, iL a_fi fi c_fi]) w' (sL a2 (setR x2 (((fi.length : Int) - 2 - (j : Int)) + 1)) c2) (setR x2 (((fi.length : Int) - 2 - (j : Int)) + 1))] rfl (by kernel_rfl) ?_ ?_
   ·
    refine dc (fun _ _ hf0 _ _ => fa fl68_1 rfl ((hf0 3 rfl).trans s2) (d0 rfl rfl)) ?_
    refine dc (fun _ _ _ xt7 hp1 => lx (H7.ext xt7) 0 rfl ty66 rfl (hp1 0 rfl rfl) rfl (d0 rfl rfl)) ?_
    refine dc (fun _ _ hf2 _ _ => mv rfl ((hf2 5 rfl).trans s3) (d0 rfl rfl)) ?_
    refine dc (fun _ _ hf3 _ _ => fa fl68_1 rfl ((hf3 3 rfl).trans s2) (d0 rfl rfl)) ?_
    refine dc (fun _ _ _ xt10 hp4 => lx (H7.ext xt10) 0 rfl ty66 rfl (hp4 3 rfl rfl) rfl (d0 rfl rfl)) ?_
    refine dc (fun _ _ hf5 _ _ => mv rfl ((hf5 5 rfl).trans s3) (d0 rfl rfl)) ?_
    refine dc (fun _ _ _ _ hp6 => add rfl rfl (hp6 5 rfl rfl) rfl (by unfold I64 at *; omega) (d0 rfl rfl)) ?_
    refine ⟨fun _ => ⟨fun f8 w15 hf7 xt13 hp7 => ?_, by rintro _ _ _ x_ ⟨g0, e_, hv0, hA2⟩; exact ⟨g0, e_, hv0, hA2.ext x_⟩⟩, ?_⟩
    ·
     have H18 := H7.ext xt13
     have s7 : f8 39 = sL a0 (newMR (fi.length : Int)) c0 := hp7 4 rfl rfl
     have s8 : f8 41 = iV (((fi.length : Int) - 2 - (j : Int)) + 1) := hp7 6 rfl rfl
     refine iaO (H18.at_ 1 rfl) rfl rfl s7 s8 (by omega) un66 ty115 ?_
     intro g1 x3 hv1 hx3 hA3
     obtain rfl : x2 = x3 := Option.some.inj (hx2.symm.trans hx3)
     exact ⟨_, rfl, Ext.refl _, ⟨g1, rfl, hv1, hA3⟩⟩
    refine ⟨fun _ => ⟨fun f9 w16 hf8 xt14 hp8 => ?_, by rintro _ _ _ x_ ⟨a1, c1, e_, rv3⟩; exact ⟨a1, c1, e_, rv3.lift (Up.ext x_)⟩⟩, ?_⟩
    ·
     obtain ⟨g2, s9, hv2, hA4⟩ : ∃ (g2 : Nat), f9 42 = .pointer (some ⟨g2, (((fi.length : Int) - 2 - (j : Int)) + 1).toNat * 1, none⟩) ∧ (.slice a0 (newMR (fi.length : Int)).length c0 : Value).ownBlock = some g2 ∧ AtW (MS M [box bb2 #[iV (newMN (fi.length : Int)), sL a0 (newMR (fi.length : Int)) c0] 68, own w.heap.size 115 (.slice a0 (newMR (fi.length : Int)).length c0) xs, box bb1 #[iV 0, .slice none 0 0] 68, box bb0 #[.slice a_fv n_fv c_fv, sL a_fi fi c_fi, .slice a_fo n_fo c_fo] 32, iL a_fi fi c_fi]) w16 ⟨g2, (((fi.length : Int) - 2 - (j : Int)) + 1).toNat * 1, none⟩ x2 := hp8 7 rfl rfl
     refine ldL hA4 ty115 rfl s9 ?_
     intro a3 c3 rv6
     have ln1 := rv_len rv6
     exact ⟨_, rfl, Ext.refl _, ⟨a3, c3, rfl, rv6⟩⟩
    refine dc (fun _ _ hf9 _ _ => mv rfl ((hf9 5 rfl).trans s3) (d0 rfl rfl)) ?_
    refine dc (fun _ _ _ _ hp10 => add rfl rfl (hp10 9 rfl rfl) rfl (by unfold I64 at *; omega) (d0 rfl rfl)) ?_
    refine ⟨fun _ => ⟨fun f12 w19 hf11 xt17 hp11 => ?_, by rintro _ _ _ x_ ⟨a2, c2, e_, rv5⟩; exact ⟨a2, c2, e_, rv5.lift (Up.ext x_)⟩⟩, ?_⟩
    ·
     have H23 := H7.ext xt17
     obtain ⟨a4, c4, s11, rv7⟩ : ∃ (a4 : OA) (c4 : Nat), f12 43 = sL a4 x2 c4 ∧ RV (MS M [box bb2 #[iV (newMN (fi.length : Int)), sL a0 (newMR (fi.length : Int)) c0] 68, own w.heap.size 115 (.slice a0 (newMR (fi.length : Int)).length c0) xs, box bb1 #[iV 0, .slice none 0 0] 68, box bb0 #[.slice a_fv n_fv c_fv, sL a_fi fi c_fi, .slice a_fo n_fo c_fo] 32, iL a_fi fi c_fi]) w19 (sL a4 x2 c4) x2 := hp11 8 rfl rfl
     have H24 := H23.put (it := iL a4 x2 c4) rfl rv7
     have s12 : f12 45 = iV (((fi.length : Int) - 2 - (j : Int)) + 1) := hp11 10 rfl rfl
     have cc2 := row_Set (r := x2) (i := (((fi.length : Int) - 2 - (j : Int)) + 1)) (w := w19) H24.mb (H24.rv 0 rfl) (by unfold I64 at *; omega) (by first | (have h_ := poTo_row (hs ▸ hx2); have h2_ := words_small (n := fi.length) (by omega); omega) | (have h_ := poTo_row (hs ▸ hx3); have h2_ := words_small (n := fi.length) (by omega); omega) | (have h_ := poTo_row (hs ▸ hx4); have h2_ := words_small (n := fi.length) (by omega); omega) | (have h_ := poTo_row (hs ▸ hx5); have h2_ := words_small (n := fi.length) (by omega); omega) | (have h_ := poTo_row (hs ▸ hx6); have h2_ := words_small (n := fi.length) (by omega); omega) | (have h_ := poTo_row (hs ▸ hx7); have h2_ := words_small (n := fi.length) (by omega); omega))
     refine ca go112 rfl (ec s11 (ec s12 e0)) cc2 ?_
     rintro _ w20 ⟨a5, c5, rfl, xt18, rv8⟩
     have rv9 := OwnsG.rv rv8 H24.mb
     exact ⟨_, rfl, xt18, ⟨a5, c5, rfl, (rv_drop rfl rv9)⟩⟩
    exact DSteps.rest rfl _
   ·
    intro f13 w21 hf12 xt19 hp12
    have H27 := H7.ext xt19
    have s13 : f13 1 = pV bb0 0 := (hf12 1 rfl).trans s0
    have s14 : f13 2 = pV bb1 0 := (hf12 2 rfl).trans s1
    have s15 : f13 3 = pV bb2 0 := (hf12 3 rfl).trans s2
    have s16 : f13 5 = iV ((fi.length : Int) - 2 - (j : Int)) := (hf12 5 rfl).trans s3
    have s17 : f13 36 = sL a0 (newMR (fi.length : Int)) c0 := hp12 1 rfl
    have s18 : f13 37 = iV ((fi.length : Int) - 2 - (j : Int)) := hp12 2 rfl
    obtain ⟨a6, c6, s19, rv10⟩ : ∃ (a6 : OA) (c6 : Nat), f13 46 = sL a6 (setR x2 (((fi.length : Int) - 2 - (j : Int)) + 1)) c6 ∧ RV (MS M [box bb2 #[iV (newMN (fi.length : Int)), sL a0 (newMR (fi.length : Int)) c0] 68, own w.heap.size 115 (.slice a0 (newMR (fi.length : Int)).length c0) xs, box bb1 #[iV 0, .slice none 0 0] 68, box bb0 #[.slice a_fv n_fv c_fv, sL a_fi fi c_fi, .slice a_fo n_fo c_fo] 32, iL a_fi fi c_fi]) w21 (sL a6 (setR x2 (((fi.length : Int) - 2 - (j : Int)) + 1)) c6) (setR x2 (((fi.length : Int) - 2 - (j : Int)) + 1)) := hp12 11 rfl
    have H28 := H27.put (it := iL a6 (setR x2 (((fi.length : Int) - 2 - (j : Int)) + 1)) c6) rfl rv10
    refine k (iaO (H28.at_ 2 rfl) rfl rfl s17 s18 (by omega) un66 ty115 ?_)
    intro g3 x4 hv3 hx4 hA5
    refine k (stO H28 2 rfl hv3 rfl (by omega) ty115 rfl rfl rfl s19 (H28.rv 0 rfl) ?_)
    intro w22 (H29 : HI M w w22 [iL a6 (setR x2 (((fi.length : Int) - 2 - (j : Int)) + 1)) c6, box bb2 #[iV (newMN (fi.length : Int)), sL a0 (newMR (fi.length : Int)) c0] 68, own w.heap.size 115 (.slice a0 (newMR (fi.length : Int)).length c0) (xs.set (((fi.length : Int) - 2 - (j : Int)).toNat) (setR x2 (((fi.length : Int) - 2 - (j : Int)) + 1))), box bb1 #[iV 0, .slice none 0 0] 68, box bb0 #[.slice a_fv n_fv c_fv, sL a_fi fi c_fi, .slice a_fo n_fo c_fo] 32, iL a_fi fi c_fi])
    refine z (inb_normal (nx (rg (k (mv rfl s16 (k (sub rfl rfl rfl rfl (by unfold I64 at *; omega) (k (asg (v := iV (((fi.length : Int) - 2 - (j : Int)) - 1)) rfl rfl (z ?_))))))))))
    have H30 : HI M w w22 [box bb2 #[iV (newMN (fi.length : Int)), sL a0 (newMR (fi.length : Int)) c0] 68, own w.heap.size 115 (.slice a0 (newMR (fi.length : Int)).length c0) (xs.set (((fi.length : Int) - 2 - (j : Int)).toNat) (setR x2 (((fi.length : Int) - 2 - (j : Int)) + 1))), box bb1 #[iV 0, .slice none 0 0] 68, box bb0 #[.slice a_fv n_fv c_fv, sL a_fi fi c_fi, .slice a_fo n_fo c_fo] 32, iL a_fi fi c_fi] := H29.pickN [1, 2, 3, 4, 5] (by decide) rfl
    refine loopN _ ?_ ⟨(j + 1), (xs.set (((fi.length : Int) - 2 - (j : Int)).toNat) (setR x2 (((fi.length : Int) - 2 - (j : Int)) + 1))), rfl, s13, s14, s15, (ieq rfl (by omega)), H30, (by first | omega | assumption | simp), (by first | assumption | simpa using hl), (by rw [show ((fi.length : Int) - 2 - (((j + 1 : Nat) : Nat) : Int)) = ((fi.length : Int) - 2 - (j : Int)) - 1 from by omega]; first | ((have h_ := poTo_same (t := ((fi.length : Int) - 2 - (j : Int))) (by omega) (by omega) (by rw [ses_atI hx0, ses_atI hx1]; exact p1) (hs ▸ hx2); rw [← h_, ← hs])) | ((have h_ := poTo_same (t := ((fi.length : Int) - 2 - (j : Int))) (by omega) (by omega) (by rw [ses_atI hx0, ses_atI hx1]; exact p1) (hs ▸ hx3); rw [← h_, ← hs])) | ((have h_ := poTo_same (t := ((fi.length : Int) - 2 - (j : Int))) (by omega) (by omega) (by rw [ses_atI hx0, ses_atI hx1]; exact p1) (hs ▸ hx4); rw [← h_, ← hs])) | ((have h_ := poTo_same (t := ((fi.length : Int) - 2 - (j : Int))) (by omega) (by omega) (by rw [ses_atI hx0, ses_atI hx1]; exact p1) (hs ▸ hx5); rw [← h_, ← hs])) | ((have h_ := poTo_same (t := ((fi.length : Int) - 2 - (j : Int))) (by omega) (by omega) (by rw [ses_atI hx0, ses_atI hx1]; exact p1) (hs ▸ hx6); rw [← h_, ← hs])) | ((have h_ := poTo_same (t := ((fi.length : Int) - 2 - (j : Int))) (by omega) (by omega) (by rw [ses_atI hx0, ses_atI hx1]; exact p1) (hs ▸ hx7); rw [← h_, ← hs])) | (rw [hs]; exact poTo_other ho (by omega) (by omega) (by rw [ses_atI hx0, ses_atI hx1]; exact p1)))⟩
    omega
  have p1 := dF b1
  refine sk (inb_normal (nx (rg (k (mv rfl s3 (k (sub rfl rfl rfl rfl (by unfold I64 at *; omega) (k (asg (v := iV (((fi.length : Int) - 2 - (j : Int)) - 1)) rfl rfl (z ?_))))))))))
  refine loopN _ ?_ ⟨(j + 1), xs, rfl, s0, s1, s2, (ieq rfl (by omega)), H7, (by first | omega | assumption | simp), (by first | assumption | simpa using hl), (by rw [show ((fi.length : Int) - 2 - (((j + 1 : Nat) : Nat) : Int)) = ((fi.length : Int) - 2 - (j : Int)) - 1 from by omega]; first | ((have h_ := poTo_same (t := ((fi.length : Int) - 2 - (j : Int))) (by omega) (by omega) (by rw [ses_atI hx0, ses_atI hx1]; exact p1) (hs ▸ hx2); rw [← h_, ← hs])) | ((have h_ := poTo_same (t := ((fi.length : Int) - 2 - (j : Int))) (by omega) (by omega) (by rw [ses_atI hx0, ses_atI hx1]; exact p1) (hs ▸ hx3); rw [← h_, ← hs])) | ((have h_ := poTo_same (t := ((fi.length : Int) - 2 - (j : Int))) (by omega) (by omega) (by rw [ses_atI hx0, ses_atI hx1]; exact p1) (hs ▸ hx4); rw [← h_, ← hs])) | ((have h_ := poTo_same (t := ((fi.length : Int) - 2 - (j : Int))) (by omega) (by omega) (by rw [ses_atI hx0, ses_atI hx1]; exact p1) (hs ▸ hx5); rw [← h_, ← hs])) | ((have h_ := poTo_same (t := ((fi.length : Int) - 2 - (j : Int))) (by omega) (by omega) (by rw [ses_atI hx0, ses_atI hx1]; exact p1) (hs ▸ hx6); rw [← h_, ← hs])) | ((have h_ := poTo_same (t := ((fi.length : Int) - 2 - (j : Int))) (by omega) (by omega) (by rw [ses_atI hx0, ses_atI hx1]; exact p1) (hs ▸ hx7); rw [← h_, ← hs])) | (rw [hs]; exact poTo_other ho (by omega) (by omega) (by rw [ses_atI hx0, ses_atI hx1]; exact p1)))⟩
  omega
 have p0 := dF b0
 refine ex (then_exit (loop_exit (inb_here (nx (sq (rg (k (ldX H6 0 rfl ty68 rfl s2 (by decide) rfl (k (stX H6 2 rfl ty68 rfl rfl s1 rfl rfl rfl rfl ?_))))))))))
 intro w6 (H7 : HI M w w6 [box bb2 #[iV (newMN (fi.length : Int)), sL a0 (newMR (fi.length : Int)) c0] 68, own w.heap.size 115 (.slice a0 (newMR (fi.length : Int)).length c0) xs, box bb1 #[iV (newMN (fi.length : Int)), sL a0 (newMR (fi.length : Int)) c0] 68, box bb0 #[.slice a_fv n_fv c_fv, sL a_fi fi c_fi, .slice a_fo n_fo c_fo] 32, iL a_fi fi c_fi])
 refine z (nx (rt (rc1 H7 2 rfl ty68 rfl rfl s1 rfl (by decide) ?_)))
 have e0 : (newMN (fi.length : Int) : Int) = (fi.length : Int) := by rw [en]
 have e1 : (xs : List (List (BitVec 64))) = poR fi := by rw [hs]; exact poTo_end (by omega)
 have l1 : (newMR (fi.length : Int)).length = (poR fi).length := by first | (rw [← e1]; omega) | (rw [poR_len]; omega) | (rw [er, newM_length, poR_len]; simp)
 have ev_ := cg2 (fun (x_0 : Int) (n_1 : Nat) => (.agg #[iV x_0, .slice a0 n_1 c0] : Value)) e0 l1
 exact ⟨a0, c0, ev_, H7.below, (congrArg (fun (n_ : Nat) => OwnsG _ _ _ (poR fi) (.slice a0 n_ c0) _) l1).mp ((congrArg (fun (x_ : List (List (BitVec 64))) => OwnsG _ _ _ x_ (.slice a0 (newMR (fi.length : Int)).length c0) _) e1).mp (H7.ownsG_out 1 rfl))⟩
theorem session_Past {a_fv : OA} {n_fv c_fv : Nat} {a_fi : OA} {c_fi : Nat} {fi : List ItemL} {a_fo : OA} {n_fo c_fo : Nat} {tt : Int} (hM : ∀ b, M b → b < w.heap.size) (h_fi : RV M w (.slice a_fi fi.length c_fi) fi) (h_tt : I64 tt) (ho : OrdI fi) (hn_fi : fi.length ≤ 4096) : Calls Tryz.prog 89 #[.agg #[.slice a_fv n_fv c_fv, .slice a_fi fi.length c_fi, .slice a_fo n_fo c_fo], .int .i64 tt] w (Ret fun v w' => ∃ (a0 : OA) (c0 : Nat), v = .slice a0 (pastA fi tt).length c0 ∧ Ext w w' ∧ OwnsG M 3 w (pastA fi tt) (.slice a0 (pastA fi tt).length c0) w') := by
 refine enter 41 Tryz.func89 rfl rfl rfl fun f0 ha => ?_
 have H := HI.start (M0 := M) (w := w) hM
 have H0 := H.put (it := iL a_fi fi c_fi) rfl (by rw [MS_nil]; exact h_fi)
 have ln_fi := rv_len h_fi
 have i0 : f0 0 = .agg #[.slice a_fv n_fv c_fv, sL a_fi fi c_fi, .slice a_fo n_fo c_fo] := ha 0 (by simp)
 have i1 : f0 1 = iV tt := ha 1 (by simp)
 refine sq (rg (k (bx H0 rfl i0 ?_)))
 intro bb0 w0 xt0 (H1 : HI M w w0 [box bb0 #[.slice a_fv n_fv c_fv, sL a_fi fi c_fi, .slice a_fo n_fo c_fo] 32, iL a_fi fi c_fi])
 refine k (asg (v := .slice none 0 0) rfl rfl (z (nx (sq (sq (rg (k (mv rfl i1 (k (lss rfl rfl rfl rfl (k (mv (v := .bool (decide (tt < 0))) rfl rfl ?_))))))))))))
 rcases bE (decide (tt < 0)) with b0 | b0
 ·
  have p0 := dT b0
  refine k (gn rfl rfl rfl b0 (k (gn rfl rfl rfl b0 (k (gn rfl rfl rfl b0 (k (gn rfl rfl rfl b0 (k (gn rfl rfl rfl b0 (k (pickT rfl rfl rfl rfl b0 rfl (z (nx (cdT rfl rfl rfl (sq (rg (k (asg (v := .slice none 0 0) rfl rfl (z (nx (rt (then_ret (r1 rfl rfl ?_)))))))))))))))))))))))
  have e0 : ([] : List Int) = pastA fi tt := by first | exact pastA_no (by omega) | (rw [hs]; exact pastA_yes (by omega) (by omega) hx0 hp0_ (by omega))
  have ev_ := cg1 (fun (x_0 : List Int) => (.slice none x_0.length 0 : Value)) e0
  exact ⟨none, 0, ev_, H1.below, (congrArg (fun (x_ : List Int) => OwnsG _ _ _ x_ (.slice none x_.length 0) _) e0).mp (ownsG_nil H1.below)⟩
 have p0 := dF b0
 refine k (gy rfl rfl rfl b0 (mv rfl i1 (k (gy rfl rfl rfl b0 (fa fl32_1 rfl rfl (k (gy rfl rfl rfl b0 (lx H1 0 rfl ty29 rfl rfl rfl (k (gy rfl rfl rfl b0 (lnS rfl rfl un29 (k (gy rfl rfl rfl b0 (geq rfl rfl rfl rfl (k (pickF rfl rfl rfl rfl b0 rfl (z (nx ?_))))))))))))))))))
 refine cd (b := decide ((fi.length : Int) ≤ tt)) rfl rfl (fun b1 => ?_) (fun b1 => ?_)
 ·
  have p1 := dT b1
  refine sq (rg (k (asg (v := .slice none 0 0) rfl rfl (z (nx (rt (then_ret (r1 rfl rfl ?_))))))))
  have e0 : ([] : List Int) = pastA fi tt := by first | exact pastA_no (by omega) | (rw [hs]; exact pastA_yes (by omega) (by omega) hx0 hp0_ (by omega))
  have ev_ := cg1 (fun (x_0 : List Int) => (.slice none x_0.length 0 : Value)) e0
  exact ⟨none, 0, ev_, H1.below, (congrArg (fun (x_ : List Int) => OwnsG _ _ _ x_ (.slice none x_.length 0) _) e0).mp (ownsG_nil H1.below)⟩
 have p1 := dF b1
 refine sk (nx (sq (rg (k (mv rfl i1 (k (fa fl32_1 rfl rfl (k (lx H1 0 rfl ty29 rfl rfl rfl (k (mv rfl i1 (k (ia (H1.rv 1 rfl) rfl rfl rfl rfl (by omega) un29 ty85 ?_)))))))))))))
 intro ad0 x0 hx0 hA0
 refine k (fa fl85_1 rfl rfl (k (ldI ((hA0).s1).fst.w ty3 rfl rfl ?_)))
 intro rv0
 refine k (sub rfl rfl rfl rfl (by have hp0_ := ho.nonneg tt.toNat (by omega); have hp1_ := (ho.back tt.toNat (by omega)).1; rw [plc_atI hx0] at hp0_ hp1_; unfold I64; omega) (k (asg (v := iV (tt - x0.2.1)) rfl rfl (z (nx (sq ?_))))))
 have hp0_ := ho.nonneg tt.toNat (by omega)
 have hp1_ := (ho.back tt.toNat (by omega)).1
 rw [plc_atI hx0] at hp0_ hp1_
 refine rg (k (mv rfl i1 (k (mv (v := iV (tt - x0.2.1)) rfl rfl (k (sub rfl rfl rfl rfl (by unfold I64 at *; omega) (k (add rfl rfl rfl rfl (by unfold I64 at *; omega) (k ?_)))))))))
 have n0 : ((((tt - (tt - x0.2.1)) + 1).toNat : Nat) : Int) = (tt - (tt - x0.2.1)) + 1 := Int.toNat_of_nonneg (by omega)
 refine mk0 (α := Int) (m := ((tt - (tt - x0.2.1)) + 1).toNat) H1 rfl rfl rfl (by rw [n0]; exact rfl) un30 ty3 (by omega) (by omega) ?_
 intro g0 w1 xt1 (H2 : HI M w w1 [own w.heap.size 3 (.slice (some ⟨g0, 0, none⟩) 0 (((tt - (tt - x0.2.1)) + 1).toNat)) ([] : List Int), box bb0 #[.slice a_fv n_fv c_fv, sL a_fi fi c_fi, .slice a_fo n_fo c_fo] 32, iL a_fi fi c_fi])
 refine k (asg (v := .slice (some ⟨g0, 0, none⟩) 0 (((tt - (tt - x0.2.1)) + 1).toNat)) rfl rfl (z (nx (sq (sq (rg (k (mv (v := iV (tt - x0.2.1)) rfl rfl (k (asg (v := iV (tt - x0.2.1)) rfl rfl (z (nx (bk ?_)))))))))))))
 refine lp (fun m f w' => ∃ (q : Nat) (xs : List Int) (a0 : OA) (c0 : Nat), m = (x0.2.1 + 1).toNat - q ∧ f 1 = iV tt ∧ f 6 = sL a0 xs c0 ∧ f 7 = iV (tt - x0.2.1 + (q : Int)) ∧  HI M w w' [oL w 3 a0 xs c0, box bb0 #[.slice a_fv n_fv c_fv, sL a_fi fi c_fi, .slice a_fo n_fo c_fo] 32, iL a_fi fi c_fi] ∧ ((q : Int) ≤ x0.2.1 + 1) ∧ (xs = pastTo (tt - x0.2.1) q)) _ ⟨0, ([] : List Int), (some ⟨g0, 0, none⟩), (((tt - (tt - x0.2.1)) + 1).toNat), rfl, i1, rfl, (ieq rfl (by omega)), H2, (by omega), (by rfl)⟩ ?_
 rintro _ f0 w2 ⟨q, xs, a0, c0, rfl, s0, s1, s2, H3, hq_, hs⟩
 refine sq (sq (rg (k (mv rfl s2 (k (mv rfl s0 (k (leq rfl rfl rfl rfl (z (nx ?_))))))))))
 refine cd (b := decide ((tt - x0.2.1 + (q : Int)) ≤ tt)) rfl rfl (fun b2 => ?_) (fun b2 => ?_)
 ·
  have p2 := dT b2
  refine sk (nx (sq (bk (rg (k (mv rfl s1 (k (mv rfl s2 (k (bs (xs := ([(tt - x0.2.1 + (q : Int))] : List Int)) (cells := #[iV (tt - x0.2.1 + (q : Int))]) (e := 3) H3 rfl (pbc rfl pb0) (fun _ => by kernel_rfl) ⟨[iV (tt - x0.2.1 + (q : Int))], [], rfl, ⟨rfl, (show I64 ((tt - x0.2.1 + (q : Int))) from (by unfold I64 at *; omega))⟩, rfl⟩ rfl (by decide) ?_))))))))))
  intro g1 w3 xt2 H4
  refine k (apB H4 1 rfl rfl rfl rfl rfl rfl (own_src (H4.at_ 0 rfl)) un30 ty3 rfl (by rw [hs, pastTo_len]; simp only [lC_, lN_]; omega) rfl ?_)
  intro a1 c1 w4 (H5 : HI M w w4 [own w.heap.size 3 (.slice (some ⟨g1, 0, none⟩) 1 1) ([(tt - x0.2.1 + (q : Int))] : List Int), oL w 3 a1 (xs ++ ([(tt - x0.2.1 + (q : Int))] : List Int)) c1, box bb0 #[.slice a_fv n_fv c_fv, sL a_fi fi c_fi, .slice a_fo n_fo c_fo] 32, iL a_fi fi c_fi])
  refine k (asg (v := sL a1 (xs ++ ([(tt - x0.2.1 + (q : Int))] : List Int)) c1) rfl rfl (z (inb_normal (nx (rg (k (mv rfl s2 (k (add rfl rfl rfl rfl (by unfold I64 at *; omega) (k (asg (v := iV ((tt - x0.2.1 + (q : Int)) + 1)) rfl rfl (z ?_))))))))))))
  have H6 : HI M w w4 [oL w 3 a1 (xs ++ ([(tt - x0.2.1 + (q : Int))] : List Int)) c1, box bb0 #[.slice a_fv n_fv c_fv, sL a_fi fi c_fi, .slice a_fo n_fo c_fo] 32, iL a_fi fi c_fi] := H5.pickN [1, 2, 3] (by decide) rfl
  refine loopN _ ?_ ⟨(q + 1), (xs ++ ([(tt - x0.2.1 + (q : Int))] : List Int)), a1, c1, rfl, s0, rfl, (ieq rfl (by omega)), H6, (by first | omega | assumption | simp), (by rw [hs]; exact pastTo_step _ _)⟩
  omega
 have p2 := dF b2
 refine ex (then_exit (loop_exit (inb_here (nx (sq (rg (k (mv rfl s1 (k (asg (v := sL a0 xs c0) rfl rfl (z (nx (rt (r1 rfl rfl ?_))))))))))))))
 have e0 : (xs : List Int) = pastA fi tt := by first | exact pastA_no (by omega) | (rw [hs]; exact pastA_yes (by omega) (by omega) hx0 hp0_ (by omega))
 have ev_ := cg1 (fun (x_0 : List Int) => (.slice a0 x_0.length c0 : Value)) e0
 exact ⟨a0, c0, ev_, H3.below, (congrArg (fun (x_ : List Int) => OwnsG _ _ _ x_ (.slice a0 x_.length c0) _) e0).mp (H3.ownsG_out 0 rfl)⟩
theorem ref12_Ahead {a_fv : OA} {n_fv c_fv : Nat} {a_fi : OA} {c_fi : Nat} {fi : List ItemL} {a_fo : OA} {n_fo c_fo : Nat} {i : Int} {j : Int} (hM : ∀ b, M b → b < w.heap.size) (h_fi : RV M w (.slice a_fi fi.length c_fi) fi) (h_i : I64 i) (h_j : I64 j) : Calls Tryz.prog 97 #[.agg #[.slice a_fv n_fv c_fv, .slice a_fi fi.length c_fi, .slice a_fo n_fo c_fo], .int .i64 i, .int .i64 j] w (Ret fun v w' =>  v = .bool (ahB fi i j) ∧ Ext w w') := by
 refine enter 57 Tryz.func97 rfl rfl rfl fun f0 ha => ?_
 have H := HI.start (M0 := M) (w := w) hM
 have H0 := H.put (it := iL a_fi fi c_fi) rfl (by rw [MS_nil]; exact h_fi)
 have ln_fi := rv_len h_fi
 have i0 : f0 0 = .agg #[.slice a_fv n_fv c_fv, sL a_fi fi c_fi, .slice a_fo n_fo c_fo] := ha 0 (by simp)
 have i1 : f0 1 = iV i := ha 1 (by simp)
 have i2 : f0 2 = iV j := ha 2 (by simp)
 refine sq (rg (k (bx H0 rfl i0 ?_)))
 intro bb0 w0 xt0 (H1 : HI M w w0 [box bb0 #[.slice a_fv n_fv c_fv, sL a_fi fi c_fi, .slice a_fo n_fo c_fo] 32, iL a_fi fi c_fi])
 refine k (asg (v := .bool false) rfl rfl (z (nx (sq ?_))))
 refine drS rfl (by kernel_rfl) ?_
 refine kq (fun _ _ => mv rfl i1 e1) (kq (fun _ _ => geq rfl rfl rfl rfl e1) (kq (fun _ _ => mv (v := .bool (decide (0 ≤ i))) rfl rfl e1) ?_))
 rcases bE (decide (0 ≤ i)) with b0 | b0
 ·
  have p0 := dT b0
  refine qy rfl rfl rfl b0 (kq (fun _ _ => mv rfl i2 e1) (qy rfl rfl rfl b0 (kq (fun _ _ => geq rfl rfl rfl rfl e1) (kq (fun _ _ => pickT rfl rfl rfl rfl b0 rfl e1) (kq (fun _ _ => mv (v := .bool (decide (0 ≤ j))) rfl rfl e1) ?_)))))
  rcases bE (decide (0 ≤ j)) with b1 | b1
  ·
   have p1 := dT b1
   refine qy rfl rfl rfl b1 (kq (fun _ _ => mv rfl i1 e1) (qy rfl rfl rfl b1 (kq (fun _ _ => fa fl32_1 rfl rfl e1) (qy rfl rfl rfl b1 (kq (fun _ x_ => lx (H1.ext x_) 0 rfl ty29 rfl rfl rfl e1) (qy rfl rfl rfl b1 (kq (fun _ _ => lnS rfl rfl un29 e1) (qy rfl rfl rfl b1 (kq (fun _ _ => lss rfl rfl rfl rfl e1) (kq (fun _ _ => pickT rfl rfl rfl rfl b1 rfl e1) (kq (fun _ _ => mv (v := .bool (decide (i < (fi.length : Int)))) rfl rfl e1) ?_)))))))))))
   rcases bE (decide (i < (fi.length : Int))) with b2 | b2
   ·
    have p2 := dT b2
    refine qy rfl rfl rfl b2 (kq (fun _ _ => mv rfl i2 e1) (qy rfl rfl rfl b2 (kq (fun _ _ => fa fl32_1 rfl rfl e1) (qy rfl rfl rfl b2 (kq (fun _ x_ => lx (H1.ext x_) 0 rfl ty29 rfl rfl rfl e1) (qy rfl rfl rfl b2 (kq (fun _ _ => lnS rfl rfl un29 e1) (qy rfl rfl rfl b2 (kq (fun _ _ => lss rfl rfl rfl rfl e1) (kq (fun _ _ => pickT rfl rfl rfl rfl b2 rfl e1) (kq (fun _ _ => mv (v := .bool (decide (j < (fi.length : Int)))) rfl rfl e1) ?_)))))))))))
    rcases bE (decide (j < (fi.length : Int))) with b3 | b3
    ·
     have p3 := dT b3
     refine qy rfl rfl rfl b3 (kq (fun _ _ => fa fl32_1 rfl rfl e1) (qy rfl rfl rfl b3 (kq (fun _ x_ => lx (H1.ext x_) 0 rfl ty29 rfl rfl rfl e1) (qy rfl rfl rfl b3 (kq (fun _ _ => mv rfl i1 e1) (qy rfl rfl rfl b3 (q_ia (H1.rv 1 rfl) rfl rfl rfl rfl (by omega) un29 ty85 ?_)))))))
     intro ad0 x0 hx0 hA0
     refine qy rfl rfl rfl b3 (kq (fun _ _ => fa fl85_0 rfl rfl e1) (qy rfl rfl rfl b3 (q_ldI (hA0).fst.w ty3 rfl rfl ?_)))
     intro rv0
     refine qy rfl rfl rfl b3 (kq (fun _ _ => fa fl32_1 rfl rfl e1) (qy rfl rfl rfl b3 (kq (fun _ x_ => lx (H1.ext x_) 0 rfl ty29 rfl rfl rfl e1) (qy rfl rfl rfl b3 (kq (fun _ _ => mv rfl i2 e1) (qy rfl rfl rfl b3 (q_ia (H1.rv 1 rfl) rfl rfl rfl rfl (by omega) un29 ty85 ?_)))))))
     intro ad1 x1 hx1 hA1
     refine qy rfl rfl rfl b3 (kq (fun _ _ => fa fl85_0 rfl rfl e1) (qy rfl rfl rfl b3 (q_ldI (hA1).fst.w ty3 rfl rfl ?_)))
     intro rv1
     refine qy rfl rfl rfl b3 (kq (fun _ _ => eql rfl rfl rfl rfl e1) (kq (fun _ _ => pickT rfl rfl rfl rfl b3 rfl e1) (kq (fun _ _ => mv (v := .bool (decide (x0.1 = x1.1))) rfl rfl e1) ?_)))
     rcases bE (decide (x0.1 = x1.1)) with b4 | b4
     ·
      have p4 := dT b4
      refine qy rfl rfl rfl b4 (kq (fun _ _ => fa fl32_1 rfl rfl e1) (qy rfl rfl rfl b4 (kq (fun _ x_ => lx (H1.ext x_) 0 rfl ty29 rfl rfl rfl e1) (qy rfl rfl rfl b4 (kq (fun _ _ => mv rfl i1 e1) (qy rfl rfl rfl b4 (q_ia (H1.rv 1 rfl) rfl rfl rfl rfl (by omega) un29 ty85 ?_)))))))
      intro ad2 x_ hx_ hA2
      obtain rfl : x0 = x_ := Option.some.inj (hx0.symm.trans hx_)
      refine qy rfl rfl rfl b4 (kq (fun _ _ => fa fl85_1 rfl rfl e1) (qy rfl rfl rfl b4 (q_ldI ((hA2).s1).fst.w ty3 rfl rfl ?_)))
      intro rv2
      refine qy rfl rfl rfl b4 (kq (fun _ _ => fa fl32_1 rfl rfl e1) (qy rfl rfl rfl b4 (kq (fun _ x_ => lx (H1.ext x_) 0 rfl ty29 rfl rfl rfl e1) (qy rfl rfl rfl b4 (kq (fun _ _ => mv rfl i2 e1) (qy rfl rfl rfl b4 (q_ia (H1.rv 1 rfl) rfl rfl rfl rfl (by omega) un29 ty85 ?_)))))))
      intro ad3 x_ hx_ hA3
      obtain rfl : x1 = x_ := Option.some.inj (hx1.symm.trans hx_)
      refine qy rfl rfl rfl b4 (kq (fun _ _ => fa fl85_1 rfl rfl e1) (qy rfl rfl rfl b4 (q_ldI ((hA3).s1).fst.w ty3 rfl rfl ?_)))
      intro rv3
      refine qy rfl rfl rfl b4 (kq (fun _ _ => lss rfl rfl rfl rfl e1) (kq (fun _ _ => pickT rfl rfl rfl rfl b4 rfl e1) (kq (fun _ _ => asg (v := .bool (decide (x0.2.1 < x1.2.1))) rfl rfl e1) (zq ?_))))
      intro w1 xt1
      have H2 := H1.ext xt1
      refine nx (rt (r1 rfl rfl ?_))
      exact ⟨congrArg Value.bool (by first | exact ahB_no (by omega) | exact ahB_ses hx0 hx1 (by assumption) | exact ahB_yes (by omega) (by omega) (by omega) (by omega) hx0 hx1 (by assumption)), H2.below⟩
     have p4 := dF b4
     refine qn rfl rfl rfl b4 (qn rfl rfl rfl b4 (qn rfl rfl rfl b4 (qn rfl rfl rfl b4 (qn rfl rfl rfl b4 (qn rfl rfl rfl b4 (qn rfl rfl rfl b4 (qn rfl rfl rfl b4 (qn rfl rfl rfl b4 (qn rfl rfl rfl b4 (qn rfl rfl rfl b4 (qn rfl rfl rfl b4 (qn rfl rfl rfl b4 (kq (fun _ _ => pickF rfl rfl rfl rfl b4 rfl e1) (kq (fun _ _ => asg (v := .bool false) rfl rfl e1) (zq ?_)))))))))))))))
     intro w1 xt1
     have H2 := H1.ext xt1
     refine nx (rt (r1 rfl rfl ?_))
     exact ⟨congrArg Value.bool (by first | exact ahB_no (by omega) | exact ahB_ses hx0 hx1 (by assumption) | exact ahB_yes (by omega) (by omega) (by omega) (by omega) hx0 hx1 (by assumption)), H2.below⟩
    have p3 := dF b3
    refine qn rfl rfl rfl b3 (qn rfl rfl rfl b3 (qn rfl rfl rfl b3 (qn rfl rfl rfl b3 (qn rfl rfl rfl b3 (qn rfl rfl rfl b3 (qn rfl rfl rfl b3 (qn rfl rfl rfl b3 (qn rfl rfl rfl b3 (qn rfl rfl rfl b3 (qn rfl rfl rfl b3 (qn rfl rfl rfl b3 (qn rfl rfl rfl b3 (kq (fun _ _ => pickF rfl rfl rfl rfl b3 rfl e1) (kq (fun _ _ => mv (v := .bool false) rfl rfl e1) (qn rfl rfl rfl rfl (qn rfl rfl rfl rfl (qn rfl rfl rfl rfl (qn rfl rfl rfl rfl (qn rfl rfl rfl rfl (qn rfl rfl rfl rfl (qn rfl rfl rfl rfl (qn rfl rfl rfl rfl (qn rfl rfl rfl rfl (qn rfl rfl rfl rfl (qn rfl rfl rfl rfl (qn rfl rfl rfl rfl (qn rfl rfl rfl rfl (kq (fun _ _ => pickF rfl rfl rfl rfl rfl rfl e1) (kq (fun _ _ => asg (v := .bool false) rfl rfl e1) (zq ?_))))))))))))))))))))))))))))))
    intro w1 xt1
    have H2 := H1.ext xt1
    refine nx (rt (r1 rfl rfl ?_))
    exact ⟨congrArg Value.bool (by first | exact ahB_no (by omega) | exact ahB_ses hx0 hx1 (by assumption) | exact ahB_yes (by omega) (by omega) (by omega) (by omega) hx0 hx1 (by assumption)), H2.below⟩
   have p2 := dF b2
   refine qn rfl rfl rfl b2 (qn rfl rfl rfl b2 (qn rfl rfl rfl b2 (qn rfl rfl rfl b2 (qn rfl rfl rfl b2 (kq (fun _ _ => pickF rfl rfl rfl rfl b2 rfl e1) (kq (fun _ _ => mv (v := .bool false) rfl rfl e1) (qn rfl rfl rfl rfl (qn rfl rfl rfl rfl (qn rfl rfl rfl rfl (qn rfl rfl rfl rfl (qn rfl rfl rfl rfl (qn rfl rfl rfl rfl (qn rfl rfl rfl rfl (qn rfl rfl rfl rfl (qn rfl rfl rfl rfl (qn rfl rfl rfl rfl (qn rfl rfl rfl rfl (qn rfl rfl rfl rfl (qn rfl rfl rfl rfl (kq (fun _ _ => pickF rfl rfl rfl rfl rfl rfl e1) (kq (fun _ _ => mv (v := .bool false) rfl rfl e1) (qn rfl rfl rfl rfl (qn rfl rfl rfl rfl (qn rfl rfl rfl rfl (qn rfl rfl rfl rfl (qn rfl rfl rfl rfl (qn rfl rfl rfl rfl (qn rfl rfl rfl rfl (qn rfl rfl rfl rfl (qn rfl rfl rfl rfl (qn rfl rfl rfl rfl (qn rfl rfl rfl rfl (qn rfl rfl rfl rfl (qn rfl rfl rfl rfl (kq (fun _ _ => pickF rfl rfl rfl rfl rfl rfl e1) (kq (fun _ _ => asg (v := .bool false) rfl rfl e1) (zq ?_)))))))))))))))))))))))))))))))))))))
   intro w1 xt1
   have H2 := H1.ext xt1
   refine nx (rt (r1 rfl rfl ?_))
   exact ⟨congrArg Value.bool (by first | exact ahB_no (by omega) | exact ahB_ses hx0 hx1 (by assumption) | exact ahB_yes (by omega) (by omega) (by omega) (by omega) hx0 hx1 (by assumption)), H2.below⟩
  have p1 := dF b1
  refine qn rfl rfl rfl b1 (qn rfl rfl rfl b1 (qn rfl rfl rfl b1 (qn rfl rfl rfl b1 (qn rfl rfl rfl b1 (kq (fun _ _ => pickF rfl rfl rfl rfl b1 rfl e1) (kq (fun _ _ => mv (v := .bool false) rfl rfl e1) (qn rfl rfl rfl rfl (qn rfl rfl rfl rfl (qn rfl rfl rfl rfl (qn rfl rfl rfl rfl (qn rfl rfl rfl rfl (kq (fun _ _ => pickF rfl rfl rfl rfl rfl rfl e1) (kq (fun _ _ => mv (v := .bool false) rfl rfl e1) (qn rfl rfl rfl rfl (qn rfl rfl rfl rfl (qn rfl rfl rfl rfl (qn rfl rfl rfl rfl (qn rfl rfl rfl rfl (qn rfl rfl rfl rfl (qn rfl rfl rfl rfl (qn rfl rfl rfl rfl (qn rfl rfl rfl rfl (qn rfl rfl rfl rfl (qn rfl rfl rfl rfl (qn rfl rfl rfl rfl (qn rfl rfl rfl rfl (kq (fun _ _ => pickF rfl rfl rfl rfl rfl rfl e1) (kq (fun _ _ => mv (v := .bool false) rfl rfl e1) (qn rfl rfl rfl rfl (qn rfl rfl rfl rfl (qn rfl rfl rfl rfl (qn rfl rfl rfl rfl (qn rfl rfl rfl rfl (qn rfl rfl rfl rfl (qn rfl rfl rfl rfl (qn rfl rfl rfl rfl (qn rfl rfl rfl rfl (qn rfl rfl rfl rfl (qn rfl rfl rfl rfl (qn rfl rfl rfl rfl (qn rfl rfl rfl rfl (kq (fun _ _ => pickF rfl rfl rfl rfl rfl rfl e1) (kq (fun _ _ => asg (v := .bool false) rfl rfl e1) (zq ?_))))))))))))))))))))))))))))))))))))))))))))
  intro w1 xt1
  have H2 := H1.ext xt1
  refine nx (rt (r1 rfl rfl ?_))
  exact ⟨congrArg Value.bool (by first | exact ahB_no (by omega) | exact ahB_ses hx0 hx1 (by assumption) | exact ahB_yes (by omega) (by omega) (by omega) (by omega) hx0 hx1 (by assumption)), H2.below⟩
 have p0 := dF b0
 refine qn rfl rfl rfl b0 (qn rfl rfl rfl b0 (kq (fun _ _ => pickF rfl rfl rfl rfl b0 rfl e1) (kq (fun _ _ => mv (v := .bool false) rfl rfl e1) (qn rfl rfl rfl rfl (qn rfl rfl rfl rfl (qn rfl rfl rfl rfl (qn rfl rfl rfl rfl (qn rfl rfl rfl rfl (kq (fun _ _ => pickF rfl rfl rfl rfl rfl rfl e1) (kq (fun _ _ => mv (v := .bool false) rfl rfl e1) (qn rfl rfl rfl rfl (qn rfl rfl rfl rfl (qn rfl rfl rfl rfl (qn rfl rfl rfl rfl (qn rfl rfl rfl rfl (kq (fun _ _ => pickF rfl rfl rfl rfl rfl rfl e1) (kq (fun _ _ => mv (v := .bool false) rfl rfl e1) (qn rfl rfl rfl rfl (qn rfl rfl rfl rfl (qn rfl rfl rfl rfl (qn rfl rfl rfl rfl (qn rfl rfl rfl rfl (qn rfl rfl rfl rfl (qn rfl rfl rfl rfl (qn rfl rfl rfl rfl (qn rfl rfl rfl rfl (qn rfl rfl rfl rfl (qn rfl rfl rfl rfl (qn rfl rfl rfl rfl (qn rfl rfl rfl rfl (kq (fun _ _ => pickF rfl rfl rfl rfl rfl rfl e1) (kq (fun _ _ => mv (v := .bool false) rfl rfl e1) (qn rfl rfl rfl rfl (qn rfl rfl rfl rfl (qn rfl rfl rfl rfl (qn rfl rfl rfl rfl (qn rfl rfl rfl rfl (qn rfl rfl rfl rfl (qn rfl rfl rfl rfl (qn rfl rfl rfl rfl (qn rfl rfl rfl rfl (qn rfl rfl rfl rfl (qn rfl rfl rfl rfl (qn rfl rfl rfl rfl (qn rfl rfl rfl rfl (kq (fun _ _ => pickF rfl rfl rfl rfl rfl rfl e1) (kq (fun _ _ => asg (v := .bool false) rfl rfl e1) (zq ?_))))))))))))))))))))))))))))))))))))))))))))))))
 intro w1 xt1
 have H2 := H1.ext xt1
 refine nx (rt (r1 rfl rfl ?_))
 exact ⟨congrArg Value.bool (by first | exact ahB_no (by omega) | exact ahB_ses hx0 hx1 (by assumption) | exact ahB_yes (by omega) (by omega) (by omega) (by omega) hx0 hx1 (by assumption)), H2.below⟩
theorem ref12_Po {a_fv : OA} {n_fv c_fv : Nat} {a_fi : OA} {c_fi : Nat} {fi : List ItemL} {a_fo : OA} {n_fo c_fo : Nat} (hM : ∀ b, M b → b < w.heap.size) (h_fi : RV M w (.slice a_fi fi.length c_fi) fi) (ho : OrdI fi) (hn_fi : fi.length ≤ 4096) : Calls Tryz.prog 99 #[.agg #[.slice a_fv n_fv c_fv, .slice a_fi fi.length c_fi, .slice a_fo n_fo c_fo]] w (Ret fun v w' => ∃ (a0 : OA) (c0 : Nat), v = .agg #[.int .i64 (fi.length : Int), .slice a0 (poR fi).length c0] ∧ Ext w w' ∧ RV M w' (.slice a0 (poR fi).length c0) (poR fi)) := by
 refine enter 40 Tryz.func99 rfl rfl rfl fun f0 ha => ?_
 have H := HI.start (M0 := M) (w := w) hM
 have H0 := H.put (it := iL a_fi fi c_fi) rfl (by rw [MS_nil]; exact h_fi)
 have ln_fi := rv_len h_fi
 have i0 : f0 0 = .agg #[.slice a_fv n_fv c_fv, sL a_fi fi c_fi, .slice a_fo n_fo c_fo] := ha 0 (by simp)
 refine sq (rg (k (bx H0 rfl i0 ?_)))
 intro bb0 w0 xt0 (H1 : HI M w w0 [box bb0 #[.slice a_fv n_fv c_fv, sL a_fi fi c_fi, .slice a_fo n_fo c_fo] 32, iL a_fi fi c_fi])
 refine k (al H1 ty68 ?_)
 intro bb1 w1 xt1 (H2 : HI M w w1 [box bb1 #[iV 0, .slice none 0 0] 68, box bb0 #[.slice a_fv n_fv c_fv, sL a_fi fi c_fi, .slice a_fo n_fo c_fo] 32, iL a_fi fi c_fi])
 refine z (nx (sq (rg (k (fa fl32_1 rfl rfl (k (lx H2 1 rfl ty29 rfl rfl rfl (k (lnS rfl rfl un29 (k ?_))))))))))
 have cc0 := ref03_New (n := (fi.length : Int)) (w := w1) H2.mb (by unfold I64 at *; omega)
 refine ca go78 rfl (ec rfl e0) cc0 ?_
 rintro _ w2 ⟨a0, c0, rfl, xt2, rv0⟩
 have H3 := H2.ownsG rv0
 refine k (mv (v := .tuple #[.agg #[iV (newMN (fi.length : Int)), sL a0 (newMR (fi.length : Int)) c0], iV (newME (fi.length : Int))]) rfl rfl (k (xt rfl rfl rfl (k (xt rfl rfl rfl (k (al H3 ty68 ?_)))))))
 intro bb2 w3 xt3 (H4 : HI M w w3 [box bb2 #[iV 0, .slice none 0 0] 68, oL w 115 a0 (newMR (fi.length : Int)) c0, box bb1 #[iV 0, .slice none 0 0] 68, box bb0 #[.slice a_fv n_fv c_fv, sL a_fi fi c_fi, .slice a_fo n_fo c_fo] 32, iL a_fi fi c_fi])
 refine k (stX H4 0 rfl ty68 rfl rfl rfl rfl rfl rfl rfl ?_)
 intro w4 (H5 : HI M w w4 [box bb2 #[iV (newMN (fi.length : Int)), sL a0 (newMR (fi.length : Int)) c0] 68, oL w 115 a0 (newMR (fi.length : Int)) c0, box bb1 #[iV 0, .slice none 0 0] 68, box bb0 #[.slice a_fv n_fv c_fv, sL a_fi fi c_fi, .slice a_fo n_fo c_fo] 32, iL a_fi fi c_fi])
 refine k (asg (v := iV (newME (fi.length : Int))) rfl rfl (z (nx (sq (sq ?_)))))
 have hok_ : okN (fi.length : Int) = true := okN_iff.2 (by omega)
 obtain ⟨en, er, -⟩ := newM_yes hok_
 refine rg (k (asg (v := iV 0) rfl rfl (z (nx (bk ?_)))))
 have H6 := H5.freeze 1 rfl
 have H7 := H6.put (it := iL a0 (newMR (fi.length : Int)) c0) rfl (H6.rv 1 rfl)
 refine lp (fun m f w' => ∃ (i : Nat) (n_ : Int) (rs : List (List (BitVec 64))) (a1 : OA) (c1 : Nat), m = fi.length - i ∧ f 1 = pV bb0 0 ∧ f 2 = pV bb1 0 ∧ f 3 = pV bb2 0 ∧ f 5 = iV (i : Int) ∧  HI M w w' [iL a1 rs c1, box bb2 #[iV n_, sL a1 rs c1] 68, iL a0 (newMR (fi.length : Int)) c0, box bb1 #[iV 0, .slice none 0 0] 68, box bb0 #[.slice a_fv n_fv c_fv, sL a_fi fi c_fi, .slice a_fo n_fo c_fo] 32, iL a_fi fi c_fi] ∧ (i ≤ fi.length) ∧ (n_ = (fi.length : Int)) ∧ (rs = poU fi i 0)) _ ⟨0, (newMN (fi.length : Int)), (newMR (fi.length : Int)), a0, c0, rfl, rfl, rfl, rfl, (ieq rfl (by first | rfl | omega | simp)), H7, (by first | omega | assumption | simp), (by exact en), (by rw [er]; exact poU_start fi)⟩ ?_
 rintro _ f0 w5 ⟨i, n_, rs, a1, c1, rfl, s0, s1, s2, s3, H8, hi_, h1, h2⟩
 refine sq (sq (rg (k (mv rfl s3 (k (fa fl32_1 rfl s0 (k (lx H8 4 rfl ty29 rfl rfl rfl (k (lnS rfl rfl un29 (k (lss rfl rfl rfl rfl (z (nx ?_))))))))))))))
 refine cd (b := decide ((i : Int) < (fi.length : Int))) rfl rfl (fun b0 => ?_) (fun b0 => ?_)
 ·
  have p0 := dT b0
  refine sk (nx (sq (bk (sq (rg (k (asg (v := iV 0) rfl rfl (z (nx (bk ?_))))))))))
  have H9 := H8.put (it := iL a1 rs c1) rfl (H8.rv 0 rfl)
  refine lp (fun m f w' => ∃ (j : Nat) (n2_ : Int) (rs2 : List (List (BitVec 64))) (a2 : OA) (c2 : Nat), m = fi.length - j ∧ f 1 = pV bb0 0 ∧ f 2 = pV bb1 0 ∧ f 3 = pV bb2 0 ∧ f 5 = iV (i : Int) ∧ f 6 = iV (j : Int) ∧  HI M w w' [iL a2 rs2 c2, iL a1 rs c1, box bb2 #[iV n2_, sL a2 rs2 c2] 68, iL a0 (newMR (fi.length : Int)) c0, box bb1 #[iV 0, .slice none 0 0] 68, box bb0 #[.slice a_fv n_fv c_fv, sL a_fi fi c_fi, .slice a_fo n_fo c_fo] 32, iL a_fi fi c_fi] ∧ (j ≤ fi.length) ∧ (n2_ = (fi.length : Int)) ∧ (rs2 = poU fi i j)) _ ⟨0, n_, rs, a1, c1, rfl, s0, s1, s2, s3, (ieq rfl (by first | rfl | omega | simp)), H9, (by first | omega | assumption | simp), (by exact h1), (by exact h2)⟩ ?_
  rintro _ f1 w6 ⟨j, n2_, rs2, a2, c2, rfl, s4, s5, s6, s7, s8, H10, hj_, g1, g2⟩
  refine sq (sq (rg (k (mv rfl s8 (k (fa fl32_1 rfl s4 (k (lx H10 5 rfl ty29 rfl rfl rfl (k (lnS rfl rfl un29 (k (lss rfl rfl rfl rfl (z (nx ?_))))))))))))))
  refine cd (b := decide ((j : Int) < (fi.length : Int))) rfl rfl (fun b1 => ?_) (fun b1 => ?_)
  ·
   have p1 := dT b1
   refine sk (nx (sq (bk (sq (rg (k (ldX H10 5 rfl ty32 rfl s4 (by decide) rfl (k (mv rfl s7 (k (mv rfl s8 (k ?_))))))))))))
   have cc1 := ref12_Ahead (fi := fi) (i := (i : Int)) (j := (j : Int)) (a_fv := a_fv) (n_fv := n_fv) (c_fv := c_fv) (a_fo := a_fo) (n_fo := n_fo) (c_fo := c_fo) (w := w6) H10.mb (H10.rv 6 rfl) (by unfold I64 at *; omega) (by unfold I64 at *; omega)
   refine ca go97 rfl (ec rfl (ec rfl (ec rfl e0))) cc1 ?_
   rintro _ w7 ⟨rfl, xt4⟩
   have H11 := H10.ext xt4
   refine z (nx ?_)
   refine cd (b := ahB fi (i : Int) (j : Int)) rfl rfl (fun b2 => ?_) (fun b2 => ?_)
   ·
    refine rg (k (ldX H11 2 rfl ty68 rfl s6 (by decide) rfl (k (mv rfl s7 (k (mv rfl s8 (k ?_)))))))
    have cc2 := ref03_Set (mn := n2_) (mr := rs2) (i := (i : Int)) (j := (j : Int)) (w := w7) H11.mb (by first | (rw [g1]; unfold I64; omega) | (rw [h1]; unfold I64; omega)) (H11.rv 0 rfl) (by unfold I64 at *; omega) (by unfold I64 at *; omega) (by rw [g2, poU_len, g1]) (by rw [g2]; exact matP_small (by omega)) (by rw [g1]; omega)
    refine ca go36 rfl (ec rfl (ec rfl (ec rfl e0))) cc2 ?_
    rintro _ w8 ⟨a3, c3, rfl, xt5, rv1⟩
    have H12 := H11.ownsG rv1
    refine k (mv (v := .tuple #[.agg #[iV (setMN n2_ (i : Int) (j : Int)), sL a3 (setMR n2_ rs2 (i : Int) (j : Int)) c3], iV (setME n2_ (i : Int) (j : Int))]) rfl rfl (k (xt rfl rfl rfl (k (xt rfl rfl rfl (k (stX H12 3 rfl ty68 rfl rfl s6 rfl rfl rfl rfl ?_)))))))
    intro w9 (H13 : HI M w w9 [oL w 115 a3 (setMR n2_ rs2 (i : Int) (j : Int)) c3, iL a2 rs2 c2, iL a1 rs c1, box bb2 #[iV (setMN n2_ (i : Int) (j : Int)), sL a3 (setMR n2_ rs2 (i : Int) (j : Int)) c3] 68, iL a0 (newMR (fi.length : Int)) c0, box bb1 #[iV 0, .slice none 0 0] 68, box bb0 #[.slice a_fv n_fv c_fv, sL a_fi fi c_fi, .slice a_fo n_fo c_fo] 32, iL a_fi fi c_fi])
    refine z (inb_normal (nx (rg (k (mv rfl s8 (k (add rfl rfl rfl rfl (by unfold I64 at *; omega) (k (asg (v := iV ((j : Int) + 1)) rfl rfl (z ?_))))))))))
    have H14 := H13.freeze 0 rfl
    have H15 := H14.put (it := iL a3 (setMR n2_ rs2 (i : Int) (j : Int)) c3) rfl (H14.rv 0 rfl)
    have H16 : HI M w w9 [iL a3 (setMR n2_ rs2 (i : Int) (j : Int)) c3, iL a1 rs c1, box bb2 #[iV (setMN n2_ (i : Int) (j : Int)), sL a3 (setMR n2_ rs2 (i : Int) (j : Int)) c3] 68, iL a0 (newMR (fi.length : Int)) c0, box bb1 #[iV 0, .slice none 0 0] 68, box bb0 #[.slice a_fv n_fv c_fv, sL a_fi fi c_fi, .slice a_fo n_fo c_fo] 32, iL a_fi fi c_fi] := H15.pickN [0, 3, 4, 5, 6, 7, 8] (by decide) rfl
    refine loopN _ ?_ ⟨(j + 1), (setMN n2_ (i : Int) (j : Int)), (setMR n2_ rs2 (i : Int) (j : Int)), a3, c3, rfl, s4, s5, s6, s7, (ieq rfl (by first | rfl | omega)), H16, (by first | omega | assumption | simp), (by first | exact g1 | (rw [g1]; exact (set_yes (rs := rs2) (by rw [inM_nat]; simp; omega)).1)), (by first | (rw [g1, g2]; exact poU_yes (by omega) (by omega) (by rw [← ahA_N, ← ahB_A ho]; assumption)) | (rw [g2]; exact poU_no (by rw [← ahA_N, ← ahB_A ho]; assumption)))⟩
    omega
   refine sk (inb_normal (nx (rg (k (mv rfl s8 (k (add rfl rfl rfl rfl (by unfold I64 at *; omega) (k (asg (v := iV ((j : Int) + 1)) rfl rfl (z ?_))))))))))
   have H12 := H11.put (it := iL a2 rs2 c2) rfl (H11.rv 0 rfl)
   have H13 : HI M w w7 [iL a2 rs2 c2, iL a1 rs c1, box bb2 #[iV n2_, sL a2 rs2 c2] 68, iL a0 (newMR (fi.length : Int)) c0, box bb1 #[iV 0, .slice none 0 0] 68, box bb0 #[.slice a_fv n_fv c_fv, sL a_fi fi c_fi, .slice a_fo n_fo c_fo] 32, iL a_fi fi c_fi] := H12.pickN [0, 2, 3, 4, 5, 6, 7] (by decide) rfl
   refine loopN _ ?_ ⟨(j + 1), n2_, rs2, a2, c2, rfl, s4, s5, s6, s7, (ieq rfl (by first | rfl | omega)), H13, (by first | omega | assumption | simp), (by first | exact g1 | (rw [g1]; exact (set_yes (rs := rs2) (by rw [inM_nat]; simp; omega)).1)), (by first | (rw [g1, g2]; exact poU_yes (by omega) (by omega) (by rw [← ahA_N, ← ahB_A ho]; assumption)) | (rw [g2]; exact poU_no (by rw [← ahA_N, ← ahB_A ho]; assumption)))⟩
   omega
  have p1 := dF b1
  refine ex (then_exit (loop_exit (inb_here (inb_normal (nx (rg (k (mv rfl s7 (k (add rfl rfl rfl rfl (by unfold I64 at *; omega) (k (asg (v := iV ((i : Int) + 1)) rfl rfl (z ?_)))))))))))))
  have H11 := H10.put (it := iL a2 rs2 c2) rfl (H10.rv 0 rfl)
  have H12 : HI M w w6 [iL a2 rs2 c2, box bb2 #[iV n2_, sL a2 rs2 c2] 68, iL a0 (newMR (fi.length : Int)) c0, box bb1 #[iV 0, .slice none 0 0] 68, box bb0 #[.slice a_fv n_fv c_fv, sL a_fi fi c_fi, .slice a_fo n_fo c_fo] 32, iL a_fi fi c_fi] := H11.pickN [0, 3, 4, 5, 6, 7] (by decide) rfl
  refine loopN _ ?_ ⟨(i + 1), n2_, rs2, a2, c2, rfl, s4, s5, s6, (ieq rfl (by first | rfl | omega)), H12, (by first | omega | assumption | simp), (by exact g1), (by rw [g2]; exact poU_row (by omega))⟩
  omega
 have p0 := dF b0
 refine ex (then_exit (loop_exit (inb_here (nx (sq (rg (k (ldX H8 1 rfl ty68 rfl s2 (by decide) rfl (k (stX H8 3 rfl ty68 rfl rfl s1 rfl rfl rfl rfl ?_))))))))))
 intro w6 (H9 : HI M w w6 [iL a1 rs c1, box bb2 #[iV n_, sL a1 rs c1] 68, iL a0 (newMR (fi.length : Int)) c0, box bb1 #[iV n_, sL a1 rs c1] 68, box bb0 #[.slice a_fv n_fv c_fv, sL a_fi fi c_fi, .slice a_fo n_fo c_fo] 32, iL a_fi fi c_fi])
 refine z (nx (rt (rc1 H9 3 rfl ty68 rfl rfl s1 rfl (by decide) ?_)))
 have e0 : (n_ : Int) = (fi.length : Int) := by exact h1
 have e1 : (rs : List (List (BitVec 64))) = poR fi := by rw [h2]; exact poU_end (by omega)
 have ev_ := cg2 (fun (x_0 : Int) (x_1 : List (List (BitVec 64))) => (.agg #[iV x_0, .slice a1 x_1.length c1] : Value)) e0 e1
 exact ⟨a1, c1, ev_, H9.below, (congrArg (fun (x_ : List (List (BitVec 64))) => RV _ _ (.slice a1 x_.length c1) x_) e1).mp (H9.gives_out 0 rfl)⟩
theorem ref12_Past {a_fv : OA} {n_fv c_fv : Nat} {a_fi : OA} {c_fi : Nat} {fi : List ItemL} {a_fo : OA} {n_fo c_fo : Nat} {tt : Int} (hM : ∀ b, M b → b < w.heap.size) (h_fi : RV M w (.slice a_fi fi.length c_fi) fi) (h_tt : I64 tt) (hn_fi : fi.length ≤ 4096) : Calls Tryz.prog 96 #[.agg #[.slice a_fv n_fv c_fv, .slice a_fi fi.length c_fi, .slice a_fo n_fo c_fo], .int .i64 tt] w (Ret fun v w' => ∃ (a0 : OA) (c0 : Nat), v = .slice a0 (pastB fi tt fi.length).length c0 ∧ Ext w w' ∧ OwnsG M 3 w (pastB fi tt fi.length) (.slice a0 (pastB fi tt fi.length).length c0) w') := by
 refine enter 28 Tryz.func96 rfl rfl rfl fun f0 ha => ?_
 have H := HI.start (M0 := M) (w := w) hM
 have H0 := H.put (it := iL a_fi fi c_fi) rfl (by rw [MS_nil]; exact h_fi)
 have ln_fi := rv_len h_fi
 have i0 : f0 0 = .agg #[.slice a_fv n_fv c_fv, sL a_fi fi c_fi, .slice a_fo n_fo c_fo] := ha 0 (by simp)
 have i1 : f0 1 = iV tt := ha 1 (by simp)
 refine sq (rg (k (bx H0 rfl i0 ?_)))
 intro bb0 w0 xt0 (H1 : HI M w w0 [box bb0 #[.slice a_fv n_fv c_fv, sL a_fi fi c_fi, .slice a_fo n_fo c_fo] 32, iL a_fi fi c_fi])
 refine k (asg (v := .slice none 0 0) rfl rfl (z (nx (sq (rg (k (asg (v := .slice none 0 0) rfl rfl (z (nx (sq (sq (rg (k (asg (v := iV 0) rfl rfl (z (nx (bk ?_)))))))))))))))))
 have H2 := H1.nil_ Int 3
 refine lp (fun m f w' => ∃ (j : Nat) (xs : List Int) (a0 : OA) (c0 : Nat), m = fi.length - j ∧ f 1 = iV tt ∧ f 2 = pV bb0 0 ∧ f 5 = sL a0 xs c0 ∧ f 6 = iV (j : Int) ∧  HI M w w' [oL w 3 a0 xs c0, box bb0 #[.slice a_fv n_fv c_fv, sL a_fi fi c_fi, .slice a_fo n_fo c_fo] 32, iL a_fi fi c_fi] ∧ (j ≤ fi.length) ∧ (xs = pastB fi tt j)) _ ⟨0, ([] : List Int), none, 0, rfl, i1, rfl, rfl, (ieq rfl (by first | rfl | omega | simp)), H2, (by first | omega | assumption | simp), (by rfl)⟩ ?_
 rintro _ f0 w1 ⟨j, xs, a0, c0, rfl, s0, s1, s2, s3, H3, hk, hs⟩
 refine sq (sq (rg (k (mv rfl s3 (k (fa fl32_1 rfl s1 (k (lx H3 1 rfl ty29 rfl rfl rfl (k (lnS rfl rfl un29 (k (lss rfl rfl rfl rfl (z (nx ?_))))))))))))))
 refine cd (b := decide ((j : Int) < (fi.length : Int))) rfl rfl (fun b0 => ?_) (fun b0 => ?_)
 ·
  have p0 := dT b0
  refine sk (nx (sq (bk (sq (rg (k (mv rfl s3 (k (mv rfl s0 (k (eql rfl rfl rfl rfl (k (mv (v := .bool (decide ((j : Int) = tt))) rfl rfl ?_)))))))))))))
  rcases bE (decide ((j : Int) = tt)) with b1 | b1
  ·
   have p1 := dT b1
   refine k (gn rfl rfl rfl b1 (k (gn rfl rfl rfl b1 (k (gn rfl rfl rfl b1 (k (gn rfl rfl rfl b1 (k (pickT rfl rfl rfl rfl b1 rfl (z (nx (cdT rfl rfl rfl (rg (k (mv rfl s2 (k (mv rfl s3 (k (bs (xs := ([(j : Int)] : List Int)) (cells := #[iV (j : Int)]) (e := 3) H3 rfl (pbc rfl pb0) (fun _ => by kernel_rfl) ⟨[iV (j : Int)], [], rfl, ⟨rfl, (show I64 ((j : Int)) from (by unfold I64 at *; omega))⟩, rfl⟩ rfl (by decide) ?_)))))))))))))))))))
   intro g0 w2 xt1 H4
   refine k (apB H4 1 rfl rfl rfl rfl rfl rfl (own_src (H4.at_ 0 rfl)) un30 ty3 rfl (by have h_ := pastB_len fi tt j; rw [hs]; simp only [lC_, lN_]; omega) rfl ?_)
   intro a1 c1 w3 (H5 : HI M w w3 [own w.heap.size 3 (.slice (some ⟨g0, 0, none⟩) 1 1) ([(j : Int)] : List Int), oL w 3 a1 (xs ++ ([(j : Int)] : List Int)) c1, box bb0 #[.slice a_fv n_fv c_fv, sL a_fi fi c_fi, .slice a_fo n_fo c_fo] 32, iL a_fi fi c_fi])
   refine k (asg (v := sL a1 (xs ++ ([(j : Int)] : List Int)) c1) rfl rfl (z (inb_normal (nx (rg (k (mv rfl s3 (k (add rfl rfl rfl rfl (by unfold I64 at *; omega) (k (asg (v := iV ((j : Int) + 1)) rfl rfl (z ?_))))))))))))
   have H6 : HI M w w3 [oL w 3 a1 (xs ++ ([(j : Int)] : List Int)) c1, box bb0 #[.slice a_fv n_fv c_fv, sL a_fi fi c_fi, .slice a_fo n_fo c_fo] 32, iL a_fi fi c_fi] := H5.pickN [1, 2, 3] (by decide) rfl
   refine loopN _ ?_ ⟨(j + 1), (xs ++ ([(j : Int)] : List Int)), a1, c1, rfl, s0, s1, rfl, (ieq rfl (by first | rfl | omega)), H6, (by first | omega | assumption | simp), (by rw [hs]; first | exact pastB_yes (by rw [b1]; rfl) | exact pastB_yes (by rw [b1, b2]; rfl) | exact pastB_no (by rw [b1, b2]; rfl))⟩
   omega
  have p1 := dF b1
  refine k (gy rfl rfl rfl b1 (ldX H3 1 rfl ty32 rfl s1 (by decide) rfl (k (gy rfl rfl rfl b1 (mv rfl s3 (k (gy rfl rfl rfl b1 (mv rfl s0 (k (gy rfl rfl rfl b1 ?_))))))))))
  have cc0 := ref12_Ahead (fi := fi) (i := (j : Int)) (j := tt) (a_fv := a_fv) (n_fv := n_fv) (c_fv := c_fv) (a_fo := a_fo) (n_fo := n_fo) (c_fo := c_fo) (w := w1) H3.mb (H3.rv 2 rfl) (by unfold I64 at *; omega) h_tt
  refine ca go97 rfl (ec rfl (ec rfl (ec rfl e0))) cc0 ?_
  rintro _ w2 ⟨rfl, xt1⟩
  have H4 := H3.ext xt1
  refine k (pickF rfl rfl rfl rfl b1 rfl (z (nx ?_)))
  refine cd (b := ahB fi (j : Int) tt) rfl rfl (fun b2 => ?_) (fun b2 => ?_)
  ·
   refine rg (k (mv rfl s2 (k (mv rfl s3 (k (bs (xs := ([(j : Int)] : List Int)) (cells := #[iV (j : Int)]) (e := 3) H4 rfl (pbc rfl pb0) (fun _ => by kernel_rfl) ⟨[iV (j : Int)], [], rfl, ⟨rfl, (show I64 ((j : Int)) from (by unfold I64 at *; omega))⟩, rfl⟩ rfl (by decide) ?_))))))
   intro g0 w3 xt2 H5
   refine k (apB H5 1 rfl rfl rfl rfl rfl rfl (own_src (H5.at_ 0 rfl)) un30 ty3 rfl (by have h_ := pastB_len fi tt j; rw [hs]; simp only [lC_, lN_]; omega) rfl ?_)
   intro a1 c1 w4 (H6 : HI M w w4 [own w.heap.size 3 (.slice (some ⟨g0, 0, none⟩) 1 1) ([(j : Int)] : List Int), oL w 3 a1 (xs ++ ([(j : Int)] : List Int)) c1, box bb0 #[.slice a_fv n_fv c_fv, sL a_fi fi c_fi, .slice a_fo n_fo c_fo] 32, iL a_fi fi c_fi])
   refine k (asg (v := sL a1 (xs ++ ([(j : Int)] : List Int)) c1) rfl rfl (z (inb_normal (nx (rg (k (mv rfl s3 (k (add rfl rfl rfl rfl (by unfold I64 at *; omega) (k (asg (v := iV ((j : Int) + 1)) rfl rfl (z ?_))))))))))))
   have H7 : HI M w w4 [oL w 3 a1 (xs ++ ([(j : Int)] : List Int)) c1, box bb0 #[.slice a_fv n_fv c_fv, sL a_fi fi c_fi, .slice a_fo n_fo c_fo] 32, iL a_fi fi c_fi] := H6.pickN [1, 2, 3] (by decide) rfl
   refine loopN _ ?_ ⟨(j + 1), (xs ++ ([(j : Int)] : List Int)), a1, c1, rfl, s0, s1, rfl, (ieq rfl (by first | rfl | omega)), H7, (by first | omega | assumption | simp), (by rw [hs]; first | exact pastB_yes (by rw [b1]; rfl) | exact pastB_yes (by rw [b1, b2]; rfl) | exact pastB_no (by rw [b1, b2]; rfl))⟩
   omega
  refine sk (inb_normal (nx (rg (k (mv rfl s3 (k (add rfl rfl rfl rfl (by unfold I64 at *; omega) (k (asg (v := iV ((j : Int) + 1)) rfl rfl (z ?_))))))))))
  refine loopN _ ?_ ⟨(j + 1), xs, a0, c0, rfl, s0, s1, s2, (ieq rfl (by first | rfl | omega)), H4, (by first | omega | assumption | simp), (by rw [hs]; first | exact pastB_yes (by rw [b1]; rfl) | exact pastB_yes (by rw [b1, b2]; rfl) | exact pastB_no (by rw [b1, b2]; rfl))⟩
  omega
 have p0 := dF b0
 refine ex (then_exit (loop_exit (inb_here (nx (sq (rg (k (mv rfl s2 (k (asg (v := sL a0 xs c0) rfl rfl (z (nx (rt (r1 rfl rfl ?_))))))))))))))
 have e0 : (xs : List Int) = pastB fi tt fi.length := by rw [hs, show j = fi.length from by omega]
 have ev_ := cg1 (fun (x_0 : List Int) => (.slice a0 x_0.length c0 : Value)) e0
 exact ⟨a0, c0, ev_, H3.below, (congrArg (fun (x_ : List Int) => OwnsG _ _ _ x_ (.slice a0 x_.length c0) _) e0).mp (H3.ownsG_out 0 rfl)⟩
theorem go42 : GoF Tryz.prog 42 := ⟨_, _, Tryz.func42, rfl, by kernel_rfl⟩
theorem ref11_From {a_fv : OA} {n_fv c_fv : Nat} {a_fi : OA} {c_fi : Nat} {fi : List ItemL} {a_fo : OA} {n_fo c_fo : Nat} (hM : ∀ b, M b → b < w.heap.size) (h_fi : RV M w (.slice a_fi fi.length c_fi) fi) (hn_fi : fi.length ≤ 4096) : Calls Tryz.prog 42 #[.agg #[.slice a_fv n_fv c_fv, .slice a_fi fi.length c_fi, .slice a_fo n_fo c_fo]] w (Ret fun v w' => ∃ (a0 : OA) (c0 : Nat), v = .slice a0 (fromR fi).length c0 ∧ Ext w w' ∧ OwnsG M 3 w (fromR fi) (.slice a0 (fromR fi).length c0) w') := by
 refine enter 42 Tryz.func42 rfl rfl rfl fun f0 ha => ?_
 have H := HI.start (M0 := M) (w := w) hM
 have H0 := H.put (it := iL a_fi fi c_fi) rfl (by rw [MS_nil]; exact h_fi)
 have ln_fi := rv_len h_fi
 have i0 : f0 0 = .agg #[.slice a_fv n_fv c_fv, sL a_fi fi c_fi, .slice a_fo n_fo c_fo] := ha 0 (by simp)
 refine sq (rg (k (bx H0 rfl i0 ?_)))
 intro bb0 w0 xt0 (H1 : HI M w w0 [box bb0 #[.slice a_fv n_fv c_fv, sL a_fi fi c_fi, .slice a_fo n_fo c_fo] 32, iL a_fi fi c_fi])
 refine k (asg (v := .slice none 0 0) rfl rfl (z (nx (sq (rg (k (asg (v := .slice none 0 0) rfl rfl (z (nx (sq (sq (rg (k (asg (v := iV 0) rfl rfl (z (nx (bk ?_)))))))))))))))))
 have H2 := H1.nil_ Int 3
 refine lp (fun m f w' => ∃ (j : Nat) (xs : List Int) (a0 : OA) (c0 : Nat), m = fi.length - j ∧ f 1 = pV bb0 0 ∧ f 3 = sL a0 xs c0 ∧ f 4 = iV (j : Int) ∧  HI M w w' [oL w 3 a0 xs c0, box bb0 #[.slice a_fv n_fv c_fv, sL a_fi fi c_fi, .slice a_fo n_fo c_fo] 32, iL a_fi fi c_fi] ∧ (j ≤ fi.length) ∧ (xs = (fi.take j).map (frI fi))) _ ⟨0, ([] : List Int), none, 0, rfl, rfl, rfl, (ieq rfl (by first | rfl | omega | simp)), H2, (by first | omega | assumption | simp), (by rfl)⟩ ?_
 rintro _ f0 w1 ⟨j, xs, a0, c0, rfl, s0, s1, s2, H3, hk, hs⟩
 refine sq (sq (rg (k (mv rfl s2 (k (fa fl32_1 rfl s0 (k (lx H3 1 rfl ty29 rfl rfl rfl (k (lnS rfl rfl un29 (k (lss rfl rfl rfl rfl (z (nx ?_))))))))))))))
 refine cd (b := decide ((j : Int) < (fi.length : Int))) rfl rfl (fun b0 => ?_) (fun b0 => ?_)
 ·
  have p0 := dT b0
  refine sk (nx (sq (bk (sq (rg (k (fa fl32_1 rfl s0 (k (lx H3 1 rfl ty29 rfl rfl rfl (k (mv rfl s2 (k (ia (H3.rv 2 rfl) rfl rfl rfl rfl (by omega) un29 ty85 ?_)))))))))))))
  intro ad0 x0 hx0 hA0
  refine k (ldW hA0.w ty85 rfl rfl ?_)
  intro v0 rv0
  obtain ⟨_, ⟨_, _, rfl, ⟨rfl, rv1⟩, ⟨_, _, rfl, ⟨rfl, rv2⟩, ⟨_, _, rfl, rfl, ⟨_, _, rfl, ⟨rfl, rv3⟩, ⟨rfl, rv4⟩⟩⟩⟩⟩, rfl⟩ := rv0
  refine k (al H3 ty85 ?_)
  intro bb1 w2 xt1 (H4 : HI M w w2 [box bb1 #[iV 0, iV 0, .bool false, iV 0, iV 0] 85, oL w 3 a0 xs c0, box bb0 #[.slice a_fv n_fv c_fv, sL a_fi fi c_fi, .slice a_fo n_fo c_fo] 32, iL a_fi fi c_fi])
  refine k (stX H4 0 rfl ty85 rfl rfl rfl rfl rfl rfl rfl ?_)
  intro w3 (H5 : HI M w w3 [box bb1 #[iV x0.1, iV x0.2.1, .bool x0.2.2.1, iV x0.2.2.2.1, iV x0.2.2.2.2] 85, oL w 3 a0 xs c0, box bb0 #[.slice a_fv n_fv c_fv, sL a_fi fi c_fi, .slice a_fo n_fo c_fo] 32, iL a_fi fi c_fi])
  refine z (nx (sq (rg (k (asg (v := iV (-2)) rfl rfl (z (nx (sq (rg (k (ldX H5 2 rfl ty32 rfl s0 (by decide) rfl (k (fa fl85_3 rfl rfl (k (lx H5 0 rfl ty3 rfl rfl rfl (k (fa fl85_4 rfl rfl (k (lx H5 0 rfl ty3 rfl rfl rfl (k ?_))))))))))))))))))))
  have cc0 := ref10_Write (fi := fi) (vr := x0.2.2.2.1) (val := x0.2.2.2.2) (a_fv := a_fv) (n_fv := n_fv) (c_fv := c_fv) (a_fo := a_fo) (n_fo := n_fo) (c_fo := c_fo) (w := w3) H5.mb (H5.rv 3 rfl) rv3 rv4
  refine ca go41 rfl (ec rfl (ec rfl (ec rfl e0))) cc0 ?_
  rintro _ w4 ⟨rfl, xt2⟩
  have H6 := H5.ext xt2
  refine k (mv (v := .tuple #[iV (max (wrI fi x0.2.2.2.1 x0.2.2.2.2) 0), .bool (decide (0 ≤ wrI fi x0.2.2.2.1 x0.2.2.2.2))]) rfl rfl (k (xt rfl rfl rfl (k (xt rfl rfl rfl (k (asg (v := iV (max (wrI fi x0.2.2.2.1 x0.2.2.2.2) 0)) rfl rfl (k (asg (v := .bool (decide (0 ≤ wrI fi x0.2.2.2.1 x0.2.2.2.2))) rfl rfl (z (nx (sq (sq (rg (k (fa fl85_2 rfl rfl (k (lx H6 0 rfl ty4 rfl rfl rfl (z (nx ?_))))))))))))))))))))
  refine cd (b := x0.2.2.1) rfl rfl (fun b1 => ?_) (fun b1 => ?_)
  ·
   refine rg (k (asg (v := iV (-3)) rfl rfl (z (nx (rg (k (mv rfl s1 (k (mv (v := iV (-3)) rfl rfl (k (bs (xs := ([(-3)] : List Int)) (cells := #[iV (-3)]) (e := 3) H6 rfl (pbc rfl pb0) (fun _ => by kernel_rfl) ⟨[iV (-3)], [], rfl, ⟨rfl, (show I64 ((-3)) from (by unfold I64 at *; omega))⟩, rfl⟩ rfl (by decide) ?_)))))))))))
   intro g0 w5 xt3 H7
   refine k (apB H7 2 rfl rfl rfl rfl rfl rfl (own_src (H7.at_ 0 rfl)) un30 ty3 rfl (by rw [hs, List.length_map, lT_]; simp only [lC_, lN_]; omega) rfl ?_)
   intro a1 c1 w6 (H8 : HI M w w6 [own w.heap.size 3 (.slice (some ⟨g0, 0, none⟩) 1 1) ([(-3)] : List Int), box bb1 #[iV x0.1, iV x0.2.1, .bool x0.2.2.1, iV x0.2.2.2.1, iV x0.2.2.2.2] 85, oL w 3 a1 (xs ++ ([(-3)] : List Int)) c1, box bb0 #[.slice a_fv n_fv c_fv, sL a_fi fi c_fi, .slice a_fo n_fo c_fo] 32, iL a_fi fi c_fi])
   refine k (asg (v := sL a1 (xs ++ ([(-3)] : List Int)) c1) rfl rfl (z (inb_normal (nx (rg (k (mv rfl s2 (k (add rfl rfl rfl rfl (by unfold I64 at *; omega) (k (asg (v := iV ((j : Int) + 1)) rfl rfl (z ?_))))))))))))
   have H9 : HI M w w6 [oL w 3 a1 (xs ++ ([(-3)] : List Int)) c1, box bb0 #[.slice a_fv n_fv c_fv, sL a_fi fi c_fi, .slice a_fo n_fo c_fo] 32, iL a_fi fi c_fi] := H8.pickN [2, 3, 4] (by decide) rfl
   refine loopN _ ?_ ⟨(j + 1), (xs ++ ([(-3)] : List Int)), a1, c1, rfl, s0, rfl, (ieq rfl (by first | rfl | omega)), H9, (by first | omega | assumption | simp), (by rw [hs]; first | exact fromR_step hx0 (frI_w b1) | exact fromR_step hx0 (frI_0 b1 p2) | exact fromR_step hx0 (frI_s b1 p2 b3) | exact fromR_step hx0 (frI_n b1 p2 b3))⟩
   omega
  refine sq (rg (k (fa fl85_4 rfl rfl (k (lx H6 0 rfl ty3 rfl rfl rfl (k (eql rfl rfl rfl rfl (z (nx ?_)))))))))
  refine cd (b := decide (x0.2.2.2.2 = 0)) rfl rfl (fun b2 => ?_) (fun b2 => ?_)
  ·
   have p2 := dT b2
   refine rg (k (asg (v := iV (-1)) rfl rfl (z (nx (rg (k (mv rfl s1 (k (mv (v := iV (-1)) rfl rfl (k (bs (xs := ([(-1)] : List Int)) (cells := #[iV (-1)]) (e := 3) H6 rfl (pbc rfl pb0) (fun _ => by kernel_rfl) ⟨[iV (-1)], [], rfl, ⟨rfl, (show I64 ((-1)) from (by unfold I64 at *; omega))⟩, rfl⟩ rfl (by decide) ?_)))))))))))
   intro g0 w5 xt3 H7
   refine k (apB H7 2 rfl rfl rfl rfl rfl rfl (own_src (H7.at_ 0 rfl)) un30 ty3 rfl (by rw [hs, List.length_map, lT_]; simp only [lC_, lN_]; omega) rfl ?_)
   intro a1 c1 w6 (H8 : HI M w w6 [own w.heap.size 3 (.slice (some ⟨g0, 0, none⟩) 1 1) ([(-1)] : List Int), box bb1 #[iV x0.1, iV x0.2.1, .bool x0.2.2.1, iV x0.2.2.2.1, iV x0.2.2.2.2] 85, oL w 3 a1 (xs ++ ([(-1)] : List Int)) c1, box bb0 #[.slice a_fv n_fv c_fv, sL a_fi fi c_fi, .slice a_fo n_fo c_fo] 32, iL a_fi fi c_fi])
   refine k (asg (v := sL a1 (xs ++ ([(-1)] : List Int)) c1) rfl rfl (z (inb_normal (nx (rg (k (mv rfl s2 (k (add rfl rfl rfl rfl (by unfold I64 at *; omega) (k (asg (v := iV ((j : Int) + 1)) rfl rfl (z ?_))))))))))))
   have H9 : HI M w w6 [oL w 3 a1 (xs ++ ([(-1)] : List Int)) c1, box bb0 #[.slice a_fv n_fv c_fv, sL a_fi fi c_fi, .slice a_fo n_fo c_fo] 32, iL a_fi fi c_fi] := H8.pickN [2, 3, 4] (by decide) rfl
   refine loopN _ ?_ ⟨(j + 1), (xs ++ ([(-1)] : List Int)), a1, c1, rfl, s0, rfl, (ieq rfl (by first | rfl | omega)), H9, (by first | omega | assumption | simp), (by rw [hs]; first | exact fromR_step hx0 (frI_w b1) | exact fromR_step hx0 (frI_0 b1 p2) | exact fromR_step hx0 (frI_s b1 p2 b3) | exact fromR_step hx0 (frI_n b1 p2 b3))⟩
   omega
  have p2 := dF b2
  refine sq (rg (k (mv (v := .bool (decide (0 ≤ wrI fi x0.2.2.2.1 x0.2.2.2.2))) rfl rfl (z (nx ?_)))))
  refine cd (b := decide (0 ≤ wrI fi x0.2.2.2.1 x0.2.2.2.2)) rfl rfl (fun b3 => ?_) (fun b3 => ?_)
  ·
   have p3 := dT b3
   refine rg (k (mv (v := iV (max (wrI fi x0.2.2.2.1 x0.2.2.2.2) 0)) rfl rfl (k (asg (v := iV (max (wrI fi x0.2.2.2.1 x0.2.2.2.2) 0)) rfl rfl (z (nx (rg (k (mv rfl s1 (k (mv (v := iV (max (wrI fi x0.2.2.2.1 x0.2.2.2.2) 0)) rfl rfl (k (bs (xs := ([(max (wrI fi x0.2.2.2.1 x0.2.2.2.2) 0)] : List Int)) (cells := #[iV (max (wrI fi x0.2.2.2.1 x0.2.2.2.2) 0)]) (e := 3) H6 rfl (pbc rfl pb0) (fun _ => by kernel_rfl) ⟨[iV (max (wrI fi x0.2.2.2.1 x0.2.2.2.2) 0)], [], rfl, ⟨rfl, (show I64 ((max (wrI fi x0.2.2.2.1 x0.2.2.2.2) 0)) from (by have h_ := idxF_range (p := isW x0.2.2.2.1 x0.2.2.2.2) (r := fi); unfold wrI; unfold I64; omega))⟩, rfl⟩ rfl (by decide) ?_)))))))))))))
   intro g0 w5 xt3 H7
   refine k (apB H7 2 rfl rfl rfl rfl rfl rfl (own_src (H7.at_ 0 rfl)) un30 ty3 rfl (by rw [hs, List.length_map, lT_]; simp only [lC_, lN_]; omega) rfl ?_)
   intro a1 c1 w6 (H8 : HI M w w6 [own w.heap.size 3 (.slice (some ⟨g0, 0, none⟩) 1 1) ([(max (wrI fi x0.2.2.2.1 x0.2.2.2.2) 0)] : List Int), box bb1 #[iV x0.1, iV x0.2.1, .bool x0.2.2.1, iV x0.2.2.2.1, iV x0.2.2.2.2] 85, oL w 3 a1 (xs ++ ([(max (wrI fi x0.2.2.2.1 x0.2.2.2.2) 0)] : List Int)) c1, box bb0 #[.slice a_fv n_fv c_fv, sL a_fi fi c_fi, .slice a_fo n_fo c_fo] 32, iL a_fi fi c_fi])
   refine k (asg (v := sL a1 (xs ++ ([(max (wrI fi x0.2.2.2.1 x0.2.2.2.2) 0)] : List Int)) c1) rfl rfl (z (inb_normal (nx (rg (k (mv rfl s2 (k (add rfl rfl rfl rfl (by unfold I64 at *; omega) (k (asg (v := iV ((j : Int) + 1)) rfl rfl (z ?_))))))))))))
   have H9 : HI M w w6 [oL w 3 a1 (xs ++ ([(max (wrI fi x0.2.2.2.1 x0.2.2.2.2) 0)] : List Int)) c1, box bb0 #[.slice a_fv n_fv c_fv, sL a_fi fi c_fi, .slice a_fo n_fo c_fo] 32, iL a_fi fi c_fi] := H8.pickN [2, 3, 4] (by decide) rfl
   refine loopN _ ?_ ⟨(j + 1), (xs ++ ([(max (wrI fi x0.2.2.2.1 x0.2.2.2.2) 0)] : List Int)), a1, c1, rfl, s0, rfl, (ieq rfl (by first | rfl | omega)), H9, (by first | omega | assumption | simp), (by rw [hs]; first | exact fromR_step hx0 (frI_w b1) | exact fromR_step hx0 (frI_0 b1 p2) | exact fromR_step hx0 (frI_s b1 p2 b3) | exact fromR_step hx0 (frI_n b1 p2 b3))⟩
   omega
  have p3 := dF b3
  refine sk (nx (rg (k (mv rfl s1 (k (mv (v := iV (-2)) rfl rfl (k (bs (xs := ([(-2)] : List Int)) (cells := #[iV (-2)]) (e := 3) H6 rfl (pbc rfl pb0) (fun _ => by kernel_rfl) ⟨[iV (-2)], [], rfl, ⟨rfl, (show I64 ((-2)) from (by unfold I64 at *; omega))⟩, rfl⟩ rfl (by decide) ?_))))))))
  intro g0 w5 xt3 H7
  refine k (apB H7 2 rfl rfl rfl rfl rfl rfl (own_src (H7.at_ 0 rfl)) un30 ty3 rfl (by rw [hs, List.length_map, lT_]; simp only [lC_, lN_]; omega) rfl ?_)
  intro a1 c1 w6 (H8 : HI M w w6 [own w.heap.size 3 (.slice (some ⟨g0, 0, none⟩) 1 1) ([(-2)] : List Int), box bb1 #[iV x0.1, iV x0.2.1, .bool x0.2.2.1, iV x0.2.2.2.1, iV x0.2.2.2.2] 85, oL w 3 a1 (xs ++ ([(-2)] : List Int)) c1, box bb0 #[.slice a_fv n_fv c_fv, sL a_fi fi c_fi, .slice a_fo n_fo c_fo] 32, iL a_fi fi c_fi])
  refine k (asg (v := sL a1 (xs ++ ([(-2)] : List Int)) c1) rfl rfl (z (inb_normal (nx (rg (k (mv rfl s2 (k (add rfl rfl rfl rfl (by unfold I64 at *; omega) (k (asg (v := iV ((j : Int) + 1)) rfl rfl (z ?_))))))))))))
  have H9 : HI M w w6 [oL w 3 a1 (xs ++ ([(-2)] : List Int)) c1, box bb0 #[.slice a_fv n_fv c_fv, sL a_fi fi c_fi, .slice a_fo n_fo c_fo] 32, iL a_fi fi c_fi] := H8.pickN [2, 3, 4] (by decide) rfl
  refine loopN _ ?_ ⟨(j + 1), (xs ++ ([(-2)] : List Int)), a1, c1, rfl, s0, rfl, (ieq rfl (by first | rfl | omega)), H9, (by first | omega | assumption | simp), (by rw [hs]; first | exact fromR_step hx0 (frI_w b1) | exact fromR_step hx0 (frI_0 b1 p2) | exact fromR_step hx0 (frI_s b1 p2 b3) | exact fromR_step hx0 (frI_n b1 p2 b3))⟩
  omega
 have p0 := dF b0
 refine ex (then_exit (loop_exit (inb_here (nx (sq (rg (k (mv rfl s1 (k (asg (v := sL a0 xs c0) rfl rfl (z (nx (rt (r1 rfl rfl ?_))))))))))))))
 have e0 : (xs : List Int) = fromR fi := by rw [hs]; unfold fromR; rw [take_end (by omega)]
 have ev_ := cg1 (fun (x_0 : List Int) => (.slice a0 x_0.length c0 : Value)) e0
 exact ⟨a0, c0, ev_, H3.below, (congrArg (fun (x_ : List Int) => OwnsG _ _ _ x_ (.slice a0 x_.length c0) _) e0).mp (H3.ownsG_out 0 rfl)⟩
theorem ref11_Fill {a_fv : OA} {c_fv : Nat} {fv : List ByteArray} {a_fi : OA} {c_fi : Nat} {fi : List ItemL} {a_fo : OA} {c_fo : Nat} {fo : List Int} (hM : ∀ b, M b → b < w.heap.size) (h_fv : RV M w (.slice a_fv fv.length c_fv) fv) (h_fi : RV M w (.slice a_fi fi.length c_fi) fi) (h_fo : RV M w (.slice a_fo fo.length c_fo) fo) (hn_fi : fi.length ≤ 4096) : Calls Tryz.prog 18 #[.agg #[.slice a_fv fv.length c_fv, .slice a_fi fi.length c_fi, .slice a_fo fo.length c_fo]] w (Ret fun v w' => ∃ (a0 : OA) (c0 : Nat) (a1 : OA) (c1 : Nat) (a2 : OA) (c2 : Nat), v = .agg #[.slice a0 fv.length c0, .slice a1 fi.length c1, .slice a2 (fromR fi).length c2] ∧ Ext w w' ∧ RV M w' (.slice a0 fv.length c0) fv ∧ RV M w' (.slice a1 fi.length c1) fi ∧ RV M w' (.slice a2 (fromR fi).length c2) (fromR fi)) := by
 refine enter 10 Tryz.func18 rfl rfl rfl fun f0 ha => ?_
 have H := HI.start (M0 := M) (w := w) hM
 have H0 := H.put (it := iL a_fv fv c_fv) rfl (by rw [MS_nil]; exact h_fv)
 have H1 := H0.put (it := iL a_fi fi c_fi) rfl (by rw [MS_cons_none rfl, MS_nil]; exact h_fi)
 have H2 := H1.put (it := iL a_fo fo c_fo) rfl (by rw [MS_cons_none rfl, MS_cons_none rfl, MS_nil]; exact h_fo)
 have ln_fv := rv_len h_fv
 have ln_fi := rv_len h_fi
 have ln_fo := rv_len h_fo
 have i0 : f0 0 = .agg #[sL a_fv fv c_fv, sL a_fi fi c_fi, sL a_fo fo c_fo] := ha 0 (by simp)
 refine sq (rg (k (bx H2 rfl i0 ?_)))
 intro bb0 w0 xt0 (H3 : HI M w w0 [box bb0 #[sL a_fv fv c_fv, sL a_fi fi c_fi, sL a_fo fo c_fo] 32, iL a_fo fo c_fo, iL a_fi fi c_fi, iL a_fv fv c_fv])
 refine k (al H3 ty32 ?_)
 intro bb1 w1 xt1 (H4 : HI M w w1 [box bb1 #[.slice none 0 0, .slice none 0 0, .slice none 0 0] 32, box bb0 #[sL a_fv fv c_fv, sL a_fi fi c_fi, sL a_fo fo c_fo] 32, iL a_fo fo c_fo, iL a_fi fi c_fi, iL a_fv fv c_fv])
 refine z (nx (sq ?_))
 refine dr 6 [eV (pV bb0 0), eV (sL a_fv fv c_fv), eV (pV bb0 1), eV (sL a_fi fi c_fi), eV (.agg #[sL a_fv fv c_fv, sL a_fi fi c_fi, sL a_fo fo c_fo]), fun v w' => ∃ (a0 : OA) (c0 : Nat), v = sL a0 (fromR fi) c0 ∧ RV (MS M [box bb1 #[.slice none 0 0, .slice none 0 0, .slice none 0 0] 32, box bb0 #[sL a_fv fv c_fv, sL a_fi fi c_fi, sL a_fo fo c_fo] 32, iL a_fo fo c_fo, iL a_fi fi c_fi, iL a_fv fv c_fv]) w' (sL a0 (fromR fi) c0) (fromR fi)] rfl (by kernel_rfl) ?_ ?_
 ·
  refine dc (fun _ _ hf0 _ _ => fa fl32_0 rfl (hf0 1 rfl) (d0 rfl rfl)) ?_
  refine dc (fun _ _ _ xt4 hp1 => lx (H4.ext xt4) 1 rfl ty28 rfl (hp1 0 rfl rfl) rfl (d0 rfl rfl)) ?_
  refine dc (fun _ _ hf2 _ _ => fa fl32_1 rfl (hf2 1 rfl) (d0 rfl rfl)) ?_
  refine dc (fun _ _ _ xt6 hp3 => lx (H4.ext xt6) 1 rfl ty29 rfl (hp3 2 rfl rfl) rfl (d0 rfl rfl)) ?_
  refine dc (fun _ _ hf4 xt7 _ => ldX (H4.ext xt7) 1 rfl ty32 rfl (hf4 1 rfl) (by decide) rfl (d0 rfl rfl)) ?_
  refine ⟨fun _ => ⟨fun f5 w8 hf5 xt8 hp5 => ?_, by rintro _ _ _ x_ ⟨a0, c0, e_, rv1⟩; exact ⟨a0, c0, e_, rv1.lift (Up.ext x_)⟩⟩, ?_⟩
  ·
   have H12 := H4.ext xt8
   have s2 : f5 7 = .agg #[sL a_fv fv c_fv, sL a_fi fi c_fi, sL a_fo fo c_fo] := hp5 4 rfl rfl
   have cc1 := ref11_From (fi := fi) (a_fv := a_fv) (n_fv := fv.length) (c_fv := c_fv) (a_fo := a_fo) (n_fo := fo.length) (c_fo := c_fo) (w := w8) H12.mb (H12.rv 3 rfl) (by assumption)
   refine ca go42 rfl (ec s2 e0) cc1 ?_
   rintro _ w9 ⟨a1, c1, rfl, xt9, rv2⟩
   have rv3 := OwnsG.rv rv2 H12.mb
   exact ⟨_, rfl, xt9, ⟨a1, c1, rfl, rv3⟩⟩
  exact DSteps.rest rfl _
 ·
  intro f6 w10 hf6 xt10 hp6
  have H15 := H4.ext xt10
  have s3 : f6 2 = pV bb1 0 := hf6 2 rfl
  have s4 : f6 4 = sL a_fv fv c_fv := hp6 1 rfl
  have s5 : f6 6 = sL a_fi fi c_fi := hp6 3 rfl
  obtain ⟨a2, c2, s6, rv4⟩ : ∃ (a2 : OA) (c2 : Nat), f6 8 = sL a2 (fromR fi) c2 ∧ RV (MS M [box bb1 #[.slice none 0 0, .slice none 0 0, .slice none 0 0] 32, box bb0 #[sL a_fv fv c_fv, sL a_fi fi c_fi, sL a_fo fo c_fo] 32, iL a_fo fo c_fo, iL a_fi fi c_fi, iL a_fv fv c_fv]) w10 (sL a2 (fromR fi) c2) (fromR fi) := hp6 5 rfl
  have H16 := H15.put (it := iL a2 (fromR fi) c2) rfl rv4
  refine k (bd (v := .agg #[sL a_fv fv c_fv, sL a_fi fi c_fi, sL a2 (fromR fi) c2]) rfl (pbc s4 (pbc s5 (pbc s6 pb0))) (fun _ => by kernel_rfl) (k (stX H16 1 rfl ty32 rfl rfl s3 rfl rfl rfl rfl ?_)))
  intro w11 (H17 : HI M w w11 [iL a2 (fromR fi) c2, box bb1 #[sL a_fv fv c_fv, sL a_fi fi c_fi, sL a2 (fromR fi) c2] 32, box bb0 #[sL a_fv fv c_fv, sL a_fi fi c_fi, sL a_fo fo c_fo] 32, iL a_fo fo c_fo, iL a_fi fi c_fi, iL a_fv fv c_fv])
  refine z (nx (rt (rc1 H17 1 rfl ty32 rfl rfl s3 rfl (by decide) ?_)))
  exact ⟨a_fv, c_fv, a_fi, c_fi, a2, c2, rfl, H17.below, (H17.gives_out 5 rfl), (H17.gives_out 4 rfl), (H17.gives_out 0 rfl)⟩
theorem go16 : GoF Tryz.prog 16 := ⟨_, _, Tryz.func16, rfl, by kernel_rfl⟩
theorem go17 : GoF Tryz.prog 17 := ⟨_, _, Tryz.func17, rfl, by kernel_rfl⟩
theorem go18 : GoF Tryz.prog 18 := ⟨_, _, Tryz.func18, rfl, by kernel_rfl⟩
theorem ref11_Of {a_h : OA} {c_h : Nat} {h : List (List (Bool × ByteArray × Int))} (hM : ∀ b, M b → b < w.heap.size) (h_h : RV M w (.slice a_h h.length c_h) h) (hb_h : h.flatten.length ≤ 4096) : Calls Tryz.prog 7 #[.slice a_h h.length c_h] w (Ret fun v w' => ∃ (a0 : OA) (c0 : Nat) (a1 : OA) (c1 : Nat) (a2 : OA) (c2 : Nat), v = .tuple #[.agg #[.slice a0 (o11V h).length c0, .slice a1 (o11I h).length c1, .slice a2 (o11F h).length c2], .bool (o11 h)] ∧ Ext w w' ∧ RV M w' (.slice a0 (o11V h).length c0) (o11V h) ∧ RV M w' (.slice a1 (o11I h).length c1) (o11I h) ∧ RV M w' (.slice a2 (o11F h).length c2) (o11F h)) := by
 refine enter 25 Tryz.func7 rfl rfl rfl fun f0 ha => ?_
 have H := HI.start (M0 := M) (w := w) hM
 have H0 := H.put (it := iL a_h h c_h) rfl (by rw [MS_nil]; exact h_h)
 have ln_h := rv_len h_h
 have i0 : f0 0 = sL a_h h c_h := ha 0 (by simp)
 refine sq (rg (k (al H0 ty32 ?_)))
 intro bb0 w0 xt0 (H1 : HI M w w0 [box bb0 #[.slice none 0 0, .slice none 0 0, .slice none 0 0] 32, iL a_h h c_h])
 refine k (asg (v := .bool false) rfl rfl (z (nx (sq (rg (k (mv rfl i0 (k ?_))))))))
 have cc0 := ref09_Of (h := h) (w := w0) H1.mb (H1.rv 1 rfl) (by omega)
 refine ca go16 rfl (ec rfl e0) cc0 ?_
 rintro _ w1 ⟨a0, c0, a1, c1, a2, c2, rfl, xt1, rv0, rv1, rv2⟩
 have H2 := H1.ext xt1
 have H3 := H2.put (it := iL a0 (ofV h) c0) rfl rv0
 have H4 := H3.put (it := iL a1 (ofI h) c1) rfl (by rw [MS_cons_none rfl]; exact rv1)
 have H5 := H4.put (it := iL a2 ([] : List Int) c2) rfl (by rw [MS_cons_none rfl, MS_cons_none rfl]; exact rv2)
 refine k (mv (v := .tuple #[.agg #[sL a0 (ofV h) c0, sL a1 (ofI h) c1, sL a2 ([] : List Int) c2], iV (ofE h)]) rfl rfl (k (xt rfl rfl rfl (k (xt rfl rfl rfl (k (al H5 ty32 ?_)))))))
 intro bb1 w2 xt2 (H6 : HI M w w2 [box bb1 #[.slice none 0 0, .slice none 0 0, .slice none 0 0] 32, iL a2 ([] : List Int) c2, iL a1 (ofI h) c1, iL a0 (ofV h) c0, box bb0 #[.slice none 0 0, .slice none 0 0, .slice none 0 0] 32, iL a_h h c_h])
 refine k (stX H6 0 rfl ty32 rfl rfl rfl rfl rfl rfl rfl ?_)
 intro w3 (H7 : HI M w w3 [box bb1 #[sL a0 (ofV h) c0, sL a1 (ofI h) c1, sL a2 ([] : List Int) c2] 32, iL a2 ([] : List Int) c2, iL a1 (ofI h) c1, iL a0 (ofV h) c0, box bb0 #[.slice none 0 0, .slice none 0 0, .slice none 0 0] 32, iL a_h h c_h])
 refine k (asg (v := iV (ofE h)) rfl rfl (z (nx (sq (sq (rg (k (mv (v := iV (ofE h)) rfl rfl (k (neq rfl rfl rfl rfl (z (nx ?_))))))))))))
 refine cd (b := !decide ((ofE h) = 0)) rfl rfl (fun b0 => ?_) (fun b0 => ?_)
 ·
  have p0 := dF (nott b0)
  refine sq ?_
  have hq : o11 h = false := o11_no1 (by simpa using ‹(!decide (ofE h = 0)) = true›)
  refine rg (k (bd (v := .agg #[.slice none 0 0, .slice none 0 0, .slice none 0 0]) rfl pb0 (fun _ => by kernel_rfl) (k (stX H7 4 rfl ty32 rfl rfl rfl rfl rfl rfl rfl ?_))))
  intro w4 (H8 : HI M w w4 [box bb1 #[sL a0 (ofV h) c0, sL a1 (ofI h) c1, sL a2 ([] : List Int) c2] 32, iL a2 ([] : List Int) c2, iL a1 (ofI h) c1, iL a0 (ofV h) c0, box bb0 #[.slice none 0 0, .slice none 0 0, .slice none 0 0] 32, iL a_h h c_h])
  refine k (asg (v := .bool false) rfl rfl (z (nx (rt (then_ret (rc2 H8 4 rfl ty32 rfl rfl rfl rfl rfl (by decide) ?_))))))
  have e0 : ([] : List ByteArray) = o11V h := by first | exact (o11_no hq).1.symm | exact (o11_yes hq).1.symm
  have e1 : ([] : List ItemL) = o11I h := by first | exact (o11_no hq).2.1.symm | exact (o11_yes hq).2.1.symm
  have e2 : ([] : List Int) = o11F h := by first | exact (o11_no hq).2.2.symm | exact (o11_yes hq).2.2.symm
  have e3 : (false : Bool) = o11 h := by exact hq.symm
  have ev_ := cg4 (fun (x_0 : List ByteArray) (x_1 : List ItemL) (x_2 : List Int) (x_3 : Bool) => (.tuple #[.agg #[.slice none x_0.length 0, .slice none x_1.length 0, .slice none x_2.length 0], .bool x_3] : Value)) e0 e1 e2 e3
  exact ⟨none, 0, none, 0, none, 0, ev_, H8.below, (congrArg (fun (x_ : List ByteArray) => RV _ _ (.slice none x_.length 0) x_) e0).mp (rv_nil _ _), (congrArg (fun (x_ : List ItemL) => RV _ _ (.slice none x_.length 0) x_) e1).mp (rv_nil _ _), (congrArg (fun (x_ : List Int) => RV _ _ (.slice none x_.length 0) x_) e2).mp (rv_nil _ _)⟩
 have p0 := dT (notf b0)
 refine sk (nx (sq ?_))
 have he_ : ofE h = 0 := by simpa using ‹(!decide (ofE h = 0)) = false›
 refine rg (k (ldX H7 0 rfl ty32 rfl rfl (by decide) rfl (k ?_)))
 have cc1 := ref10_Check (fi := (ofI h)) (a_fv := a0) (n_fv := (ofV h).length) (c_fv := c0) (a_fo := a2) (n_fo := ([] : List Int).length) (c_fo := c2) (w := w3) H7.mb (H7.rv 2 rfl)
 refine ca go17 rfl (ec rfl e0) cc1 ?_
 rintro _ w4 ⟨rfl, xt3⟩
 have H8 := H7.ext xt3
 refine k (mv (v := .tuple #[iV ((chkA (ofI h)).1), iV ((chkA (ofI h)).2.1), iV ((chkA (ofI h)).2.2)]) rfl rfl (k (xt rfl rfl rfl (k (xt rfl rfl rfl (k (xt rfl rfl rfl (k (asg (v := iV ((chkA (ofI h)).2.2)) rfl rfl (z (nx (sq (sq (rg (k (mv (v := iV ((chkA (ofI h)).2.2)) rfl rfl (k (neq rfl rfl rfl rfl (z (nx ?_))))))))))))))))))))
 refine cd (b := !decide (((chkA (ofI h)).2.2) = 0)) rfl rfl (fun b1 => ?_) (fun b1 => ?_)
 ·
  have p1 := dF (nott b1)
  refine sq ?_
  have hq : o11 h = false := o11_no2 (by simpa using ‹(!decide ((chkA (ofI h)).2.2 = 0)) = true›)
  refine rg (k (bd (v := .agg #[.slice none 0 0, .slice none 0 0, .slice none 0 0]) rfl pb0 (fun _ => by kernel_rfl) (k (stX H8 4 rfl ty32 rfl rfl rfl rfl rfl rfl rfl ?_))))
  intro w5 (H9 : HI M w w5 [box bb1 #[sL a0 (ofV h) c0, sL a1 (ofI h) c1, sL a2 ([] : List Int) c2] 32, iL a2 ([] : List Int) c2, iL a1 (ofI h) c1, iL a0 (ofV h) c0, box bb0 #[.slice none 0 0, .slice none 0 0, .slice none 0 0] 32, iL a_h h c_h])
  refine k (asg (v := .bool false) rfl rfl (z (nx (rt (then_ret (rc2 H9 4 rfl ty32 rfl rfl rfl rfl rfl (by decide) ?_))))))
  have e0 : ([] : List ByteArray) = o11V h := by first | exact (o11_no hq).1.symm | exact (o11_yes hq).1.symm
  have e1 : ([] : List ItemL) = o11I h := by first | exact (o11_no hq).2.1.symm | exact (o11_yes hq).2.1.symm
  have e2 : ([] : List Int) = o11F h := by first | exact (o11_no hq).2.2.symm | exact (o11_yes hq).2.2.symm
  have e3 : (false : Bool) = o11 h := by exact hq.symm
  have ev_ := cg4 (fun (x_0 : List ByteArray) (x_1 : List ItemL) (x_2 : List Int) (x_3 : Bool) => (.tuple #[.agg #[.slice none x_0.length 0, .slice none x_1.length 0, .slice none x_2.length 0], .bool x_3] : Value)) e0 e1 e2 e3
  exact ⟨none, 0, none, 0, none, 0, ev_, H9.below, (congrArg (fun (x_ : List ByteArray) => RV _ _ (.slice none x_.length 0) x_) e0).mp (rv_nil _ _), (congrArg (fun (x_ : List ItemL) => RV _ _ (.slice none x_.length 0) x_) e1).mp (rv_nil _ _), (congrArg (fun (x_ : List Int) => RV _ _ (.slice none x_.length 0) x_) e2).mp (rv_nil _ _)⟩
 have p1 := dT (notf b1)
 refine sk (nx (sq ?_))
 have hq : o11 h = true := o11_is he_ (by simpa using ‹(!decide ((chkA (ofI h)).2.2 = 0)) = false›)
 refine rg (k (ldX H8 0 rfl ty32 rfl rfl (by decide) rfl (k ?_)))
 have cc2 := ref11_Fill (fv := (ofV h)) (fi := (ofI h)) (fo := ([] : List Int)) (w := w4) H8.mb (H8.rv 3 rfl) (H8.rv 2 rfl) (H8.rv 1 rfl) (by have h_ := ofI_len h; omega)
 refine ca go18 rfl (ec rfl e0) cc2 ?_
 rintro _ w5 ⟨a3, c3, a4, c4, a5, c5, rfl, xt4, rv3, rv4, rv5⟩
 have H9 := H8.ext xt4
 have H10 := H9.put (it := iL a3 (ofV h) c3) rfl rv3
 have H11 := H10.put (it := iL a4 (ofI h) c4) rfl (by rw [MS_cons_none rfl]; exact rv4)
 have H12 := H11.put (it := iL a5 (fromR (ofI h)) c5) rfl (by rw [MS_cons_none rfl, MS_cons_none rfl]; exact rv5)
 refine k (stX H12 7 rfl ty32 rfl rfl rfl rfl rfl rfl rfl ?_)
 intro w6 (H13 : HI M w w6 [iL a5 (fromR (ofI h)) c5, iL a4 (ofI h) c4, iL a3 (ofV h) c3, box bb1 #[sL a0 (ofV h) c0, sL a1 (ofI h) c1, sL a2 ([] : List Int) c2] 32, iL a2 ([] : List Int) c2, iL a1 (ofI h) c1, iL a0 (ofV h) c0, box bb0 #[sL a3 (ofV h) c3, sL a4 (ofI h) c4, sL a5 (fromR (ofI h)) c5] 32, iL a_h h c_h])
 refine k (asg (v := .bool true) rfl rfl (z (nx (rt (rc2 H13 7 rfl ty32 rfl rfl rfl rfl rfl (by decide) ?_)))))
 have e0 : ((ofV h) : List ByteArray) = o11V h := by first | exact (o11_no hq).1.symm | exact (o11_yes hq).1.symm
 have e1 : ((ofI h) : List ItemL) = o11I h := by first | exact (o11_no hq).2.1.symm | exact (o11_yes hq).2.1.symm
 have e2 : (fromR (ofI h) : List Int) = o11F h := by first | exact (o11_no hq).2.2.symm | exact (o11_yes hq).2.2.symm
 have e3 : (true : Bool) = o11 h := by exact hq.symm
 have ev_ := cg4 (fun (x_0 : List ByteArray) (x_1 : List ItemL) (x_2 : List Int) (x_3 : Bool) => (.tuple #[.agg #[.slice a3 x_0.length c3, .slice a4 x_1.length c4, .slice a5 x_2.length c5], .bool x_3] : Value)) e0 e1 e2 e3
 exact ⟨a3, c3, a4, c4, a5, c5, ev_, H13.below, (congrArg (fun (x_ : List ByteArray) => RV _ _ (.slice a3 x_.length c3) x_) e0).mp (H13.gives_out 2 rfl), (congrArg (fun (x_ : List ItemL) => RV _ _ (.slice a4 x_.length c4) x_) e1).mp (H13.gives_out 1 rfl), (congrArg (fun (x_ : List Int) => RV _ _ (.slice a5 x_.length c5) x_) e2).mp (H13.gives_out 0 rfl)⟩
set_option maxRecDepth 100000 in
set_option maxHeartbeats 1600000 in
theorem hull_join {M0 : Nat → Prop} {w0 w : World} {l : List Go.Ew.Item} {i j : Nat} {a_i a_f : Option Addr} {c_i c_f : Nat} {a b : List (BitVec 64)} (H : HI M0 w0 w l) (hi : l[i]? = some (own w0.heap.size 137 (.slice a_i a.length c_i) a)) (hj : l[j]? = some (own w0.heap.size 137 (.slice a_f b.length c_f) b)) (hlen : b.length ≤ a.length) (hlb : b.length ≤ 1000000000) (hne : i ≠ j ∨ ((.slice a_i a.length c_i : Value) = .slice a_f b.length c_f ∧ b = a)) : Calls Tryz.prog 131 #[.slice a_i a.length c_i, .slice a_f b.length c_f] w (Ret fun v w' => v = .tuple #[] ∧ HI M0 w0 w' (l.set i (own w0.heap.size 137 (.slice a_i a.length c_i) (orR a b)))) := by
  have hil : i < l.length := (gS_.1 hi).1
  refine enter 21 Tryz.func131 rfl rfl rfl fun f0 ha => ?_
  have i0 : f0 0 = .slice a_i a.length c_i := ha 0 (by simp)
  have i1 : f0 1 = .slice a_f b.length c_f := ha 1 (by simp)
  refine sq (rg (k (mv (v := .slice a_f b.length c_f) rfl i1 (k (lnS rfl rfl un115 (k (mv (v := .int .i64 0) rfl rfl (z (nx (bk ?_))))))))))
  refine lp (fun m f w' => ∃ (q : Nat) (xs : List (BitVec 64)), m = b.length - q ∧ f 0 = .slice a_i a.length c_i ∧ f 6 = .slice a_f b.length c_f ∧ f 7 = .int .i64 (b.length : Int) ∧ f 8 = .int .i64 (q : Int) ∧ HI M0 w0 w' (l.set i (own w0.heap.size 137 (.slice a_i a.length c_i) xs)) ∧ q ≤ b.length ∧ xs.length = a.length ∧ xs = orTo a.length a b a q) _ ⟨0, a, rfl, i0, rfl, rfl, rfl, (by rw [set_own hi]; exact H), Nat.zero_le _, rfl, orTo_zero _ _ _⟩ ?_
  rintro _ f1 w1 ⟨q, xs, rfl, s0, s1, s2, s3, H1, hk, hl, hs⟩
  refine sq (rg (k (lss rfl rfl s3 s2 (z (nx (sq ?_))))))
  refine cd (b := decide ((q : Int) < (b.length : Int))) rfl rfl (fun b1 => ?_) (fun b1 => ?_)
  ·
    have p1 := of_decide_eq_true b1
    obtain ⟨ys, hj1, hyl, hyq⟩ := join_from hj hil hne hl hs hk hlen
    refine sk (nx (sq (bk (sq (rg (k (mv rfl s3 (k (iaO (H1.at_ j hj1) rfl rfl s1 s3 (by omega) un115 ty137 ?_)))))))))
    intro g0 x0 hv0 hx0 hA0
    have hxq := hyq x0 hx0
    refine k (ldU hA0 ty137 rfl rfl (k (asg (v := .int .i64 (q : Int)) rfl rfl (k (asg (v := U x0) rfl rfl (z (nx (rg (k (mv rfl s0 (k (mv (v := .int .i64 (q : Int)) rfl rfl (k (iaO (H1.at_ i (set_at hil)) rfl rfl rfl rfl (by omega) un115 ty137 ?_))))))))))))))
    intro g1 x1 hv1 hx1 hA1
    refine k (ldU hA1 ty137 rfl rfl (k (mv (v := U x0) rfl rfl (k (orU x1 x0 rfl rfl rfl rfl (k (iaO (H1.at_ i (set_at hil)) rfl rfl rfl rfl (by omega) un115 ty137 ?_)))))))
    intro g2 x2 hv2 hx2 hA2
    refine k (stO H1 i (set_at hil) hv2 rfl (by omega) ty137 rfl rfl rfl rfl (RV.bv.2 rfl) ?_)
    intro w2 H2
    rw [set_set] at H2
    refine z (inb_normal (nx (rg (k (add rfl rfl s3 rfl (by unfold I64 at *; omega) (k (mv (v := .int .i64 ((q : Int) + 1)) rfl rfl (z ?_))))))))
    refine loopN _ ?_ ⟨(q + 1), (xs.set ((q : Int).toNat) (x1 ||| x0)), rfl, s0, s1, s2, (ieq rfl (by first | rfl | omega | (push_cast; omega))), H2, (by omega), (by simpa using hl), join_step hs hxq hx1⟩
    omega
  ·
    have p1 := of_decide_eq_false b1
    refine ex (then_exit (loop_exit (inb_here (r0n rfl ?_))))
    exact ⟨rfl, by rw [← join_end hs hlen (by omega)]; exact H1⟩
set_option maxRecDepth 100000 in
set_option maxHeartbeats 1600000 in
theorem mat_NewR {n : Int} (hM : ∀ b, M b → b < w.heap.size) (h_n : I64 n) (h0 : 0 ≤ n) (h4 : n ≤ 4096) : Calls Tryz.prog 127 #[.int .i64 n] w (Ret fun v w' => ∃ (a0 : Option Addr) (c0 : Nat) (ss : List SV), v = .tuple #[.agg #[.int .i64 n, .slice a0 n.toNat c0], .int .i64 0] ∧ Ext w w' ∧ OwnsR M 115 137 w ss (List.replicate n.toNat (newR n)) (.slice a0 n.toNat c0) w') := by
  refine enter 29 Tryz.func127 rfl rfl rfl fun f0 ha => ?_
  have H := HI.start (M0 := M) (w := w) hM
  have i0 : f0 0 = .int .i64 n := ha 0 (by simp)
  refine sq (rg (k (al H ty68 ?_)))
  intro bb0 w0 xt0 (H0 : HI M w w0 [box bb0 #[.int .i64 0, .slice none 0 0] 68])
  refine k (asg (v := .int .i64 0) rfl rfl (z (nx (sq (sq (rg (k (mv rfl i0 (k (lss rfl rfl rfl rfl (k (mv (v := .bool (decide (n < 0))) rfl rfl ?_))))))))))))
  have b0 : decide (n < 0) = false := decide_eq_false (by omega)
  refine k (gy rfl rfl rfl b0 (mv rfl i0 (k (gy rfl rfl rfl b0 (gtr rfl rfl rfl rfl (k (pickF rfl rfl rfl rfl b0 rfl (z (nx ?_)))))))))
  refine cd (b := decide (4096 < n)) rfl rfl (fun b1 => ?_) (fun b1 => ?_)
  · exact absurd (of_decide_eq_true b1) (by omega)
  refine sk (nx (sq (rg (k (mv rfl i0 (k ?_))))))
  have n0 : ((n.toNat : Nat) : Int) = n := Int.toNat_of_nonneg (by omega)
  refine mk (m := n.toNat) (zx := (⟨none, 0, 0⟩ : SV)) H0 rfl rfl (by rw [n0]; exact rfl) (by rw [n0]; exact rfl) un66 ty115 (fun _ _ => rfl) (by first | omega | (simp; omega)) (by first | omega | (simp; omega)) ?_
  intro g0 w1 xt1 (H1 : HI M w w1 [own w.heap.size 115 (.slice (some ⟨g0, 0, none⟩) n.toNat n.toNat) (List.replicate n.toNat (⟨none, 0, 0⟩ : SV)), box bb0 #[.int .i64 0, .slice none 0 0] 68])
  refine k (asg (v := .slice (some ⟨g0, 0, none⟩) n.toNat n.toNat) rfl rfl (z (nx (sq (sq (rg (k (mv (v := .slice (some ⟨g0, 0, none⟩) n.toNat n.toNat) rfl rfl (k (lnS rfl rfl un66 (k (mv (v := .int .i64 0) rfl rfl (z (nx (bk ?_)))))))))))))))
  refine lp (fun m f w' => ∃ (j : Nat) (ss : List SV), m = n.toNat - j ∧ f 0 = .int .i64 n ∧ f 2 = .pointer (some ⟨bb0, 0, none⟩) ∧ f 4 = .slice (some ⟨g0, 0, none⟩) n.toNat n.toNat ∧ f 16 = .int .i64 (n.toNat : Int) ∧ f 17 = .int .i64 (j : Int) ∧ HI M w w' ([own w.heap.size 115 (.slice (some ⟨g0, 0, none⟩) n.toNat n.toNat) (ss ++ List.replicate (n.toNat - j) (⟨none, 0, 0⟩ : SV)), box bb0 #[.int .i64 0, .slice none 0 0] 68] ++ rowItems w.heap.size 137 ss (List.replicate j (newR n))) ∧ j ≤ n.toNat ∧ ss.length = j) _ ⟨0, [], rfl, i0, rfl, rfl, rfl, rfl, H1, Nat.zero_le _, rfl⟩ ?_
  rintro _ f0 w2 ⟨j, ss, rfl, s0, s1, s2, s3, s4, H2, hk, hl⟩
  refine sq (rg (k (lss rfl rfl s4 s3 (z (nx (sq ?_))))))
  refine cd (b := decide ((j : Int) < (n.toNat : Int))) rfl rfl (fun b2 => ?_) (fun b2 => ?_)
  ·
    have p2 := of_decide_eq_true b2
    refine sk (nx (sq (bk (sq (rg (k (mv rfl s4 (k (asg (v := .int .i64 (j : Int)) rfl rfl (z (nx (rg (k (mv rfl s2 (k (mv (v := .int .i64 (j : Int)) rfl rfl (k (mv rfl s0 (k ?_)))))))))))))))))))
    have cc0 := row_New (n := n) (w := w2) H2.mb (by unfold I64 at *; omega) (by first | omega | (simp; omega))
    refine ca go136 rfl (ec rfl e0) cc0 ?_
    rintro _ w3 ⟨a0, c0, rfl, xt2, rv0⟩
    have H3 := H2.ownsG rv0
    have hjl : j < (ss ++ List.replicate (n.toNat - j) (⟨none, 0, 0⟩ : SV)).length := by rw [lA_, lR_]; omega
    refine k (iaO (H3.at_ 1 rfl) rfl rfl rfl rfl (by omega) un66 ty115 ?_)
    intro g1 x0 hv0 hx0 hA0
    refine k (stO (yv := (⟨a0, (newR n).length, c0⟩ : SV)) H3 1 rfl hv0 rfl (by omega) ty115 rfl rfl rfl rfl (RV.sv.2 rfl) ?_)
    intro w4 H4
    have H5 : HI M w w4 (own w.heap.size 137 (⟨a0, (newR n).length, c0⟩ : SV).v (newR n) :: ([own w.heap.size 115 (.slice (some ⟨g0, 0, none⟩) n.toNat n.toNat) ((ss ++ List.replicate (n.toNat - j) (⟨none, 0, 0⟩ : SV)).set ((j : Int).toNat) ⟨a0, (newR n).length, c0⟩), box bb0 #[.int .i64 0, .slice none 0 0] 68] ++ rowItems w.heap.size 137 ss (List.replicate j (newR n)))) := H4
    have H6 := H5.rowEnd (by rw [lR_]; exact hl)
    have es : (ss ++ List.replicate (n.toNat - j) (⟨none, 0, 0⟩ : SV)).set ((j : Int).toNat) ⟨a0, (newR n).length, c0⟩ = (ss ++ [⟨a0, (newR n).length, c0⟩]) ++ List.replicate (n.toNat - (j + 1)) (⟨none, 0, 0⟩ : SV) := by
      rw [tN_, List.set_append_right _ _ (by omega), hl, Nat.sub_self, show n.toNat - j = n.toNat - (j + 1) + 1 from by omega, List.replicate_succ, List.set_cons_zero]; simp
    rw [es, ← List.replicate_succ'] at H6
    refine z (inb_normal (nx (rg (k (add rfl rfl s4 rfl (by unfold I64 at *; omega) (k (mv (v := .int .i64 ((j : Int) + 1)) rfl rfl (z ?_))))))))
    refine loopN _ ?_ ⟨(j + 1), (ss ++ [⟨a0, (newR n).length, c0⟩]), rfl, s0, s1, s2, s3, (ieq rfl (by first | rfl | omega | (push_cast; omega))), H6, (by omega), (by rw [lA_, hl]; rfl)⟩
    omega
  ·
    have p2 := of_decide_eq_false b2
    obtain rfl : j = n.toNat := by omega
    rw [Nat.sub_self, List.replicate_zero, List.append_nil] at H2
    refine ex (then_exit (loop_exit (inb_here (nx (sq (rg (k (mv rfl s0 (k (mv rfl s2 (k (bd (v := .agg #[.int .i64 n, .slice (some ⟨g0, 0, none⟩) n.toNat n.toNat]) rfl (pbc rfl (pbc rfl pb0)) (fun _ => by kernel_rfl) (k (stX H2 1 rfl ty68 rfl rfl s1 rfl rfl rfl rfl ?_))))))))))))))
    intro w3 H3
    have H4 : HI M w w3 ([own w.heap.size 115 (.slice (some ⟨g0, 0, none⟩) n.toNat n.toNat) ss, box bb0 #[.int .i64 n, .slice (some ⟨g0, 0, none⟩) n.toNat n.toNat] 68] ++ rowItems w.heap.size 137 ss (List.replicate n.toNat (newR n))) := H3
    refine k (asg (v := .int .i64 0) rfl rfl (z (nx (rt (rc2 H4 1 rfl ty68 rfl rfl rfl s1 rfl (by decide) ?_)))))
    exact ⟨(some ⟨g0, 0, none⟩), n.toNat, ss, rfl, H4.below, by rw [lR_]; exact hl, H4.pickT (l' := [own w.heap.size 115 (.slice (some ⟨g0, 0, none⟩) n.toNat n.toNat) ss]) [0] (by decide) rfl rfl⟩
theorem go128 : GoF Tryz.prog 128 := ⟨_, _, Tryz.func128, rfl, by kernel_rfl⟩
theorem un135 : Tryz.prog.underlying 135 = some (.array 2 3) := by kernel_rfl
theorem mat_Turn {mn : Int} {a_mr : OA} {c_mr : Nat} {mr : List (List (BitVec 64))} (hM : ∀ b, M b → b < w.heap.size) (hT : TabAt 0 w) (h_mn : I64 mn) (h_mr : RV M w (.slice a_mr mr.length c_mr) mr) (rt_m : rightS mn mr = true) : Calls Tryz.prog 113 #[.agg #[.int .i64 mn, .slice a_mr mr.length c_mr]] w (Ret fun v w' => ∃ (a0 : OA) (c0 : Nat), v = .agg #[.int .i64 mn, .slice a0 (turnM mn mr).length c0] ∧ Ext w w' ∧ OwnsG M 115 w (turnM mn mr) (.slice a0 (turnM mn mr).length c0) w') := by
 refine enter 39 Tryz.func113 rfl rfl rfl fun f0 ha => ?_
 have H := HI.start (M0 := M) (w := w) hM
 have H0 := H.put (it := iL a_mr mr c_mr) rfl (by rw [MS_nil]; exact h_mr)
 have ln_mr := rv_len h_mr
 have i0 : f0 0 = .agg #[iV mn, sL a_mr mr c_mr] := ha 0 (by simp)
 refine sq (rg (k (bx H0 rfl i0 ?_)))
 intro bb0 w0 xt0 (H1 : HI M w w0 [box bb0 #[iV mn, sL a_mr mr c_mr] 68, iL a_mr mr c_mr])
 refine k (al H1 ty68 ?_)
 intro bb1 w1 xt1 (H2 : HI M w w1 [box bb1 #[iV 0, .slice none 0 0] 68, box bb0 #[iV mn, sL a_mr mr c_mr] 68, iL a_mr mr c_mr])
 refine z (nx (sq (rg (k (fa fl68_0 rfl rfl (k (lx H2 1 rfl ty3 rfl rfl rfl (k ?_))))))))
 have cc0 := mat_NewR (n := mn) (w := w1) H2.mb h_mn (by exact right_pos rt_m) (by exact (right_sq rt_m).2.2.1)
 refine ca go127 rfl (ec rfl e0) cc0 ?_
 rintro _ w2 ⟨a0, c0, ss0, rfl, xt2, rv0⟩
 have H3 := H2.ownsR rv0
 have H4 : HI M w w2 ([own w.heap.size 115 (.slice a0 mn.toNat c0) ss0, box bb1 #[iV 0, .slice none 0 0] 68, box bb0 #[iV mn, sL a_mr mr c_mr] 68, iL a_mr mr c_mr] ++ rowItems w.heap.size 137 ss0 (List.replicate mn.toNat (newR mn))) := H3
 have ssl0 := rv0.1
 refine k (mv (v := .tuple #[.agg #[iV mn, .slice a0 mn.toNat c0], iV 0]) rfl rfl (k (xt rfl rfl rfl (k (xt rfl rfl rfl (k (al H4 ty68 ?_)))))))
 intro bb2 w3 xt3 (H5 : HI M w w3 ([box bb2 #[iV 0, .slice none 0 0] 68, own w.heap.size 115 (.slice a0 mn.toNat c0) ss0, box bb1 #[iV 0, .slice none 0 0] 68, box bb0 #[iV mn, sL a_mr mr c_mr] 68, iL a_mr mr c_mr] ++ rowItems w.heap.size 137 ss0 (List.replicate mn.toNat (newR mn))))
 refine k (stX H5 0 rfl ty68 rfl rfl rfl rfl rfl rfl rfl ?_)
 intro w4 (H6 : HI M w w4 ([box bb2 #[iV mn, .slice a0 mn.toNat c0] 68, own w.heap.size 115 (.slice a0 mn.toNat c0) ss0, box bb1 #[iV 0, .slice none 0 0] 68, box bb0 #[iV mn, sL a_mr mr c_mr] 68, iL a_mr mr c_mr] ++ rowItems w.heap.size 137 ss0 (List.replicate mn.toNat (newR mn))))
 refine k (asg (v := iV 0) rfl rfl (z (nx (sq (sq (rg (k (ldX H6 3 rfl ty68 rfl rfl (by decide) rfl (k ?_)))))))))
 have cc1 := mat_Pairs (mn := mn) (mr := mr) (w := w4) H6.mb (hT.ext H6.below) h_mn (H6.rv 4 rfl) (by exact (right_sq rt_m).1) (by exact (right_sq rt_m).2.1) (by exact (right_sq rt_m).2.2.1) (by exact (right_sq rt_m).2.2.2.2)
 refine ca go128 rfl (ec rfl e0) cc1 ?_
 rintro _ w5 ⟨a1, c1, rfl, xt4, rv1⟩
 have H7 := H6.ext xt4
 have H8 := H7.put (it := iL a1 (pairsM mn mr) c1) rfl rv1
 have H9 : HI M w w5 ([iL a1 (pairsM mn mr) c1, box bb2 #[iV mn, .slice a0 mn.toNat c0] 68, own w.heap.size 115 (.slice a0 mn.toNat c0) ss0, box bb1 #[iV 0, .slice none 0 0] 68, box bb0 #[iV mn, sL a_mr mr c_mr] 68, iL a_mr mr c_mr] ++ rowItems w.heap.size 137 ss0 (List.replicate mn.toNat (newR mn))) := H8
 refine k (lnS rfl rfl un133 (k (mv (v := iV 0) rfl rfl (z (nx (bk ?_))))))
 refine lp (fun m f w' => ∃ (j : Nat) (xs : List (List (BitVec 64))), m = (pairsM mn mr).length - j ∧ f 2 = pV bb1 0 ∧ f 3 = pV bb2 0 ∧ f 14 = sL a1 (pairsM mn mr) c1 ∧ f 15 = iV ((pairsM mn mr).length : Int) ∧ f 16 = iV (j : Int) ∧  HI M w w' ([iL a1 (pairsM mn mr) c1, box bb2 #[iV mn, .slice a0 mn.toNat c0] 68, own w.heap.size 115 (.slice a0 mn.toNat c0) ss0, box bb1 #[iV 0, .slice none 0 0] 68, box bb0 #[iV mn, sL a_mr mr c_mr] 68, iL a_mr mr c_mr] ++ rowItems w.heap.size 137 ss0 xs) ∧ (j ≤ (pairsM mn mr).length) ∧ (ss0.length = xs.length) ∧ (xs = foldM mn (((pairsM mn mr).map swapP).take j))) _ ⟨0, (List.replicate mn.toNat (newR mn)), rfl, rfl, rfl, rfl, rfl, (ieq rfl (by first | rfl | omega | simp)), H9, (by first | omega | assumption | simp), (by exact rv0.1), (by exact turn_zero _ _)⟩ ?_
 rintro _ f0 w6 ⟨j, xs, rfl, s0, s1, s2, s3, s4, H10, hk, hl, hs⟩
 refine sq (rg (k (lss rfl rfl s4 s3 (z (nx (sq ?_))))))
 refine cd (b := decide ((j : Int) < ((pairsM mn mr).length : Int))) rfl rfl (fun b0 => ?_) (fun b0 => ?_)
 ·
  have p0 := dT b0
  refine sk (nx (sq (bk (sq (rg (k (ia (H10.rv 0 rfl) rfl rfl s2 s4 (by omega) un133 ty135 ?_)))))))
  intro ad0 x0 hx0 hA0
  refine k (ldW hA0.w ty135 rfl rfl ?_)
  intro v0 rv2
  obtain ⟨_, ⟨_, _, rfl, ⟨rfl, rv3⟩, ⟨rfl, rv4⟩⟩, rfl⟩ := rv2
  refine k (al H10 ty135 ?_)
  intro bb3 w7 xt5 (H11 : HI M w w7 ([box bb3 #[iV 0, iV 0] 135, iL a1 (pairsM mn mr) c1, box bb2 #[iV mn, .slice a0 mn.toNat c0] 68, own w.heap.size 115 (.slice a0 mn.toNat c0) ss0, box bb1 #[iV 0, .slice none 0 0] 68, box bb0 #[iV mn, sL a_mr mr c_mr] 68, iL a_mr mr c_mr] ++ rowItems w.heap.size 137 ss0 xs))
  refine k (stX H11 0 rfl ty135 rfl rfl rfl rfl rfl rfl rfl ?_)
  intro w8 (H12 : HI M w w8 ([box bb3 #[iV x0.1, iV x0.2] 135, iL a1 (pairsM mn mr) c1, box bb2 #[iV mn, .slice a0 mn.toNat c0] 68, own w.heap.size 115 (.slice a0 mn.toNat c0) ss0, box bb1 #[iV 0, .slice none 0 0] 68, box bb0 #[iV mn, sL a_mr mr c_mr] 68, iL a_mr mr c_mr] ++ rowItems w.heap.size 137 ss0 xs))
  refine z (nx ?_)
  obtain ⟨g1_, g2_, g3_, g4_⟩ := right_pair rt_m hx0
  have xl_ : xs.length = mn.toNat := by rw [hs, foldM_length]
  obtain ⟨a2, x1, c2, hs0, hr0⟩ := row_get (i := x0.2.toNat) H12 (by first | assumption | (simp only [List.length_set]; assumption) | (simp only [List.length_set, lR_] at *; omega)) (by omega)
  obtain ⟨x3, hx2⟩ : ∃ x, x1[(x0.1 / 64).toNat]? = some x := ⟨_, gE_ (by obtain ⟨k1_, k2_, k3_, k4_⟩ := turn_row (hs ▸ hr0) g1_ g2_; first | omega | exact ⟨k1_, k2_⟩)⟩
  refine dr 15 [eV (pV bb2 1), eV (.slice a0 mn.toNat c0), eV (pV bb3 1), fun v w' => v = iV x0.2 ∧ I64 (x0.2), fun v w' => ∃ (g0 : Nat), v = .pointer (some ⟨g0, x0.2.toNat * 1, none⟩) ∧ (.slice a0 mn.toNat c0 : Value).ownBlock = some g0 ∧ AtW (MS M ([box bb3 #[iV x0.1, iV x0.2] 135, iL a1 (pairsM mn mr) c1, box bb2 #[iV mn, .slice a0 mn.toNat c0] 68, own w.heap.size 115 (.slice a0 mn.toNat c0) ss0, box bb1 #[iV 0, .slice none 0 0] 68, box bb0 #[iV mn, sL a_mr mr c_mr] 68, iL a_mr mr c_mr] ++ rowItems w.heap.size 137 ss0 xs)) w' ⟨g0, x0.2.toNat * 1, none⟩ (⟨a2, x1.length, c2⟩ : SV), eV (sL a2 x1 c2), eV (pV bb3 0), fun v w' => v = iV x0.1 ∧ I64 (x0.1), eV (iV (x0.1 / 64)), fun v w' => ∃ (g1 : Nat), v = .pointer (some ⟨g1, (x0.1 / 64).toNat * 1, none⟩) ∧ (.slice a2 x1.length c2 : Value).ownBlock = some g1 ∧ AtW (MS M ([box bb3 #[iV x0.1, iV x0.2] 135, iL a1 (pairsM mn mr) c1, box bb2 #[iV mn, .slice a0 mn.toNat c0] 68, own w.heap.size 115 (.slice a0 mn.toNat c0) ss0, box bb1 #[iV 0, .slice none 0 0] 68, box bb0 #[iV mn, sL a_mr mr c_mr] 68, iL a_mr mr c_mr] ++ rowItems w.heap.size 137 ss0 xs)) w' ⟨g1, (x0.1 / 64).toNat * 1, none⟩ x3, eV (U x3), eV (pV bb3 0), fun v w' => v = iV x0.1 ∧ I64 (x0.1), eV (iV (x0.1 % 64)), eV (U (bitB (x0.1 % 64)))] rfl (by kernel_rfl) ?_ ?_
  ·
   refine dc (fun _ _ hf0 _ _ => fa fl68_1 rfl ((hf0 3 rfl).trans s1) (d0 rfl rfl)) ?_
   refine dc (fun _ _ _ xt8 hp1 => lx (H12.ext xt8) 2 rfl ty66 rfl (hp1 0 rfl rfl) rfl (d0 rfl rfl)) ?_
   refine dc (fun _ _ hf2 _ _ => iaA rfl rfl (hf2 6 rfl) rfl (by omega) un135 ty3 (d0 rfl rfl)) ?_
   refine dc (fun _ _ _ xt10 hp3 => lx (H12.ext xt10) 0 rfl ty3 rfl (hp3 2 rfl rfl) rfl ⟨_, rfl, Ext.refl _, ⟨rfl, rv4⟩⟩) ?_
   refine ⟨fun _ => ⟨fun f5 w14 hf4 xt11 hp4 => ?_, by rintro _ _ _ x_ ⟨g0, e_, hv0, hA1⟩; exact ⟨g0, e_, hv0, hA1.ext x_⟩⟩, ?_⟩
   ·
    have H18 := H12.ext xt11
    have s7 : f5 21 = .slice a0 mn.toNat c0 := hp4 1 rfl rfl
    obtain ⟨s8, rv5⟩ : f5 23 = iV x0.2 ∧ I64 (x0.2) := hp4 3 rfl rfl
    refine iaO (H18.at_ 3 rfl) rfl rfl s7 s8 (by omega) un66 ty115 ?_
    intro g2 x4 hv2 hx3 hA3
    obtain rfl : (⟨a2, x1.length, c2⟩ : SV) = x4 := Option.some.inj (hs0.symm.trans hx3)
    exact ⟨_, rfl, Ext.refl _, ⟨g2, rfl, hv2, hA3⟩⟩
   refine dc (fun f6 w15 hf5 xt12 hp5 => ?_) ?_
   ·
    obtain ⟨g3, s9, hv3, hA4⟩ : ∃ (g3 : Nat), f6 24 = .pointer (some ⟨g3, x0.2.toNat * 1, none⟩) ∧ (.slice a0 mn.toNat c0 : Value).ownBlock = some g3 ∧ AtW (MS M ([box bb3 #[iV x0.1, iV x0.2] 135, iL a1 (pairsM mn mr) c1, box bb2 #[iV mn, .slice a0 mn.toNat c0] 68, own w.heap.size 115 (.slice a0 mn.toNat c0) ss0, box bb1 #[iV 0, .slice none 0 0] 68, box bb0 #[iV mn, sL a_mr mr c_mr] 68, iL a_mr mr c_mr] ++ rowItems w.heap.size 137 ss0 xs)) w15 ⟨g3, x0.2.toNat * 1, none⟩ (⟨a2, x1.length, c2⟩ : SV) := hp5 4 rfl rfl
    refine ldV hA4 ty115 rfl s9 ?_
    exact ⟨_, rfl, Ext.refl _, rfl⟩
   refine dc (fun _ _ hf6 _ _ => iaA rfl rfl (hf6 6 rfl) rfl (by omega) un135 ty3 (d0 rfl rfl)) ?_
   refine dc (fun _ _ _ xt14 hp7 => lx (H12.ext xt14) 0 rfl ty3 rfl (hp7 6 rfl rfl) rfl ⟨_, rfl, Ext.refl _, ⟨rfl, rv3⟩⟩) ?_
   refine dc (fun f9 w18 hf8 xt15 hp8 => ?_) ?_
   ·
    obtain ⟨s11, rv6⟩ : f9 27 = iV x0.1 ∧ I64 (x0.1) := hp8 7 rfl rfl
    refine shrI rfl rfl s11 rfl ?_
    exact ⟨_, rfl, Ext.refl _, rfl⟩
   refine ⟨fun _ => ⟨fun f10 w19 hf9 xt16 hp9 => ?_, by rintro _ _ _ x_ ⟨g1, e_, hv1, hA2⟩; exact ⟨g1, e_, hv1, hA2.ext x_⟩⟩, ?_⟩
   ·
    have H23 := H12.ext xt16
    have s12 : f10 25 = sL a2 x1 c2 := hp9 5 rfl rfl
    have s13 : f10 28 = iV (x0.1 / 64) := hp9 8 rfl rfl
    refine iaO (H23.at_ _ (row_at hs0 hr0)) rfl rfl s12 s13 (by obtain ⟨k1_, k2_, k3_, k4_⟩ := turn_row (hs ▸ hr0) g1_ g2_; first | omega | exact ⟨k1_, k2_⟩) un115 ty137 ?_
    intro g4 x5 hv4 hx4 hA5
    obtain rfl : x3 = x5 := Option.some.inj (hx2.symm.trans hx4)
    exact ⟨_, rfl, Ext.refl _, ⟨g4, rfl, hv4, hA5⟩⟩
   refine dc (fun f11 w20 hf10 xt17 hp10 => ?_) ?_
   ·
    obtain ⟨g5, s14, hv5, hA6⟩ : ∃ (g5 : Nat), f11 29 = .pointer (some ⟨g5, (x0.1 / 64).toNat * 1, none⟩) ∧ (.slice a2 x1.length c2 : Value).ownBlock = some g5 ∧ AtW (MS M ([box bb3 #[iV x0.1, iV x0.2] 135, iL a1 (pairsM mn mr) c1, box bb2 #[iV mn, .slice a0 mn.toNat c0] 68, own w.heap.size 115 (.slice a0 mn.toNat c0) ss0, box bb1 #[iV 0, .slice none 0 0] 68, box bb0 #[iV mn, sL a_mr mr c_mr] 68, iL a_mr mr c_mr] ++ rowItems w.heap.size 137 ss0 xs)) w20 ⟨g5, (x0.1 / 64).toNat * 1, none⟩ x3 := hp10 9 rfl rfl
    refine ldU hA6 ty137 rfl s14 ?_
    exact ⟨_, rfl, Ext.refl _, rfl⟩
   refine dc (fun _ _ hf11 _ _ => iaA rfl rfl (hf11 6 rfl) rfl (by omega) un135 ty3 (d0 rfl rfl)) ?_
   refine dc (fun _ _ _ xt19 hp12 => lx (H12.ext xt19) 0 rfl ty3 rfl (hp12 11 rfl rfl) rfl ⟨_, rfl, Ext.refl _, ⟨rfl, rv3⟩⟩) ?_
   refine dc (fun f14 w23 hf13 xt20 hp13 => ?_) ?_
   ·
    obtain ⟨s16, rv7⟩ : f14 32 = iV x0.1 ∧ I64 (x0.1) := hp13 12 rfl rfl
    refine and63 rfl rfl s16 rfl ?_
    exact ⟨_, rfl, Ext.refl _, rfl⟩
   refine dc (fun f15 w24 hf14 xt21 hp14 => ?_) ?_
   ·
    have s17 : f15 33 = iV (x0.1 % 64) := hp14 13 rfl rfl
    have cc3 := word_Bit (i := (x0.1 % 64)) (w := w24) (by unfold I64 at *; omega)
    refine ca go126 rfl (ec s17 e0) cc3 ?_
    rintro _ w25 ⟨rfl, xt22⟩
    exact ⟨_, rfl, xt22, rfl⟩
   exact DSteps.rest rfl _
  ·
   intro f16 w26 hf15 xt23 hp15
   have H30 := H12.ext xt23
   have s18 : f16 2 = pV bb1 0 := (hf15 2 rfl).trans s0
   have s19 : f16 3 = pV bb2 0 := (hf15 3 rfl).trans s1
   have s20 : f16 14 = sL a1 (pairsM mn mr) c1 := (hf15 14 rfl).trans s2
   have s21 : f16 15 = iV ((pairsM mn mr).length : Int) := (hf15 15 rfl).trans s3
   have s22 : f16 16 = iV (j : Int) := (hf15 16 rfl).trans s4
   have s23 : f16 25 = sL a2 x1 c2 := hp15 5 rfl
   have s24 : f16 28 = iV (x0.1 / 64) := hp15 8 rfl
   have s25 : f16 30 = U x3 := hp15 10 rfl
   have s26 : f16 34 = U (bitB (x0.1 % 64)) := hp15 14 rfl
   refine k (orU x3 (bitB (x0.1 % 64)) rfl rfl s25 s26 (k (iaO (H30.at_ _ (row_at hs0 hr0)) rfl rfl s23 s24 (by obtain ⟨k1_, k2_, k3_, k4_⟩ := turn_row (hs ▸ hr0) g1_ g2_; first | omega | exact ⟨k1_, k2_⟩) un115 ty137 ?_)))
   intro g6 x6 hv6 hx5 hA7
   refine k (stO H30 _ (row_at hs0 hr0) hv6 rfl (by obtain ⟨k1_, k2_, k3_, k4_⟩ := turn_row (hs ▸ hr0) g1_ g2_; first | omega | exact ⟨k1_, k2_⟩) ty137 rfl rfl rfl rfl (RV.bv.2 rfl) ?_)
   intro w27 H32
   have H31 := HI.rowPut (M := fun _ => False) (it := imm (.int .i64 0) (0 : Int)) H32 hs0
   have H33 : HI M w w27 ([box bb3 #[iV x0.1, iV x0.2] 135, iL a1 (pairsM mn mr) c1, box bb2 #[iV mn, .slice a0 mn.toNat c0] 68, own w.heap.size 115 (.slice a0 mn.toNat c0) ss0, box bb1 #[iV 0, .slice none 0 0] 68, box bb0 #[iV mn, sL a_mr mr c_mr] 68, iL a_mr mr c_mr] ++ rowItems w.heap.size 137 ss0 (xs.set x0.2.toNat (x1.set ((x0.1 / 64).toNat) (x3 ||| (bitB (x0.1 % 64)))))) := H31
   refine z (inb_normal (nx (rg (k (add rfl rfl s22 rfl (by have h_ := right_pairs rt_m; unfold I64; omega) (k (mv (v := iV ((j : Int) + 1)) rfl rfl (z ?_))))))))
   have H34 : HI M w w27 ([iL a1 (pairsM mn mr) c1, box bb2 #[iV mn, .slice a0 mn.toNat c0] 68, own w.heap.size 115 (.slice a0 mn.toNat c0) ss0, box bb1 #[iV 0, .slice none 0 0] 68, box bb0 #[iV mn, sL a_mr mr c_mr] 68, iL a_mr mr c_mr] ++ rowItems w.heap.size 137 ss0 (xs.set x0.2.toNat (x1.set ((x0.1 / 64).toNat) (x3 ||| (bitB (x0.1 % 64)))))) := HI.pickT (l := [box bb3 #[iV x0.1, iV x0.2] 135, iL a1 (pairsM mn mr) c1, box bb2 #[iV mn, .slice a0 mn.toNat c0] 68, own w.heap.size 115 (.slice a0 mn.toNat c0) ss0, box bb1 #[iV 0, .slice none 0 0] 68, box bb0 #[iV mn, sL a_mr mr c_mr] 68, iL a_mr mr c_mr]) (l' := [iL a1 (pairsM mn mr) c1, box bb2 #[iV mn, .slice a0 mn.toNat c0] 68, own w.heap.size 115 (.slice a0 mn.toNat c0) ss0, box bb1 #[iV 0, .slice none 0 0] 68, box bb0 #[iV mn, sL a_mr mr c_mr] 68, iL a_mr mr c_mr]) (t := rowItems w.heap.size 137 ss0 (xs.set x0.2.toNat (x1.set ((x0.1 / 64).toNat) (x3 ||| (bitB (x0.1 % 64)))))) H33 [1, 2, 3, 4, 5, 6] (by decide) rfl rfl
   refine loopN _ ?_ ⟨(j + 1), (xs.set x0.2.toNat (x1.set ((x0.1 / 64).toNat) (x3 ||| (bitB (x0.1 % 64))))), rfl, s18, s19, s20, s21, (ieq rfl (by first | rfl | omega)), H34, (by first | omega | assumption | simp), (by simp only [List.length_set]; exact hl), (by first | exact turn_step hs hx0 hr0 hx1 g1_ g2_ | exact turn_step hs hx0 hr0 hx2 g1_ g2_)⟩
   omega
 have p0 := dF b0
 refine ex (then_exit (loop_exit (inb_here (nx (sq ?_)))))
 have H11 : HI M w w6 [own w.heap.size 115 (.slice a0 mn.toNat c0) xs, iL a1 (pairsM mn mr) c1, box bb2 #[iV mn, .slice a0 mn.toNat c0] 68, box bb1 #[iV 0, .slice none 0 0] 68, box bb0 #[iV mn, sL a_mr mr c_mr] 68, iL a_mr mr c_mr] := HI.deep (l := [iL a1 (pairsM mn mr) c1, box bb2 #[iV mn, .slice a0 mn.toNat c0] 68, box bb1 #[iV 0, .slice none 0 0] 68, box bb0 #[iV mn, sL a_mr mr c_mr] 68, iL a_mr mr c_mr]) (HI.pickT (l := [iL a1 (pairsM mn mr) c1, box bb2 #[iV mn, .slice a0 mn.toNat c0] 68, own w.heap.size 115 (.slice a0 mn.toNat c0) ss0, box bb1 #[iV 0, .slice none 0 0] 68, box bb0 #[iV mn, sL a_mr mr c_mr] 68, iL a_mr mr c_mr]) (l' := [own w.heap.size 115 (.slice a0 mn.toNat c0) ss0, iL a1 (pairsM mn mr) c1, box bb2 #[iV mn, .slice a0 mn.toNat c0] 68, box bb1 #[iV 0, .slice none 0 0] 68, box bb0 #[iV mn, sL a_mr mr c_mr] 68, iL a_mr mr c_mr]) (t := rowItems w.heap.size 137 ss0 xs) H10 [2, 0, 1, 3, 4, 5] (by decide) rfl rfl) (by first | assumption | (simp only [List.length_set]; assumption) | (simp only [List.length_set, lR_] at *; omega))
 refine rg (k (ldX H11 2 rfl ty68 rfl s1 (by decide) rfl (k (stX H11 3 rfl ty68 rfl rfl s0 rfl rfl rfl rfl ?_))))
 intro w7 (H12 : HI M w w7 [own w.heap.size 115 (.slice a0 mn.toNat c0) xs, iL a1 (pairsM mn mr) c1, box bb2 #[iV mn, .slice a0 mn.toNat c0] 68, box bb1 #[iV mn, .slice a0 mn.toNat c0] 68, box bb0 #[iV mn, sL a_mr mr c_mr] 68, iL a_mr mr c_mr])
 refine z (nx (rt (rc1 H12 3 rfl ty68 rfl rfl s0 rfl (by decide) ?_)))
 have e1 : (xs : List (List (BitVec 64))) = turnM mn mr := by exact turn_end hs (by omega)
 have l1 : mn.toNat = (turnM mn mr).length := by first | (rw [← e1]; omega) | (rw [turnM_len])
 have ev_ := cg1 (fun (n_1 : Nat) => (.agg #[iV mn, .slice a0 n_1 c0] : Value)) l1
 exact ⟨a0, c0, ev_, H12.below, (congrArg (fun (n_ : Nat) => OwnsG _ _ _ (turnM mn mr) (.slice a0 n_ c0) _) l1).mp ((congrArg (fun (x_ : List (List (BitVec 64))) => OwnsG _ _ _ x_ (.slice a0 mn.toNat c0) _) e1).mp (H12.ownsG_out 0 rfl))⟩
theorem hull_own {mn : Int} {a_mr : OA} {c_mr : Nat} {mr : List (List (BitVec 64))} (hM : ∀ b, M b → b < w.heap.size) (h_mn : I64 mn) (h_mr : RV M w (.slice a_mr mr.length c_mr) mr) (rt_m : rightS mn mr = true) : Calls Tryz.prog 129 #[.agg #[.int .i64 mn, .slice a_mr mr.length c_mr]] w (Ret fun v w' => ∃ (a0 : OA) (c0 : Nat) (ss0 : List SV), v = .agg #[.int .i64 mn, .slice a0 mn.toNat c0] ∧ Ext w w' ∧ OwnsR M 115 137 w ss0 mr (.slice a0 mn.toNat c0) w') := by
 refine enter 30 Tryz.func129 rfl rfl rfl fun f0 ha => ?_
 have H := HI.start (M0 := M) (w := w) hM
 have H0 := H.put (it := iL a_mr mr c_mr) rfl (by rw [MS_nil]; exact h_mr)
 have ln_mr := rv_len h_mr
 have i0 : f0 0 = .agg #[iV mn, sL a_mr mr c_mr] := ha 0 (by simp)
 refine sq (rg (k (bx H0 rfl i0 ?_)))
 intro bb0 w0 xt0 (H1 : HI M w w0 [box bb0 #[iV mn, sL a_mr mr c_mr] 68, iL a_mr mr c_mr])
 refine k (al H1 ty68 ?_)
 intro bb1 w1 xt1 (H2 : HI M w w1 [box bb1 #[iV 0, .slice none 0 0] 68, box bb0 #[iV mn, sL a_mr mr c_mr] 68, iL a_mr mr c_mr])
 refine z (nx (sq (rg (k (fa fl68_0 rfl rfl (k (lx H2 1 rfl ty3 rfl rfl rfl (k ?_))))))))
 have cc0 := mat_NewR (n := mn) (w := w1) H2.mb h_mn (by exact right_pos rt_m) (by exact (right_sq rt_m).2.2.1)
 refine ca go127 rfl (ec rfl e0) cc0 ?_
 rintro _ w2 ⟨a0, c0, ss0, rfl, xt2, rv0⟩
 have H3 := H2.ownsR rv0
 have H4 : HI M w w2 ([own w.heap.size 115 (.slice a0 mn.toNat c0) ss0, box bb1 #[iV 0, .slice none 0 0] 68, box bb0 #[iV mn, sL a_mr mr c_mr] 68, iL a_mr mr c_mr] ++ rowItems w.heap.size 137 ss0 (List.replicate mn.toNat (newR mn))) := H3
 have ssl0 := rv0.1
 refine k (mv (v := .tuple #[.agg #[iV mn, .slice a0 mn.toNat c0], iV 0]) rfl rfl (k (xt rfl rfl rfl (k (xt rfl rfl rfl (k (al H4 ty68 ?_)))))))
 intro bb2 w3 xt3 (H5 : HI M w w3 ([box bb2 #[iV 0, .slice none 0 0] 68, own w.heap.size 115 (.slice a0 mn.toNat c0) ss0, box bb1 #[iV 0, .slice none 0 0] 68, box bb0 #[iV mn, sL a_mr mr c_mr] 68, iL a_mr mr c_mr] ++ rowItems w.heap.size 137 ss0 (List.replicate mn.toNat (newR mn))))
 refine k (stX H5 0 rfl ty68 rfl rfl rfl rfl rfl rfl rfl ?_)
 intro w4 (H6 : HI M w w4 ([box bb2 #[iV mn, .slice a0 mn.toNat c0] 68, own w.heap.size 115 (.slice a0 mn.toNat c0) ss0, box bb1 #[iV 0, .slice none 0 0] 68, box bb0 #[iV mn, sL a_mr mr c_mr] 68, iL a_mr mr c_mr] ++ rowItems w.heap.size 137 ss0 (List.replicate mn.toNat (newR mn))))
 refine k (asg (v := iV 0) rfl rfl (z (nx (sq (sq (rg (k (fa fl68_1 rfl rfl (k (lx H6 3 rfl ty66 rfl rfl rfl (k (lnS rfl rfl un66 (k (mv (v := iV 0) rfl rfl (z (nx (bk ?_)))))))))))))))))
 refine lp (fun m f w' => ∃ (j : Nat) (xs : List (List (BitVec 64))), m = mr.length - j ∧ f 2 = pV bb1 0 ∧ f 3 = pV bb2 0 ∧ f 14 = sL a_mr mr c_mr ∧ f 15 = iV (mr.length : Int) ∧ f 16 = iV (j : Int) ∧  HI M w w' ([box bb2 #[iV mn, .slice a0 mn.toNat c0] 68, own w.heap.size 115 (.slice a0 mn.toNat c0) ss0, box bb1 #[iV 0, .slice none 0 0] 68, box bb0 #[iV mn, sL a_mr mr c_mr] 68, iL a_mr mr c_mr] ++ rowItems w.heap.size 137 ss0 xs) ∧ (j ≤ mr.length) ∧ (ss0.length = xs.length) ∧ (xs = mr.take j ++ List.replicate (mn.toNat - j) (newR mn))) _ ⟨0, (List.replicate mn.toNat (newR mn)), rfl, rfl, rfl, rfl, rfl, (ieq rfl (by first | rfl | omega | simp)), H6, (by first | omega | assumption | simp), (by exact rv0.1), (by simp)⟩ ?_
 rintro _ f0 w5 ⟨j, xs, rfl, s0, s1, s2, s3, s4, H7, hk, hl, hs⟩
 refine sq (rg (k (lss rfl rfl s4 s3 (z (nx (sq ?_))))))
 refine cd (b := decide ((j : Int) < (mr.length : Int))) rfl rfl (fun b0 => ?_) (fun b0 => ?_)
 ·
  have p0 := dT b0
  refine sk (nx (sq (bk (sq (rg (k (mv rfl s4 (k (ia (H7.rv 4 rfl) rfl rfl s2 s4 (by omega) un66 ty115 ?_)))))))))
  intro ad0 x0 hx0 hA0
  refine k (ldL hA0.w ty115 rfl rfl ?_)
  intro a1 c1 rv1
  have ln0 := rv_len rv1
  have H8 := H7.put (it := iL a1 x0 c1) rfl rv1
  have H9 : HI M w w5 ([iL a1 x0 c1, box bb2 #[iV mn, .slice a0 mn.toNat c0] 68, own w.heap.size 115 (.slice a0 mn.toNat c0) ss0, box bb1 #[iV 0, .slice none 0 0] 68, box bb0 #[iV mn, sL a_mr mr c_mr] 68, iL a_mr mr c_mr] ++ rowItems w.heap.size 137 ss0 xs) := H8
  refine k (asg (v := iV (j : Int)) rfl rfl (k (asg (v := sL a1 x0 c1) rfl rfl (z (nx ?_)))))
  have xl_ : xs.length = mr.length := by have h_ := (right_sq rt_m).1; rw [hs, lA_, lT_, lR_]; omega
  refine rg (k (fa fl68_1 rfl s1 (k (lx H9 1 rfl ty66 rfl rfl rfl (k (mv (v := iV (j : Int)) rfl rfl (k ?_)))))))
  obtain ⟨a2, x1, c2, hs0, hr0⟩ := row_get (i := (j : Int).toNat) H9 (by first | assumption | (simp only [List.length_set]; assumption) | (simp only [List.length_set, lR_] at *; omega)) (by omega)
  refine iaO (H9.at_ 2 rfl) rfl rfl rfl rfl (by omega) un66 ty115 ?_
  intro g0 x2 hv0 hx1 hA1
  obtain rfl : (⟨a2, x1.length, c2⟩ : SV) = x2 := Option.some.inj (hs0.symm.trans hx1)
  refine k (ldV hA1 ty115 rfl rfl (k (mv (v := sL a1 x0 c1) rfl rfl (k (cpO H9 _ (row_at hs0 hr0) rfl rfl rfl rfl rfl (H9.rv 0 rfl).src un115 ty137 (by exact own_len rt_m hs hx0 hr0) (by exact own_pos rt_m hs hx0 hr0) ?_)))))
  intro w6 H11
  have H10 := HI.rowPut (M := fun _ => False) (it := imm (.int .i64 0) (0 : Int)) H11 hs0
  have H12 : HI M w w6 ([iL a1 x0 c1, box bb2 #[iV mn, .slice a0 mn.toNat c0] 68, own w.heap.size 115 (.slice a0 mn.toNat c0) ss0, box bb1 #[iV 0, .slice none 0 0] 68, box bb0 #[iV mn, sL a_mr mr c_mr] 68, iL a_mr mr c_mr] ++ rowItems w.heap.size 137 ss0 (xs.set ((j : Int).toNat) x0)) := H10
  refine z (inb_normal (nx (rg (k (add rfl rfl s4 rfl (by unfold I64 at *; omega) (k (mv (v := iV ((j : Int) + 1)) rfl rfl (z ?_))))))))
  have H13 : HI M w w6 ([box bb2 #[iV mn, .slice a0 mn.toNat c0] 68, own w.heap.size 115 (.slice a0 mn.toNat c0) ss0, box bb1 #[iV 0, .slice none 0 0] 68, box bb0 #[iV mn, sL a_mr mr c_mr] 68, iL a_mr mr c_mr] ++ rowItems w.heap.size 137 ss0 (xs.set ((j : Int).toNat) x0)) := HI.pickT (l := [iL a1 x0 c1, box bb2 #[iV mn, .slice a0 mn.toNat c0] 68, own w.heap.size 115 (.slice a0 mn.toNat c0) ss0, box bb1 #[iV 0, .slice none 0 0] 68, box bb0 #[iV mn, sL a_mr mr c_mr] 68, iL a_mr mr c_mr]) (l' := [box bb2 #[iV mn, .slice a0 mn.toNat c0] 68, own w.heap.size 115 (.slice a0 mn.toNat c0) ss0, box bb1 #[iV 0, .slice none 0 0] 68, box bb0 #[iV mn, sL a_mr mr c_mr] 68, iL a_mr mr c_mr]) (t := rowItems w.heap.size 137 ss0 (xs.set ((j : Int).toNat) x0)) H12 [1, 2, 3, 4, 5] (by decide) rfl rfl
  refine loopN _ ?_ ⟨(j + 1), (xs.set ((j : Int).toNat) x0), rfl, s0, s1, s2, s3, (ieq rfl (by first | rfl | omega)), H13, (by first | omega | assumption | simp), (by simp only [List.length_set]; exact hl), (by exact own_step rt_m hs hx0)⟩
  omega
 have p0 := dF b0
 refine ex (then_exit (loop_exit (inb_here (nx (sq (rg (k (ldX H7 0 rfl ty68 rfl s1 (by decide) rfl (k (stX H7 2 rfl ty68 rfl rfl s0 rfl rfl rfl rfl ?_))))))))))
 intro w6 (H8 : HI M w w6 ([box bb2 #[iV mn, .slice a0 mn.toNat c0] 68, own w.heap.size 115 (.slice a0 mn.toNat c0) ss0, box bb1 #[iV mn, .slice a0 mn.toNat c0] 68, box bb0 #[iV mn, sL a_mr mr c_mr] 68, iL a_mr mr c_mr] ++ rowItems w.heap.size 137 ss0 xs))
 refine z (nx (rt (rc1 H8 2 rfl ty68 rfl rfl s0 rfl (by decide) ?_)))
 have e1 : (xs : List (List (BitVec 64))) = mr := by exact own_end rt_m hs (by omega)
 have w1 : ss0.length = (xs).length := by first | assumption | (simp only [List.length_set]; assumption) | (simp only [List.length_set, lR_] at *; omega)
 exact ⟨a0, c0, ss0, rfl, H8.below, (congrArg (fun (x_ : List (List (BitVec 64))) => OwnsR _ 115 137 _ ss0 x_ (.slice a0 mn.toNat c0) _) e1).mp ⟨w1, HI.pickT (l := [box bb2 #[iV mn, .slice a0 mn.toNat c0] 68, own w.heap.size 115 (.slice a0 mn.toNat c0) ss0, box bb1 #[iV mn, .slice a0 mn.toNat c0] 68, box bb0 #[iV mn, sL a_mr mr c_mr] 68, iL a_mr mr c_mr]) (l' := [own w.heap.size 115 (.slice a0 mn.toNat c0) ss0]) (t := rowItems w.heap.size 137 ss0 xs) H8 [1] (by decide) rfl rfl⟩⟩
theorem go129 : GoF Tryz.prog 129 := ⟨_, _, Tryz.func129, rfl, by kernel_rfl⟩
theorem go130 : GoF Tryz.prog 130 := ⟨_, _, Tryz.func130, rfl, by kernel_rfl⟩
theorem go131 : GoF Tryz.prog 131 := ⟨_, _, Tryz.func131, rfl, by kernel_rfl⟩
theorem hull_Close {mn : Int} {a_mr : OA} {c_mr : Nat} {mr : List (List (BitVec 64))} (hM : ∀ b, M b → b < w.heap.size) (h_mn : I64 mn) (h_mr : RV M w (.slice a_mr mr.length c_mr) mr) (rt_m : rightS mn mr = true) : Calls Tryz.prog 114 #[.agg #[.int .i64 mn, .slice a_mr mr.length c_mr]] w (Ret fun v w' => ∃ (a0 : OA) (c0 : Nat), v = .agg #[.int .i64 mn, .slice a0 (closeM mn mr).length c0] ∧ Ext w w' ∧ OwnsG M 115 w (closeM mn mr) (.slice a0 (closeM mn mr).length c0) w') := by
 refine enter 41 Tryz.func114 rfl rfl rfl fun f0 ha => ?_
 have H := HI.start (M0 := M) (w := w) hM
 have H0 := H.put (it := iL a_mr mr c_mr) rfl (by rw [MS_nil]; exact h_mr)
 have ln_mr := rv_len h_mr
 have i0 : f0 0 = .agg #[iV mn, sL a_mr mr c_mr] := ha 0 (by simp)
 have hl_ := (right_sq rt_m).1; have h4_ := (right_sq rt_m).2.2.1; have h0_ := right_pos rt_m
 refine sq (rg (k (bx H0 rfl i0 ?_)))
 intro bb0 w0 xt0 (H1 : HI M w w0 [box bb0 #[iV mn, sL a_mr mr c_mr] 68, iL a_mr mr c_mr])
 refine k (al H1 ty68 ?_)
 intro bb1 w1 xt1 (H2 : HI M w w1 [box bb1 #[iV 0, .slice none 0 0] 68, box bb0 #[iV mn, sL a_mr mr c_mr] 68, iL a_mr mr c_mr])
 refine z (nx (sq (rg (k (ldX H2 1 rfl ty68 rfl rfl (by decide) rfl (k ?_))))))
 have cc0 := hull_own (mn := mn) (mr := mr) (w := w1) H2.mb h_mn (H2.rv 2 rfl) (by exact rt_m)
 refine ca go129 rfl (ec rfl e0) cc0 ?_
 rintro _ w2 ⟨a0, c0, ss0, rfl, xt2, rv0⟩
 have H3 := H2.ownsR rv0
 have H4 : HI M w w2 ([own w.heap.size 115 (.slice a0 mn.toNat c0) ss0, box bb1 #[iV 0, .slice none 0 0] 68, box bb0 #[iV mn, sL a_mr mr c_mr] 68, iL a_mr mr c_mr] ++ rowItems w.heap.size 137 ss0 mr) := H3
 have ssl0 := rv0.1
 refine k (al H4 ty68 ?_)
 intro bb2 w3 xt3 (H5 : HI M w w3 ([box bb2 #[iV 0, .slice none 0 0] 68, own w.heap.size 115 (.slice a0 mn.toNat c0) ss0, box bb1 #[iV 0, .slice none 0 0] 68, box bb0 #[iV mn, sL a_mr mr c_mr] 68, iL a_mr mr c_mr] ++ rowItems w.heap.size 137 ss0 mr))
 refine k (stX H5 0 rfl ty68 rfl rfl rfl rfl rfl rfl rfl ?_)
 intro w4 (H6 : HI M w w4 ([box bb2 #[iV mn, .slice a0 mn.toNat c0] 68, own w.heap.size 115 (.slice a0 mn.toNat c0) ss0, box bb1 #[iV 0, .slice none 0 0] 68, box bb0 #[iV mn, sL a_mr mr c_mr] 68, iL a_mr mr c_mr] ++ rowItems w.heap.size 137 ss0 mr))
 refine z (nx (sq (sq (rg (k (fa fl68_1 rfl rfl (k (lx H6 0 rfl ty66 rfl rfl rfl (k (lnS rfl rfl un66 (k (mv (v := iV 0) rfl rfl (z (nx (bk ?_)))))))))))))))
 refine lp (fun m f w' => ∃ (q : Nat) (xs : List (List (BitVec 64))), m = mn.toNat - q ∧ f 2 = pV bb1 0 ∧ f 3 = pV bb2 0 ∧ f 10 = iV (mn.toNat : Int) ∧ f 11 = iV (q : Int) ∧  HI M w w' ([box bb2 #[iV mn, .slice a0 mn.toNat c0] 68, own w.heap.size 115 (.slice a0 mn.toNat c0) ss0, box bb1 #[iV 0, .slice none 0 0] 68, box bb0 #[iV mn, sL a_mr mr c_mr] 68, iL a_mr mr c_mr] ++ rowItems w.heap.size 137 ss0 xs) ∧ (q ≤ mn.toNat) ∧ (ss0.length = xs.length) ∧ (xs = matP mn.toNat (wM (relM mr) q)) ∧ (xs.length = mn.toNat)) _ ⟨0, mr, rfl, rfl, rfl, rfl, (ieq rfl (by first | rfl | omega | simp)), H6, (by first | omega | assumption | simp), (by exact ssl0), (by exact close_start rt_m), (by omega)⟩ ?_
 rintro _ f0 w5 ⟨q, xs, rfl, s0, s1, s2, s3, H7, hk, hl, hs, hxl⟩
 refine sq (rg (k (lss rfl rfl s3 s2 (z (nx (sq ?_))))))
 refine cd (b := decide ((q : Int) < (mn.toNat : Int))) rfl rfl (fun b0 => ?_) (fun b0 => ?_)
 ·
  have p0 := dT b0
  refine sk (nx (sq (bk (sq (rg (k (mv rfl s3 (k (asg (v := iV (q : Int)) rfl rfl (z (nx (sq (rg (k (fa fl68_1 rfl s1 (k (lx H7 0 rfl ty66 rfl rfl rfl (k (lnS rfl rfl un66 (k (mv (v := iV 0) rfl rfl (z (nx (bk ?_))))))))))))))))))))))))
  refine lp (fun m f w' => ∃ (i : Nat) (ys : List (List (BitVec 64))), m = mn.toNat - i ∧ f 2 = pV bb1 0 ∧ f 3 = pV bb2 0 ∧ f 4 = iV (q : Int) ∧ f 10 = iV (mn.toNat : Int) ∧ f 11 = iV (q : Int) ∧ f 16 = iV (mn.toNat : Int) ∧ f 17 = iV (i : Int) ∧  HI M w w' ([box bb2 #[iV mn, .slice a0 mn.toNat c0] 68, own w.heap.size 115 (.slice a0 mn.toNat c0) ss0, box bb1 #[iV 0, .slice none 0 0] 68, box bb0 #[iV mn, sL a_mr mr c_mr] 68, iL a_mr mr c_mr] ++ rowItems w.heap.size 137 ss0 ys) ∧ (i ≤ mn.toNat) ∧ (ss0.length = ys.length) ∧ (ys = matP mn.toNat (wR (relM mr) q i)) ∧ (ys.length = mn.toNat)) _ ⟨0, xs, rfl, s0, s1, rfl, s2, s3, rfl, (ieq rfl (by first | rfl | omega | simp)), H7, (by first | omega | assumption | simp), (by exact hl), (by rw [hs]; exact wR_zero _ _ _), (by exact hxl)⟩ ?_
  rintro _ f1 w6 ⟨i, ys, rfl, s4, s5, s6, s7, s8, s9, s10, H8, hi_, hl2, hs2, hyl⟩
  refine sq (rg (k (lss rfl rfl s10 s9 (z (nx (sq ?_))))))
  refine cd (b := decide ((i : Int) < (mn.toNat : Int))) rfl rfl (fun b1 => ?_) (fun b1 => ?_)
  ·
   have p1 := dT b1
   refine sk (nx (sq (bk (sq (rg (k (mv rfl s10 (k (asg (v := iV (i : Int)) rfl rfl (z (nx (sq (rg (k (fa fl68_1 rfl s5 (k (lx H8 0 rfl ty66 rfl rfl rfl (k (mv (v := iV (i : Int)) rfl rfl (k ?_))))))))))))))))))))
   obtain ⟨a1, x0, c1, hs0, hr0⟩ := row_get (i := (i : Int).toNat) H8 (by first | assumption | (simp only [List.length_set]; assumption) | (simp only [List.length_set, lR_] at *; omega)) (by omega)
   refine iaO (H8.at_ 1 rfl) rfl rfl rfl rfl (by omega) un66 ty115 ?_
   intro g0 x1 hv0 hx0 hA0
   obtain rfl : (⟨a1, x0.length, c1⟩ : SV) = x1 := Option.some.inj (hs0.symm.trans hx0)
   refine k (ldV hA0 ty115 rfl rfl (k (mv rfl s6 (k ?_))))
   have cc1 := row_Has (r := x0) (i := (q : Int)) (w := w6) (M := fun _ => False) (fun _ h_ => h_.elim) (row_rv H8 hs0 hr0) (by unfold I64 at *; omega)
   refine ca go130 rfl (ec rfl (ec rfl e0)) cc1 ?_
   rintro _ w7 ⟨rfl, xt4⟩
   have H9 := H8.ext xt4
   refine z (nx ?_)
   refine cd (b := hasR x0 (q : Int)) rfl rfl (fun b2 => ?_) (fun b2 => ?_)
   ·
    obtain ⟨a2, x3, c2, hs1, hr1⟩ := row_get (i := (q : Int).toNat) H9 (by first | assumption | (simp only [List.length_set]; assumption) | (simp only [List.length_set, lR_] at *; omega)) (by omega)
    refine dr 10 [eV (pV bb2 1), eV (.slice a0 mn.toNat c0), eV (iV (i : Int)), fun v w' => ∃ (g1 : Nat), v = .pointer (some ⟨g1, (i : Int).toNat * 1, none⟩) ∧ (.slice a0 mn.toNat c0 : Value).ownBlock = some g1 ∧ AtW (MS M ([box bb2 #[iV mn, .slice a0 mn.toNat c0] 68, own w.heap.size 115 (.slice a0 mn.toNat c0) ss0, box bb1 #[iV 0, .slice none 0 0] 68, box bb0 #[iV mn, sL a_mr mr c_mr] 68, iL a_mr mr c_mr] ++ rowItems w.heap.size 137 ss0 ys)) w' ⟨g1, (i : Int).toNat * 1, none⟩ (⟨a1, x0.length, c1⟩ : SV), eV (sL a1 x0 c1), eV (pV bb2 1), eV (.slice a0 mn.toNat c0), eV (iV (q : Int)), fun v w' => ∃ (g2 : Nat), v = .pointer (some ⟨g2, (q : Int).toNat * 1, none⟩) ∧ (.slice a0 mn.toNat c0 : Value).ownBlock = some g2 ∧ AtW (MS M ([box bb2 #[iV mn, .slice a0 mn.toNat c0] 68, own w.heap.size 115 (.slice a0 mn.toNat c0) ss0, box bb1 #[iV 0, .slice none 0 0] 68, box bb0 #[iV mn, sL a_mr mr c_mr] 68, iL a_mr mr c_mr] ++ rowItems w.heap.size 137 ss0 ys)) w' ⟨g2, (q : Int).toNat * 1, none⟩ (⟨a2, x3.length, c2⟩ : SV), eV (sL a2 x3 c2)] rfl (by kernel_rfl) ?_ ?_
    ·
     refine dc (fun _ _ hf0 _ _ => fa fl68_1 rfl ((hf0 3 rfl).trans s5) (d0 rfl rfl)) ?_
     refine dc (fun _ _ _ xt6 hp1 => lx (H9.ext xt6) 0 rfl ty66 rfl (hp1 0 rfl rfl) rfl (d0 rfl rfl)) ?_
     refine dc (fun _ _ hf2 _ _ => mv rfl (hf2 5 rfl) (d0 rfl rfl)) ?_
     refine ⟨fun _ => ⟨fun f5 w11 hf3 xt8 hp3 => ?_, by rintro _ _ _ x_ ⟨g1, e_, hv1, hA1⟩; exact ⟨g1, e_, hv1, hA1.ext x_⟩⟩, ?_⟩
     ·
      have H13 := H9.ext xt8
      have s12 : f5 28 = .slice a0 mn.toNat c0 := hp3 1 rfl rfl
      have s13 : f5 29 = iV (i : Int) := hp3 2 rfl rfl
      refine iaO (H13.at_ 1 rfl) rfl rfl s12 s13 (by omega) un66 ty115 ?_
      intro g3 x5 hv3 hx3 hA3
      obtain rfl : (⟨a1, x0.length, c1⟩ : SV) = x5 := Option.some.inj (hs0.symm.trans hx3)
      exact ⟨_, rfl, Ext.refl _, ⟨g3, rfl, hv3, hA3⟩⟩
     refine dc (fun f6 w12 hf4 xt9 hp4 => ?_) ?_
     ·
      obtain ⟨g4, s14, hv4, hA4⟩ : ∃ (g4 : Nat), f6 30 = .pointer (some ⟨g4, (i : Int).toNat * 1, none⟩) ∧ (.slice a0 mn.toNat c0 : Value).ownBlock = some g4 ∧ AtW (MS M ([box bb2 #[iV mn, .slice a0 mn.toNat c0] 68, own w.heap.size 115 (.slice a0 mn.toNat c0) ss0, box bb1 #[iV 0, .slice none 0 0] 68, box bb0 #[iV mn, sL a_mr mr c_mr] 68, iL a_mr mr c_mr] ++ rowItems w.heap.size 137 ss0 ys)) w12 ⟨g4, (i : Int).toNat * 1, none⟩ (⟨a1, x0.length, c1⟩ : SV) := hp4 3 rfl rfl
      refine ldV hA4 ty115 rfl s14 ?_
      exact ⟨_, rfl, Ext.refl _, rfl⟩
     refine dc (fun _ _ hf5 _ _ => fa fl68_1 rfl ((hf5 3 rfl).trans s5) (d0 rfl rfl)) ?_
     refine dc (fun _ _ _ xt11 hp6 => lx (H9.ext xt11) 0 rfl ty66 rfl (hp6 5 rfl rfl) rfl (d0 rfl rfl)) ?_
     refine dc (fun _ _ hf7 _ _ => mv rfl ((hf7 4 rfl).trans s6) (d0 rfl rfl)) ?_
     refine ⟨fun _ => ⟨fun f10 w16 hf8 xt13 hp8 => ?_, by rintro _ _ _ x_ ⟨g2, e_, hv2, hA2⟩; exact ⟨g2, e_, hv2, hA2.ext x_⟩⟩, ?_⟩
     ·
      have H18 := H9.ext xt13
      have s16 : f10 33 = .slice a0 mn.toNat c0 := hp8 6 rfl rfl
      have s17 : f10 34 = iV (q : Int) := hp8 7 rfl rfl
      refine iaO (H18.at_ 1 rfl) rfl rfl s16 s17 (by omega) un66 ty115 ?_
      intro g5 x6 hv5 hx4 hA5
      obtain rfl : (⟨a2, x3.length, c2⟩ : SV) = x6 := Option.some.inj (hs1.symm.trans hx4)
      exact ⟨_, rfl, Ext.refl _, ⟨g5, rfl, hv5, hA5⟩⟩
     refine dc (fun f11 w17 hf9 xt14 hp9 => ?_) ?_
     ·
      obtain ⟨g6, s18, hv6, hA6⟩ : ∃ (g6 : Nat), f11 35 = .pointer (some ⟨g6, (q : Int).toNat * 1, none⟩) ∧ (.slice a0 mn.toNat c0 : Value).ownBlock = some g6 ∧ AtW (MS M ([box bb2 #[iV mn, .slice a0 mn.toNat c0] 68, own w.heap.size 115 (.slice a0 mn.toNat c0) ss0, box bb1 #[iV 0, .slice none 0 0] 68, box bb0 #[iV mn, sL a_mr mr c_mr] 68, iL a_mr mr c_mr] ++ rowItems w.heap.size 137 ss0 ys)) w17 ⟨g6, (q : Int).toNat * 1, none⟩ (⟨a2, x3.length, c2⟩ : SV) := hp9 8 rfl rfl
      refine ldV hA6 ty115 rfl s18 ?_
      exact ⟨_, rfl, Ext.refl _, rfl⟩
     exact DSteps.rest rfl _
    ·
     intro f12 w18 hf10 xt15 hp10
     have H20 := H9.ext xt15
     have s19 : f12 2 = pV bb1 0 := (hf10 2 rfl).trans s4
     have s20 : f12 3 = pV bb2 0 := (hf10 3 rfl).trans s5
     have s21 : f12 4 = iV (q : Int) := (hf10 4 rfl).trans s6
     have s22 : f12 10 = iV (mn.toNat : Int) := (hf10 10 rfl).trans s7
     have s23 : f12 11 = iV (q : Int) := (hf10 11 rfl).trans s8
     have s24 : f12 16 = iV (mn.toNat : Int) := (hf10 16 rfl).trans s9
     have s25 : f12 17 = iV (i : Int) := (hf10 17 rfl).trans s10
     have s26 : f12 31 = sL a1 x0 c1 := hp10 4 rfl
     have s27 : f12 36 = sL a2 x3 c2 := hp10 9 rfl
     refine k ?_
     have cc2 := hull_join H20 (row_at (l := [box bb2 #[iV mn, .slice a0 mn.toNat c0] 68, own w.heap.size 115 (.slice a0 mn.toNat c0) ss0, box bb1 #[iV 0, .slice none 0 0] 68, box bb0 #[iV mn, sL a_mr mr c_mr] 68, iL a_mr mr c_mr]) hs0 hr0) (row_at (l := [box bb2 #[iV mn, .slice a0 mn.toNat c0] 68, own w.heap.size 115 (.slice a0 mn.toNat c0) ss0, box bb1 #[iV 0, .slice none 0 0] 68, box bb0 #[iV mn, sL a_mr mr c_mr] 68, iL a_mr mr c_mr]) hs1 hr1) (by have e1_ := hr0; rw [hs2] at e1_; have e2_ := hr1; rw [hs2] at e2_; rw [wR_len e1_, wR_len e2_]; exact Nat.le_refl _) (by have e2_ := hr1; rw [hs2] at e2_; rw [wR_len e2_]; have h_ := words_le (n := ((mn.toNat : Nat) : Int)) (by omega); omega) (join_ne hs0 hs1 hr0 hr1)
     refine ca go131 rfl (ec s26 (ec s27 e0)) cc2 ?_
     rintro _ w19 ⟨rfl, H22⟩
     have H21 := HI.rowPut (M := fun _ => False) (it := imm (.int .i64 0) (0 : Int)) H22 hs0
     have H23 : HI M w w19 ([box bb2 #[iV mn, .slice a0 mn.toNat c0] 68, own w.heap.size 115 (.slice a0 mn.toNat c0) ss0, box bb1 #[iV 0, .slice none 0 0] 68, box bb0 #[iV mn, sL a_mr mr c_mr] 68, iL a_mr mr c_mr] ++ rowItems w.heap.size 137 ss0 (ys.set ((i : Int).toNat) (orR x0 x3))) := H21
     refine z (inb_normal (nx (rg (k (add rfl rfl s25 rfl (by unfold I64 at *; omega) (k (mv (v := iV ((i : Int) + 1)) rfl rfl (z ?_))))))))
     refine loopN _ ?_ ⟨(i + 1), (ys.set ((i : Int).toNat) (orR x0 x3)), rfl, s19, s20, s21, s22, s23, s24, (ieq rfl (by first | rfl | omega)), H23, (by first | omega | assumption | simp), (by first | exact hl2 | (rw [List.length_set]; exact hl2)), (by first | exact wR_yes hs2 hr0 hr1 (by omega) b2 | exact wR_no hs2 hr0 (by omega) b2), (by first | exact hyl | (rw [List.length_set]; exact hyl))⟩
     omega
   refine sk (inb_normal (nx (rg (k (add rfl rfl s10 rfl (by unfold I64 at *; omega) (k (mv (v := iV ((i : Int) + 1)) rfl rfl (z ?_))))))))
   refine loopN _ ?_ ⟨(i + 1), ys, rfl, s4, s5, s6, s7, s8, s9, (ieq rfl (by first | rfl | omega)), H9, (by first | omega | assumption | simp), (by first | exact hl2 | (rw [List.length_set]; exact hl2)), (by first | exact wR_yes hs2 hr0 hr1 (by omega) b2 | exact wR_no hs2 hr0 (by omega) b2), (by first | exact hyl | (rw [List.length_set]; exact hyl))⟩
   omega
  have p1 := dF b1
  refine ex (then_exit (loop_exit (inb_here (inb_normal (nx (rg (k (add rfl rfl s8 rfl (by unfold I64 at *; omega) (k (mv (v := iV ((q : Int) + 1)) rfl rfl (z ?_)))))))))))
  refine loopN _ ?_ ⟨(q + 1), ys, rfl, s4, s5, s7, (ieq rfl (by first | rfl | omega)), H8, (by first | omega | assumption | simp), (by exact hl2), (by rw [hs2]; exact wR_end _ (by omega)), (by exact hyl)⟩
  omega
 have p0 := dF b0
 refine ex (then_exit (loop_exit (inb_here (nx (sq ?_)))))
 have H8 : HI M w w5 [own w.heap.size 115 (.slice a0 mn.toNat c0) xs, box bb2 #[iV mn, .slice a0 mn.toNat c0] 68, box bb1 #[iV 0, .slice none 0 0] 68, box bb0 #[iV mn, sL a_mr mr c_mr] 68, iL a_mr mr c_mr] := HI.deep (l := [box bb2 #[iV mn, .slice a0 mn.toNat c0] 68, box bb1 #[iV 0, .slice none 0 0] 68, box bb0 #[iV mn, sL a_mr mr c_mr] 68, iL a_mr mr c_mr]) (HI.pickT (l := [box bb2 #[iV mn, .slice a0 mn.toNat c0] 68, own w.heap.size 115 (.slice a0 mn.toNat c0) ss0, box bb1 #[iV 0, .slice none 0 0] 68, box bb0 #[iV mn, sL a_mr mr c_mr] 68, iL a_mr mr c_mr]) (l' := [own w.heap.size 115 (.slice a0 mn.toNat c0) ss0, box bb2 #[iV mn, .slice a0 mn.toNat c0] 68, box bb1 #[iV 0, .slice none 0 0] 68, box bb0 #[iV mn, sL a_mr mr c_mr] 68, iL a_mr mr c_mr]) (t := rowItems w.heap.size 137 ss0 xs) H7 [1, 0, 2, 3, 4] (by decide) rfl rfl) (by first | assumption | (simp only [List.length_set]; assumption) | (simp only [List.length_set, lR_] at *; omega))
 refine rg (k (ldX H8 1 rfl ty68 rfl s1 (by decide) rfl (k (stX H8 2 rfl ty68 rfl rfl s0 rfl rfl rfl rfl ?_))))
 intro w6 (H9 : HI M w w6 [own w.heap.size 115 (.slice a0 mn.toNat c0) xs, box bb2 #[iV mn, .slice a0 mn.toNat c0] 68, box bb1 #[iV mn, .slice a0 mn.toNat c0] 68, box bb0 #[iV mn, sL a_mr mr c_mr] 68, iL a_mr mr c_mr])
 refine z (nx (rt (rc1 H9 2 rfl ty68 rfl rfl s0 rfl (by decide) ?_)))
 have e1 : (xs : List (List (BitVec 64))) = closeM mn mr := by exact close_end hs (by omega) (by omega)
 have l1 : mn.toNat = (closeM mn mr).length := by first | (rw [← e1]; omega) | (rw [closeM_len])
 have ev_ := cg1 (fun (n_1 : Nat) => (.agg #[iV mn, .slice a0 n_1 c0] : Value)) l1
 exact ⟨a0, c0, ev_, H9.below, (congrArg (fun (n_ : Nat) => OwnsG _ _ _ (closeM mn mr) (.slice a0 n_ c0) _) l1).mp ((congrArg (fun (x_ : List (List (BitVec 64))) => OwnsG _ _ _ x_ (.slice a0 mn.toNat c0) _) e1).mp (H9.ownsG_out 0 rfl))⟩
theorem go79 : GoF Tryz.prog 79 := ⟨_, _, Tryz.func79, rfl, by kernel_rfl⟩
theorem ref04_Reach {mn : Int} {a_mr : OA} {c_mr : Nat} {mr : List (List (BitVec 64))} {i : Int} (hM : ∀ b, M b → b < w.heap.size) (h_mn : I64 mn) (h_mr : RV M w (.slice a_mr mr.length c_mr) mr) (h_i : I64 i) (rt_m : rightS mn mr = true) (hi0 : 0 ≤ i) (hi1 : i < mn) : Calls Tryz.prog 79 #[.agg #[.int .i64 mn, .slice a_mr mr.length c_mr], .int .i64 i] w (Ret fun v w' => ∃ (a0 : OA) (c0 : Nat), v = .slice a0 (lst mn.toNat (cl mn.toNat (relM mr) i.toNat)).length c0 ∧ Ext w w' ∧ OwnsG M 3 w (lst mn.toNat (cl mn.toNat (relM mr) i.toNat)) (.slice a0 (lst mn.toNat (cl mn.toNat (relM mr) i.toNat)).length c0) w') := by
 refine enter 63 Tryz.func79 rfl rfl rfl fun f0 ha => ?_
 have H := HI.start (M0 := M) (w := w) hM
 have H0 := H.put (it := iL a_mr mr c_mr) rfl (by rw [MS_nil]; exact h_mr)
 have ln_mr := rv_len h_mr
 have i0 : f0 0 = .agg #[iV mn, sL a_mr mr c_mr] := ha 0 (by simp)
 have i1 : f0 1 = iV i := ha 1 (by simp)
 have hl_ := (right_sq rt_m).1; have h4_ := (right_sq rt_m).2.2.1; have h0_ := right_pos rt_m
 refine sq (rg (k (bx H0 rfl i0 ?_)))
 intro bb0 w0 xt0 (H1 : HI M w w0 [box bb0 #[iV mn, sL a_mr mr c_mr] 68, iL a_mr mr c_mr])
 refine k (asg (v := .slice none 0 0) rfl rfl (z (nx (sq (rg (k (asg (v := .slice none 0 0) rfl rfl (z (nx (sq (rg (k (fa fl68_0 rfl rfl (k (lx H1 0 rfl ty3 rfl rfl rfl (k ?_))))))))))))))))
 have n0 : ((mn.toNat : Nat) : Int) = mn := Int.toNat_of_nonneg (by omega)
 refine mk (m := mn.toNat) (zx := (false : Bool)) H1 rfl rfl (by rw [n0]; exact rfl) (by rw [n0]; exact rfl) un55 ty4 (fun _ _ => rfl) (by omega) (by omega) ?_
 intro g0 w1 xt1 (H2 : HI M w w1 [own w.heap.size 4 (.slice (some ⟨g0, 0, none⟩) mn.toNat mn.toNat) (List.replicate mn.toNat (false : Bool)), box bb0 #[iV mn, sL a_mr mr c_mr] 68, iL a_mr mr c_mr])
 refine k (asg (v := .slice (some ⟨g0, 0, none⟩) mn.toNat mn.toNat) rfl rfl (z (nx (sq (rg (k (mv rfl i1 (k (bs (xs := ([i] : List Int)) (cells := #[iV i]) (e := 3) H2 rfl (pbc rfl pb0) (fun _ => by kernel_rfl) ⟨[iV i], [], rfl, ⟨rfl, h_i⟩, rfl⟩ rfl (by decide) ?_)))))))))
 intro g1 w2 xt2 H3
 refine k (asg (v := .slice (some ⟨g1, 0, none⟩) 1 1) rfl rfl (z (nx (sq (bk ?_)))))
 have H4 : HI M w w2 [ownQ w.heap.size 3 (.slice (some ⟨g1, 0, none⟩) 1 1) ([i] : List Int), own w.heap.size 4 (.slice (some ⟨g0, 0, none⟩) mn.toNat mn.toNat) (List.replicate mn.toNat (false : Bool)), box bb0 #[iV mn, sL a_mr mr c_mr] 68, iL a_mr mr c_mr] := H3.toQ 0 rfl
 refine lp (fun m f w' => ∃ (sn : List Bool) (td : List Int) (a0 : OA) (c0 : Nat), m = 2 * sn.count false + td.length ∧ f 2 = pV bb0 0 ∧ f 5 = .slice none 0 0 ∧ f 6 = .slice (some ⟨g0, 0, none⟩) mn.toNat mn.toNat ∧ f 7 = sL a0 td c0 ∧  HI M w w' [ownQ w.heap.size 3 (.slice a0 td.length c0) td, own w.heap.size 4 (.slice (some ⟨g0, 0, none⟩) mn.toNat mn.toNat) sn, box bb0 #[iV mn, sL a_mr mr c_mr] 68, iL a_mr mr c_mr] ∧ (Rch mn.toNat (relM mr) i.toNat sn td (-1) 0) ∧ (2 * sn.count false + td.length ≤ 2 * mn.toNat + 1)) _ ⟨(List.replicate mn.toNat (false : Bool)), [i], (some ⟨g1, 0, none⟩), 1, rfl, rfl, rfl, rfl, rfl, H4, (by have h_ := rch_start (n := mn.toNat) (p := relM mr) (i := i.toNat) (by omega); rwa [Int.toNat_of_nonneg hi0] at h_), (by simp)⟩ ?_
 rintro _ f0 w3 ⟨sn, td, a0, c0, rfl, s0, s1, s2, s3, H5, hs, hz_⟩
 refine sq (sq (rg (k (mv rfl s3 (k (lnS rfl rfl un30 (k (gtr rfl rfl rfl rfl (z (nx ?_))))))))))
 refine cd (b := decide (0 < (td.length : Int))) rfl rfl (fun b0 => ?_) (fun b0 => ?_)
 ·
  have p0 := dT b0
  refine sk (nx (bk (sq ?_)))
  have hn_ : ((mn.toNat : Nat) : Int) = mn := Int.toNat_of_nonneg h0_
  refine rg (k (mv rfl s3 (k (iaQ (H5.at_ 0 rfl) rfl rfl rfl rfl (by omega) un30 ty3 ?_))))
  intro ad0 x0 hx0 hA0
  refine k (ldI hA0 ty3 rfl rfl ?_)
  intro rv0
  refine k (asg (v := iV x0) rfl rfl (z (nx (sq ?_))))
  obtain ⟨at_, hat_, ha1_, ha2_⟩ := rch_at hs hx0
  refine rg (k (mv rfl s3 (k (slQ H5 0 rfl rfl rfl rfl rfl (by omega) un30 ty3 ?_))))
  intro a1 c1 (H6 : HI M w w3 [ownQ w.heap.size 3 (.slice a1 (td.drop 1).length c1) (td.drop 1), own w.heap.size 4 (.slice (some ⟨g0, 0, none⟩) mn.toNat mn.toNat) sn, box bb0 #[iV mn, sL a_mr mr c_mr] 68, iL a_mr mr c_mr])
  refine k (asg (v := sL a1 (td.drop 1) c1) rfl rfl (z (nx (sq (rg (k (asg (v := iV 0) rfl rfl (z (nx (bk ?_))))))))))
  refine lp (fun m f w' => ∃ (j : Nat) (sn2 : List Bool) (td2 : List Int) (a2 : OA) (c2 : Nat), m = mn.toNat - j ∧ f 2 = pV bb0 0 ∧ f 5 = .slice none 0 0 ∧ f 6 = .slice (some ⟨g0, 0, none⟩) mn.toNat mn.toNat ∧ f 7 = sL a2 td2 c2 ∧ f 8 = iV x0 ∧ f 9 = iV (j : Int) ∧  HI M w w' [ownQ w.heap.size 3 (.slice a2 td2.length c2) td2, own w.heap.size 4 (.slice (some ⟨g0, 0, none⟩) mn.toNat mn.toNat) sn2, box bb0 #[iV mn, sL a_mr mr c_mr] 68, iL a_mr mr c_mr] ∧ (j ≤ mn.toNat) ∧ (Rch mn.toNat (relM mr) i.toNat sn2 td2 x0 j) ∧ (2 * sn2.count false + td2.length ≤ 2 * sn.count false + (td.drop 1).length)) _ ⟨0, sn, (td.drop 1), a1, c1, rfl, s0, s1, s2, rfl, rfl, (ieq rfl (by first | rfl | omega | simp)), H6, (by first | omega | assumption | simp), (by exact rch_pop hs hx0), (by first | omega | assumption | simp)⟩ ?_
  rintro _ f1 w4 ⟨j, sn2, td2, a2, c2, rfl, s4, s5, s6, s7, s8, s9, H7, hj_, hs2, hz2_⟩
  refine sq (sq (rg (k (mv rfl s9 (k (fa fl68_0 rfl s4 (k (lx H7 2 rfl ty3 rfl rfl rfl (k (lss rfl rfl rfl rfl (z (nx ?_))))))))))))
  refine cd (b := decide ((j : Int) < mn)) rfl rfl (fun b1 => ?_) (fun b1 => ?_)
  ·
   have p1 := dT b1
   refine sk (nx (sq (bk (sq (rg (k (ldX H7 2 rfl ty68 rfl s4 (by decide) rfl (k (mv rfl s8 (k (mv rfl s9 (k ?_))))))))))))
   have cc0 := ref03_Has (mn := mn) (mr := mr) (i := x0) (j := (j : Int)) (w := w4) H7.mb h_mn (H7.rv 3 rfl) rv0 (by unfold I64 at *; omega) (by exact (right_sq rt_m).1) (by exact (right_sq rt_m).2.1) (by exact (right_sq rt_m).2.2.1)
   refine ca go75 rfl (ec rfl (ec rfl (ec rfl e0))) cc0 ?_
   rintro _ w5 ⟨rfl, xt3⟩
   have H8 := H7.ext xt3
   refine k (mv (v := .bool (hasM mn mr x0 (j : Int))) rfl rfl ?_)
   rcases bE (hasM mn mr x0 (j : Int)) with b2 | b2
   ·
    refine k (gy rfl rfl rfl b2 (mv rfl s6 (k (gy rfl rfl rfl b2 (mv rfl s9 (k (gy rfl rfl rfl b2 (iaO (H8.at_ 1 rfl) rfl rfl rfl rfl (by first | (have h_ := hs2.len; omega) | (have h_ := hs.len; omega)) un55 ty4 ?_))))))))
    intro g2 x1 hv0 hx1 hA1
    refine k (gy rfl rfl rfl b2 (ldB hA1 ty4 rfl rfl (k (gy rfl rfl rfl b2 (not_ rfl rfl (k (pickT rfl rfl rfl rfl b2 rfl (z (nx ?_)))))))))
    refine cd (b := !x1) rfl rfl (fun b3 => ?_) (fun b3 => ?_)
    ·
     refine sq (rg (k (mv rfl s6 (k (mv rfl s9 (k (iaO (H8.at_ 1 rfl) rfl rfl rfl rfl (by first | (have h_ := hs2.len; omega) | (have h_ := hs.len; omega)) un55 ty4 ?_)))))))
     intro g3 x2 hv1 hx2 hA2
     refine k (stO H8 1 rfl hv1 rfl (by first | (have h_ := hs2.len; omega) | (have h_ := hs.len; omega)) ty4 rfl rfl rfl rfl (RV.bool.2 rfl) ?_)
     intro w6 (H9 : HI M w w6 [ownQ w.heap.size 3 (.slice a2 td2.length c2) td2, own w.heap.size 4 (.slice (some ⟨g0, 0, none⟩) mn.toNat mn.toNat) (sn2.set ((j : Int).toNat) true), box bb0 #[iV mn, sL a_mr mr c_mr] 68, iL a_mr mr c_mr])
     refine z (nx (rg (k (mv rfl s7 (k (mv rfl s9 (k (bs (xs := ([(j : Int)] : List Int)) (cells := #[iV (j : Int)]) (e := 3) H9 rfl (pbc rfl pb0) (fun _ => by kernel_rfl) ⟨[iV (j : Int)], [], rfl, ⟨rfl, (show I64 ((j : Int)) from (by unfold I64 at *; omega))⟩, rfl⟩ rfl (by decide) ?_))))))))
     intro g4 w7 xt4 H10
     refine k (apQ H10 1 rfl rfl rfl rfl rfl rfl (own_src (H10.at_ 0 rfl)) (by simp) un30 ty3 rfl (by first | (simp only [lC_, lN_]; have h_ := lst_len j3 (fun k => sn.getD k false); rw [hs4]; omega) | (simp only [lC_, lN_]; have h_ := List.length_drop (l := td) (i := 1); omega)) (by first | (simp only [lC_, lN_]; have h_ := lst_len j3 (fun k => sn.getD k false); rw [hs4]; omega) | (simp only [lC_, lN_]; have h_ := List.length_drop (l := td) (i := 1); omega)) ?_)
     intro a3 c3 w8 (H11 : HI M w w8 [own w.heap.size 3 (.slice (some ⟨g4, 0, none⟩) 1 1) ([(j : Int)] : List Int), ownQ w.heap.size 3 (.slice a3 (td2 ++ ([(j : Int)] : List Int)).length c3) (td2 ++ ([(j : Int)] : List Int)), own w.heap.size 4 (.slice (some ⟨g0, 0, none⟩) mn.toNat mn.toNat) (sn2.set ((j : Int).toNat) true), box bb0 #[iV mn, sL a_mr mr c_mr] 68, iL a_mr mr c_mr])
     refine k (asg (v := sL a3 (td2 ++ ([(j : Int)] : List Int)) c3) rfl rfl (z (inb_normal (nx (rg (k (mv rfl s9 (k (add rfl rfl rfl rfl (by unfold I64 at *; omega) (k (asg (v := iV ((j : Int) + 1)) rfl rfl (z ?_))))))))))))
     have H12 : HI M w w8 [ownQ w.heap.size 3 (.slice a3 (td2 ++ ([(j : Int)] : List Int)).length c3) (td2 ++ ([(j : Int)] : List Int)), own w.heap.size 4 (.slice (some ⟨g0, 0, none⟩) mn.toNat mn.toNat) (sn2.set ((j : Int).toNat) true), box bb0 #[iV mn, sL a_mr mr c_mr] 68, iL a_mr mr c_mr] := H11.pickN [1, 2, 3, 4] (by decide) rfl
     refine loopN _ ?_ ⟨(j + 1), (sn2.set ((j : Int).toNat) true), (td2 ++ ([(j : Int)] : List Int)), a3, c3, rfl, s4, s5, s6, rfl, s8, (ieq rfl (by first | rfl | omega)), H12, (by first | omega | assumption | simp), (by first | exact rchI_yes rt_m hat_ hs2 ha1_ (by omega) ha2_ (by assumption) | exact rchI_no rt_m hat_ hs2 ha1_ (by omega) (by assumption) | exact rchI_had rt_m hat_ hs2 ha1_ (by omega) hx1 (by simpa using b3)), (by first | exact hz2_ | exact count_setI hx1 (by simpa using b3) hz2_)⟩
     omega
    refine sk (inb_normal (nx (rg (k (mv rfl s9 (k (add rfl rfl rfl rfl (by unfold I64 at *; omega) (k (asg (v := iV ((j : Int) + 1)) rfl rfl (z ?_))))))))))
    refine loopN _ ?_ ⟨(j + 1), sn2, td2, a2, c2, rfl, s4, s5, s6, s7, s8, (ieq rfl (by first | rfl | omega)), H8, (by first | omega | assumption | simp), (by first | exact rchI_yes rt_m hat_ hs2 ha1_ (by omega) ha2_ (by assumption) | exact rchI_no rt_m hat_ hs2 ha1_ (by omega) (by assumption) | exact rchI_had rt_m hat_ hs2 ha1_ (by omega) hx1 (by simpa using b3)), (by first | exact hz2_ | exact count_setI hx1 (by simpa using b3) hz2_)⟩
    omega
   refine k (gn rfl rfl rfl b2 (k (gn rfl rfl rfl b2 (k (gn rfl rfl rfl b2 (k (gn rfl rfl rfl b2 (k (gn rfl rfl rfl b2 (k (pickF rfl rfl rfl rfl b2 rfl (z (nx (cdF rfl rfl rfl (sk (inb_normal (nx (rg (k (mv rfl s9 (k (add rfl rfl rfl rfl (by unfold I64 at *; omega) (k (asg (v := iV ((j : Int) + 1)) rfl rfl (z ?_)))))))))))))))))))))))))
   refine loopN _ ?_ ⟨(j + 1), sn2, td2, a2, c2, rfl, s4, s5, s6, s7, s8, (ieq rfl (by first | rfl | omega)), H8, (by first | omega | assumption | simp), (by first | exact rchI_yes rt_m hat_ hs2 ha1_ (by omega) ha2_ (by assumption) | exact rchI_no rt_m hat_ hs2 ha1_ (by omega) (by assumption) | exact rchI_had rt_m hat_ hs2 ha1_ (by omega) hx1 (by simpa using b3)), (by first | exact hz2_ | exact count_setI hx1 (by simpa using b3) hz2_)⟩
   omega
  have p1 := dF b1
  refine ex (then_exit (loop_exit (inb_here (inb_normal ?_))))
  refine loopN _ ?_ ⟨sn2, td2, a2, c2, rfl, s4, s5, s6, s7, H7, (by exact rch_next hs2 (by omega)), (by have h_ := List.length_drop (l := td) (i := 1); omega)⟩
  have h_ := List.length_drop (l := td) (i := 1); omega
 have p0 := dF b0
 refine ex (then_exit (loop_exit (inb_here (nx (sq (sq (rg (k (asg (v := iV 0) rfl rfl (z (nx (bk ?_))))))))))))
 have H6 := H5.nil_ Int 3
 refine lp (fun m f w' => ∃ (j3 : Nat) (out : List Int) (a1 : OA) (c1 : Nat), m = mn.toNat - j3 ∧ f 2 = pV bb0 0 ∧ f 5 = sL a1 out c1 ∧ f 6 = .slice (some ⟨g0, 0, none⟩) mn.toNat mn.toNat ∧ f 10 = iV (j3 : Int) ∧  HI M w w' [oL w 3 a1 out c1, ownQ w.heap.size 3 (.slice a0 td.length c0) td, own w.heap.size 4 (.slice (some ⟨g0, 0, none⟩) mn.toNat mn.toNat) sn, box bb0 #[iV mn, sL a_mr mr c_mr] 68, iL a_mr mr c_mr] ∧ (j3 ≤ mn.toNat) ∧ (out = lst j3 (fun k => sn.getD k false))) _ ⟨0, ([] : List Int), none, 0, rfl, s0, s1, s2, (ieq rfl (by first | rfl | omega | simp)), H6, (by first | omega | assumption | simp), (by rfl)⟩ ?_
 rintro _ f1 w4 ⟨j3, out, a1, c1, rfl, s4, s5, s6, s7, H7, hj3_, hs4⟩
 refine sq (sq (rg (k (mv rfl s7 (k (fa fl68_0 rfl s4 (k (lx H7 3 rfl ty3 rfl rfl rfl (k (lss rfl rfl rfl rfl (z (nx ?_))))))))))))
 refine cd (b := decide ((j3 : Int) < mn)) rfl rfl (fun b1 => ?_) (fun b1 => ?_)
 ·
  have p1 := dT b1
  refine sk (nx (sq (bk (sq (rg (k (mv rfl s6 (k (mv rfl s7 (k (iaO (H7.at_ 2 rfl) rfl rfl rfl rfl (by first | (have h_ := hs2.len; omega) | (have h_ := hs.len; omega)) un55 ty4 ?_)))))))))))
  intro g2 x0 hv0 hx0 hA0
  refine k (ldB hA0 ty4 rfl rfl (z (nx ?_)))
  refine cd (b := x0) rfl rfl (fun b2 => ?_) (fun b2 => ?_)
  ·
   refine rg (k (mv rfl s5 (k (mv rfl s7 (k (bs (xs := ([(j3 : Int)] : List Int)) (cells := #[iV (j3 : Int)]) (e := 3) H7 rfl (pbc rfl pb0) (fun _ => by kernel_rfl) ⟨[iV (j3 : Int)], [], rfl, ⟨rfl, (show I64 ((j3 : Int)) from (by unfold I64 at *; omega))⟩, rfl⟩ rfl (by decide) ?_))))))
   intro g3 w5 xt3 H8
   refine k (apB H8 1 rfl rfl rfl rfl rfl rfl (own_src (H8.at_ 0 rfl)) un30 ty3 rfl (by first | (simp only [lC_, lN_]; have h_ := lst_len j3 (fun k => sn.getD k false); rw [hs4]; omega) | (simp only [lC_, lN_]; have h_ := List.length_drop (l := td) (i := 1); omega)) rfl ?_)
   intro a2 c2 w6 (H9 : HI M w w6 [own w.heap.size 3 (.slice (some ⟨g3, 0, none⟩) 1 1) ([(j3 : Int)] : List Int), oL w 3 a2 (out ++ ([(j3 : Int)] : List Int)) c2, ownQ w.heap.size 3 (.slice a0 td.length c0) td, own w.heap.size 4 (.slice (some ⟨g0, 0, none⟩) mn.toNat mn.toNat) sn, box bb0 #[iV mn, sL a_mr mr c_mr] 68, iL a_mr mr c_mr])
   refine k (asg (v := sL a2 (out ++ ([(j3 : Int)] : List Int)) c2) rfl rfl (z (inb_normal (nx (rg (k (mv rfl s7 (k (add rfl rfl rfl rfl (by unfold I64 at *; omega) (k (asg (v := iV ((j3 : Int) + 1)) rfl rfl (z ?_))))))))))))
   have H10 : HI M w w6 [oL w 3 a2 (out ++ ([(j3 : Int)] : List Int)) c2, ownQ w.heap.size 3 (.slice a0 td.length c0) td, own w.heap.size 4 (.slice (some ⟨g0, 0, none⟩) mn.toNat mn.toNat) sn, box bb0 #[iV mn, sL a_mr mr c_mr] 68, iL a_mr mr c_mr] := H9.pickN [1, 2, 3, 4, 5] (by decide) rfl
   refine loopN _ ?_ ⟨(j3 + 1), (out ++ ([(j3 : Int)] : List Int)), a2, c2, rfl, s4, rfl, s6, (ieq rfl (by first | rfl | omega)), H10, (by first | omega | assumption | simp), (by rw [hs4, lst_succ]; first | rw [if_pos (by rw [getD_of' hx0]; assumption)] | rw [if_neg (by rw [getD_of' hx0]; first | simpa using b2 | simpa using b3), List.append_nil])⟩
   omega
  refine sk (inb_normal (nx (rg (k (mv rfl s7 (k (add rfl rfl rfl rfl (by unfold I64 at *; omega) (k (asg (v := iV ((j3 : Int) + 1)) rfl rfl (z ?_))))))))))
  refine loopN _ ?_ ⟨(j3 + 1), out, a1, c1, rfl, s4, s5, s6, (ieq rfl (by first | rfl | omega)), H7, (by first | omega | assumption | simp), (by rw [hs4, lst_succ]; first | rw [if_pos (by rw [getD_of' hx0]; assumption)] | rw [if_neg (by rw [getD_of' hx0]; first | simpa using b2 | simpa using b3), List.append_nil])⟩
  omega
 have p1 := dF b1
 refine ex (then_exit (loop_exit (inb_here (nx (sq (rg (k (mv rfl s5 (k (asg (v := sL a1 out c1) rfl rfl (z (nx (rt (r1 rfl rfl ?_))))))))))))))
 have e0 : (out : List Int) = lst mn.toNat (cl mn.toNat (relM mr) i.toNat) := by rw [hs4, show j3 = mn.toNat from by omega]; exact lst_congr fun k_ hk_ => by have h_ := rch_end (td_none p0 ▸ hs) (by omega) hk_; exact h_
 have ev_ := cg1 (fun (x_0 : List Int) => (.slice a1 x_0.length c1 : Value)) e0
 exact ⟨a1, c1, ev_, H7.below, (congrArg (fun (x_ : List Int) => OwnsG _ _ _ x_ (.slice a1 x_.length c1) _) e0).mp (H7.ownsG_out 0 rfl)⟩
theorem ref04_Close {mn : Int} {a_mr : OA} {c_mr : Nat} {mr : List (List (BitVec 64))} (hM : ∀ b, M b → b < w.heap.size) (h_mn : I64 mn) (h_mr : RV M w (.slice a_mr mr.length c_mr) mr) (rt_m : rightS mn mr = true) : Calls Tryz.prog 37 #[.agg #[.int .i64 mn, .slice a_mr mr.length c_mr]] w (Ret fun v w' => ∃ (a0 : OA) (c0 : Nat), v = .agg #[.int .i64 mn, .slice a0 (closeM mn mr).length c0] ∧ Ext w w' ∧ RV M w' (.slice a0 (closeM mn mr).length c0) (closeM mn mr)) := by
 refine enter 40 Tryz.func37 rfl rfl rfl fun f0 ha => ?_
 have H := HI.start (M0 := M) (w := w) hM
 have H0 := H.put (it := iL a_mr mr c_mr) rfl (by rw [MS_nil]; exact h_mr)
 have ln_mr := rv_len h_mr
 have i0 : f0 0 = .agg #[iV mn, sL a_mr mr c_mr] := ha 0 (by simp)
 have hl_ := (right_sq rt_m).1; have h4_ := (right_sq rt_m).2.2.1; have h0_ := right_pos rt_m
 refine sq (rg (k (bx H0 rfl i0 ?_)))
 intro bb0 w0 xt0 (H1 : HI M w w0 [box bb0 #[iV mn, sL a_mr mr c_mr] 68, iL a_mr mr c_mr])
 refine k (al H1 ty68 ?_)
 intro bb1 w1 xt1 (H2 : HI M w w1 [box bb1 #[iV 0, .slice none 0 0] 68, box bb0 #[iV mn, sL a_mr mr c_mr] 68, iL a_mr mr c_mr])
 refine z (nx (sq (rg (k (fa fl68_0 rfl rfl (k (lx H2 1 rfl ty3 rfl rfl rfl (k ?_))))))))
 have cc0 := ref03_New (n := mn) (w := w1) H2.mb h_mn
 refine ca go78 rfl (ec rfl e0) cc0 ?_
 rintro _ w2 ⟨a0, c0, rfl, xt2, rv0⟩
 have H3 := H2.ownsG rv0
 refine k (mv (v := .tuple #[.agg #[iV (newMN mn), sL a0 (newMR mn) c0], iV (newME mn)]) rfl rfl (k (xt rfl rfl rfl (k (xt rfl rfl rfl (k (al H3 ty68 ?_)))))))
 intro bb2 w3 xt3 (H4 : HI M w w3 [box bb2 #[iV 0, .slice none 0 0] 68, oL w 115 a0 (newMR mn) c0, box bb1 #[iV 0, .slice none 0 0] 68, box bb0 #[iV mn, sL a_mr mr c_mr] 68, iL a_mr mr c_mr])
 refine k (stX H4 0 rfl ty68 rfl rfl rfl rfl rfl rfl rfl ?_)
 intro w4 (H5 : HI M w w4 [box bb2 #[iV (newMN mn), sL a0 (newMR mn) c0] 68, oL w 115 a0 (newMR mn) c0, box bb1 #[iV 0, .slice none 0 0] 68, box bb0 #[iV mn, sL a_mr mr c_mr] 68, iL a_mr mr c_mr])
 refine k (asg (v := iV (newME mn)) rfl rfl (z (nx (sq (sq (rg (k (asg (v := iV 0) rfl rfl (z (nx (bk ?_)))))))))))
 have H6 := H5.freeze 1 rfl
 have H7 := H6.put (it := iL a0 (newMR mn) c0) rfl (H6.rv 1 rfl)
 refine lp (fun m f w' => ∃ (i : Nat) (n_ : Int) (rs : List (List (BitVec 64))) (a1 : OA) (c1 : Nat), m = mn.toNat - i ∧ f 1 = pV bb0 0 ∧ f 2 = pV bb1 0 ∧ f 3 = pV bb2 0 ∧ f 5 = iV (i : Int) ∧  HI M w w' [iL a1 rs c1, box bb2 #[iV n_, sL a1 rs c1] 68, iL a0 (newMR mn) c0, box bb1 #[iV 0, .slice none 0 0] 68, box bb0 #[iV mn, sL a_mr mr c_mr] 68, iL a_mr mr c_mr] ∧ (i ≤ mn.toNat) ∧ (n_ = mn) ∧ (rs = matP mn.toNat (rcP mn.toNat (cl mn.toNat (relM mr)) i 0))) _ ⟨0, (newMN mn), (newMR mn), a0, c0, rfl, rfl, rfl, rfl, (ieq rfl (by first | rfl | omega | simp)), H7, (by first | omega | assumption | simp), (by exact (newM_yes (right_ok rt_m)).1), (by exact rc_start rt_m _)⟩ ?_
 rintro _ f0 w5 ⟨i, n_, rs, a1, c1, rfl, s0, s1, s2, s3, H8, hi_, h1, h2⟩
 refine sq (sq (rg (k (mv rfl s3 (k (fa fl68_0 rfl s0 (k (lx H8 4 rfl ty3 rfl rfl rfl (k (lss rfl rfl rfl rfl (z (nx ?_))))))))))))
 refine cd (b := decide ((i : Int) < mn)) rfl rfl (fun b0 => ?_) (fun b0 => ?_)
 ·
  have p0 := dT b0
  refine sk (nx (sq (bk (sq (rg (k (ldX H8 4 rfl ty68 rfl s0 (by decide) rfl (k (mv rfl s3 (k ?_))))))))))
  have cc1 := ref04_Reach (mn := mn) (mr := mr) (i := (i : Int)) (w := w5) H8.mb h_mn (H8.rv 5 rfl) (by unfold I64 at *; omega) (by exact rt_m) (by omega) (by omega)
  refine ca go79 rfl (ec rfl (ec rfl e0)) cc1 ?_
  rintro _ w6 ⟨a2, c2, rfl, xt4, rv1⟩
  have H9 := H8.ownsG rv1
  refine k (asg (v := sL a2 (lst mn.toNat (cl mn.toNat (relM mr) (i : Int).toNat)) c2) rfl rfl (z (nx (sq (rg (k (asg (v := iV 0) rfl rfl (z (nx (bk ?_))))))))))
  have H10 := H9.put (it := iL a1 rs c1) rfl (H9.rv 1 rfl)
  refine lp (fun m f w' => ∃ (q : Nat) (n2_ : Int) (rs2 : List (List (BitVec 64))) (a3 : OA) (c3 : Nat), m = (lst mn.toNat (cl mn.toNat (relM mr) (i : Int).toNat)).length - q ∧ f 1 = pV bb0 0 ∧ f 2 = pV bb1 0 ∧ f 3 = pV bb2 0 ∧ f 5 = iV (i : Int) ∧ f 6 = sL a2 (lst mn.toNat (cl mn.toNat (relM mr) (i : Int).toNat)) c2 ∧ f 7 = iV (q : Int) ∧  HI M w w' [iL a3 rs2 c3, oL w 3 a2 (lst mn.toNat (cl mn.toNat (relM mr) (i : Int).toNat)) c2, iL a1 rs c1, box bb2 #[iV n2_, sL a3 rs2 c3] 68, iL a0 (newMR mn) c0, box bb1 #[iV 0, .slice none 0 0] 68, box bb0 #[iV mn, sL a_mr mr c_mr] 68, iL a_mr mr c_mr] ∧ (q ≤ (lst mn.toNat (cl mn.toNat (relM mr) (i : Int).toNat)).length) ∧ (n2_ = mn) ∧ (rs2 = matP mn.toNat (rcP mn.toNat (cl mn.toNat (relM mr)) i q))) _ ⟨0, n_, rs, a1, c1, rfl, s0, s1, s2, s3, rfl, (ieq rfl (by first | rfl | omega | simp)), H10, (by first | omega | assumption | simp), (by exact h1), (by exact h2)⟩ ?_
  rintro _ f1 w7 ⟨q, n2_, rs2, a3, c3, rfl, s4, s5, s6, s7, s8, s9, H11, hq_, g1, g2⟩
  refine sq (sq (rg (k (mv rfl s9 (k (mv rfl s8 (k (lnS rfl rfl un30 (k (lss rfl rfl rfl rfl (z (nx ?_))))))))))))
  refine cd (b := decide ((q : Int) < ((lst mn.toNat (cl mn.toNat (relM mr) (i : Int).toNat)).length : Int))) rfl rfl (fun b1 => ?_) (fun b1 => ?_)
  ·
   have p1 := dT b1
   refine sk (nx (sq (bk ?_)))
   obtain ⟨x0, hx0⟩ : ∃ x, (lst mn.toNat (cl mn.toNat (relM mr) (i : Int).toNat))[(q : Int).toNat]? = some x := ⟨_, gE_ (by omega)⟩
   refine dr3 8 [eV (.agg #[iV n2_, sL a3 rs2 c3]), eV (iV (i : Int)), eV (sL a2 (lst mn.toNat (cl mn.toNat (relM mr) (i : Int).toNat)) c2), eV (iV (q : Int)), fun v w' => ∃ (g0 : Nat), v = .pointer (some ⟨g0, (q : Int).toNat * 1, none⟩) ∧ (.slice a2 (lst mn.toNat (cl mn.toNat (relM mr) (i : Int).toNat)).length c2 : Value).ownBlock = some g0 ∧ AtW (MS M [iL a3 rs2 c3, oL w 3 a2 (lst mn.toNat (cl mn.toNat (relM mr) (i : Int).toNat)) c2, iL a1 rs c1, box bb2 #[iV n2_, sL a3 rs2 c3] 68, iL a0 (newMR mn) c0, box bb1 #[iV 0, .slice none 0 0] 68, box bb0 #[iV mn, sL a_mr mr c_mr] 68, iL a_mr mr c_mr]) w' ⟨g0, (q : Int).toNat * 1, none⟩ x0, fun v w' => v = iV x0 ∧ I64 (x0), fun v w' => ∃ (a4 : OA) (c4 : Nat), v = .tuple #[.agg #[iV (setMN n2_ (i : Int) x0), sL a4 (setMR n2_ rs2 (i : Int) x0) c4], iV (setME n2_ (i : Int) x0)] ∧ RV (MS M [iL a3 rs2 c3, oL w 3 a2 (lst mn.toNat (cl mn.toNat (relM mr) (i : Int).toNat)) c2, iL a1 rs c1, box bb2 #[iV n2_, sL a3 rs2 c3] 68, iL a0 (newMR mn) c0, box bb1 #[iV 0, .slice none 0 0] 68, box bb0 #[iV mn, sL a_mr mr c_mr] 68, iL a_mr mr c_mr]) w' (sL a4 (setMR n2_ rs2 (i : Int) x0) c4) (setMR n2_ rs2 (i : Int) x0), fun v w' => ∃ (a4 : OA) (c4 : Nat), v = .tuple #[.agg #[iV (setMN n2_ (i : Int) x0), sL a4 (setMR n2_ rs2 (i : Int) x0) c4], iV (setME n2_ (i : Int) x0)] ∧ RV (MS M [iL a3 rs2 c3, oL w 3 a2 (lst mn.toNat (cl mn.toNat (relM mr) (i : Int).toNat)) c2, iL a1 rs c1, box bb2 #[iV n2_, sL a3 rs2 c3] 68, iL a0 (newMR mn) c0, box bb1 #[iV 0, .slice none 0 0] 68, box bb0 #[iV mn, sL a_mr mr c_mr] 68, iL a_mr mr c_mr]) w' (sL a4 (setMR n2_ rs2 (i : Int) x0) c4) (setMR n2_ rs2 (i : Int) x0)] rfl (by kernel_rfl) ?_ ?_
   ·
    refine dc (fun _ _ hf0 xt6 _ => ldX (H11.ext xt6) 3 rfl ty68 rfl ((hf0 3 rfl).trans s6) (by decide) rfl (d0 rfl rfl)) ?_
    refine dc (fun _ _ hf1 _ _ => mv rfl ((hf1 5 rfl).trans s7) (d0 rfl rfl)) ?_
    refine dc (fun _ _ hf2 _ _ => mv rfl ((hf2 6 rfl).trans s8) (d0 rfl rfl)) ?_
    refine dc (fun _ _ hf3 _ _ => mv rfl ((hf3 7 rfl).trans s9) (d0 rfl rfl)) ?_
    refine ⟨fun _ => ⟨fun f6 w13 hf4 xt10 hp4 => ?_, by rintro _ _ _ x_ ⟨g0, e_, hv0, hA0⟩; exact ⟨g0, e_, hv0, hA0.ext x_⟩⟩, ?_⟩
    ·
     have H18 := H11.ext xt10
     have s10 : f6 32 = sL a2 (lst mn.toNat (cl mn.toNat (relM mr) (i : Int).toNat)) c2 := hp4 2 rfl rfl
     have s11 : f6 33 = iV (q : Int) := hp4 3 rfl rfl
     refine iaO (H18.at_ 1 rfl) rfl rfl s10 s11 (by omega) un30 ty3 ?_
     intro g1 x1 hv1 hx1 hA1
     obtain rfl : x0 = x1 := Option.some.inj (hx0.symm.trans hx1)
     exact ⟨_, rfl, Ext.refl _, ⟨g1, rfl, hv1, hA1⟩⟩
    refine dc (fun f7 w14 hf5 xt11 hp5 => ?_) ?_
    ·
     obtain ⟨g2, s12, hv2, hA2⟩ : ∃ (g2 : Nat), f7 34 = .pointer (some ⟨g2, (q : Int).toNat * 1, none⟩) ∧ (.slice a2 (lst mn.toNat (cl mn.toNat (relM mr) (i : Int).toNat)).length c2 : Value).ownBlock = some g2 ∧ AtW (MS M [iL a3 rs2 c3, oL w 3 a2 (lst mn.toNat (cl mn.toNat (relM mr) (i : Int).toNat)) c2, iL a1 rs c1, box bb2 #[iV n2_, sL a3 rs2 c3] 68, iL a0 (newMR mn) c0, box bb1 #[iV 0, .slice none 0 0] 68, box bb0 #[iV mn, sL a_mr mr c_mr] 68, iL a_mr mr c_mr]) w14 ⟨g2, (q : Int).toNat * 1, none⟩ x0 := hp5 4 rfl rfl
     refine ldI hA2 ty3 rfl s12 ?_
     intro rv5
     exact ⟨_, rfl, Ext.refl _, ⟨rfl, rv5⟩⟩
    refine ⟨fun _ => ⟨fun f8 w15 hf6 xt12 hp6 => ?_, by rintro _ _ _ x_ ⟨a4, c4, e_, rv4⟩; exact ⟨a4, c4, e_, rv4.lift (Up.ext x_)⟩⟩, ?_⟩
    ·
     have H20 := H11.ext xt12
     have s13 : f8 30 = .agg #[iV n2_, sL a3 rs2 c3] := hp6 0 rfl rfl
     have s14 : f8 31 = iV (i : Int) := hp6 1 rfl rfl
     obtain ⟨s15, rv6⟩ : f8 35 = iV x0 ∧ I64 (x0) := hp6 5 rfl rfl
     have cc3 := ref03_Set (mn := n2_) (mr := rs2) (i := (i : Int)) (j := x0) (w := w15) H20.mb (by first | (rw [g1]; exact h_mn) | (rw [h1]; exact h_mn)) (H20.rv 0 rfl) (by unfold I64 at *; omega) rv6 (by rw [g1, g2]; exact (rc_sq rt_m _).1) (by rw [g2]; exact (rc_sq rt_m _).2.1) (by rw [g1]; exact h4_)
     refine ca go36 rfl (ec s13 (ec s14 (ec s15 e0))) cc3 ?_
     rintro _ w16 ⟨a5, c5, rfl, xt13, rv7⟩
     have rv8 := OwnsG.rv rv7 H20.mb
     exact ⟨_, rfl, xt13, ⟨a5, c5, rfl, rv8⟩⟩
    refine ⟨fun _ => ⟨fun f9 w17 hf7 xt14 hp7 => ?_, by rintro _ _ _ x_ ⟨a4, c4, e_, rv4⟩; exact ⟨a4, c4, e_, rv4.lift (Up.ext x_)⟩⟩, ?_⟩
    ·
     obtain ⟨a6, c6, s16, rv9⟩ : ∃ (a6 : OA) (c6 : Nat), f9 36 = .tuple #[.agg #[iV (setMN n2_ (i : Int) x0), sL a6 (setMR n2_ rs2 (i : Int) x0) c6], iV (setME n2_ (i : Int) x0)] ∧ RV (MS M [iL a3 rs2 c3, oL w 3 a2 (lst mn.toNat (cl mn.toNat (relM mr) (i : Int).toNat)) c2, iL a1 rs c1, box bb2 #[iV n2_, sL a3 rs2 c3] 68, iL a0 (newMR mn) c0, box bb1 #[iV 0, .slice none 0 0] 68, box bb0 #[iV mn, sL a_mr mr c_mr] 68, iL a_mr mr c_mr]) w17 (sL a6 (setMR n2_ rs2 (i : Int) x0) c6) (setMR n2_ rs2 (i : Int) x0) := hp7 6 rfl rfl
     refine mv rfl s16 ?_
     exact ⟨_, rfl, Ext.refl _, ⟨a6, c6, rfl, rv9⟩⟩
    exact DSteps.rest rfl _
   ·
    intro f10 w18 hf8 xt15 hp8
    have H25 := H11.ext xt15
    have s17 : f10 1 = pV bb0 0 := (hf8 1 rfl).trans s4
    have s18 : f10 2 = pV bb1 0 := (hf8 2 rfl).trans s5
    have s19 : f10 3 = pV bb2 0 := (hf8 3 rfl).trans s6
    have s20 : f10 5 = iV (i : Int) := (hf8 5 rfl).trans s7
    have s21 : f10 6 = sL a2 (lst mn.toNat (cl mn.toNat (relM mr) (i : Int).toNat)) c2 := (hf8 6 rfl).trans s8
    have s22 : f10 7 = iV (q : Int) := (hf8 7 rfl).trans s9
    obtain ⟨a7, c7, s23, rv10⟩ : ∃ (a7 : OA) (c7 : Nat), f10 29 = .tuple #[.agg #[iV (setMN n2_ (i : Int) x0), sL a7 (setMR n2_ rs2 (i : Int) x0) c7], iV (setME n2_ (i : Int) x0)] ∧ RV (MS M [iL a3 rs2 c3, oL w 3 a2 (lst mn.toNat (cl mn.toNat (relM mr) (i : Int).toNat)) c2, iL a1 rs c1, box bb2 #[iV n2_, sL a3 rs2 c3] 68, iL a0 (newMR mn) c0, box bb1 #[iV 0, .slice none 0 0] 68, box bb0 #[iV mn, sL a_mr mr c_mr] 68, iL a_mr mr c_mr]) w18 (sL a7 (setMR n2_ rs2 (i : Int) x0) c7) (setMR n2_ rs2 (i : Int) x0) := hp8 7 rfl
    have H26 := H25.put (it := iL a7 (setMR n2_ rs2 (i : Int) x0) c7) rfl rv10
    show TA _ _ _ _ 3 [true, true, true, true, true, true, true, true, false, false, false] _ _
    refine ta [8, 9] (by kernel_rfl) rfl ⟨⟨_, rfl, ?_⟩, ⟨_, rfl, ?_⟩, trivial⟩
    ·
     refine xt rfl s23 rfl ?_
     refine ta [9, 10] (by kernel_rfl) rfl ⟨⟨_, rfl, ?_⟩, ⟨_, rfl, ?_⟩, trivial⟩
     ·
      refine xt rfl s23 rfl ?_
      refine ta [10] (by kernel_rfl) rfl ⟨⟨_, rfl, ?_⟩, trivial⟩
      ·
       refine stX H26 4 rfl ty68 rfl rfl s19 rfl rfl rfl rfl ?_
       intro w19 (H27 : HI M w w19 [iL a7 (setMR n2_ rs2 (i : Int) x0) c7, iL a3 rs2 c3, oL w 3 a2 (lst mn.toNat (cl mn.toNat (relM mr) (i : Int).toNat)) c2, iL a1 rs c1, box bb2 #[iV (setMN n2_ (i : Int) x0), sL a7 (setMR n2_ rs2 (i : Int) x0) c7] 68, iL a0 (newMR mn) c0, box bb1 #[iV 0, .slice none 0 0] 68, box bb0 #[iV mn, sL a_mr mr c_mr] 68, iL a_mr mr c_mr])
       refine ta0 (by kernel_rfl) (inb_normal (nx (rg (k (mv rfl s22 (k (add rfl rfl rfl rfl (by have h_ := lst_len mn.toNat (cl mn.toNat (relM mr) (i : Int).toNat); unfold I64; omega) (k (asg (v := iV ((q : Int) + 1)) rfl rfl (z ?_))))))))))
       have H28 := H27.put (it := iL a7 (setMR n2_ rs2 (i : Int) x0) c7) rfl (H27.rv 0 rfl)
       have H29 : HI M w w19 [iL a7 (setMR n2_ rs2 (i : Int) x0) c7, oL w 3 a2 (lst mn.toNat (cl mn.toNat (relM mr) (i : Int).toNat)) c2, iL a1 rs c1, box bb2 #[iV (setMN n2_ (i : Int) x0), sL a7 (setMR n2_ rs2 (i : Int) x0) c7] 68, iL a0 (newMR mn) c0, box bb1 #[iV 0, .slice none 0 0] 68, box bb0 #[iV mn, sL a_mr mr c_mr] 68, iL a_mr mr c_mr] := H28.pickN [0, 3, 4, 5, 6, 7, 8, 9] (by decide) rfl
       refine loopN _ ?_ ⟨(q + 1), (setMN n2_ (i : Int) x0), (setMR n2_ rs2 (i : Int) x0), a7, c7, rfl, s17, s18, s19, s20, s21, (ieq rfl (by first | rfl | omega)), H29, (by first | omega | assumption | simp), (by rw [g1]; exact (rc_set rt_m g2 hx0 (by omega)).1), (by rw [g1]; exact (rc_set rt_m g2 hx0 (by omega)).2.1)⟩
       omega
     ·
      refine stX H26 4 rfl ty68 rfl rfl s19 rfl rfl rfl rfl ?_
      intro w19 (H27 : HI M w w19 [iL a7 (setMR n2_ rs2 (i : Int) x0) c7, iL a3 rs2 c3, oL w 3 a2 (lst mn.toNat (cl mn.toNat (relM mr) (i : Int).toNat)) c2, iL a1 rs c1, box bb2 #[iV (setMN n2_ (i : Int) x0), sL a7 (setMR n2_ rs2 (i : Int) x0) c7] 68, iL a0 (newMR mn) c0, box bb1 #[iV 0, .slice none 0 0] 68, box bb0 #[iV mn, sL a_mr mr c_mr] 68, iL a_mr mr c_mr])
      refine ta [9] (by kernel_rfl) rfl ⟨⟨_, rfl, ?_⟩, trivial⟩
      ·
       refine xt rfl s23 rfl (ta0 (by kernel_rfl) (inb_normal (nx (rg (k (mv rfl s22 (k (add rfl rfl rfl rfl (by have h_ := lst_len mn.toNat (cl mn.toNat (relM mr) (i : Int).toNat); unfold I64; omega) (k (asg (v := iV ((q : Int) + 1)) rfl rfl (z ?_)))))))))))
       have H28 := H27.put (it := iL a7 (setMR n2_ rs2 (i : Int) x0) c7) rfl (H27.rv 0 rfl)
       have H29 : HI M w w19 [iL a7 (setMR n2_ rs2 (i : Int) x0) c7, oL w 3 a2 (lst mn.toNat (cl mn.toNat (relM mr) (i : Int).toNat)) c2, iL a1 rs c1, box bb2 #[iV (setMN n2_ (i : Int) x0), sL a7 (setMR n2_ rs2 (i : Int) x0) c7] 68, iL a0 (newMR mn) c0, box bb1 #[iV 0, .slice none 0 0] 68, box bb0 #[iV mn, sL a_mr mr c_mr] 68, iL a_mr mr c_mr] := H28.pickN [0, 3, 4, 5, 6, 7, 8, 9] (by decide) rfl
       refine loopN _ ?_ ⟨(q + 1), (setMN n2_ (i : Int) x0), (setMR n2_ rs2 (i : Int) x0), a7, c7, rfl, s17, s18, s19, s20, s21, (ieq rfl (by first | rfl | omega)), H29, (by first | omega | assumption | simp), (by rw [g1]; exact (rc_set rt_m g2 hx0 (by omega)).1), (by rw [g1]; exact (rc_set rt_m g2 hx0 (by omega)).2.1)⟩
       omega
    ·
     refine xt rfl s23 rfl ?_
     refine ta [8] (by kernel_rfl) rfl ⟨⟨_, rfl, ?_⟩, trivial⟩
     ·
      refine xt rfl s23 rfl ?_
      refine ta [10] (by kernel_rfl) rfl ⟨⟨_, rfl, ?_⟩, trivial⟩
      ·
       refine stX H26 4 rfl ty68 rfl rfl s19 rfl rfl rfl rfl ?_
       intro w19 (H27 : HI M w w19 [iL a7 (setMR n2_ rs2 (i : Int) x0) c7, iL a3 rs2 c3, oL w 3 a2 (lst mn.toNat (cl mn.toNat (relM mr) (i : Int).toNat)) c2, iL a1 rs c1, box bb2 #[iV (setMN n2_ (i : Int) x0), sL a7 (setMR n2_ rs2 (i : Int) x0) c7] 68, iL a0 (newMR mn) c0, box bb1 #[iV 0, .slice none 0 0] 68, box bb0 #[iV mn, sL a_mr mr c_mr] 68, iL a_mr mr c_mr])
       refine ta0 (by kernel_rfl) (inb_normal (nx (rg (k (mv rfl s22 (k (add rfl rfl rfl rfl (by have h_ := lst_len mn.toNat (cl mn.toNat (relM mr) (i : Int).toNat); unfold I64; omega) (k (asg (v := iV ((q : Int) + 1)) rfl rfl (z ?_))))))))))
       have H28 := H27.put (it := iL a7 (setMR n2_ rs2 (i : Int) x0) c7) rfl (H27.rv 0 rfl)
       have H29 : HI M w w19 [iL a7 (setMR n2_ rs2 (i : Int) x0) c7, oL w 3 a2 (lst mn.toNat (cl mn.toNat (relM mr) (i : Int).toNat)) c2, iL a1 rs c1, box bb2 #[iV (setMN n2_ (i : Int) x0), sL a7 (setMR n2_ rs2 (i : Int) x0) c7] 68, iL a0 (newMR mn) c0, box bb1 #[iV 0, .slice none 0 0] 68, box bb0 #[iV mn, sL a_mr mr c_mr] 68, iL a_mr mr c_mr] := H28.pickN [0, 3, 4, 5, 6, 7, 8, 9] (by decide) rfl
       refine loopN _ ?_ ⟨(q + 1), (setMN n2_ (i : Int) x0), (setMR n2_ rs2 (i : Int) x0), a7, c7, rfl, s17, s18, s19, s20, s21, (ieq rfl (by first | rfl | omega)), H29, (by first | omega | assumption | simp), (by rw [g1]; exact (rc_set rt_m g2 hx0 (by omega)).1), (by rw [g1]; exact (rc_set rt_m g2 hx0 (by omega)).2.1)⟩
       omega
  have p1 := dF b1
  refine ex (then_exit (loop_exit (inb_here (inb_normal (nx (rg (k (mv rfl s7 (k (add rfl rfl rfl rfl (by unfold I64 at *; omega) (k (asg (v := iV ((i : Int) + 1)) rfl rfl (z ?_)))))))))))))
  have H12 := H11.put (it := iL a3 rs2 c3) rfl (H11.rv 0 rfl)
  have H13 : HI M w w7 [iL a3 rs2 c3, box bb2 #[iV n2_, sL a3 rs2 c3] 68, iL a0 (newMR mn) c0, box bb1 #[iV 0, .slice none 0 0] 68, box bb0 #[iV mn, sL a_mr mr c_mr] 68, iL a_mr mr c_mr] := H12.pickN [0, 4, 5, 6, 7, 8] (by decide) rfl
  refine loopN _ ?_ ⟨(i + 1), n2_, rs2, a3, c3, rfl, s4, s5, s6, (ieq rfl (by first | rfl | omega)), H13, (by first | omega | assumption | simp), (by exact g1), (by rw [g2]; exact rc_row (show (lst mn.toNat (cl mn.toNat (relM mr) (i : Int).toNat)).length ≤ q from by omega))⟩
  omega
 have p0 := dF b0
 refine ex (then_exit (loop_exit (inb_here (nx (sq (rg (k (ldX H8 1 rfl ty68 rfl s2 (by decide) rfl (k (stX H8 3 rfl ty68 rfl rfl s1 rfl rfl rfl rfl ?_))))))))))
 intro w6 (H9 : HI M w w6 [iL a1 rs c1, box bb2 #[iV n_, sL a1 rs c1] 68, iL a0 (newMR mn) c0, box bb1 #[iV n_, sL a1 rs c1] 68, box bb0 #[iV mn, sL a_mr mr c_mr] 68, iL a_mr mr c_mr])
 refine z (nx (rt (rc1 H9 3 rfl ty68 rfl rfl s1 rfl (by decide) ?_)))
 have e0 : (n_ : Int) = mn := by exact h1
 have e1 : (rs : List (List (BitVec 64))) = closeM mn mr := by rw [h2]; exact rc_fin rfl (by omega)
 have ev_ := cg2 (fun (x_0 : Int) (x_1 : List (List (BitVec 64))) => (.agg #[iV x_0, .slice a1 x_1.length c1] : Value)) e0 e1
 exact ⟨a1, c1, ev_, H9.below, (congrArg (fun (x_ : List (List (BitVec 64))) => RV _ _ (.slice a1 x_.length c1) x_) e1).mp (H9.gives_out 0 rfl)⟩
theorem fl32_2 : FldF Tryz.prog 32 2 2 := ⟨_, _, Tryz.underlying32, rfl, rfl, by kernel_rfl⟩
theorem ty30 : TyF Tryz.prog 30 1 false 24 (.slice none 0 0) := ⟨by kernel_rfl, by kernel_rfl⟩
theorem go133 : GoF Tryz.prog 133 := ⟨_, _, Tryz.func133, rfl, by kernel_rfl⟩
theorem go134 : GoF Tryz.prog 134 := ⟨_, _, Tryz.func134, rfl, by kernel_rfl⟩
theorem go132 : GoF Tryz.prog 132 := ⟨_, _, Tryz.func132, rfl, by kernel_rfl⟩
theorem go99 : GoF Tryz.prog 99 := ⟨_, _, Tryz.func99, rfl, by kernel_rfl⟩
theorem go100 : GoF Tryz.prog 100 := ⟨_, _, Tryz.func100, rfl, by kernel_rfl⟩
theorem go98 : GoF Tryz.prog 98 := ⟨_, _, Tryz.func98, rfl, by kernel_rfl⟩
theorem go115 : GoF Tryz.prog 115 := ⟨_, _, Tryz.func115, rfl, by kernel_rfl⟩
theorem go114 : GoF Tryz.prog 114 := ⟨_, _, Tryz.func114, rfl, by kernel_rfl⟩
theorem go65 : GoF Tryz.prog 65 := ⟨_, _, Tryz.func65, rfl, by kernel_rfl⟩
theorem go37 : GoF Tryz.prog 37 := ⟨_, _, Tryz.func37, rfl, by kernel_rfl⟩
theorem cause_Rf {a_fv : OA} {n_fv c_fv : Nat} {a_fi : OA} {c_fi : Nat} {fi : List ItemL} {a_fo : OA} {c_fo : Nat} {fo : List Int} (hM : ∀ b, M b → b < w.heap.size) (h_fi : RV M w (.slice a_fi fi.length c_fi) fi) (h_fo : RV M w (.slice a_fo fo.length c_fo) fo) (hn_fi : fi.length ≤ 4096) (hfo : fo.length = fi.length) (hfr : ∀ x ∈ fo, x < ((fi.length : Nat) : Int)) : Calls Tryz.prog 134 #[.agg #[.slice a_fv n_fv c_fv, .slice a_fi fi.length c_fi, .slice a_fo fo.length c_fo]] w (Ret fun v w' => ∃ (a0 : OA) (c0 : Nat), v = .agg #[.int .i64 (fi.length : Int), .slice a0 (rfR fi fo).length c0] ∧ Ext w w' ∧ OwnsG M 115 w (rfR fi fo) (.slice a0 (rfR fi fo).length c0) w') := by
 refine enter 37 Tryz.func134 rfl rfl rfl fun f0 ha => ?_
 have H := HI.start (M0 := M) (w := w) hM
 have H0 := H.put (it := iL a_fi fi c_fi) rfl (by rw [MS_nil]; exact h_fi)
 have H1 := H0.put (it := iL a_fo fo c_fo) rfl (by rw [MS_cons_none rfl, MS_nil]; exact h_fo)
 have ln_fi := rv_len h_fi
 have ln_fo := rv_len h_fo
 have i0 : f0 0 = .agg #[.slice a_fv n_fv c_fv, sL a_fi fi c_fi, sL a_fo fo c_fo] := ha 0 (by simp)
 refine sq (rg (k (bx H1 rfl i0 ?_)))
 intro bb0 w0 xt0 (H2 : HI M w w0 [box bb0 #[.slice a_fv n_fv c_fv, sL a_fi fi c_fi, sL a_fo fo c_fo] 32, iL a_fo fo c_fo, iL a_fi fi c_fi])
 refine k (al H2 ty68 ?_)
 intro bb1 w1 xt1 (H3 : HI M w w1 [box bb1 #[iV 0, .slice none 0 0] 68, box bb0 #[.slice a_fv n_fv c_fv, sL a_fi fi c_fi, sL a_fo fo c_fo] 32, iL a_fo fo c_fo, iL a_fi fi c_fi])
 refine z (nx (sq (rg (k (fa fl32_1 rfl rfl (k (lx H3 1 rfl ty29 rfl rfl rfl (k (lnS rfl rfl un29 (k ?_))))))))))
 have cc0 := mat_New (n := (fi.length : Int)) (w := w1) H3.mb (by unfold I64 at *; omega)
 refine ca go127 rfl (ec rfl e0) cc0 ?_
 rintro _ w2 ⟨a0, c0, rfl, xt2, rv0⟩
 have H4 := H3.ownsG rv0
 refine k (mv (v := .tuple #[.agg #[iV (newMN (fi.length : Int)), sL a0 (newMR (fi.length : Int)) c0], iV (newME (fi.length : Int))]) rfl rfl (k (xt rfl rfl rfl (k (xt rfl rfl rfl (k (al H4 ty68 ?_)))))))
 intro bb2 w3 xt3 (H5 : HI M w w3 [box bb2 #[iV 0, .slice none 0 0] 68, oL w 115 a0 (newMR (fi.length : Int)) c0, box bb1 #[iV 0, .slice none 0 0] 68, box bb0 #[.slice a_fv n_fv c_fv, sL a_fi fi c_fi, sL a_fo fo c_fo] 32, iL a_fo fo c_fo, iL a_fi fi c_fi])
 refine k (stX H5 0 rfl ty68 rfl rfl rfl rfl rfl rfl rfl ?_)
 intro w4 (H6 : HI M w w4 [box bb2 #[iV (newMN (fi.length : Int)), sL a0 (newMR (fi.length : Int)) c0] 68, oL w 115 a0 (newMR (fi.length : Int)) c0, box bb1 #[iV 0, .slice none 0 0] 68, box bb0 #[.slice a_fv n_fv c_fv, sL a_fi fi c_fi, sL a_fo fo c_fo] 32, iL a_fo fo c_fo, iL a_fi fi c_fi])
 refine k (asg (v := iV (newME (fi.length : Int))) rfl rfl (z (nx (sq (sq ?_)))))
 have hok_ : okN (fi.length : Int) = true := okN_iff.2 (by omega)
 obtain ⟨en, er, -⟩ := newM_yes hok_
 refine rg (k (fa fl32_2 rfl rfl (k (lx H6 3 rfl ty30 rfl rfl rfl (k (lnS rfl rfl un30 (k (mv (v := iV 0) rfl rfl (z (nx (bk ?_)))))))))))
 refine lp (fun m f w' => ∃ (j : Nat) (xs : List (List (BitVec 64))), m = fo.length - j ∧ f 2 = pV bb1 0 ∧ f 3 = pV bb2 0 ∧ f 15 = sL a_fo fo c_fo ∧ f 16 = iV (fo.length : Int) ∧ f 17 = iV (j : Int) ∧  HI M w w' [box bb2 #[iV (newMN (fi.length : Int)), sL a0 (newMR (fi.length : Int)) c0] 68, own w.heap.size 115 (.slice a0 (newMR (fi.length : Int)).length c0) xs, box bb1 #[iV 0, .slice none 0 0] 68, box bb0 #[.slice a_fv n_fv c_fv, sL a_fi fi c_fi, sL a_fo fo c_fo] 32, iL a_fo fo c_fo, iL a_fi fi c_fi] ∧ (j ≤ fo.length) ∧ (xs.length = fi.length) ∧ (xs = rfTo fi.length fo j)) _ ⟨0, (newMR (fi.length : Int)), rfl, rfl, rfl, rfl, rfl, (ieq rfl (by first | rfl | omega | simp)), H6, (by first | omega | assumption | simp), (by rw [er, newM_length]; simp), (by rw [er]; exact rf_zero _ _)⟩ ?_
 rintro _ f0 w5 ⟨j, xs, rfl, s0, s1, s2, s3, s4, H7, hk, hl, hs⟩
 refine sq (rg (k (lss rfl rfl s4 s3 (z (nx (sq ?_))))))
 refine cd (b := decide ((j : Int) < (fo.length : Int))) rfl rfl (fun b0 => ?_) (fun b0 => ?_)
 ·
  have p0 := dT b0
  refine sk (nx (sq (bk (sq (rg (k (mv rfl s4 (k (ia (H7.rv 4 rfl) rfl rfl s2 s4 (by omega) un30 ty3 ?_)))))))))
  intro ad0 x0 hx0 hA0
  refine k (ldI hA0.w ty3 rfl rfl ?_)
  intro rv1
  refine k (asg (v := iV (j : Int)) rfl rfl (k (asg (v := iV x0) rfl rfl (z (nx (sq ?_))))))
  have hw_ := hfr _ (mG_ hx0)
  refine rg (k (mv (v := iV x0) rfl rfl (k (geq rfl rfl rfl rfl (z (nx ?_))))))
  refine cd (b := decide (0 ≤ x0)) rfl rfl (fun b1 => ?_) (fun b1 => ?_)
  ·
   have p1 := dT b1
   obtain ⟨x1, hx1⟩ : ∃ x, xs[x0.toNat]? = some x := ⟨_, gE_ (by omega)⟩
   refine dr 10 [eV (pV bb2 1), eV (sL a0 (newMR (fi.length : Int)) c0), fun v w' => v = iV x0 ∧ I64 (x0), eV (pV bb2 1), eV (sL a0 (newMR (fi.length : Int)) c0), fun v w' => v = iV x0 ∧ I64 (x0), fun v w' => ∃ (g0 : Nat), v = .pointer (some ⟨g0, x0.toNat * 1, none⟩) ∧ (.slice a0 (newMR (fi.length : Int)).length c0 : Value).ownBlock = some g0 ∧ AtW (MS M [box bb2 #[iV (newMN (fi.length : Int)), sL a0 (newMR (fi.length : Int)) c0] 68, own w.heap.size 115 (.slice a0 (newMR (fi.length : Int)).length c0) xs, box bb1 #[iV 0, .slice none 0 0] 68, box bb0 #[.slice a_fv n_fv c_fv, sL a_fi fi c_fi, sL a_fo fo c_fo] 32, iL a_fo fo c_fo, iL a_fi fi c_fi]) w' ⟨g0, x0.toNat * 1, none⟩ x1, fun v w' => ∃ (a1 : OA) (c1 : Nat), v = sL a1 x1 c1 ∧ RV (MS M [box bb2 #[iV (newMN (fi.length : Int)), sL a0 (newMR (fi.length : Int)) c0] 68, own w.heap.size 115 (.slice a0 (newMR (fi.length : Int)).length c0) xs, box bb1 #[iV 0, .slice none 0 0] 68, box bb0 #[.slice a_fv n_fv c_fv, sL a_fi fi c_fi, sL a_fo fo c_fo] 32, iL a_fo fo c_fo, iL a_fi fi c_fi]) w' (sL a1 x1 c1) x1, eV (iV (j : Int)), fun v w' => ∃ (a2 : OA) (c2 : Nat), v = sL a2 (setR x1 (j : Int)) c2 ∧ RV (MS M [box bb2 #[iV (newMN (fi.length : Int)), sL a0 (newMR (fi.length : Int)) c0] 68, own w.heap.size 115 (.slice a0 (newMR (fi.length : Int)).length c0) xs, box bb1 #[iV 0, .slice none 0 0] 68, box bb0 #[.slice a_fv n_fv c_fv, sL a_fi fi c_fi, sL a_fo fo c_fo] 32, iL a_fo fo c_fo, iL a_fi fi c_fi]) w' (sL a2 (setR x1 (j : Int)) c2) (setR x1 (j : Int))] rfl (by kernel_rfl) ?_ ?_
   ·
    refine dc (fun _ _ hf0 _ _ => fa fl68_1 rfl ((hf0 3 rfl).trans s1) (d0 rfl rfl)) ?_
    refine dc (fun _ _ _ xt6 hp1 => lx (H7.ext xt6) 0 rfl ty66 rfl (hp1 0 rfl rfl) rfl (d0 rfl rfl)) ?_
    refine dc (fun _ _ hf2 _ _ => mv rfl (hf2 6 rfl) ⟨_, rfl, Ext.refl _, ⟨rfl, rv1⟩⟩) ?_
    refine dc (fun _ _ hf3 _ _ => fa fl68_1 rfl ((hf3 3 rfl).trans s1) (d0 rfl rfl)) ?_
    refine dc (fun _ _ _ xt9 hp4 => lx (H7.ext xt9) 0 rfl ty66 rfl (hp4 3 rfl rfl) rfl (d0 rfl rfl)) ?_
    refine dc (fun _ _ hf5 _ _ => mv rfl (hf5 6 rfl) ⟨_, rfl, Ext.refl _, ⟨rfl, rv1⟩⟩) ?_
    refine ⟨fun _ => ⟨fun f7 w13 hf6 xt11 hp6 => ?_, by rintro _ _ _ x_ ⟨g0, e_, hv0, hA1⟩; exact ⟨g0, e_, hv0, hA1.ext x_⟩⟩, ?_⟩
    ·
     have H17 := H7.ext xt11
     have s7 : f7 28 = sL a0 (newMR (fi.length : Int)) c0 := hp6 4 rfl rfl
     obtain ⟨s8, rv5⟩ : f7 29 = iV x0 ∧ I64 (x0) := hp6 5 rfl rfl
     refine iaO (H17.at_ 1 rfl) rfl rfl s7 s8 (by omega) un66 ty115 ?_
     intro g1 x2 hv1 hx2 hA2
     obtain rfl : x1 = x2 := Option.some.inj (hx1.symm.trans hx2)
     exact ⟨_, rfl, Ext.refl _, ⟨g1, rfl, hv1, hA2⟩⟩
    refine ⟨fun _ => ⟨fun f8 w14 hf7 xt12 hp7 => ?_, by rintro _ _ _ x_ ⟨a1, c1, e_, rv2⟩; exact ⟨a1, c1, e_, rv2.lift (Up.ext x_)⟩⟩, ?_⟩
    ·
     obtain ⟨g2, s9, hv2, hA3⟩ : ∃ (g2 : Nat), f8 30 = .pointer (some ⟨g2, x0.toNat * 1, none⟩) ∧ (.slice a0 (newMR (fi.length : Int)).length c0 : Value).ownBlock = some g2 ∧ AtW (MS M [box bb2 #[iV (newMN (fi.length : Int)), sL a0 (newMR (fi.length : Int)) c0] 68, own w.heap.size 115 (.slice a0 (newMR (fi.length : Int)).length c0) xs, box bb1 #[iV 0, .slice none 0 0] 68, box bb0 #[.slice a_fv n_fv c_fv, sL a_fi fi c_fi, sL a_fo fo c_fo] 32, iL a_fo fo c_fo, iL a_fi fi c_fi]) w14 ⟨g2, x0.toNat * 1, none⟩ x1 := hp7 6 rfl rfl
     refine ldL hA3 ty115 rfl s9 ?_
     intro a3 c3 rv6
     have ln1 := rv_len rv6
     exact ⟨_, rfl, Ext.refl _, ⟨a3, c3, rfl, rv6⟩⟩
    refine dc (fun _ _ hf8 _ _ => mv rfl (hf8 5 rfl) (d0 rfl rfl)) ?_
    refine ⟨fun _ => ⟨fun f10 w16 hf9 xt14 hp9 => ?_, by rintro _ _ _ x_ ⟨a2, c2, e_, rv4⟩; exact ⟨a2, c2, e_, rv4.lift (Up.ext x_)⟩⟩, ?_⟩
    ·
     have H21 := H7.ext xt14
     obtain ⟨a4, c4, s10, rv7⟩ : ∃ (a4 : OA) (c4 : Nat), f10 31 = sL a4 x1 c4 ∧ RV (MS M [box bb2 #[iV (newMN (fi.length : Int)), sL a0 (newMR (fi.length : Int)) c0] 68, own w.heap.size 115 (.slice a0 (newMR (fi.length : Int)).length c0) xs, box bb1 #[iV 0, .slice none 0 0] 68, box bb0 #[.slice a_fv n_fv c_fv, sL a_fi fi c_fi, sL a_fo fo c_fo] 32, iL a_fo fo c_fo, iL a_fi fi c_fi]) w16 (sL a4 x1 c4) x1 := hp9 7 rfl rfl
     have H22 := H21.put (it := iL a4 x1 c4) rfl rv7
     have s11 : f10 32 = iV (j : Int) := hp9 8 rfl rfl
     have cc2 := row_Set (r := x1) (i := (j : Int)) (w := w16) H22.mb (H22.rv 0 rfl) (by unfold I64 at *; omega) (by first | (have e1_ := hx1; rw [hs] at e1_; exact (rfTo_sq (n := fi.length) (by omega) fo j).2 _ (mG_ e1_)) | (have e1_ := hx2; rw [hs] at e1_; exact (rfTo_sq (n := fi.length) (by omega) fo j).2 _ (mG_ e1_)) | (have e1_ := hx3; rw [hs] at e1_; exact (rfTo_sq (n := fi.length) (by omega) fo j).2 _ (mG_ e1_)) | (have e1_ := hx4; rw [hs] at e1_; exact (rfTo_sq (n := fi.length) (by omega) fo j).2 _ (mG_ e1_)) | (have e1_ := hx5; rw [hs] at e1_; exact (rfTo_sq (n := fi.length) (by omega) fo j).2 _ (mG_ e1_)))
     refine ca go112 rfl (ec s10 (ec s11 e0)) cc2 ?_
     rintro _ w17 ⟨a5, c5, rfl, xt15, rv8⟩
     have rv9 := OwnsG.rv rv8 H22.mb
     exact ⟨_, rfl, xt15, ⟨a5, c5, rfl, (rv_drop rfl rv9)⟩⟩
    exact DSteps.rest rfl _
   ·
    intro f11 w18 hf10 xt16 hp10
    have H25 := H7.ext xt16
    have s12 : f11 2 = pV bb1 0 := (hf10 2 rfl).trans s0
    have s13 : f11 3 = pV bb2 0 := (hf10 3 rfl).trans s1
    have s14 : f11 15 = sL a_fo fo c_fo := (hf10 15 rfl).trans s2
    have s15 : f11 16 = iV (fo.length : Int) := (hf10 16 rfl).trans s3
    have s16 : f11 17 = iV (j : Int) := (hf10 17 rfl).trans s4
    have s17 : f11 25 = sL a0 (newMR (fi.length : Int)) c0 := hp10 1 rfl
    obtain ⟨s18, rv10⟩ : f11 26 = iV x0 ∧ I64 (x0) := hp10 2 rfl
    obtain ⟨a6, c6, s19, rv11⟩ : ∃ (a6 : OA) (c6 : Nat), f11 33 = sL a6 (setR x1 (j : Int)) c6 ∧ RV (MS M [box bb2 #[iV (newMN (fi.length : Int)), sL a0 (newMR (fi.length : Int)) c0] 68, own w.heap.size 115 (.slice a0 (newMR (fi.length : Int)).length c0) xs, box bb1 #[iV 0, .slice none 0 0] 68, box bb0 #[.slice a_fv n_fv c_fv, sL a_fi fi c_fi, sL a_fo fo c_fo] 32, iL a_fo fo c_fo, iL a_fi fi c_fi]) w18 (sL a6 (setR x1 (j : Int)) c6) (setR x1 (j : Int)) := hp10 9 rfl
    have H26 := H25.put (it := iL a6 (setR x1 (j : Int)) c6) rfl rv11
    refine k (iaO (H26.at_ 2 rfl) rfl rfl s17 s18 (by omega) un66 ty115 ?_)
    intro g3 x3 hv3 hx3 hA4
    refine k (stO H26 2 rfl hv3 rfl (by omega) ty115 rfl rfl rfl s19 (H26.rv 0 rfl) ?_)
    intro w19 (H27 : HI M w w19 [iL a6 (setR x1 (j : Int)) c6, box bb2 #[iV (newMN (fi.length : Int)), sL a0 (newMR (fi.length : Int)) c0] 68, own w.heap.size 115 (.slice a0 (newMR (fi.length : Int)).length c0) (xs.set x0.toNat (setR x1 (j : Int))), box bb1 #[iV 0, .slice none 0 0] 68, box bb0 #[.slice a_fv n_fv c_fv, sL a_fi fi c_fi, sL a_fo fo c_fo] 32, iL a_fo fo c_fo, iL a_fi fi c_fi])
    refine z (inb_normal (nx (rg (k (add rfl rfl s16 rfl (by unfold I64 at *; omega) (k (mv (v := iV ((j : Int) + 1)) rfl rfl (z ?_))))))))
    have H28 : HI M w w19 [box bb2 #[iV (newMN (fi.length : Int)), sL a0 (newMR (fi.length : Int)) c0] 68, own w.heap.size 115 (.slice a0 (newMR (fi.length : Int)).length c0) (xs.set x0.toNat (setR x1 (j : Int))), box bb1 #[iV 0, .slice none 0 0] 68, box bb0 #[.slice a_fv n_fv c_fv, sL a_fi fi c_fi, sL a_fo fo c_fo] 32, iL a_fo fo c_fo, iL a_fi fi c_fi] := H27.pickN [1, 2, 3, 4, 5, 6] (by decide) rfl
    refine loopN _ ?_ ⟨(j + 1), (xs.set x0.toNat (setR x1 (j : Int))), rfl, s12, s13, s14, s15, (ieq rfl (by first | rfl | omega)), H28, (by first | omega | assumption | simp), (by first | assumption | simpa using hl), (by first | exact rf_put hs hx0 (by omega) (by omega) (by omega) hx1 | exact rf_put hs hx0 (by omega) (by omega) (by omega) hx2 | exact rf_put hs hx0 (by omega) (by omega) (by omega) hx3 | exact rf_put hs hx0 (by omega) (by omega) (by omega) hx4 | exact rf_put hs hx0 (by omega) (by omega) (by omega) hx5 | (rw [hs]; exact rf_no hx0 (by omega)))⟩
    omega
  have p1 := dF b1
  refine sk (inb_normal (nx (rg (k (add rfl rfl s4 rfl (by unfold I64 at *; omega) (k (mv (v := iV ((j : Int) + 1)) rfl rfl (z ?_))))))))
  refine loopN _ ?_ ⟨(j + 1), xs, rfl, s0, s1, s2, s3, (ieq rfl (by first | rfl | omega)), H7, (by first | omega | assumption | simp), (by first | assumption | simpa using hl), (by first | exact rf_put hs hx0 (by omega) (by omega) (by omega) hx1 | exact rf_put hs hx0 (by omega) (by omega) (by omega) hx2 | exact rf_put hs hx0 (by omega) (by omega) (by omega) hx3 | exact rf_put hs hx0 (by omega) (by omega) (by omega) hx4 | exact rf_put hs hx0 (by omega) (by omega) (by omega) hx5 | (rw [hs]; exact rf_no hx0 (by omega)))⟩
  omega
 have p0 := dF b0
 refine ex (then_exit (loop_exit (inb_here (nx (sq (rg (k (ldX H7 0 rfl ty68 rfl s1 (by decide) rfl (k (stX H7 2 rfl ty68 rfl rfl s0 rfl rfl rfl rfl ?_))))))))))
 intro w6 (H8 : HI M w w6 [box bb2 #[iV (newMN (fi.length : Int)), sL a0 (newMR (fi.length : Int)) c0] 68, own w.heap.size 115 (.slice a0 (newMR (fi.length : Int)).length c0) xs, box bb1 #[iV (newMN (fi.length : Int)), sL a0 (newMR (fi.length : Int)) c0] 68, box bb0 #[.slice a_fv n_fv c_fv, sL a_fi fi c_fi, sL a_fo fo c_fo] 32, iL a_fo fo c_fo, iL a_fi fi c_fi])
 refine z (nx (rt (rc1 H8 2 rfl ty68 rfl rfl s0 rfl (by decide) ?_)))
 have e0 : (newMN (fi.length : Int) : Int) = (fi.length : Int) := by rw [en]
 have e1 : (xs : List (List (BitVec 64))) = rfR fi fo := by rw [hs]; exact rf_end hfo (by omega)
 have l1 : (newMR (fi.length : Int)).length = (rfR fi fo).length := by first | (rw [← e1]; omega) | (rw [er, newM_length, rfR_len]; simp)
 have ev_ := cg2 (fun (x_0 : Int) (n_1 : Nat) => (.agg #[iV x_0, .slice a0 n_1 c0] : Value)) e0 l1
 exact ⟨a0, c0, ev_, H8.below, (congrArg (fun (n_ : Nat) => OwnsG _ _ _ (rfR fi fo) (.slice a0 n_ c0) _) l1).mp ((congrArg (fun (x_ : List (List (BitVec 64))) => OwnsG _ _ _ x_ (.slice a0 (newMR (fi.length : Int)).length c0) _) e1).mp (H8.ownsG_out 1 rfl))⟩
theorem ref13_Rf {a_fv : OA} {n_fv c_fv : Nat} {a_fi : OA} {c_fi : Nat} {fi : List ItemL} {a_fo : OA} {c_fo : Nat} {fo : List Int} (hM : ∀ b, M b → b < w.heap.size) (h_fi : RV M w (.slice a_fi fi.length c_fi) fi) (h_fo : RV M w (.slice a_fo fo.length c_fo) fo) (hn_fi : fi.length ≤ 4096) (hfo : fo.length = fi.length) (hfr : ∀ x ∈ fo, x < ((fi.length : Nat) : Int)) : Calls Tryz.prog 100 #[.agg #[.slice a_fv n_fv c_fv, .slice a_fi fi.length c_fi, .slice a_fo fo.length c_fo]] w (Ret fun v w' => ∃ (a0 : OA) (c0 : Nat), v = .agg #[.int .i64 (fi.length : Int), .slice a0 (rfR fi fo).length c0] ∧ Ext w w' ∧ RV M w' (.slice a0 (rfR fi fo).length c0) (rfR fi fo)) := by
 refine enter 38 Tryz.func100 rfl rfl rfl fun f0 ha => ?_
 have H := HI.start (M0 := M) (w := w) hM
 have H0 := H.put (it := iL a_fi fi c_fi) rfl (by rw [MS_nil]; exact h_fi)
 have H1 := H0.put (it := iL a_fo fo c_fo) rfl (by rw [MS_cons_none rfl, MS_nil]; exact h_fo)
 have ln_fi := rv_len h_fi
 have ln_fo := rv_len h_fo
 have i0 : f0 0 = .agg #[.slice a_fv n_fv c_fv, sL a_fi fi c_fi, sL a_fo fo c_fo] := ha 0 (by simp)
 refine sq (rg (k (bx H1 rfl i0 ?_)))
 intro bb0 w0 xt0 (H2 : HI M w w0 [box bb0 #[.slice a_fv n_fv c_fv, sL a_fi fi c_fi, sL a_fo fo c_fo] 32, iL a_fo fo c_fo, iL a_fi fi c_fi])
 refine k (al H2 ty68 ?_)
 intro bb1 w1 xt1 (H3 : HI M w w1 [box bb1 #[iV 0, .slice none 0 0] 68, box bb0 #[.slice a_fv n_fv c_fv, sL a_fi fi c_fi, sL a_fo fo c_fo] 32, iL a_fo fo c_fo, iL a_fi fi c_fi])
 refine z (nx (sq (rg (k (fa fl32_1 rfl rfl (k (lx H3 1 rfl ty29 rfl rfl rfl (k (lnS rfl rfl un29 (k ?_))))))))))
 have cc0 := ref03_New (n := (fi.length : Int)) (w := w1) H3.mb (by unfold I64 at *; omega)
 refine ca go78 rfl (ec rfl e0) cc0 ?_
 rintro _ w2 ⟨a0, c0, rfl, xt2, rv0⟩
 have H4 := H3.ownsG rv0
 refine k (mv (v := .tuple #[.agg #[iV (newMN (fi.length : Int)), sL a0 (newMR (fi.length : Int)) c0], iV (newME (fi.length : Int))]) rfl rfl (k (xt rfl rfl rfl (k (xt rfl rfl rfl (k (al H4 ty68 ?_)))))))
 intro bb2 w3 xt3 (H5 : HI M w w3 [box bb2 #[iV 0, .slice none 0 0] 68, oL w 115 a0 (newMR (fi.length : Int)) c0, box bb1 #[iV 0, .slice none 0 0] 68, box bb0 #[.slice a_fv n_fv c_fv, sL a_fi fi c_fi, sL a_fo fo c_fo] 32, iL a_fo fo c_fo, iL a_fi fi c_fi])
 refine k (stX H5 0 rfl ty68 rfl rfl rfl rfl rfl rfl rfl ?_)
 intro w4 (H6 : HI M w w4 [box bb2 #[iV (newMN (fi.length : Int)), sL a0 (newMR (fi.length : Int)) c0] 68, oL w 115 a0 (newMR (fi.length : Int)) c0, box bb1 #[iV 0, .slice none 0 0] 68, box bb0 #[.slice a_fv n_fv c_fv, sL a_fi fi c_fi, sL a_fo fo c_fo] 32, iL a_fo fo c_fo, iL a_fi fi c_fi])
 refine k (asg (v := iV (newME (fi.length : Int))) rfl rfl (z (nx (sq (sq ?_)))))
 have hok_ : okN (fi.length : Int) = true := okN_iff.2 (by omega)
 obtain ⟨en, er, -⟩ := newM_yes hok_
 refine rg (k (asg (v := iV 0) rfl rfl (z (nx (bk ?_)))))
 have H7 := H6.freeze 1 rfl
 have H8 := H7.put (it := iL a0 (newMR (fi.length : Int)) c0) rfl (H7.rv 1 rfl)
 refine lp (fun m f w' => ∃ (j : Nat) (n_ : Int) (rs : List (List (BitVec 64))) (a1 : OA) (c1 : Nat), m = fo.length - j ∧ f 1 = pV bb0 0 ∧ f 2 = pV bb1 0 ∧ f 3 = pV bb2 0 ∧ f 5 = iV (j : Int) ∧  HI M w w' [iL a1 rs c1, box bb2 #[iV n_, sL a1 rs c1] 68, iL a0 (newMR (fi.length : Int)) c0, box bb1 #[iV 0, .slice none 0 0] 68, box bb0 #[.slice a_fv n_fv c_fv, sL a_fi fi c_fi, sL a_fo fo c_fo] 32, iL a_fo fo c_fo, iL a_fi fi c_fi] ∧ (j ≤ fo.length) ∧ (n_ = (fi.length : Int)) ∧ (rs = rfTo fi.length fo j)) _ ⟨0, (newMN (fi.length : Int)), (newMR (fi.length : Int)), a0, c0, rfl, rfl, rfl, rfl, (ieq rfl (by first | rfl | omega | simp)), H8, (by first | omega | assumption | simp), (by exact en), (by rw [er]; exact rf_zero _ _)⟩ ?_
 rintro _ f0 w5 ⟨j, n_, rs, a1, c1, rfl, s0, s1, s2, s3, H9, hk, h1, h2⟩
 refine sq (sq (rg (k (mv rfl s3 (k (fa fl32_2 rfl s0 (k (lx H9 4 rfl ty30 rfl rfl rfl (k (lnS rfl rfl un30 (k (lss rfl rfl rfl rfl (z (nx ?_))))))))))))))
 refine cd (b := decide ((j : Int) < (fo.length : Int))) rfl rfl (fun b0 => ?_) (fun b0 => ?_)
 ·
  have p0 := dT b0
  refine sk (nx (sq (bk (sq (rg (k (fa fl32_2 rfl s0 (k (lx H9 4 rfl ty30 rfl rfl rfl (k (mv rfl s3 (k (ia (H9.rv 5 rfl) rfl rfl rfl rfl (by omega) un30 ty3 ?_)))))))))))))
  intro ad0 x0 hx0 hA0
  refine k (ldI hA0.w ty3 rfl rfl ?_)
  intro rv1
  refine k (geq rfl rfl rfl rfl (z (nx ?_)))
  refine cd (b := decide (0 ≤ x0)) rfl rfl (fun b1 => ?_) (fun b1 => ?_)
  ·
   have p1 := dT b1
   have hw_ := hfr _ (mG_ hx0)
   obtain ⟨x1, hx1⟩ : ∃ x, fo[(j : Int).toNat]? = some x := ⟨_, gE_ (by omega)⟩
   refine dr3 9 [eV (.agg #[iV n_, sL a1 rs c1]), eV (pV bb0 2), eV (sL a_fo fo c_fo), eV (iV (j : Int)), fun v w' => ∃ (ad1 : Addr), v = .pointer (some ad1) ∧ At (MS M [iL a1 rs c1, box bb2 #[iV n_, sL a1 rs c1] 68, iL a0 (newMR (fi.length : Int)) c0, box bb1 #[iV 0, .slice none 0 0] 68, box bb0 #[.slice a_fv n_fv c_fv, sL a_fi fi c_fi, sL a_fo fo c_fo] 32, iL a_fo fo c_fo, iL a_fi fi c_fi]) w' ad1 x1, fun v w' => v = iV x1 ∧ I64 (x1), eV (iV (j : Int)), fun v w' => ∃ (a2 : OA) (c2 : Nat), v = .tuple #[.agg #[iV (setMN n_ x1 (j : Int)), sL a2 (setMR n_ rs x1 (j : Int)) c2], iV (setME n_ x1 (j : Int))] ∧ RV (MS M [iL a1 rs c1, box bb2 #[iV n_, sL a1 rs c1] 68, iL a0 (newMR (fi.length : Int)) c0, box bb1 #[iV 0, .slice none 0 0] 68, box bb0 #[.slice a_fv n_fv c_fv, sL a_fi fi c_fi, sL a_fo fo c_fo] 32, iL a_fo fo c_fo, iL a_fi fi c_fi]) w' (sL a2 (setMR n_ rs x1 (j : Int)) c2) (setMR n_ rs x1 (j : Int)), fun v w' => ∃ (a2 : OA) (c2 : Nat), v = .tuple #[.agg #[iV (setMN n_ x1 (j : Int)), sL a2 (setMR n_ rs x1 (j : Int)) c2], iV (setME n_ x1 (j : Int))] ∧ RV (MS M [iL a1 rs c1, box bb2 #[iV n_, sL a1 rs c1] 68, iL a0 (newMR (fi.length : Int)) c0, box bb1 #[iV 0, .slice none 0 0] 68, box bb0 #[.slice a_fv n_fv c_fv, sL a_fi fi c_fi, sL a_fo fo c_fo] 32, iL a_fo fo c_fo, iL a_fi fi c_fi]) w' (sL a2 (setMR n_ rs x1 (j : Int)) c2) (setMR n_ rs x1 (j : Int))] rfl (by kernel_rfl) ?_ ?_
   ·
    refine dc (fun _ _ hf0 xt5 _ => ldX (H9.ext xt5) 1 rfl ty68 rfl ((hf0 3 rfl).trans s2) (by decide) rfl (d0 rfl rfl)) ?_
    refine dc (fun _ _ hf1 _ _ => fa fl32_2 rfl ((hf1 1 rfl).trans s0) (d0 rfl rfl)) ?_
    refine dc (fun _ _ _ xt7 hp2 => lx (H9.ext xt7) 4 rfl ty30 rfl (hp2 1 rfl rfl) rfl (d0 rfl rfl)) ?_
    refine dc (fun _ _ hf3 _ _ => mv rfl ((hf3 5 rfl).trans s3) (d0 rfl rfl)) ?_
    refine ⟨fun _ => ⟨fun f5 w11 hf4 xt9 hp4 => ?_, by rintro _ _ _ x_ ⟨ad1, e_, hA1⟩; exact ⟨ad1, e_, hA1.lift (Up.ext x_)⟩⟩, ?_⟩
    ·
     have H16 := H9.ext xt9
     have s5 : f5 29 = sL a_fo fo c_fo := hp4 2 rfl rfl
     have s6 : f5 30 = iV (j : Int) := hp4 3 rfl rfl
     refine ia (H16.rv 5 rfl) rfl rfl s5 s6 (by omega) un30 ty3 ?_
     intro ad2 x2 hx2 hA2
     obtain rfl : x1 = x2 := Option.some.inj (hx1.symm.trans hx2)
     exact ⟨_, rfl, Ext.refl _, ⟨ad2, rfl, hA2⟩⟩
    refine dc (fun f6 w12 hf5 xt10 hp5 => ?_) ?_
    ·
     have H17 := H9.ext xt10
     obtain ⟨ad3, s7, hA3⟩ : ∃ (ad3 : Addr), f6 31 = .pointer (some ad3) ∧ At (MS M [iL a1 rs c1, box bb2 #[iV n_, sL a1 rs c1] 68, iL a0 (newMR (fi.length : Int)) c0, box bb1 #[iV 0, .slice none 0 0] 68, box bb0 #[.slice a_fv n_fv c_fv, sL a_fi fi c_fi, sL a_fo fo c_fo] 32, iL a_fo fo c_fo, iL a_fi fi c_fi]) w12 ad3 x1 := hp5 4 rfl rfl
     have H18 := H17.put (it := atI ad3 x1) rfl hA3
     refine ldI (H18.atv 0 rfl).w ty3 rfl s7 ?_
     intro rv5
     exact ⟨_, rfl, Ext.refl _, ⟨rfl, rv5⟩⟩
    refine dc (fun _ _ hf6 _ _ => mv rfl ((hf6 5 rfl).trans s3) (d0 rfl rfl)) ?_
    refine ⟨fun _ => ⟨fun f8 w14 hf7 xt12 hp7 => ?_, by rintro _ _ _ x_ ⟨a2, c2, e_, rv4⟩; exact ⟨a2, c2, e_, rv4.lift (Up.ext x_)⟩⟩, ?_⟩
    ·
     have H20 := H9.ext xt12
     have s8 : f8 27 = .agg #[iV n_, sL a1 rs c1] := hp7 0 rfl rfl
     obtain ⟨s9, rv6⟩ : f8 32 = iV x1 ∧ I64 (x1) := hp7 5 rfl rfl
     have s10 : f8 33 = iV (j : Int) := hp7 6 rfl rfl
     have cc2 := ref03_Set (mn := n_) (mr := rs) (i := x1) (j := (j : Int)) (w := w14) H20.mb (by rw [h1]; unfold I64; omega) (H20.rv 0 rfl) rv6 (by unfold I64 at *; omega) (by rw [h1, h2]; exact (rfTo_sq (by omega) _ _).1) (by rw [h2]; exact (rfTo_sq (by omega) _ _).2) (by omega)
     refine ca go36 rfl (ec s8 (ec s9 (ec s10 e0))) cc2 ?_
     rintro _ w15 ⟨a3, c3, rfl, xt13, rv7⟩
     have rv8 := OwnsG.rv rv7 H20.mb
     exact ⟨_, rfl, xt13, ⟨a3, c3, rfl, rv8⟩⟩
    refine ⟨fun _ => ⟨fun f9 w16 hf8 xt14 hp8 => ?_, by rintro _ _ _ x_ ⟨a2, c2, e_, rv4⟩; exact ⟨a2, c2, e_, rv4.lift (Up.ext x_)⟩⟩, ?_⟩
    ·
     obtain ⟨a4, c4, s11, rv9⟩ : ∃ (a4 : OA) (c4 : Nat), f9 34 = .tuple #[.agg #[iV (setMN n_ x1 (j : Int)), sL a4 (setMR n_ rs x1 (j : Int)) c4], iV (setME n_ x1 (j : Int))] ∧ RV (MS M [iL a1 rs c1, box bb2 #[iV n_, sL a1 rs c1] 68, iL a0 (newMR (fi.length : Int)) c0, box bb1 #[iV 0, .slice none 0 0] 68, box bb0 #[.slice a_fv n_fv c_fv, sL a_fi fi c_fi, sL a_fo fo c_fo] 32, iL a_fo fo c_fo, iL a_fi fi c_fi]) w16 (sL a4 (setMR n_ rs x1 (j : Int)) c4) (setMR n_ rs x1 (j : Int)) := hp8 7 rfl rfl
     refine mv rfl s11 ?_
     exact ⟨_, rfl, Ext.refl _, ⟨a4, c4, rfl, rv9⟩⟩
    exact DSteps.rest rfl _
   ·
    intro f10 w17 hf9 xt15 hp9
    have H25 := H9.ext xt15
    have s12 : f10 1 = pV bb0 0 := (hf9 1 rfl).trans s0
    have s13 : f10 2 = pV bb1 0 := (hf9 2 rfl).trans s1
    have s14 : f10 3 = pV bb2 0 := (hf9 3 rfl).trans s2
    have s15 : f10 5 = iV (j : Int) := (hf9 5 rfl).trans s3
    obtain ⟨a5, c5, s16, rv10⟩ : ∃ (a5 : OA) (c5 : Nat), f10 26 = .tuple #[.agg #[iV (setMN n_ x1 (j : Int)), sL a5 (setMR n_ rs x1 (j : Int)) c5], iV (setME n_ x1 (j : Int))] ∧ RV (MS M [iL a1 rs c1, box bb2 #[iV n_, sL a1 rs c1] 68, iL a0 (newMR (fi.length : Int)) c0, box bb1 #[iV 0, .slice none 0 0] 68, box bb0 #[.slice a_fv n_fv c_fv, sL a_fi fi c_fi, sL a_fo fo c_fo] 32, iL a_fo fo c_fo, iL a_fi fi c_fi]) w17 (sL a5 (setMR n_ rs x1 (j : Int)) c5) (setMR n_ rs x1 (j : Int)) := hp9 8 rfl
    have H26 := H25.put (it := iL a5 (setMR n_ rs x1 (j : Int)) c5) rfl rv10
    show TA _ _ _ _ 3 [true, true, true, true, true, true, true, true, true, false, false, false] _ _
    refine ta [9, 10] (by kernel_rfl) rfl ⟨⟨_, rfl, ?_⟩, ⟨_, rfl, ?_⟩, trivial⟩
    ·
     refine xt rfl s16 rfl ?_
     refine ta [10, 11] (by kernel_rfl) rfl ⟨⟨_, rfl, ?_⟩, ⟨_, rfl, ?_⟩, trivial⟩
     ·
      refine xt rfl s16 rfl ?_
      refine ta [11] (by kernel_rfl) rfl ⟨⟨_, rfl, ?_⟩, trivial⟩
      ·
       refine stX H26 2 rfl ty68 rfl rfl s14 rfl rfl rfl rfl ?_
       intro w18 (H27 : HI M w w18 [iL a5 (setMR n_ rs x1 (j : Int)) c5, iL a1 rs c1, box bb2 #[iV (setMN n_ x1 (j : Int)), sL a5 (setMR n_ rs x1 (j : Int)) c5] 68, iL a0 (newMR (fi.length : Int)) c0, box bb1 #[iV 0, .slice none 0 0] 68, box bb0 #[.slice a_fv n_fv c_fv, sL a_fi fi c_fi, sL a_fo fo c_fo] 32, iL a_fo fo c_fo, iL a_fi fi c_fi])
       refine ta0 (by kernel_rfl) (inb_normal (nx (rg (k (mv rfl s15 (k (add rfl rfl rfl rfl (by unfold I64 at *; omega) (k (asg (v := iV ((j : Int) + 1)) rfl rfl (z ?_))))))))))
       have H28 := H27.put (it := iL a5 (setMR n_ rs x1 (j : Int)) c5) rfl (H27.rv 0 rfl)
       have H29 : HI M w w18 [iL a5 (setMR n_ rs x1 (j : Int)) c5, box bb2 #[iV (setMN n_ x1 (j : Int)), sL a5 (setMR n_ rs x1 (j : Int)) c5] 68, iL a0 (newMR (fi.length : Int)) c0, box bb1 #[iV 0, .slice none 0 0] 68, box bb0 #[.slice a_fv n_fv c_fv, sL a_fi fi c_fi, sL a_fo fo c_fo] 32, iL a_fo fo c_fo, iL a_fi fi c_fi] := H28.pickN [0, 3, 4, 5, 6, 7, 8] (by decide) rfl
       refine loopN _ ?_ ⟨(j + 1), (setMN n_ x1 (j : Int)), (setMR n_ rs x1 (j : Int)), a5, c5, rfl, s12, s13, s14, (ieq rfl (by first | rfl | omega)), H29, (by first | omega | assumption | simp), (by (try (have e_ := at_is hx1 hx0; subst e_)); (try (have e_ := at_is hx2 hx0; subst e_)); (try (have e_ := at_is hx3 hx0; subst e_)); (try (have e_ := at_is hx4 hx0; subst e_)); (try (have e_ := at_is hx5 hx0; subst e_)); (try (have e_ := at_is hx6 hx0; subst e_)); first | exact h1 | (rw [h1]; exact (rf_setMR (xs := rs) h2 hx0 (by omega) (by omega) (by omega)).1)), (by (try (have e_ := at_is hx1 hx0; subst e_)); (try (have e_ := at_is hx2 hx0; subst e_)); (try (have e_ := at_is hx3 hx0; subst e_)); (try (have e_ := at_is hx4 hx0; subst e_)); (try (have e_ := at_is hx5 hx0; subst e_)); (try (have e_ := at_is hx6 hx0; subst e_)); first | (rw [h1]; exact (rf_setMR h2 hx0 (by omega) (by omega) (by omega)).2) | (rw [h2]; exact rf_no hx0 (by omega)))⟩
       omega
     ·
      refine stX H26 2 rfl ty68 rfl rfl s14 rfl rfl rfl rfl ?_
      intro w18 (H27 : HI M w w18 [iL a5 (setMR n_ rs x1 (j : Int)) c5, iL a1 rs c1, box bb2 #[iV (setMN n_ x1 (j : Int)), sL a5 (setMR n_ rs x1 (j : Int)) c5] 68, iL a0 (newMR (fi.length : Int)) c0, box bb1 #[iV 0, .slice none 0 0] 68, box bb0 #[.slice a_fv n_fv c_fv, sL a_fi fi c_fi, sL a_fo fo c_fo] 32, iL a_fo fo c_fo, iL a_fi fi c_fi])
      refine ta [10] (by kernel_rfl) rfl ⟨⟨_, rfl, ?_⟩, trivial⟩
      ·
       refine xt rfl s16 rfl (ta0 (by kernel_rfl) (inb_normal (nx (rg (k (mv rfl s15 (k (add rfl rfl rfl rfl (by unfold I64 at *; omega) (k (asg (v := iV ((j : Int) + 1)) rfl rfl (z ?_)))))))))))
       have H28 := H27.put (it := iL a5 (setMR n_ rs x1 (j : Int)) c5) rfl (H27.rv 0 rfl)
       have H29 : HI M w w18 [iL a5 (setMR n_ rs x1 (j : Int)) c5, box bb2 #[iV (setMN n_ x1 (j : Int)), sL a5 (setMR n_ rs x1 (j : Int)) c5] 68, iL a0 (newMR (fi.length : Int)) c0, box bb1 #[iV 0, .slice none 0 0] 68, box bb0 #[.slice a_fv n_fv c_fv, sL a_fi fi c_fi, sL a_fo fo c_fo] 32, iL a_fo fo c_fo, iL a_fi fi c_fi] := H28.pickN [0, 3, 4, 5, 6, 7, 8] (by decide) rfl
       refine loopN _ ?_ ⟨(j + 1), (setMN n_ x1 (j : Int)), (setMR n_ rs x1 (j : Int)), a5, c5, rfl, s12, s13, s14, (ieq rfl (by first | rfl | omega)), H29, (by first | omega | assumption | simp), (by (try (have e_ := at_is hx1 hx0; subst e_)); (try (have e_ := at_is hx2 hx0; subst e_)); (try (have e_ := at_is hx3 hx0; subst e_)); (try (have e_ := at_is hx4 hx0; subst e_)); (try (have e_ := at_is hx5 hx0; subst e_)); (try (have e_ := at_is hx6 hx0; subst e_)); first | exact h1 | (rw [h1]; exact (rf_setMR (xs := rs) h2 hx0 (by omega) (by omega) (by omega)).1)), (by (try (have e_ := at_is hx1 hx0; subst e_)); (try (have e_ := at_is hx2 hx0; subst e_)); (try (have e_ := at_is hx3 hx0; subst e_)); (try (have e_ := at_is hx4 hx0; subst e_)); (try (have e_ := at_is hx5 hx0; subst e_)); (try (have e_ := at_is hx6 hx0; subst e_)); first | (rw [h1]; exact (rf_setMR h2 hx0 (by omega) (by omega) (by omega)).2) | (rw [h2]; exact rf_no hx0 (by omega)))⟩
       omega
    ·
     refine xt rfl s16 rfl ?_
     refine ta [9] (by kernel_rfl) rfl ⟨⟨_, rfl, ?_⟩, trivial⟩
     ·
      refine xt rfl s16 rfl ?_
      refine ta [11] (by kernel_rfl) rfl ⟨⟨_, rfl, ?_⟩, trivial⟩
      ·
       refine stX H26 2 rfl ty68 rfl rfl s14 rfl rfl rfl rfl ?_
       intro w18 (H27 : HI M w w18 [iL a5 (setMR n_ rs x1 (j : Int)) c5, iL a1 rs c1, box bb2 #[iV (setMN n_ x1 (j : Int)), sL a5 (setMR n_ rs x1 (j : Int)) c5] 68, iL a0 (newMR (fi.length : Int)) c0, box bb1 #[iV 0, .slice none 0 0] 68, box bb0 #[.slice a_fv n_fv c_fv, sL a_fi fi c_fi, sL a_fo fo c_fo] 32, iL a_fo fo c_fo, iL a_fi fi c_fi])
       refine ta0 (by kernel_rfl) (inb_normal (nx (rg (k (mv rfl s15 (k (add rfl rfl rfl rfl (by unfold I64 at *; omega) (k (asg (v := iV ((j : Int) + 1)) rfl rfl (z ?_))))))))))
       have H28 := H27.put (it := iL a5 (setMR n_ rs x1 (j : Int)) c5) rfl (H27.rv 0 rfl)
       have H29 : HI M w w18 [iL a5 (setMR n_ rs x1 (j : Int)) c5, box bb2 #[iV (setMN n_ x1 (j : Int)), sL a5 (setMR n_ rs x1 (j : Int)) c5] 68, iL a0 (newMR (fi.length : Int)) c0, box bb1 #[iV 0, .slice none 0 0] 68, box bb0 #[.slice a_fv n_fv c_fv, sL a_fi fi c_fi, sL a_fo fo c_fo] 32, iL a_fo fo c_fo, iL a_fi fi c_fi] := H28.pickN [0, 3, 4, 5, 6, 7, 8] (by decide) rfl
       refine loopN _ ?_ ⟨(j + 1), (setMN n_ x1 (j : Int)), (setMR n_ rs x1 (j : Int)), a5, c5, rfl, s12, s13, s14, (ieq rfl (by first | rfl | omega)), H29, (by first | omega | assumption | simp), (by (try (have e_ := at_is hx1 hx0; subst e_)); (try (have e_ := at_is hx2 hx0; subst e_)); (try (have e_ := at_is hx3 hx0; subst e_)); (try (have e_ := at_is hx4 hx0; subst e_)); (try (have e_ := at_is hx5 hx0; subst e_)); (try (have e_ := at_is hx6 hx0; subst e_)); first | exact h1 | (rw [h1]; exact (rf_setMR (xs := rs) h2 hx0 (by omega) (by omega) (by omega)).1)), (by (try (have e_ := at_is hx1 hx0; subst e_)); (try (have e_ := at_is hx2 hx0; subst e_)); (try (have e_ := at_is hx3 hx0; subst e_)); (try (have e_ := at_is hx4 hx0; subst e_)); (try (have e_ := at_is hx5 hx0; subst e_)); (try (have e_ := at_is hx6 hx0; subst e_)); first | (rw [h1]; exact (rf_setMR h2 hx0 (by omega) (by omega) (by omega)).2) | (rw [h2]; exact rf_no hx0 (by omega)))⟩
       omega
  have p1 := dF b1
  refine sk (inb_normal (nx (rg (k (mv rfl s3 (k (add rfl rfl rfl rfl (by unfold I64 at *; omega) (k (asg (v := iV ((j : Int) + 1)) rfl rfl (z ?_))))))))))
  have H10 := H9.put (it := iL a1 rs c1) rfl (H9.rv 0 rfl)
  have H11 : HI M w w5 [iL a1 rs c1, box bb2 #[iV n_, sL a1 rs c1] 68, iL a0 (newMR (fi.length : Int)) c0, box bb1 #[iV 0, .slice none 0 0] 68, box bb0 #[.slice a_fv n_fv c_fv, sL a_fi fi c_fi, sL a_fo fo c_fo] 32, iL a_fo fo c_fo, iL a_fi fi c_fi] := H10.pickN [0, 2, 3, 4, 5, 6, 7] (by decide) rfl
  refine loopN _ ?_ ⟨(j + 1), n_, rs, a1, c1, rfl, s0, s1, s2, (ieq rfl (by first | rfl | omega)), H11, (by first | omega | assumption | simp), (by (try (have e_ := at_is hx1 hx0; subst e_)); (try (have e_ := at_is hx2 hx0; subst e_)); (try (have e_ := at_is hx3 hx0; subst e_)); (try (have e_ := at_is hx4 hx0; subst e_)); (try (have e_ := at_is hx5 hx0; subst e_)); (try (have e_ := at_is hx6 hx0; subst e_)); first | exact h1 | (rw [h1]; exact (rf_setMR (xs := rs) h2 hx0 (by omega) (by omega) (by omega)).1)), (by (try (have e_ := at_is hx1 hx0; subst e_)); (try (have e_ := at_is hx2 hx0; subst e_)); (try (have e_ := at_is hx3 hx0; subst e_)); (try (have e_ := at_is hx4 hx0; subst e_)); (try (have e_ := at_is hx5 hx0; subst e_)); (try (have e_ := at_is hx6 hx0; subst e_)); first | (rw [h1]; exact (rf_setMR h2 hx0 (by omega) (by omega) (by omega)).2) | (rw [h2]; exact rf_no hx0 (by omega)))⟩
  omega
 have p0 := dF b0
 refine ex (then_exit (loop_exit (inb_here (nx (sq (rg (k (ldX H9 1 rfl ty68 rfl s2 (by decide) rfl (k (stX H9 3 rfl ty68 rfl rfl s1 rfl rfl rfl rfl ?_))))))))))
 intro w6 (H10 : HI M w w6 [iL a1 rs c1, box bb2 #[iV n_, sL a1 rs c1] 68, iL a0 (newMR (fi.length : Int)) c0, box bb1 #[iV n_, sL a1 rs c1] 68, box bb0 #[.slice a_fv n_fv c_fv, sL a_fi fi c_fi, sL a_fo fo c_fo] 32, iL a_fo fo c_fo, iL a_fi fi c_fi])
 refine z (nx (rt (rc1 H10 3 rfl ty68 rfl rfl s1 rfl (by decide) ?_)))
 have e0 : (n_ : Int) = (fi.length : Int) := by exact h1
 have e1 : (rs : List (List (BitVec 64))) = rfR fi fo := by rw [h2]; exact rf_end hfo (by omega)
 have ev_ := cg2 (fun (x_0 : Int) (x_1 : List (List (BitVec 64))) => (.agg #[iV x_0, .slice a1 x_1.length c1] : Value)) e0 e1
 exact ⟨a1, c1, ev_, H10.below, (congrArg (fun (x_ : List (List (BitVec 64))) => RV _ _ (.slice a1 x_.length c1) x_) e1).mp (H10.gives_out 0 rfl)⟩
theorem cause_Edges {a_fv : OA} {n_fv c_fv : Nat} {a_fi : OA} {c_fi : Nat} {fi : List ItemL} {a_fo : OA} {c_fo : Nat} {fo : List Int} (hM : ∀ b, M b → b < w.heap.size) (h_fi : RV M w (.slice a_fi fi.length c_fi) fi) (h_fo : RV M w (.slice a_fo fo.length c_fo) fo) (ho : OrdI fi) (hn_fi : fi.length ≤ 4096) (hfo : fo.length = fi.length) (hfr : ∀ x ∈ fo, x < ((fi.length : Nat) : Int)) : Calls Tryz.prog 115 #[.agg #[.slice a_fv n_fv c_fv, .slice a_fi fi.length c_fi, .slice a_fo fo.length c_fo]] w (Ret fun v w' => ∃ (a0 : OA) (c0 : Nat), v = .agg #[.int .i64 (fi.length : Int), .slice a0 (edR fi fo).length c0] ∧ Ext w w' ∧ RV M w' (.slice a0 (edR fi fo).length c0) (edR fi fo)) := by
 refine enter 14 Tryz.func115 rfl rfl rfl fun f0 ha => ?_
 have H := HI.start (M0 := M) (w := w) hM
 have H0 := H.put (it := iL a_fi fi c_fi) rfl (by rw [MS_nil]; exact h_fi)
 have H1 := H0.put (it := iL a_fo fo c_fo) rfl (by rw [MS_cons_none rfl, MS_nil]; exact h_fo)
 have ln_fi := rv_len h_fi
 have ln_fo := rv_len h_fo
 have i0 : f0 0 = .agg #[.slice a_fv n_fv c_fv, sL a_fi fi c_fi, sL a_fo fo c_fo] := ha 0 (by simp)
 refine sq (rg (k (bx H1 rfl i0 ?_)))
 intro bb0 w0 xt0 (H2 : HI M w w0 [box bb0 #[.slice a_fv n_fv c_fv, sL a_fi fi c_fi, sL a_fo fo c_fo] 32, iL a_fo fo c_fo, iL a_fi fi c_fi])
 refine k (al H2 ty68 ?_)
 intro bb1 w1 xt1 (H3 : HI M w w1 [box bb1 #[iV 0, .slice none 0 0] 68, box bb0 #[.slice a_fv n_fv c_fv, sL a_fi fi c_fi, sL a_fo fo c_fo] 32, iL a_fo fo c_fo, iL a_fi fi c_fi])
 refine z (nx (sq ?_))
 refine drn [.v, .v, .v, .v, .v, .v, .v, .v, .n, .s 8 6, .v] [fun (N : Nat → Prop) (v : Value) (w' : World) => v = .agg #[.slice a_fv n_fv c_fv, sL a_fi fi c_fi, sL a_fo fo c_fo], fun (N : Nat → Prop) (v : Value) (w' : World) => ∃ (a0 : OA) (c0 : Nat), v = .agg #[iV (fi.length : Int), sL a0 (poR fi) c0] ∧ RV (MN (MS M [box bb1 #[iV 0, .slice none 0 0] 68, box bb0 #[.slice a_fv n_fv c_fv, sL a_fi fi c_fi, sL a_fo fo c_fo] 32, iL a_fo fo c_fo, iL a_fi fi c_fi]) N) w' (sL a0 (poR fi) c0) (poR fi), fun (N : Nat → Prop) (v : Value) (w' : World) => v = .agg #[.slice a_fv n_fv c_fv, sL a_fi fi c_fi, sL a_fo fo c_fo], fun (N : Nat → Prop) (v : Value) (w' : World) => ∃ (a1 : OA) (c1 : Nat), v = .agg #[iV (fi.length : Int), sL a1 (rfR fi fo) c1] ∧ RV (MN (MS M [box bb1 #[iV 0, .slice none 0 0] 68, box bb0 #[.slice a_fv n_fv c_fv, sL a_fi fi c_fi, sL a_fo fo c_fo] 32, iL a_fo fo c_fo, iL a_fi fi c_fi]) N) w' (sL a1 (rfR fi fo) c1) (rfR fi fo), fun (N : Nat → Prop) (v : Value) (w' : World) => ∃ (a2 : OA) (c2 : Nat), v = .tuple #[.agg #[iV (orMN (fi.length : Int) (fi.length : Int)), sL a2 (orMR (fi.length : Int) (poR fi) (fi.length : Int) (rfR fi fo)) c2], iV (orME (fi.length : Int) (fi.length : Int))] ∧ RV (MN (MS M [box bb1 #[iV 0, .slice none 0 0] 68, box bb0 #[.slice a_fv n_fv c_fv, sL a_fi fi c_fi, sL a_fo fo c_fo] 32, iL a_fo fo c_fo, iL a_fi fi c_fi]) N) w' (sL a2 (orMR (fi.length : Int) (poR fi) (fi.length : Int) (rfR fi fo)) c2) (orMR (fi.length : Int) (poR fi) (fi.length : Int) (rfR fi fo)), fun (N : Nat → Prop) (v : Value) (w' : World) => ∃ (a2 : OA) (c2 : Nat), v = .tuple #[.agg #[iV (orMN (fi.length : Int) (fi.length : Int)), sL a2 (orMR (fi.length : Int) (poR fi) (fi.length : Int) (rfR fi fo)) c2], iV (orME (fi.length : Int) (fi.length : Int))] ∧ RV (MN (MS M [box bb1 #[iV 0, .slice none 0 0] 68, box bb0 #[.slice a_fv n_fv c_fv, sL a_fi fi c_fi, sL a_fo fo c_fo] 32, iL a_fo fo c_fo, iL a_fi fi c_fi]) N) w' (sL a2 (orMR (fi.length : Int) (poR fi) (fi.length : Int) (rfR fi fo)) c2) (orMR (fi.length : Int) (poR fi) (fi.length : Int) (rfR fi fo)), fun (N : Nat → Prop) (v : Value) (w' : World) => ∃ (a2 : OA) (c2 : Nat), v = .agg #[iV (orMN (fi.length : Int) (fi.length : Int)), sL a2 (orMR (fi.length : Int) (poR fi) (fi.length : Int) (rfR fi fo)) c2] ∧ RV (MN (MS M [box bb1 #[iV 0, .slice none 0 0] 68, box bb0 #[.slice a_fv n_fv c_fv, sL a_fi fi c_fi, sL a_fo fo c_fo] 32, iL a_fo fo c_fo, iL a_fi fi c_fi]) N) w' (sL a2 (orMR (fi.length : Int) (poR fi) (fi.length : Int) (rfR fi fo)) c2) (orMR (fi.length : Int) (poR fi) (fi.length : Int) (rfR fi fo)), fun (N : Nat → Prop) (v : Value) (w' : World) => v = iV (orME (fi.length : Int) (fi.length : Int)), fun _ _ _ => True, fun _ _ _ => True, fun (N : Nat → Prop) (v : Value) (w' : World) => v = iV (orME (fi.length : Int) (fi.length : Int))] [(#[], 0), (#[], 0), (#[], 0), (#[], 0), (#[], 0), (#[], 0), (#[], 0), (#[], 0), (#[iV 0, .slice none 0 0], 68), (#[], 0), (#[], 0)] rfl (by kernel_rfl) ?_ ?_
 ·
  refine ⟨⟨fun _ _ _ _ _ _ h => h, rfl, fun f0 w6 N0 hf0 xt6 hN0 hp0 => ?_⟩, ?_⟩
  ·
   refine ldX (H3.ext xt6) 1 rfl ty32 rfl (hf0 1 rfl) (by decide) rfl ?_
   exact ⟨_, rfl, Ext.refl _, rfl⟩
  refine ⟨⟨by rintro _ _ _ _ _ k_ ⟨a0, c0, e_, rv3⟩; exact ⟨a0, c0, e_, rvn_keep rv3 k_⟩, rfl, fun f1 w7 N1 hf1 xt7 hN1 hp1 => ?_⟩, ?_⟩
  ·
   have hq0 := hp1 0 rfl ⟨_, rfl, rfl⟩
   have s0 : f1 6 = .agg #[.slice a_fv n_fv c_fv, sL a_fi fi c_fi, sL a_fo fo c_fo] := hq0
   have cc3 := session_Po (fi := fi) (a_fv := a_fv) (n_fv := n_fv) (c_fv := c_fv) (a_fo := a_fo) (n_fo := fo.length) (c_fo := c_fo) (w := w7) (mn_below H3.mb xt7 hN1) (rvn_old (H3.rv 3 rfl) xt7 hN1) (by exact ho) (by first | exact hn_fi | omega)
   refine ca go133 rfl (ec s0 e0) cc3 ?_
   rintro _ w8 ⟨a3, c3, rfl, xt8, rv6⟩
   exact ⟨_, rfl, xt8, ⟨a3, c3, rfl, (OwnsG.rv rv6 (mn_below H3.mb xt7 hN1))⟩⟩
  refine ⟨⟨fun _ _ _ _ _ _ h => h, rfl, fun f2 w9 N2 hf2 xt9 hN2 hp2 => ?_⟩, ?_⟩
  ·
   refine ldX (H3.ext xt9) 1 rfl ty32 rfl (hf2 1 rfl) (by decide) rfl ?_
   exact ⟨_, rfl, Ext.refl _, rfl⟩
  refine ⟨⟨by rintro _ _ _ _ _ k_ ⟨a1, c1, e_, rv4⟩; exact ⟨a1, c1, e_, rvn_keep rv4 k_⟩, rfl, fun f3 w10 N3 hf3 xt10 hN3 hp3 => ?_⟩, ?_⟩
  ·
   have hq1 := hp3 2 rfl ⟨_, rfl, rfl⟩
   have s1 : f3 8 = .agg #[.slice a_fv n_fv c_fv, sL a_fi fi c_fi, sL a_fo fo c_fo] := hq1
   have cc4 := cause_Rf (fi := fi) (fo := fo) (a_fv := a_fv) (n_fv := n_fv) (c_fv := c_fv) (w := w10) (mn_below H3.mb xt10 hN3) (rvn_old (H3.rv 3 rfl) xt10 hN3) (rvn_old (H3.rv 2 rfl) xt10 hN3) (by first | exact hn_fi | omega) (by exact hfo) (by exact hfr)
   refine ca go134 rfl (ec s1 e0) cc4 ?_
   rintro _ w11 ⟨a4, c4, rfl, xt11, rv7⟩
   exact ⟨_, rfl, xt11, ⟨a4, c4, rfl, (OwnsG.rv rv7 (mn_below H3.mb xt10 hN3))⟩⟩
  refine ⟨⟨by rintro _ _ _ _ _ k_ ⟨a2, c2, e_, rv5⟩; exact ⟨a2, c2, e_, rvn_keep rv5 k_⟩, rfl, fun f4 w12 N4 hf4 xt12 hN4 hp4 => ?_⟩, ?_⟩
  ·
   have hq2 := hp4 1 rfl ⟨_, rfl, rfl⟩
   obtain ⟨a0, c0, s2, rv3⟩ := hq2
   have hq3 := hp4 3 rfl ⟨_, rfl, rfl⟩
   obtain ⟨a1, c1, s3, rv4⟩ := hq3
   have cc5 := mat_Or (an := (fi.length : Int)) (ar := (poR fi)) (bn := (fi.length : Int)) (br := (rfR fi fo)) (w := w12) (mn_below H3.mb xt12 hN4) (by unfold I64 at *; omega) rv3 (by unfold I64 at *; omega) rv4 (by exact (mat_sq (by omega) _).1) (by exact (mat_sq (by omega) _).2) (by omega) (by exact (mat_sq (by omega) _).1) (by exact (mat_sq (by omega) _).2) (by omega)
   refine ca go132 rfl (ec s2 (ec s3 e0)) cc5 ?_
   rintro _ w13 ⟨a5, c5, rfl, xt13, rv8⟩
   exact ⟨_, rfl, xt13, ⟨a5, c5, rfl, (OwnsG.rv rv8 (mn_below H3.mb xt12 hN4))⟩⟩
  refine ⟨⟨by rintro _ _ _ _ _ k_ ⟨a2, c2, e_, rv5⟩; exact ⟨a2, c2, e_, rvn_keep rv5 k_⟩, rfl, fun f5 w14 N5 hf5 xt14 hN5 hp5 => ?_⟩, ?_⟩
  ·
   have hq4 := hp5 4 rfl ⟨_, rfl, rfl⟩
   obtain ⟨a2, c2, s4, rv5⟩ := hq4
   refine mv rfl s4 ?_
   exact ⟨_, rfl, Ext.refl _, ⟨a2, c2, rfl, rv5⟩⟩
  refine ⟨⟨by rintro _ _ _ _ _ k_ ⟨a2, c2, e_, rv5⟩; exact ⟨a2, c2, e_, rvn_keep rv5 k_⟩, rfl, fun f6 w15 N6 hf6 xt15 hN6 hp6 => ?_⟩, ?_⟩
  ·
   have hq5 := hp6 5 rfl ⟨_, rfl, rfl⟩
   obtain ⟨a2, c2, s5, rv5⟩ := hq5
   refine xt rfl s5 rfl ?_
   exact ⟨_, rfl, Ext.refl _, ⟨a2, c2, rfl, rv5⟩⟩
  refine ⟨⟨fun _ _ _ _ _ _ h => h, rfl, fun f7 w16 N7 hf7 xt16 hN7 hp7 => ?_⟩, ?_⟩
  ·
   have hq6 := hp7 5 rfl ⟨_, rfl, rfl⟩
   obtain ⟨a2, c2, s6, rv5⟩ := hq6
   refine xt rfl s6 rfl ?_
   exact ⟨_, rfl, Ext.refl _, rfl⟩
  refine ⟨⟨fun _ _ _ _ _ _ h => h, rfl, fun _ _ _ => trivial, fun f8 w17 N8 hf8 xt17 hN8 hp8 => ?_⟩, ?_⟩
  ·
   refine alS ty68 ?_
   exact ⟨rfl, rfl⟩
  refine ⟨⟨fun _ _ _ _ _ _ h => h, rfl, rfl, rfl, ⟨_, rfl, rfl⟩, ⟨_, rfl, rfl⟩, by decide, trivial, by rintro _ _ _ ⟨a2, c2, e_, rv5⟩; subst e_; rfl, fun f9 w18 N_ bb3 cur0 xt18 s7 hb0 hc0 hv0 => ?_⟩, ?_⟩
  ·
   obtain ⟨a2, c2, e_, rv5⟩ := hv0
   exact stS ty68 rfl rfl s7 rfl hb0 ((congrArg (fun v => v.cells.size) e_).trans rfl) hc0 ((congrArg (fun v => v.cells.toList.all Value.oneCell') e_).trans rfl)
  refine ⟨⟨fun _ _ _ _ _ _ h => h, rfl, fun f10 w19 N9 hf9 xt19 hN9 hp9 => ?_⟩, ?_⟩
  ·
   have hq7 := hp9 7 rfl ⟨_, rfl, rfl⟩
   have s8 : f10 12 = iV (orME (fi.length : Int) (fi.length : Int)) := hq7
   refine asg rfl s8 ?_
   exact ⟨_, rfl, Ext.refl _, rfl⟩
  exact trivial
 ·
  intro f11 w20 I0 hf10 xt20 hp10 hN10 hd0
  have s9 : f11 2 = pV bb1 0 := hf10 2 rfl
  obtain ⟨a6, c6, s10, rv9⟩ := (hp10 6 _ rfl rfl)
  obtain ⟨s11, hg0, -, cur1, hc1, hk0⟩ := hN10 8 (by decide) trivial
  have hq8 : cur1 = #[iV (orMN (fi.length : Int) (fi.length : Int)), sL a6 (orMR (fi.length : Int) (poR fi) (fi.length : Int) (rfR fi fo)) c6] := (hk0.2.1 9 6 rfl rfl).trans (congrArg Value.cells s10)
  rw [hq8] at hc1
  have hz8_ := hg0
  have H5 : HI M w w20 [box (I0 8) #[iV (orMN (fi.length : Int) (fi.length : Int)), sL a6 (orMR (fi.length : Int) (poR fi) (fi.length : Int) (rfR fi fo)) c6] 68, box bb1 #[iV 0, .slice none 0 0] 68, box bb0 #[.slice a_fv n_fv c_fv, sL a_fi fi c_fi, sL a_fo fo c_fo] 32, iL a_fo fo c_fo, iL a_fi fi c_fi] := H3.lays xt20 [((I0 8), #[iV (orMN (fi.length : Int) (fi.length : Int)), sL a6 (orMR (fi.length : Int) (poR fi) (fi.length : Int) (rfR fi fo)) c6], 68)] (by intro q_ hq_; simp only [List.mem_cons, List.not_mem_nil, or_false] at hq_; rcases hq_ with rfl <;> first | exact ⟨hz8_, hc1⟩) (by simp only [List.map_cons, List.map_nil, List.nodup_cons, List.mem_cons, List.not_mem_nil, or_false, List.nodup_nil, and_true, not_or, not_false_eq_true, true_and] <;> omega)
  have H6 := H5.put (it := iL a6 (orMR (fi.length : Int) (poR fi) (fi.length : Int) (rfR fi fo)) c6) rfl (rvn_out [((I0 8), #[iV (orMN (fi.length : Int) (fi.length : Int)), sL a6 (orMR (fi.length : Int) (poR fi) (fi.length : Int) (rfR fi fo)) c6], 68)] rv9 (by intro q_ hq_; simp only [List.mem_cons, List.not_mem_nil, or_false] at hq_; rcases hq_ with rfl <;> first | exact ⟨8, by decide, rfl, trivial, rfl⟩))
  refine nx (sq (rg (k (ldX H6 1 rfl ty68 rfl s11 (by decide) rfl (k (stX H6 2 rfl ty68 rfl rfl s9 rfl rfl rfl rfl ?_))))))
  intro w21 (H7 : HI M w w21 [iL a6 (orMR (fi.length : Int) (poR fi) (fi.length : Int) (rfR fi fo)) c6, box (I0 8) #[iV (orMN (fi.length : Int) (fi.length : Int)), sL a6 (orMR (fi.length : Int) (poR fi) (fi.length : Int) (rfR fi fo)) c6] 68, box bb1 #[iV (orMN (fi.length : Int) (fi.length : Int)), sL a6 (orMR (fi.length : Int) (poR fi) (fi.length : Int) (rfR fi fo)) c6] 68, box bb0 #[.slice a_fv n_fv c_fv, sL a_fi fi c_fi, sL a_fo fo c_fo] 32, iL a_fo fo c_fo, iL a_fi fi c_fi])
  refine z (nx (rt (rc1 H7 2 rfl ty68 rfl rfl s9 rfl (by decide) ?_)))
  have e0 : (orMN (fi.length : Int) (fi.length : Int) : Int) = (fi.length : Int) := by exact (ed_or fi fo).1
  have e1 : (orMR (fi.length : Int) (poR fi) (fi.length : Int) (rfR fi fo) : List (List (BitVec 64))) = edR fi fo := by exact (ed_or fi fo).2
  have ev_ := cg2 (fun (x_0 : Int) (x_1 : List (List (BitVec 64))) => (.agg #[iV x_0, .slice a6 x_1.length c6] : Value)) e0 e1
  exact ⟨a6, c6, ev_, H7.below, (congrArg (fun (x_ : List (List (BitVec 64))) => RV _ _ (.slice a6 x_.length c6) x_) e1).mp (H7.gives_out 0 rfl)⟩
theorem ref13_Edges {a_fv : OA} {n_fv c_fv : Nat} {a_fi : OA} {c_fi : Nat} {fi : List ItemL} {a_fo : OA} {c_fo : Nat} {fo : List Int} (hM : ∀ b, M b → b < w.heap.size) (h_fi : RV M w (.slice a_fi fi.length c_fi) fi) (h_fo : RV M w (.slice a_fo fo.length c_fo) fo) (ho : OrdI fi) (hn_fi : fi.length ≤ 4096) (hfo : fo.length = fi.length) (hfr : ∀ x ∈ fo, x < ((fi.length : Nat) : Int)) : Calls Tryz.prog 65 #[.agg #[.slice a_fv n_fv c_fv, .slice a_fi fi.length c_fi, .slice a_fo fo.length c_fo]] w (Ret fun v w' => ∃ (a0 : OA) (c0 : Nat), v = .agg #[.int .i64 (fi.length : Int), .slice a0 (edR fi fo).length c0] ∧ Ext w w' ∧ RV M w' (.slice a0 (edR fi fo).length c0) (edR fi fo)) := by
 refine enter 14 Tryz.func65 rfl rfl rfl fun f0 ha => ?_
 have H := HI.start (M0 := M) (w := w) hM
 have H0 := H.put (it := iL a_fi fi c_fi) rfl (by rw [MS_nil]; exact h_fi)
 have H1 := H0.put (it := iL a_fo fo c_fo) rfl (by rw [MS_cons_none rfl, MS_nil]; exact h_fo)
 have ln_fi := rv_len h_fi
 have ln_fo := rv_len h_fo
 have i0 : f0 0 = .agg #[.slice a_fv n_fv c_fv, sL a_fi fi c_fi, sL a_fo fo c_fo] := ha 0 (by simp)
 refine sq (rg (k (bx H1 rfl i0 ?_)))
 intro bb0 w0 xt0 (H2 : HI M w w0 [box bb0 #[.slice a_fv n_fv c_fv, sL a_fi fi c_fi, sL a_fo fo c_fo] 32, iL a_fo fo c_fo, iL a_fi fi c_fi])
 refine k (al H2 ty68 ?_)
 intro bb1 w1 xt1 (H3 : HI M w w1 [box bb1 #[iV 0, .slice none 0 0] 68, box bb0 #[.slice a_fv n_fv c_fv, sL a_fi fi c_fi, sL a_fo fo c_fo] 32, iL a_fo fo c_fo, iL a_fi fi c_fi])
 refine z (nx (sq ?_))
 refine drn [.v, .v, .v, .v, .v, .v, .v, .v, .n, .s 8 6, .v] [fun (N : Nat → Prop) (v : Value) (w' : World) => v = .agg #[.slice a_fv n_fv c_fv, sL a_fi fi c_fi, sL a_fo fo c_fo], fun (N : Nat → Prop) (v : Value) (w' : World) => ∃ (a0 : OA) (c0 : Nat), v = .agg #[iV (fi.length : Int), sL a0 (poR fi) c0] ∧ RV (MN (MS M [box bb1 #[iV 0, .slice none 0 0] 68, box bb0 #[.slice a_fv n_fv c_fv, sL a_fi fi c_fi, sL a_fo fo c_fo] 32, iL a_fo fo c_fo, iL a_fi fi c_fi]) N) w' (sL a0 (poR fi) c0) (poR fi), fun (N : Nat → Prop) (v : Value) (w' : World) => v = .agg #[.slice a_fv n_fv c_fv, sL a_fi fi c_fi, sL a_fo fo c_fo], fun (N : Nat → Prop) (v : Value) (w' : World) => ∃ (a1 : OA) (c1 : Nat), v = .agg #[iV (fi.length : Int), sL a1 (rfR fi fo) c1] ∧ RV (MN (MS M [box bb1 #[iV 0, .slice none 0 0] 68, box bb0 #[.slice a_fv n_fv c_fv, sL a_fi fi c_fi, sL a_fo fo c_fo] 32, iL a_fo fo c_fo, iL a_fi fi c_fi]) N) w' (sL a1 (rfR fi fo) c1) (rfR fi fo), fun (N : Nat → Prop) (v : Value) (w' : World) => ∃ (a2 : OA) (c2 : Nat), v = .tuple #[.agg #[iV (orMN (fi.length : Int) (fi.length : Int)), sL a2 (orMR (fi.length : Int) (poR fi) (fi.length : Int) (rfR fi fo)) c2], iV (orME (fi.length : Int) (fi.length : Int))] ∧ RV (MN (MS M [box bb1 #[iV 0, .slice none 0 0] 68, box bb0 #[.slice a_fv n_fv c_fv, sL a_fi fi c_fi, sL a_fo fo c_fo] 32, iL a_fo fo c_fo, iL a_fi fi c_fi]) N) w' (sL a2 (orMR (fi.length : Int) (poR fi) (fi.length : Int) (rfR fi fo)) c2) (orMR (fi.length : Int) (poR fi) (fi.length : Int) (rfR fi fo)), fun (N : Nat → Prop) (v : Value) (w' : World) => ∃ (a2 : OA) (c2 : Nat), v = .tuple #[.agg #[iV (orMN (fi.length : Int) (fi.length : Int)), sL a2 (orMR (fi.length : Int) (poR fi) (fi.length : Int) (rfR fi fo)) c2], iV (orME (fi.length : Int) (fi.length : Int))] ∧ RV (MN (MS M [box bb1 #[iV 0, .slice none 0 0] 68, box bb0 #[.slice a_fv n_fv c_fv, sL a_fi fi c_fi, sL a_fo fo c_fo] 32, iL a_fo fo c_fo, iL a_fi fi c_fi]) N) w' (sL a2 (orMR (fi.length : Int) (poR fi) (fi.length : Int) (rfR fi fo)) c2) (orMR (fi.length : Int) (poR fi) (fi.length : Int) (rfR fi fo)), fun (N : Nat → Prop) (v : Value) (w' : World) => ∃ (a2 : OA) (c2 : Nat), v = .agg #[iV (orMN (fi.length : Int) (fi.length : Int)), sL a2 (orMR (fi.length : Int) (poR fi) (fi.length : Int) (rfR fi fo)) c2] ∧ RV (MN (MS M [box bb1 #[iV 0, .slice none 0 0] 68, box bb0 #[.slice a_fv n_fv c_fv, sL a_fi fi c_fi, sL a_fo fo c_fo] 32, iL a_fo fo c_fo, iL a_fi fi c_fi]) N) w' (sL a2 (orMR (fi.length : Int) (poR fi) (fi.length : Int) (rfR fi fo)) c2) (orMR (fi.length : Int) (poR fi) (fi.length : Int) (rfR fi fo)), fun (N : Nat → Prop) (v : Value) (w' : World) => v = iV (orME (fi.length : Int) (fi.length : Int)), fun _ _ _ => True, fun _ _ _ => True, fun (N : Nat → Prop) (v : Value) (w' : World) => v = iV (orME (fi.length : Int) (fi.length : Int))] [(#[], 0), (#[], 0), (#[], 0), (#[], 0), (#[], 0), (#[], 0), (#[], 0), (#[], 0), (#[iV 0, .slice none 0 0], 68), (#[], 0), (#[], 0)] rfl (by kernel_rfl) ?_ ?_
 ·
  refine ⟨⟨fun _ _ _ _ _ _ h => h, rfl, fun f0 w6 N0 hf0 xt6 hN0 hp0 => ?_⟩, ?_⟩
  ·
   refine ldX (H3.ext xt6) 1 rfl ty32 rfl (hf0 1 rfl) (by decide) rfl ?_
   exact ⟨_, rfl, Ext.refl _, rfl⟩
  refine ⟨⟨by rintro _ _ _ _ _ k_ ⟨a0, c0, e_, rv3⟩; exact ⟨a0, c0, e_, rvn_keep rv3 k_⟩, rfl, fun f1 w7 N1 hf1 xt7 hN1 hp1 => ?_⟩, ?_⟩
  ·
   have hq0 := hp1 0 rfl ⟨_, rfl, rfl⟩
   have s0 : f1 6 = .agg #[.slice a_fv n_fv c_fv, sL a_fi fi c_fi, sL a_fo fo c_fo] := hq0
   have cc3 := ref12_Po (fi := fi) (a_fv := a_fv) (n_fv := n_fv) (c_fv := c_fv) (a_fo := a_fo) (n_fo := fo.length) (c_fo := c_fo) (w := w7) (mn_below H3.mb xt7 hN1) (rvn_old (H3.rv 3 rfl) xt7 hN1) (by exact ho) (by first | exact hn_fi | omega)
   refine ca go99 rfl (ec s0 e0) cc3 ?_
   rintro _ w8 ⟨a3, c3, rfl, xt8, rv6⟩
   exact ⟨_, rfl, xt8, ⟨a3, c3, rfl, rv6⟩⟩
  refine ⟨⟨fun _ _ _ _ _ _ h => h, rfl, fun f2 w9 N2 hf2 xt9 hN2 hp2 => ?_⟩, ?_⟩
  ·
   refine ldX (H3.ext xt9) 1 rfl ty32 rfl (hf2 1 rfl) (by decide) rfl ?_
   exact ⟨_, rfl, Ext.refl _, rfl⟩
  refine ⟨⟨by rintro _ _ _ _ _ k_ ⟨a1, c1, e_, rv4⟩; exact ⟨a1, c1, e_, rvn_keep rv4 k_⟩, rfl, fun f3 w10 N3 hf3 xt10 hN3 hp3 => ?_⟩, ?_⟩
  ·
   have hq1 := hp3 2 rfl ⟨_, rfl, rfl⟩
   have s1 : f3 8 = .agg #[.slice a_fv n_fv c_fv, sL a_fi fi c_fi, sL a_fo fo c_fo] := hq1
   have cc4 := ref13_Rf (fi := fi) (fo := fo) (a_fv := a_fv) (n_fv := n_fv) (c_fv := c_fv) (w := w10) (mn_below H3.mb xt10 hN3) (rvn_old (H3.rv 3 rfl) xt10 hN3) (rvn_old (H3.rv 2 rfl) xt10 hN3) (by first | exact hn_fi | omega) (by exact hfo) (by exact hfr)
   refine ca go100 rfl (ec s1 e0) cc4 ?_
   rintro _ w11 ⟨a4, c4, rfl, xt11, rv7⟩
   exact ⟨_, rfl, xt11, ⟨a4, c4, rfl, rv7⟩⟩
  refine ⟨⟨by rintro _ _ _ _ _ k_ ⟨a2, c2, e_, rv5⟩; exact ⟨a2, c2, e_, rvn_keep rv5 k_⟩, rfl, fun f4 w12 N4 hf4 xt12 hN4 hp4 => ?_⟩, ?_⟩
  ·
   have hq2 := hp4 1 rfl ⟨_, rfl, rfl⟩
   obtain ⟨a0, c0, s2, rv3⟩ := hq2
   have hq3 := hp4 3 rfl ⟨_, rfl, rfl⟩
   obtain ⟨a1, c1, s3, rv4⟩ := hq3
   have cc5 := ref03_Or (an := (fi.length : Int)) (ar := (poR fi)) (bn := (fi.length : Int)) (br := (rfR fi fo)) (w := w12) (mn_below H3.mb xt12 hN4) (by unfold I64 at *; omega) rv3 (by unfold I64 at *; omega) rv4 (by exact (mat_sq (by omega) _).1) (by exact (mat_sq (by omega) _).2) (by omega) (by exact (mat_sq (by omega) _).1) (by exact (mat_sq (by omega) _).2) (by omega)
   refine ca go98 rfl (ec s2 (ec s3 e0)) cc5 ?_
   rintro _ w13 ⟨a5, c5, rfl, xt13, rv8⟩
   exact ⟨_, rfl, xt13, ⟨a5, c5, rfl, (OwnsG.rv rv8 (mn_below H3.mb xt12 hN4))⟩⟩
  refine ⟨⟨by rintro _ _ _ _ _ k_ ⟨a2, c2, e_, rv5⟩; exact ⟨a2, c2, e_, rvn_keep rv5 k_⟩, rfl, fun f5 w14 N5 hf5 xt14 hN5 hp5 => ?_⟩, ?_⟩
  ·
   have hq4 := hp5 4 rfl ⟨_, rfl, rfl⟩
   obtain ⟨a2, c2, s4, rv5⟩ := hq4
   refine mv rfl s4 ?_
   exact ⟨_, rfl, Ext.refl _, ⟨a2, c2, rfl, rv5⟩⟩
  refine ⟨⟨by rintro _ _ _ _ _ k_ ⟨a2, c2, e_, rv5⟩; exact ⟨a2, c2, e_, rvn_keep rv5 k_⟩, rfl, fun f6 w15 N6 hf6 xt15 hN6 hp6 => ?_⟩, ?_⟩
  ·
   have hq5 := hp6 5 rfl ⟨_, rfl, rfl⟩
   obtain ⟨a2, c2, s5, rv5⟩ := hq5
   refine xt rfl s5 rfl ?_
   exact ⟨_, rfl, Ext.refl _, ⟨a2, c2, rfl, rv5⟩⟩
  refine ⟨⟨fun _ _ _ _ _ _ h => h, rfl, fun f7 w16 N7 hf7 xt16 hN7 hp7 => ?_⟩, ?_⟩
  ·
   have hq6 := hp7 5 rfl ⟨_, rfl, rfl⟩
   obtain ⟨a2, c2, s6, rv5⟩ := hq6
   refine xt rfl s6 rfl ?_
   exact ⟨_, rfl, Ext.refl _, rfl⟩
  refine ⟨⟨fun _ _ _ _ _ _ h => h, rfl, fun _ _ _ => trivial, fun f8 w17 N8 hf8 xt17 hN8 hp8 => ?_⟩, ?_⟩
  ·
   refine alS ty68 ?_
   exact ⟨rfl, rfl⟩
  refine ⟨⟨fun _ _ _ _ _ _ h => h, rfl, rfl, rfl, ⟨_, rfl, rfl⟩, ⟨_, rfl, rfl⟩, by decide, trivial, by rintro _ _ _ ⟨a2, c2, e_, rv5⟩; subst e_; rfl, fun f9 w18 N_ bb3 cur0 xt18 s7 hb0 hc0 hv0 => ?_⟩, ?_⟩
  ·
   obtain ⟨a2, c2, e_, rv5⟩ := hv0
   exact stS ty68 rfl rfl s7 rfl hb0 ((congrArg (fun v => v.cells.size) e_).trans rfl) hc0 ((congrArg (fun v => v.cells.toList.all Value.oneCell') e_).trans rfl)
  refine ⟨⟨fun _ _ _ _ _ _ h => h, rfl, fun f10 w19 N9 hf9 xt19 hN9 hp9 => ?_⟩, ?_⟩
  ·
   have hq7 := hp9 7 rfl ⟨_, rfl, rfl⟩
   have s8 : f10 12 = iV (orME (fi.length : Int) (fi.length : Int)) := hq7
   refine asg rfl s8 ?_
   exact ⟨_, rfl, Ext.refl _, rfl⟩
  exact trivial
 ·
  intro f11 w20 I0 hf10 xt20 hp10 hN10 hd0
  have s9 : f11 2 = pV bb1 0 := hf10 2 rfl
  obtain ⟨a6, c6, s10, rv9⟩ := (hp10 6 _ rfl rfl)
  obtain ⟨s11, hg0, -, cur1, hc1, hk0⟩ := hN10 8 (by decide) trivial
  have hq8 : cur1 = #[iV (orMN (fi.length : Int) (fi.length : Int)), sL a6 (orMR (fi.length : Int) (poR fi) (fi.length : Int) (rfR fi fo)) c6] := (hk0.2.1 9 6 rfl rfl).trans (congrArg Value.cells s10)
  rw [hq8] at hc1
  have hz8_ := hg0
  have H5 : HI M w w20 [box (I0 8) #[iV (orMN (fi.length : Int) (fi.length : Int)), sL a6 (orMR (fi.length : Int) (poR fi) (fi.length : Int) (rfR fi fo)) c6] 68, box bb1 #[iV 0, .slice none 0 0] 68, box bb0 #[.slice a_fv n_fv c_fv, sL a_fi fi c_fi, sL a_fo fo c_fo] 32, iL a_fo fo c_fo, iL a_fi fi c_fi] := H3.lays xt20 [((I0 8), #[iV (orMN (fi.length : Int) (fi.length : Int)), sL a6 (orMR (fi.length : Int) (poR fi) (fi.length : Int) (rfR fi fo)) c6], 68)] (by intro q_ hq_; simp only [List.mem_cons, List.not_mem_nil, or_false] at hq_; rcases hq_ with rfl <;> first | exact ⟨hz8_, hc1⟩) (by simp only [List.map_cons, List.map_nil, List.nodup_cons, List.mem_cons, List.not_mem_nil, or_false, List.nodup_nil, and_true, not_or, not_false_eq_true, true_and] <;> omega)
  have H6 := H5.put (it := iL a6 (orMR (fi.length : Int) (poR fi) (fi.length : Int) (rfR fi fo)) c6) rfl (rvn_out [((I0 8), #[iV (orMN (fi.length : Int) (fi.length : Int)), sL a6 (orMR (fi.length : Int) (poR fi) (fi.length : Int) (rfR fi fo)) c6], 68)] rv9 (by intro q_ hq_; simp only [List.mem_cons, List.not_mem_nil, or_false] at hq_; rcases hq_ with rfl <;> first | exact ⟨8, by decide, rfl, trivial, rfl⟩))
  refine nx (sq (rg (k (ldX H6 1 rfl ty68 rfl s11 (by decide) rfl (k (stX H6 2 rfl ty68 rfl rfl s9 rfl rfl rfl rfl ?_))))))
  intro w21 (H7 : HI M w w21 [iL a6 (orMR (fi.length : Int) (poR fi) (fi.length : Int) (rfR fi fo)) c6, box (I0 8) #[iV (orMN (fi.length : Int) (fi.length : Int)), sL a6 (orMR (fi.length : Int) (poR fi) (fi.length : Int) (rfR fi fo)) c6] 68, box bb1 #[iV (orMN (fi.length : Int) (fi.length : Int)), sL a6 (orMR (fi.length : Int) (poR fi) (fi.length : Int) (rfR fi fo)) c6] 68, box bb0 #[.slice a_fv n_fv c_fv, sL a_fi fi c_fi, sL a_fo fo c_fo] 32, iL a_fo fo c_fo, iL a_fi fi c_fi])
  refine z (nx (rt (rc1 H7 2 rfl ty68 rfl rfl s9 rfl (by decide) ?_)))
  have e0 : (orMN (fi.length : Int) (fi.length : Int) : Int) = (fi.length : Int) := by exact (ed_or fi fo).1
  have e1 : (orMR (fi.length : Int) (poR fi) (fi.length : Int) (rfR fi fo) : List (List (BitVec 64))) = edR fi fo := by exact (ed_or fi fo).2
  have ev_ := cg2 (fun (x_0 : Int) (x_1 : List (List (BitVec 64))) => (.agg #[iV x_0, .slice a6 x_1.length c6] : Value)) e0 e1
  exact ⟨a6, c6, ev_, H7.below, (congrArg (fun (x_ : List (List (BitVec 64))) => RV _ _ (.slice a6 x_.length c6) x_) e1).mp (H7.gives_out 0 rfl)⟩
theorem cause_Co {a_fv : OA} {n_fv c_fv : Nat} {a_fi : OA} {c_fi : Nat} {fi : List ItemL} {a_fo : OA} {c_fo : Nat} {fo : List Int} (hM : ∀ b, M b → b < w.heap.size) (h_fi : RV M w (.slice a_fi fi.length c_fi) fi) (h_fo : RV M w (.slice a_fo fo.length c_fo) fo) (ho : OrdI fi) (hn_fi : fi.length ≤ 4096) (hfo : fo.length = fi.length) (hfr : ∀ x ∈ fo, x < ((fi.length : Nat) : Int)) : Calls Tryz.prog 92 #[.agg #[.slice a_fv n_fv c_fv, .slice a_fi fi.length c_fi, .slice a_fo fo.length c_fo]] w (Ret fun v w' => ∃ (a0 : OA) (c0 : Nat), v = .agg #[.int .i64 (fi.length : Int), .slice a0 (coR fi fo).length c0] ∧ Ext w w' ∧ RV M w' (.slice a0 (coR fi fo).length c0) (coR fi fo)) := by
 refine enter 6 Tryz.func92 rfl rfl rfl fun f0 ha => ?_
 have H := HI.start (M0 := M) (w := w) hM
 have H0 := H.put (it := iL a_fi fi c_fi) rfl (by rw [MS_nil]; exact h_fi)
 have H1 := H0.put (it := iL a_fo fo c_fo) rfl (by rw [MS_cons_none rfl, MS_nil]; exact h_fo)
 have ln_fi := rv_len h_fi
 have ln_fo := rv_len h_fo
 have i0 : f0 0 = .agg #[.slice a_fv n_fv c_fv, sL a_fi fi c_fi, sL a_fo fo c_fo] := ha 0 (by simp)
 refine sq (rg (k (bx H1 rfl i0 ?_)))
 intro bb0 w0 xt0 (H2 : HI M w w0 [box bb0 #[.slice a_fv n_fv c_fv, sL a_fi fi c_fi, sL a_fo fo c_fo] 32, iL a_fo fo c_fo, iL a_fi fi c_fi])
 refine k (al H2 ty68 ?_)
 intro bb1 w1 xt1 (H3 : HI M w w1 [box bb1 #[iV 0, .slice none 0 0] 68, box bb0 #[.slice a_fv n_fv c_fv, sL a_fi fi c_fi, sL a_fo fo c_fo] 32, iL a_fo fo c_fo, iL a_fi fi c_fi])
 refine z (nx (sq (rg (k (ldX H3 1 rfl ty32 rfl rfl (by decide) rfl (k ?_))))))
 have cc0 := cause_Edges (fi := fi) (fo := fo) (a_fv := a_fv) (n_fv := n_fv) (c_fv := c_fv) (w := w1) H3.mb (H3.rv 3 rfl) (H3.rv 2 rfl) (by exact ho) (by first | exact hn_fi | omega) (by exact hfo) (by exact hfr)
 refine ca go115 rfl (ec rfl e0) cc0 ?_
 rintro _ w2 ⟨a0, c0, rfl, xt2, rv0⟩
 have H4 := H3.ext xt2
 have H5 := H4.put (it := iL a0 (edR fi fo) c0) rfl rv0
 refine k ?_
 have cc1 := hull_Close (mn := (fi.length : Int)) (mr := (edR fi fo)) (w := w2) H5.mb (by unfold I64 at *; omega) (H5.rv 0 rfl) (by exact ed_right fo hn_fi)
 refine ca go114 rfl (ec rfl e0) cc1 ?_
 rintro _ w3 ⟨a1, c1, rfl, xt3, rv1⟩
 have H6 := H5.ownsG rv1
 refine k (stX H6 2 rfl ty68 rfl rfl rfl rfl rfl rfl rfl ?_)
 intro w4 (H7 : HI M w w4 [oL w 115 a1 (closeM (fi.length : Int) (edR fi fo)) c1, iL a0 (edR fi fo) c0, box bb1 #[iV (fi.length : Int), sL a1 (closeM (fi.length : Int) (edR fi fo)) c1] 68, box bb0 #[.slice a_fv n_fv c_fv, sL a_fi fi c_fi, sL a_fo fo c_fo] 32, iL a_fo fo c_fo, iL a_fi fi c_fi])
 refine z (nx (rt (rc1 H7 2 rfl ty68 rfl rfl rfl rfl (by decide) ?_)))
 have e1 : (closeM (fi.length : Int) (edR fi fo) : List (List (BitVec 64))) = coR fi fo := by exact co_close fi fo
 have ev_ := cg1 (fun (x_1 : List (List (BitVec 64))) => (.agg #[iV (fi.length : Int), .slice a1 x_1.length c1] : Value)) e1
 exact ⟨a1, c1, ev_, H7.below, (congrArg (fun (x_ : List (List (BitVec 64))) => RV _ _ (.slice a1 x_.length c1) x_) e1).mp (H7.outO 0 rfl)⟩
theorem ref13_Co {a_fv : OA} {n_fv c_fv : Nat} {a_fi : OA} {c_fi : Nat} {fi : List ItemL} {a_fo : OA} {c_fo : Nat} {fo : List Int} (hM : ∀ b, M b → b < w.heap.size) (h_fi : RV M w (.slice a_fi fi.length c_fi) fi) (h_fo : RV M w (.slice a_fo fo.length c_fo) fo) (ho : OrdI fi) (hn_fi : fi.length ≤ 4096) (hfo : fo.length = fi.length) (hfr : ∀ x ∈ fo, x < ((fi.length : Nat) : Int)) : Calls Tryz.prog 30 #[.agg #[.slice a_fv n_fv c_fv, .slice a_fi fi.length c_fi, .slice a_fo fo.length c_fo]] w (Ret fun v w' => ∃ (a0 : OA) (c0 : Nat), v = .agg #[.int .i64 (fi.length : Int), .slice a0 (coR fi fo).length c0] ∧ Ext w w' ∧ RV M w' (.slice a0 (coR fi fo).length c0) (coR fi fo)) := by
 refine enter 6 Tryz.func30 rfl rfl rfl fun f0 ha => ?_
 have H := HI.start (M0 := M) (w := w) hM
 have H0 := H.put (it := iL a_fi fi c_fi) rfl (by rw [MS_nil]; exact h_fi)
 have H1 := H0.put (it := iL a_fo fo c_fo) rfl (by rw [MS_cons_none rfl, MS_nil]; exact h_fo)
 have ln_fi := rv_len h_fi
 have ln_fo := rv_len h_fo
 have i0 : f0 0 = .agg #[.slice a_fv n_fv c_fv, sL a_fi fi c_fi, sL a_fo fo c_fo] := ha 0 (by simp)
 refine sq (rg (k (bx H1 rfl i0 ?_)))
 intro bb0 w0 xt0 (H2 : HI M w w0 [box bb0 #[.slice a_fv n_fv c_fv, sL a_fi fi c_fi, sL a_fo fo c_fo] 32, iL a_fo fo c_fo, iL a_fi fi c_fi])
 refine k (al H2 ty68 ?_)
 intro bb1 w1 xt1 (H3 : HI M w w1 [box bb1 #[iV 0, .slice none 0 0] 68, box bb0 #[.slice a_fv n_fv c_fv, sL a_fi fi c_fi, sL a_fo fo c_fo] 32, iL a_fo fo c_fo, iL a_fi fi c_fi])
 refine z (nx (sq (rg (k (ldX H3 1 rfl ty32 rfl rfl (by decide) rfl (k ?_))))))
 have cc0 := ref13_Edges (fi := fi) (fo := fo) (a_fv := a_fv) (n_fv := n_fv) (c_fv := c_fv) (w := w1) H3.mb (H3.rv 3 rfl) (H3.rv 2 rfl) (by exact ho) (by first | exact hn_fi | omega) (by exact hfo) (by exact hfr)
 refine ca go65 rfl (ec rfl e0) cc0 ?_
 rintro _ w2 ⟨a0, c0, rfl, xt2, rv0⟩
 have H4 := H3.ext xt2
 have H5 := H4.put (it := iL a0 (edR fi fo) c0) rfl rv0
 refine k ?_
 have cc1 := ref04_Close (mn := (fi.length : Int)) (mr := (edR fi fo)) (w := w2) H5.mb (by unfold I64 at *; omega) (H5.rv 0 rfl) (by exact ed_right fo hn_fi)
 refine ca go37 rfl (ec rfl e0) cc1 ?_
 rintro _ w3 ⟨a1, c1, rfl, xt3, rv1⟩
 have H6 := H5.ext xt3
 have H7 := H6.put (it := iL a1 (closeM (fi.length : Int) (edR fi fo)) c1) rfl rv1
 refine k (stX H7 2 rfl ty68 rfl rfl rfl rfl rfl rfl rfl ?_)
 intro w4 (H8 : HI M w w4 [iL a1 (closeM (fi.length : Int) (edR fi fo)) c1, iL a0 (edR fi fo) c0, box bb1 #[iV (fi.length : Int), sL a1 (closeM (fi.length : Int) (edR fi fo)) c1] 68, box bb0 #[.slice a_fv n_fv c_fv, sL a_fi fi c_fi, sL a_fo fo c_fo] 32, iL a_fo fo c_fo, iL a_fi fi c_fi])
 refine z (nx (rt (rc1 H8 2 rfl ty68 rfl rfl rfl rfl (by decide) ?_)))
 have e1 : (closeM (fi.length : Int) (edR fi fo) : List (List (BitVec 64))) = coR fi fo := by exact co_close fi fo
 have ev_ := cg1 (fun (x_1 : List (List (BitVec 64))) => (.agg #[iV (fi.length : Int), .slice a1 x_1.length c1] : Value)) e1
 exact ⟨a1, c1, ev_, H8.below, (congrArg (fun (x_ : List (List (BitVec 64))) => RV _ _ (.slice a1 x_.length c1) x_) e1).mp (H8.gives_out 0 rfl)⟩
theorem go113 : GoF Tryz.prog 113 := ⟨_, _, Tryz.func113, rfl, by kernel_rfl⟩
theorem past_With {mn : Int} {a_mr : OA} {c_mr : Nat} {mr : List (List (BitVec 64))} {o : Int} (hM : ∀ b, M b → b < w.heap.size) (hT : TabAt 0 w) (h_mn : I64 mn) (h_mr : RV M w (.slice a_mr mr.length c_mr) mr) (h_o : I64 o) (rt_m : rightS mn mr = true) : Calls Tryz.prog 91 #[.agg #[.int .i64 mn, .slice a_mr mr.length c_mr], .int .i64 o] w (Ret fun v w' => ∃ (a0 : OA) (c0 : Nat), v = .slice a0 (withL mn mr o).length c0 ∧ Ext w w' ∧ OwnsG M 3 w (withL mn mr o) (.slice a0 (withL mn mr o).length c0) w') := by
 refine enter 22 Tryz.func91 rfl rfl rfl fun f0 ha => ?_
 have H := HI.start (M0 := M) (w := w) hM
 have H0 := H.put (it := iL a_mr mr c_mr) rfl (by rw [MS_nil]; exact h_mr)
 have ln_mr := rv_len h_mr
 have i0 : f0 0 = .agg #[iV mn, sL a_mr mr c_mr] := ha 0 (by simp)
 have i1 : f0 1 = iV o := ha 1 (by simp)
 have hl_ := (right_sq rt_m).1; have h4_ := (right_sq rt_m).2.2.1; have h0_ := right_pos rt_m
 refine sq (rg (k (bx H0 rfl i0 ?_)))
 intro bb0 w0 xt0 (H1 : HI M w w0 [box bb0 #[iV mn, sL a_mr mr c_mr] 68, iL a_mr mr c_mr])
 refine k (asg (v := .slice none 0 0) rfl rfl (z (nx (sq (sq (rg (k (mv rfl i1 (k (lss rfl rfl rfl rfl (k (mv (v := .bool (decide (o < 0))) rfl rfl ?_))))))))))))
 rcases bE (decide (o < 0)) with b0 | b0
 ·
  have p0 := dT b0
  refine k (gn rfl rfl rfl b0 (k (gn rfl rfl rfl b0 (k (gn rfl rfl rfl b0 (k (gn rfl rfl rfl b0 (k (pickT rfl rfl rfl rfl b0 rfl (z (nx (cdT rfl rfl rfl (sq (rg (k (asg (v := .slice none 0 0) rfl rfl (z (nx (rt (then_ret (r1 rfl rfl ?_)))))))))))))))))))))
  have e0 : ([] : List Int) = withL mn mr o := by first | exact (withL_no (by omega)).symm | exact withL_yes rt_m hq hx0
  have ev_ := cg1 (fun (x_0 : List Int) => (.slice none x_0.length 0 : Value)) e0
  exact ⟨none, 0, ev_, H1.below, (congrArg (fun (x_ : List Int) => OwnsG _ _ _ x_ (.slice none x_.length 0) _) e0).mp (ownsG_nil H1.below)⟩
 have p0 := dF b0
 refine k (gy rfl rfl rfl b0 (mv rfl i1 (k (gy rfl rfl rfl b0 (fa fl68_0 rfl rfl (k (gy rfl rfl rfl b0 (lx H1 0 rfl ty3 rfl rfl rfl (k (gy rfl rfl rfl b0 (geq rfl rfl rfl rfl (k (pickF rfl rfl rfl rfl b0 rfl (z (nx ?_)))))))))))))))
 refine cd (b := decide (mn ≤ o)) rfl rfl (fun b1 => ?_) (fun b1 => ?_)
 ·
  have p1 := dT b1
  refine sq (rg (k (asg (v := .slice none 0 0) rfl rfl (z (nx (rt (then_ret (r1 rfl rfl ?_))))))))
  have e0 : ([] : List Int) = withL mn mr o := by first | exact (withL_no (by omega)).symm | exact withL_yes rt_m hq hx0
  have ev_ := cg1 (fun (x_0 : List Int) => (.slice none x_0.length 0 : Value)) e0
  exact ⟨none, 0, ev_, H1.below, (congrArg (fun (x_ : List Int) => OwnsG _ _ _ x_ (.slice none x_.length 0) _) e0).mp (ownsG_nil H1.below)⟩
 have p1 := dF b1
 refine sk (nx (sq ?_))
 have hq : 0 ≤ o ∧ o < mn := by omega
 have tl_ := turnM_len mn mr
 refine rg (k (ldX H1 0 rfl ty68 rfl rfl (by decide) rfl (k ?_)))
 have cc0 := mat_Turn (mn := mn) (mr := mr) (w := w0) H1.mb (hT.ext H1.below) h_mn (H1.rv 1 rfl) (by exact rt_m)
 refine ca go113 rfl (ec rfl e0) cc0 ?_
 rintro _ w1 ⟨a0, c0, rfl, xt1, rv0⟩
 have H2 := H1.ownsG rv0
 refine k (fd (v := sL a0 (turnM mn mr) c0) rfl rfl (fun _ => by kernel_rfl) (k (mv rfl i1 (k (iaO (H2.at_ 0 rfl) rfl rfl rfl rfl (by omega) un66 ty115 ?_)))))
 intro g0 x0 hv0 hx0 hA0
 refine k (ldL hA0 ty115 rfl rfl ?_)
 intro a1 c1 rv1
 have ln0 := rv_len rv1
 have H3 := H2.put (it := iL a1 x0 c1) rfl rv1
 refine k (mv rfl i1 (k ?_))
 have cc1 := row_Set (r := x0) (i := o) (w := w1) H3.mb (H3.rv 0 rfl) h_o (by first | (have h_ := turn_row_len rt_m hx0; omega) | (rw [setR_length]; have h_ := turn_row_len rt_m hx0; omega))
 refine ca go112 rfl (ec rfl (ec rfl e0)) cc1 ?_
 rintro _ w2 ⟨a2, c2, rfl, xt2, rv2⟩
 have H4 := H3.ownsG rv2
 refine k ?_
 have H5 := H4.freeze 0 rfl
 have cc2 := row_List (r := (setR x0 o)) (w := w2) H5.mb (hT.ext H5.below) (H5.rv 0 rfl) (by first | (have h_ := turn_row_len rt_m hx0; omega) | (rw [setR_length]; have h_ := turn_row_len rt_m hx0; omega))
 refine ca go111 rfl (ec rfl e0) cc2 ?_
 rintro _ w3 ⟨a3, c3, rfl, xt3, rv3⟩
 have H6 := H5.ownsG rv3
 refine k (asg (v := sL a3 (listR (setR x0 o)) c3) rfl rfl (z (nx (rt (r1 rfl rfl ?_)))))
 have e0 : (listR (setR x0 o) : List Int) = withL mn mr o := by first | exact (withL_no (by omega)).symm | exact withL_yes rt_m hq hx0
 have ev_ := cg1 (fun (x_0 : List Int) => (.slice a3 x_0.length c3 : Value)) e0
 exact ⟨a3, c3, ev_, H6.below, (congrArg (fun (x_ : List Int) => OwnsG _ _ _ x_ (.slice a3 x_.length c3) _) e0).mp (H6.ownsG_out 0 rfl)⟩
theorem deleteFunc_int {r : List Go.Ew.Item} {a_xs : OA} {c_xs : Nat} {xs : List Int} {g_p : Nat} {C_p : List Value} {p : Int → Bool} (h_p : FPH Tryz.prog g_p C_p M w (fun ys_ => own w.heap.size 3 (.slice a_xs xs.length c_xs) ys_) r xs p) (H : HI M w w_ ([oL w 3 a_xs xs c_xs] ++ r)) : Calls Tryz.prog 88 #[sL a_xs xs c_xs, .func (.func g_p) #[] C_p.toArray] w_ (Ret fun v w' => v = .slice a_xs (keepL p xs).length c_xs ∧ HI M w w' ([oL w 3 a_xs (keepL p xs) c_xs] ++ r)) := by
 refine enter 42 Tryz.func88 rfl rfl rfl fun f0 ha => ?_
 have ln_xs := own_len_ (H.at_ 0 rfl)
 have i0 : f0 0 = sL a_xs xs c_xs := ha 0 (by simp)
 have i1 : f0 1 = .func (.func g_p) #[] C_p.toArray := ha 1 (by simp)
 refine sq (rg (k (asg (v := .slice none 0 0) rfl rfl (z (nx (sq (rg (k (mv rfl i0 (k (mv rfl i1 (k ?_))))))))))))
 have H0 := H.freeze 0 rfl
 have H1 : HI M w w_ ([iL a_xs xs c_xs] ++ r) := H0
 have cc0 := indexFunc_int (r := xs) (p := p) (w := w_) H1.mb (H1.rv 0 rfl) (h_p.fp H)
 refine ca go44 rfl (ec rfl (ec rfl e0)) cc0 ?_
 rintro _ w0 ⟨rfl, xt0⟩
 have H2 := H.ext xt0
 refine k (asg (v := iV (idxF p xs)) rfl rfl (z (nx (sq (sq (rg (k (mv (v := iV (idxF p xs)) rfl rfl (k (eql rfl rfl rfl rfl (z (nx ?_))))))))))))
 refine cd (b := decide ((idxF p xs) = (-1))) rfl rfl (fun b0 => ?_) (fun b0 => ?_)
 ·
  have p0 := dT b0
  refine sq (rg (k (mv rfl i0 (k (asg (v := sL a_xs xs c_xs) rfl rfl (z (nx (rt (then_ret (r1 rfl rfl ?_))))))))))
  have e0 : (xs : List _) = (keepL p xs) := by exact df_none (by assumption)
  try rw [← e0]
  refine ⟨?_, ?_⟩
  · first | rfl | simp only [e0] | (simp only [List.length_set])
  · first | exact H2 | simpa only [e0, List.length_set] using H2
 have p0 := dF b0
 refine sk (nx (sq (sq ?_)))
 obtain ⟨hi0_, hi1_, hi2_⟩ := df_start (p := p) (xs := xs) (by assumption)
 refine rg (k (mv (v := iV (idxF p xs)) rfl rfl (k (add rfl rfl rfl rfl (by first | assumption | (unfold I64 at *; omega)) (k (asg (v := iV ((idxF p xs) + 1)) rfl rfl (z (nx (bk ?_)))))))))
 refine lp (fun m f w' => ∃ (q : Int) (k_ : Nat) (ys : List Int), m = xs.length - k_ ∧ f 0 = sL a_xs xs c_xs ∧ f 1 = .func (.func g_p) #[] C_p.toArray ∧ f 5 = iV q ∧ f 6 = iV (k_ : Int) ∧  HI M w w' ([own w.heap.size 3 (.slice a_xs xs.length c_xs) ys] ++ r) ∧ (0 ≤ q ∧ q < (k_ : Int) ∧ k_ ≤ xs.length) ∧ (DF p xs ys q k_)) _ ⟨(idxF p xs), ((idxF p xs).toNat + 1), xs, rfl, i0, i1, (ieq rfl (by omega)), (ieq rfl (by omega)), H2, (by omega), (by exact hi2_)⟩ ?_
 rintro _ f0 w1 ⟨q, k_, ys, rfl, s0, s1, s2, s3, H3, hq_, hs⟩
 refine sq (sq (rg (k (mv rfl s3 (k (mv rfl s0 (k (lnS rfl rfl un30 (k (lss rfl rfl rfl rfl (z (nx ?_))))))))))))
 refine cd (b := decide ((k_ : Int) < (xs.length : Int))) rfl rfl (fun b1 => ?_) (fun b1 => ?_)
 ·
  have p1 := dT b1
  refine sk (nx (sq (bk (sq (rg (k (mv rfl s0 (k (mv rfl s3 (k (iaO (H3.at_ 0 rfl) rfl rfl rfl rfl (by have h_ := hs.1; first | omega | (simp only [lA_, lT_, lR_, lN_]; omega)) un30 ty3 ?_)))))))))))
  intro g0 x0 hv0 hx0 hA0
  refine k (ldI hA0 ty3 rfl rfl ?_)
  intro rv0
  refine k (asg (v := iV x0) rfl rfl (z (nx (sq ?_))))
  have hl_ := hs.1
  refine rg (k (mv rfl s1 (k (mv (v := iV x0) rfl rfl (k (cf h_p.1 rfl rfl rfl (ec rfl e0) (h_p.2 _ _ H3 _ (by exact mG_ (by first | exact hx0 | exact df_at hs hx0)) rv0) ?_))))))
  rintro _ w2 ⟨rfl, xt1⟩
  have H4 := H3.ext xt1
  have H5 : HI M w w2 ([own w.heap.size 3 (.slice a_xs xs.length c_xs) ys] ++ r) := H4
  refine k (not_ rfl rfl (z (nx ?_)))
  refine cd (b := !(p x0)) rfl rfl (fun b2 => ?_) (fun b2 => ?_)
  ·
   refine sq (rg (k (mv rfl s0 (k (mv rfl s2 (k (mv (v := iV x0) rfl rfl (k (iaO (H5.at_ 0 rfl) rfl rfl rfl rfl (by have h_ := hs.1; first | omega | (simp only [lA_, lT_, lR_, lN_]; omega)) un30 ty3 ?_)))))))))
   intro g1 x1 hv1 hx1 hA1
   refine k (stO H5 0 rfl hv1 rfl (by have h_ := hs.1; first | omega | (simp only [lA_, lT_, lR_, lN_]; omega)) ty3 rfl rfl rfl rfl (RV.int.2 ⟨rfl, (by first | assumption | (unfold I64 at *; omega))⟩) ?_)
   intro w3 (H6 : HI M w w3 ([own w.heap.size 3 (.slice a_xs xs.length c_xs) (ys.set q.toNat x0)] ++ r))
   refine z (nx (rg (k (mv rfl s2 (k (add rfl rfl rfl rfl (by first | assumption | (unfold I64 at *; omega)) (k (asg (v := iV (q + 1)) rfl rfl (z (inb_normal (nx (rg (k (mv rfl s3 (k (add rfl rfl rfl rfl (by first | assumption | (unfold I64 at *; omega)) (k (asg (v := iV ((k_ : Int) + 1)) rfl rfl (z ?_)))))))))))))))))))
   refine loopN _ ?_ ⟨(q + 1), (k_ + 1), (ys.set q.toNat x0), rfl, s0, s1, (ieq rfl (by omega)), (ieq rfl (by omega)), H6, (by omega), (by first | exact df_keep hs hx0 (by simpa using b2) (by omega) (by omega) | exact df_drop hs hx0 (by simpa using b2))⟩
   omega
  refine sk (inb_normal (nx (rg (k (mv rfl s3 (k (add rfl rfl rfl rfl (by first | assumption | (unfold I64 at *; omega)) (k (asg (v := iV ((k_ : Int) + 1)) rfl rfl (z ?_))))))))))
  refine loopN _ ?_ ⟨q, (k_ + 1), ys, rfl, s0, s1, (ieq s2 (by omega)), (ieq rfl (by omega)), H5, (by omega), (by first | exact df_keep hs hx0 (by simpa using b2) (by omega) (by omega) | exact df_drop hs hx0 (by simpa using b2))⟩
  omega
 have p1 := dF b1
 refine ex (then_exit (loop_exit (inb_here (nx (sq (rg (k (mv rfl s0 (k (mv rfl s2 (k (slOl (H3.at_ 0 rfl) rfl rfl rfl rfl (by have h_ := hs.1; first | omega | (simp only [lA_, lT_, lR_, lN_]; omega)) un30 ty3 (k (clO H3 0 rfl rfl rfl (q := q.toNat) rfl un30 ty3 (by have h_ := hs.1; omega) ?_))))))))))))))
 intro w2 (H4 : HI M w w2 ([own w.heap.size 3 (.slice a_xs xs.length c_xs) (ys.take q.toNat ++ (List.replicate (ys.length - q.toNat) (0 : Int) ++ []))] ++ r))
 refine z (nx (sq (rg (k (mv rfl s0 (k (mv rfl s2 (k (slCut H4 0 rfl rfl rfl rfl rfl (by have h_ := hs.1; first | omega | (simp only [lA_, lT_, lR_, lN_]; omega)) un30 ty3 ?_)))))))))
 intro (H5 : HI M w w2 ([oL w 3 a_xs ((ys.take q.toNat ++ (List.replicate (ys.length - q.toNat) (0 : Int) ++ [])).take q.toNat) c_xs] ++ r))
 refine k (asg (v := sL a_xs ((ys.take q.toNat ++ (List.replicate (ys.length - q.toNat) (0 : Int) ++ [])).take q.toNat) c_xs) rfl rfl (z (nx (rt (r1 rfl rfl ?_)))))
 have e0 : ((ys.take q.toNat ++ (List.replicate (ys.length - q.toNat) (0 : Int) ++ [])).take q.toNat : List _) = (keepL p xs) := by exact df_end hs (by omega) (by omega) (by have h_ := hs.1; omega) _
 try rw [← e0]
 refine ⟨?_, ?_⟩
 · first | rfl | simp only [e0] | (simp only [List.length_set])
 · first | exact H5 | simpa only [e0, List.length_set] using H5
theorem past_Kept1 {i : Int} {b_b : Nat} {ty_b : TypeId} {a_fv : OA} {n_fv c_fv : Nat} {a_fi : OA} {c_fi : Nat} {fi : List ItemL} {a_fo : OA} {n_fo c_fo : Nat} (hM : ∀ b, M b → b < w.heap.size) (h_i : I64 i) (h_fi : RV M w (.slice a_fi fi.length c_fi) fi) (h_b : w.heap[b_b]? = some (.cells #[.slice a_fv n_fv c_fv, .slice a_fi fi.length c_fi, .slice a_fo n_fo c_fo] ty_b (0, 0)) ∧ ¬ M b_b) (hi0 : 0 ≤ i ∧ i < ((fi.length : Nat) : Int)) : Calls Tryz.prog 90 #[.int .i64 i, .pointer (some ⟨b_b, 0, none⟩)] w (Ret fun v w' =>  v = .bool (wrQ fi i) ∧ Ext w w') := by
 refine enter 10 Tryz.func90 rfl rfl rfl fun f0 ha => ?_
 have H := HI.start (M0 := M) (w := w) hM
 have H0 := H.put (it := iL a_fi fi c_fi) rfl (by rw [MS_nil]; exact h_fi)
 have ln_fi := rv_len h_fi
 have i0 : f0 0 = iV i := ha 0 (by simp)
 have H1 := H0.put (it := ro b_b #[.slice a_fv n_fv c_fv, sL a_fi fi c_fi, .slice a_fo n_fo c_fo] ty_b) rfl (by rw [MS_cons_none rfl, MS_nil]; exact h_b)
 have i1 : f0 1 = pV b_b 0 := ha 1 (by simp)
 refine sq (rg (k (asg (v := .bool false) rfl rfl (z (nx (sq (rg (k (fa fl32_1 rfl i1 (k (lr H1 0 rfl ty29 rfl rfl rfl (k (mv rfl i0 (k (ia (H1.rv 1 rfl) rfl rfl rfl rfl (by omega) un29 ty85 ?_)))))))))))))))
 intro ad0 x0 hx0 hA0
 refine k (fa fl85_2 rfl rfl (k (ldB ((hA0).s2).fst.w ty4 rfl rfl (k (asg (v := .bool x0.2.2.1) rfl rfl (z (nx (rt (r1 rfl rfl ?_)))))))))
 exact ⟨congrArg Value.bool (by exact (wrQ_at hx0).symm), H1.below⟩
theorem go89 : GoF Tryz.prog 89 := ⟨_, _, Tryz.func89, rfl, by kernel_rfl⟩
theorem go90 : GoF Tryz.prog 90 := ⟨_, _, Tryz.func90, rfl, by kernel_rfl⟩
theorem go88 : GoF Tryz.prog 88 := ⟨_, _, Tryz.func88, rfl, by kernel_rfl⟩
theorem past_Kept {a_fv : OA} {n_fv c_fv : Nat} {a_fi : OA} {c_fi : Nat} {fi : List ItemL} {a_fo : OA} {n_fo c_fo : Nat} {o : Int} (hM : ∀ b, M b → b < w.heap.size) (h_fi : RV M w (.slice a_fi fi.length c_fi) fi) (h_o : I64 o) (ho : OrdI fi) (hn_fi : fi.length ≤ 4096) : Calls Tryz.prog 52 #[.agg #[.slice a_fv n_fv c_fv, .slice a_fi fi.length c_fi, .slice a_fo n_fo c_fo], .int .i64 o] w (Ret fun v w' => ∃ (a0 : OA) (c0 : Nat), v = .slice a0 (keepL (wrQ fi) (pastA fi o)).length c0 ∧ Ext w w' ∧ OwnsG M 3 w (keepL (wrQ fi) (pastA fi o)) (.slice a0 (keepL (wrQ fi) (pastA fi o)).length c0) w') := by
 refine enter 10 Tryz.func52 rfl rfl rfl fun f0 ha => ?_
 have H := HI.start (M0 := M) (w := w) hM
 have H0 := H.put (it := iL a_fi fi c_fi) rfl (by rw [MS_nil]; exact h_fi)
 have ln_fi := rv_len h_fi
 have i0 : f0 0 = .agg #[.slice a_fv n_fv c_fv, sL a_fi fi c_fi, .slice a_fo n_fo c_fo] := ha 0 (by simp)
 have i1 : f0 1 = iV o := ha 1 (by simp)
 refine sq (rg (k (bx H0 rfl i0 ?_)))
 intro bb0 w0 xt0 (H1 : HI M w w0 [box bb0 #[.slice a_fv n_fv c_fv, sL a_fi fi c_fi, .slice a_fo n_fo c_fo] 32, iL a_fi fi c_fi])
 refine k (asg (v := .slice none 0 0) rfl rfl (z (nx (sq (rg (k (ldX H1 0 rfl ty32 rfl rfl (by decide) rfl (k (mv rfl i1 (k ?_))))))))))
 have cc0 := session_Past (fi := fi) (tt := o) (a_fv := a_fv) (n_fv := n_fv) (c_fv := c_fv) (a_fo := a_fo) (n_fo := n_fo) (c_fo := c_fo) (w := w0) H1.mb (H1.rv 1 rfl) h_o (by omega) (by omega)
 refine ca go89 rfl (ec rfl (ec rfl e0)) cc0 ?_
 rintro _ w1 ⟨a0, c0, rfl, xt1, rv0⟩
 have H2 := H1.ownsG rv0
 refine k (mf rfl (k ?_))
 have H3 : HI M w w1 ([oL w 3 a0 (pastA fi o) c0] ++ [box bb0 #[.slice a_fv n_fv c_fv, sL a_fi fi c_fi, .slice a_fo n_fo c_fo] 32, iL a_fi fi c_fi]) := H2.pickN [0, 1, 2] (by decide) rfl
 have cc1 := deleteFunc_int (a_xs := a0) (c_xs := c0) (xs := (pastA fi o)) (g_p := 90) (C_p := [pV bb0 0]) (p := (fun (x_ : Int) => wrQ fi x_)) (w := w) (w_ := w1) (r := [box bb0 #[.slice a_fv n_fv c_fv, sL a_fi fi c_fi, .slice a_fo n_fo c_fo] 32, iL a_fi fi c_fi]) (M := M) ⟨go90, fun w_ ys_ H_ x_ hx_ hr_ => past_Kept1 (fi := fi) (M := fun _ => False) (fun _ h_ => h_.elim) hr_ ((H_.rv 2 rfl).lift (Up.less fun _ _ h_ => h_.elim)) ⟨H_.at_ 1 rfl, fun h_ => h_⟩ (by obtain ⟨j_, hj_⟩ := List.mem_iff_getElem?.1 hx_; exact pastA_mem ho hj_)⟩ H3
 refine ca go88 rfl (ec rfl (ec rfl e0)) cc1 ?_
 rintro _ w2 ⟨rfl, H4⟩
 have H5 : HI M w w2 [oL w 3 a0 (keepL (fun (x_ : Int) => wrQ fi x_) (pastA fi o)) c0, box bb0 #[.slice a_fv n_fv c_fv, sL a_fi fi c_fi, .slice a_fo n_fo c_fo] 32, iL a_fi fi c_fi] := H4
 refine k (asg (v := sL a0 (keepL (fun (x_ : Int) => wrQ fi x_) (pastA fi o)) c0) rfl rfl (z (nx (rt (r1 rfl rfl ?_)))))
 have e0 : ((keepL (fun (x_ : Int) => wrQ fi x_) (pastA fi o)) : List Int) = keepL (wrQ fi) (pastA fi o) := rfl
 have ev_ := cg1 (fun (x_0 : List Int) => (.slice a0 x_0.length c0 : Value)) e0
 exact ⟨a0, c0, ev_, H5.below, (congrArg (fun (x_ : List Int) => OwnsG _ _ _ x_ (.slice a0 x_.length c0) _) e0).mp (H5.ownsG_out 0 rfl)⟩
end Go.Proofs.YtefcbihikknlkaaGreatDoor
