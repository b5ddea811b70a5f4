/- PRINTED by my own tool (wip/tool/gen.py): contracts of Go functions of this seat, each with its proof. -/
import Derived.Test.YtefcbihikknlkaaDoorOwnB
import Derived.Test.YtefcbihikknlkaaDoorGenB
import Derived.Test.YtefcbihikknlkaaDoorGenC
import Derived.Test.YtefcbihikknlkaaDoorGenA
import Derived.Test.YtefcbihikknlkaaDoorOwnA
namespace Go.Proofs.YtefcbihikknlkaaDoor
open Go.Ew Go.RowKit
set_option linter.unusedVariables false
set_option linter.unusedSimpArgs false
attribute [local irreducible] WL WC SO Code.wp wpList retQ Ret
attribute [local irreducible] bitB hasW inR hasR setR countW countR subR words newR listR orR firstW tab8
theorem go29 : GoF Tryd.prog 29 := ⟨_, _, Tryd.func29, rfl, by kernel_rfl⟩
theorem go31 : GoF Tryd.prog 31 := ⟨_, _, Tryd.func31, rfl, by kernel_rfl⟩
theorem go33 : GoF Tryd.prog 33 := ⟨_, _, Tryd.func33, rfl, by kernel_rfl⟩
theorem go35 : GoF Tryd.prog 35 := ⟨_, _, Tryd.func35, rfl, by kernel_rfl⟩
set_option maxRecDepth 100000 in
set_option maxHeartbeats 1600000 in
theorem aud_pattern {M : Nat → Prop} {w : World} {b_a : Nat} {ty_a : TypeId} {a_fv : Option Addr} {n_fv c_fv : Nat} {a_fi : Option Addr} {c_fi : Nat} {fi : List (Int × Int × Bool × Int × Int)} {a_fo : Option Addr} {c_fo : Nat} {fo : List Int} {a_stp : Option Addr} {c_stp : Nat} {stp : List (Int × Int × Int × Int × Int)} {a_pl : Option Addr} {c_pl : Nat} {pl : List Bool} {kd : Int} {rd_ : Int} {wa_ : Int} {wb_ : Int} {op_ : Int} {a_sl_ : Option Addr} {n_sl_ c_sl_ : Nat} {fs_ : Int} {sn_ : Int} (hM : ∀ b, M b → b < w.heap.size) (hT : TabAt 0 w) (h_fi : RV M w (.slice a_fi fi.length c_fi) fi) (h_fo : RV M w (.slice a_fo fo.length c_fo) fo) (h_stp : RV M w (.slice a_stp stp.length c_stp) stp) (h_pl : RV M w (.slice a_pl pl.length c_pl) pl) (h_kd : I64 kd) (h_rd_ : I64 rd_) (h_wa_ : I64 wa_) (h_wb_ : I64 wb_) (h_op_ : I64 op_) (h_fs_ : I64 fs_) (h_sn_ : I64 sn_) (h_a : w.heap[b_a]? = some (.cells #[.slice a_fv n_fv c_fv, .slice a_fi fi.length c_fi, .slice a_fo fo.length c_fo, .slice a_stp stp.length c_stp, .slice a_pl pl.length c_pl] ty_a (0, 0)) ∧ ¬ M b_a) (ho : OrdI fi) (hn_fi : fi.length ≤ 4096) (hfo : fo.length = fi.length) (hfr : ∀ x ∈ fo, x < ((fi.length : Nat) : Int)) (hrule : ∀ x ∈ stp, x.1 = 4 → 0 ≤ x.2.2.2.1 ∧ x.2.2.2.1 < ((pl.length : Nat) : Int)) : Calls Tryd.prog 20 #[.pointer (some ⟨b_a, 0, none⟩), .agg #[.int .i64 kd, .int .i64 rd_, .int .i64 wa_, .int .i64 wb_, .int .i64 op_, .slice a_sl_ n_sl_ c_sl_, .int .i64 fs_, .int .i64 sn_]] w (Ret fun v w' =>  v = .bool (patO fi fo stp pl kd rd_ wa_ wb_ op_ fs_ sn_) ∧ Ext w w') := by
 refine enter 223 Tryd.func20 rfl rfl rfl fun f0 ha => ?_
 have H := HI.start (M0 := M) (w := w) hM
 have H0 := H.put (it := imm (.slice a_fi fi.length c_fi) fi) rfl (by rw [MS_nil]; exact h_fi)
 have H1 := H0.put (it := imm (.slice a_fo fo.length c_fo) fo) rfl (by rw [MS_cons_none rfl, MS_nil]; exact h_fo)
 have H2 := H1.put (it := imm (.slice a_stp stp.length c_stp) stp) rfl (by rw [MS_cons_none rfl, MS_cons_none rfl, MS_nil]; exact h_stp)
 have H3 := H2.put (it := imm (.slice a_pl pl.length c_pl) pl) rfl (by rw [MS_cons_none rfl, MS_cons_none rfl, MS_cons_none rfl, MS_nil]; exact h_pl)
 have ln_fi := rv_len h_fi
 have ln_fo := rv_len h_fo
 have ln_stp := rv_len h_stp
 have ln_pl := rv_len h_pl
 have H4 := H3.put (it := ro b_a #[.slice a_fv n_fv c_fv, .slice a_fi fi.length c_fi, .slice a_fo fo.length c_fo, .slice a_stp stp.length c_stp, .slice a_pl pl.length c_pl] ty_a) rfl (by rw [MS_cons_none rfl, MS_cons_none rfl, MS_cons_none rfl, MS_cons_none rfl, MS_nil]; exact h_a)
 have i0 : f0 0 = pV b_a 0 := ha 0 (by simp)
 have i1 : f0 1 = .agg #[iV kd, iV rd_, iV wa_, iV wb_, iV op_, .slice a_sl_ n_sl_ c_sl_, iV fs_, iV sn_] := ha 1 (by simp)
 refine sq (rg (k (bx H4 rfl i1 ?_)))
 intro bb0 w0 xt0 (H5 : HI M w w0 [box bb0 #[iV kd, iV rd_, iV wa_, iV wb_, iV op_, .slice a_sl_ n_sl_ c_sl_, iV fs_, iV sn_] 43, ro b_a #[.slice a_fv n_fv c_fv, .slice a_fi fi.length c_fi, .slice a_fo fo.length c_fo, .slice a_stp stp.length c_stp, .slice a_pl pl.length c_pl] ty_a, imm (.slice a_pl pl.length c_pl) pl, imm (.slice a_stp stp.length c_stp) stp, imm (.slice a_fo fo.length c_fo) fo, imm (.slice a_fi fi.length c_fi) fi])
 refine k (asg (v := .bool false) rfl rfl (z (nx (sq (sq (rg (k (fa fl43_0 rfl rfl (k (ldX H5 0 rfl ty3 rfl rfl (by decide) rfl (z (nx (bk (sq (rg (k (eql rfl rfl rfl rfl (k (asg (v := .bool (decide (kd = 1))) rfl rfl (z (nx ?_)))))))))))))))))))))
 refine cd (b := decide (kd = 1)) rfl rfl (fun b0 => ?_) (fun b0 => ?_)
 ·
  have p0 := of_decide_eq_true b0
  refine sq ?_
  rcases Bool.eq_false_or_eq_true (!(([rd_] : List Int).any (outO fi))) with b1 | b1
  · -- !(([rd_] : List Int).any (outO fi)) is True
   refine dr 13 [eV (pV b_a 0), eV (pV bb0 1), eV (iV rd_), fun (v : Value) (w' : World) => ∃ (a1 : Option Addr) (c1 : Nat), v = .slice a1 ([rd_] : List Int).length c1 ∧ RV (MS M [box bb0 #[iV kd, iV rd_, iV wa_, iV wb_, iV op_, .slice a_sl_ n_sl_ c_sl_, iV fs_, iV sn_] 43, ro b_a #[.slice a_fv n_fv c_fv, .slice a_fi fi.length c_fi, .slice a_fo fo.length c_fo, .slice a_stp stp.length c_stp, .slice a_pl pl.length c_pl] ty_a, imm (.slice a_pl pl.length c_pl) pl, imm (.slice a_stp stp.length c_stp) stp, imm (.slice a_fo fo.length c_fo) fo, imm (.slice a_fi fi.length c_fi) fi]) w' (.slice a1 ([rd_] : List Int).length c1) ([rd_] : List Int), eV (.bool (!(([rd_] : List Int).any (outO fi)))), eV (.bool (!(([rd_] : List Int).any (outO fi)))), eV (pV b_a 0), eV (pV b_a 0), eV (pV b_a 0), eV (pV b_a 2), eV (.slice a_fo fo.length c_fo), eV (pV bb0 1), eV (iV rd_)] rfl (by kernel_rfl) ?_ ?_
   ·
    refine dc (fun _ _ hf0 _ _ => mv rfl ((hf0 0 rfl).trans i0) (d0 rfl rfl)) ?_
    refine dc (fun _ _ hf1 _ _ => fa fl43_1 rfl (hf1 3 rfl) (d0 rfl rfl)) ?_
    refine dc (fun _ _ _ xt7 hp2 => ldX (H5.ext xt7) 0 rfl ty3 rfl (hp2 1 rfl rfl) (by decide) rfl (d0 rfl rfl)) ?_
    refine ⟨fun _ => ⟨fun f3 w8 hf3 xt8 hp3 => ?_, by rintro _ _ _ x_ ⟨a1, c1, e_, rv1⟩; exact ⟨a1, c1, e_, rv1.lift (Up.ext x_)⟩⟩, ?_⟩
    ·
     have H15 := H5.ext xt8
     have s1 : f3 11 = iV rd_ := hp3 2 rfl rfl
     refine bs (xs := ([rd_] : List Int)) (cells := #[iV rd_]) (e := 3) H15 rfl (pbc s1 pb0) (fun _ => by kernel_rfl) ⟨[iV rd_], [], rfl, ⟨rfl, (show I64 (rd_) from (by first | assumption | (unfold I64 at *; omega)))⟩, rfl⟩ rfl (by unfold maxLen; omega) ?_
     intro g2 w9 xt9 (H16 : HI M w w9 [own w.heap.size 3 (.slice (some ⟨g2, 0, none⟩) 1 1) ([rd_] : List Int), box bb0 #[iV kd, iV rd_, iV wa_, iV wb_, iV op_, .slice a_sl_ n_sl_ c_sl_, iV fs_, iV sn_] 43, ro b_a #[.slice a_fv n_fv c_fv, .slice a_fi fi.length c_fi, .slice a_fo fo.length c_fo, .slice a_stp stp.length c_stp, .slice a_pl pl.length c_pl] ty_a, imm (.slice a_pl pl.length c_pl) pl, imm (.slice a_stp stp.length c_stp) stp, imm (.slice a_fo fo.length c_fo) fo, imm (.slice a_fi fi.length c_fi) fi])
     have H17 := H16.freeze 0 rfl
     exact ⟨_, rfl, xt9, ⟨(some ⟨g2, 0, none⟩), 1, rfl, (rv_drop rfl (H17.rv 0 rfl))⟩⟩
    refine dc (fun f4 w10 hf4 xt10 hp4 => ?_) ?_
    ·
     have H18 := H5.ext xt10
     have s2 : f4 9 = pV b_a 0 := hp4 0 rfl rfl
     obtain ⟨a2, c2, s3, rv2⟩ : ∃ (a2 : Option Addr) (c2 : Nat), f4 12 = .slice a2 ([rd_] : List Int).length c2 ∧ RV (MS M [box bb0 #[iV kd, iV rd_, iV wa_, iV wb_, iV op_, .slice a_sl_ n_sl_ c_sl_, iV fs_, iV sn_] 43, ro b_a #[.slice a_fv n_fv c_fv, .slice a_fi fi.length c_fi, .slice a_fo fo.length c_fo, .slice a_stp stp.length c_stp, .slice a_pl pl.length c_pl] ty_a, imm (.slice a_pl pl.length c_pl) pl, imm (.slice a_stp stp.length c_stp) stp, imm (.slice a_fo fo.length c_fo) fo, imm (.slice a_fi fi.length c_fi) fi]) w10 (.slice a2 ([rd_] : List Int).length c2) ([rd_] : List Int) := hp4 3 rfl rfl
     have H19 := H18.put (it := imm (.slice a2 ([rd_] : List Int).length c2) ([rd_] : List Int)) rfl rv2
     have cc2 := aud_op (fi := fi) (l := ([rd_] : List Int)) (a_fv := a_fv) (n_fv := n_fv) (c_fv := c_fv) (a_fo := a_fo) (n_fo := fo.length) (c_fo := c_fo) (a_stp := a_stp) (n_stp := stp.length) (c_stp := c_stp) (a_pl := a_pl) (n_pl := pl.length) (c_pl := c_pl) (w := w10) H19.mb (H19.rv 6 rfl) (H19.rv 0 rfl) (H19.at_ 2 rfl)
     refine ca go28 rfl (ec s2 (ec s3 e0)) cc2 ?_
     rintro _ w11 ⟨rfl, xt11⟩
     exact ⟨_, rfl, xt11, rfl⟩
    refine dc (fun _ _ _ _ hp5 => mv rfl (hp5 4 rfl rfl) (d0 rfl rfl)) ?_
    refine dc (fun f6 w13 hf6 xt13 hp6 => ?_) ?_
    ·
     have s5 : f6 14 = .bool (!(([rd_] : List Int).any (outO fi))) := hp6 5 rfl rfl
     refine gy rfl rfl s5 b1 (mv rfl ((hf6 0 rfl).trans i0) ?_)
     exact ⟨_, rfl, Ext.refl _, rfl⟩
    refine dc (fun f7 w14 hf7 xt14 hp7 => ?_) ?_
    ·
     have s6 : f7 14 = .bool (!(([rd_] : List Int).any (outO fi))) := hp7 5 rfl rfl
     have s7 : f7 15 = pV b_a 0 := hp7 6 rfl rfl
     refine gy rfl rfl s6 b1 (nc rfl s7 ?_)
     exact ⟨_, rfl, Ext.refl _, rfl⟩
    refine dc (fun f8 w15 hf8 xt15 hp8 => ?_) ?_
    ·
     have s8 : f8 14 = .bool (!(([rd_] : List Int).any (outO fi))) := hp8 5 rfl rfl
     have s9 : f8 16 = pV b_a 0 := hp8 7 rfl rfl
     refine gy rfl rfl s8 b1 (fa fl54_0 rfl s9 ?_)
     exact ⟨_, rfl, Ext.refl _, rfl⟩
    refine dc (fun f9 w16 hf9 xt16 hp9 => ?_) ?_
    ·
     have s10 : f9 14 = .bool (!(([rd_] : List Int).any (outO fi))) := hp9 5 rfl rfl
     have s11 : f9 17 = pV b_a 0 := hp9 8 rfl rfl
     refine gy rfl rfl s10 b1 (fa fl30_2 rfl s11 ?_)
     exact ⟨_, rfl, Ext.refl _, rfl⟩
    refine dc (fun f10 w17 hf10 xt17 hp10 => ?_) ?_
    ·
     have H26 := H5.ext xt17
     have s12 : f10 14 = .bool (!(([rd_] : List Int).any (outO fi))) := hp10 5 rfl rfl
     have s13 : f10 18 = pV b_a 2 := hp10 9 rfl rfl
     refine gy rfl rfl s12 b1 (ldR H26 1 rfl ty28 rfl s13 (by decide) rfl ?_)
     exact ⟨_, rfl, Ext.refl _, rfl⟩
    refine dc (fun f11 w18 hf11 xt18 hp11 => ?_) ?_
    ·
     have s14 : f11 14 = .bool (!(([rd_] : List Int).any (outO fi))) := hp11 5 rfl rfl
     refine gy rfl rfl s14 b1 (fa fl43_1 rfl (hf11 3 rfl) ?_)
     exact ⟨_, rfl, Ext.refl _, rfl⟩
    refine dc (fun f12 w19 hf12 xt19 hp12 => ?_) ?_
    ·
     have H28 := H5.ext xt19
     have s15 : f12 14 = .bool (!(([rd_] : List Int).any (outO fi))) := hp12 5 rfl rfl
     have s16 : f12 20 = pV bb0 1 := hp12 11 rfl rfl
     refine gy rfl rfl s15 b1 (ldX H28 0 rfl ty3 rfl s16 (by decide) rfl ?_)
     exact ⟨_, rfl, Ext.refl _, rfl⟩
    exact DSteps.rest rfl _
   ·
    intro f13 w20 hf13 xt20 hp13
    have H29 := H5.ext xt20
    have s17 : f13 0 = pV b_a 0 := (hf13 0 rfl).trans i0
    have s18 : f13 14 = .bool (!(([rd_] : List Int).any (outO fi))) := hp13 5 rfl
    have s19 : f13 19 = .slice a_fo fo.length c_fo := hp13 10 rfl
    have s20 : f13 21 = iV rd_ := hp13 12 rfl
    refine k (gy rfl rfl s18 b1 (ia (H29.rv 4 rfl) rfl rfl s19 s20 (by first | omega | (have h_ := op1_rng (fi := fi) (sb := rd_) (by assumption); omega) | (have h_ := op3_rng (fi := fi) (fr := rd_) (to := wa_) (sb := wb_) (by assumption); omega)) un28 ty3 ?_))
    intro ad0 x0 hx0 hA0
    refine k (gy rfl rfl s18 b1 (ldI hA0.w ty3 rfl rfl ?_))
    intro rv3
    refine k (gy rfl rfl s18 b1 (eql rfl rfl rfl rfl (k (pickT rfl rfl rfl s18 b1 rfl (k (mv (v := .bool (decide (x0 = (-2)))) rfl rfl ?_))))))
    rcases Bool.eq_false_or_eq_true (decide (x0 = (-2))) with b2 | b2
    · -- decide (x0 = (-2)) is True
     have p2 := of_decide_eq_true b2
     refine k (gy rfl rfl rfl b2 (mv rfl s17 (k (gy rfl rfl rfl b2 (nc rfl rfl (k (gy rfl rfl rfl b2 (fa fl54_1 rfl rfl (k (gy rfl rfl rfl b2 (ldR H29 1 rfl ty23 rfl rfl (by decide) rfl (k (gy rfl rfl rfl b2 (lnS rfl rfl un23 (k (gy rfl rfl rfl b2 (eql rfl rfl rfl rfl (k (pickT rfl rfl rfl rfl b2 rfl (k (asg (v := .bool (decide ((stp.length : Int) = 0))) rfl rfl (z (nx (rt (inb_ret (then_ret (r1 rfl rfl ?_)))))))))))))))))))))))))))
     have e0 : (decide ((stp.length : Int) = 0) : Bool) = patO fi fo stp pl kd rd_ wa_ wb_ op_ fs_ sn_ := by simp only [patO, hasI, keptO, List.getD_eq_getElem?_getD, hx0, Option.getD_some, Option.map_some, b0, b1, (nott b1), b2, BL, cond_true, cond_false]
     have ev_ := cg1 (fun (x_0 : Bool) => (.bool x_0 : Value)) e0
     exact ⟨ev_, H29.below⟩
    · -- decide (x0 = (-2)) is False
     have p2 := of_decide_eq_false b2
     refine k (gn rfl rfl rfl b2 (k (gn rfl rfl rfl b2 (k (gn rfl rfl rfl b2 (k (gn rfl rfl rfl b2 (k (gn rfl rfl rfl b2 (k (gn rfl rfl rfl b2 (k (pickF rfl rfl rfl rfl b2 rfl (k (asg (v := .bool false) rfl rfl (z (nx (rt (inb_ret (then_ret (r1 rfl rfl ?_)))))))))))))))))))))
     have e0 : (false : Bool) = patO fi fo stp pl kd rd_ wa_ wb_ op_ fs_ sn_ := by simp only [patO, hasI, keptO, List.getD_eq_getElem?_getD, hx0, Option.getD_some, Option.map_some, b0, b1, (nott b1), b2, BL, cond_true, cond_false]
     have ev_ := cg1 (fun (x_0 : Bool) => (.bool x_0 : Value)) e0
     exact ⟨ev_, H29.below⟩
  · -- !(([rd_] : List Int).any (outO fi)) is False
   refine dr 13 [eV (pV b_a 0), eV (pV bb0 1), eV (iV rd_), fun (v : Value) (w' : World) => ∃ (a1 : Option Addr) (c1 : Nat), v = .slice a1 ([rd_] : List Int).length c1 ∧ RV (MS M [box bb0 #[iV kd, iV rd_, iV wa_, iV wb_, iV op_, .slice a_sl_ n_sl_ c_sl_, iV fs_, iV sn_] 43, ro b_a #[.slice a_fv n_fv c_fv, .slice a_fi fi.length c_fi, .slice a_fo fo.length c_fo, .slice a_stp stp.length c_stp, .slice a_pl pl.length c_pl] ty_a, imm (.slice a_pl pl.length c_pl) pl, imm (.slice a_stp stp.length c_stp) stp, imm (.slice a_fo fo.length c_fo) fo, imm (.slice a_fi fi.length c_fi) fi]) w' (.slice a1 ([rd_] : List Int).length c1) ([rd_] : List Int), eV (.bool (!(([rd_] : List Int).any (outO fi)))), eV (.bool (!(([rd_] : List Int).any (outO fi)))), eV undef, eV undef, eV undef, eV undef, eV undef, eV undef, eV undef] rfl (by kernel_rfl) ?_ ?_
   ·
    refine dc (fun _ _ hf0 _ _ => mv rfl ((hf0 0 rfl).trans i0) (d0 rfl rfl)) ?_
    refine dc (fun _ _ hf1 _ _ => fa fl43_1 rfl (hf1 3 rfl) (d0 rfl rfl)) ?_
    refine dc (fun _ _ _ xt7 hp2 => ldX (H5.ext xt7) 0 rfl ty3 rfl (hp2 1 rfl rfl) (by decide) rfl (d0 rfl rfl)) ?_
    refine ⟨fun _ => ⟨fun f3 w8 hf3 xt8 hp3 => ?_, by rintro _ _ _ x_ ⟨a1, c1, e_, rv1⟩; exact ⟨a1, c1, e_, rv1.lift (Up.ext x_)⟩⟩, ?_⟩
    ·
     have H15 := H5.ext xt8
     have s1 : f3 11 = iV rd_ := hp3 2 rfl rfl
     refine bs (xs := ([rd_] : List Int)) (cells := #[iV rd_]) (e := 3) H15 rfl (pbc s1 pb0) (fun _ => by kernel_rfl) ⟨[iV rd_], [], rfl, ⟨rfl, (show I64 (rd_) from (by first | assumption | (unfold I64 at *; omega)))⟩, rfl⟩ rfl (by unfold maxLen; omega) ?_
     intro g2 w9 xt9 (H16 : HI M w w9 [own w.heap.size 3 (.slice (some ⟨g2, 0, none⟩) 1 1) ([rd_] : List Int), box bb0 #[iV kd, iV rd_, iV wa_, iV wb_, iV op_, .slice a_sl_ n_sl_ c_sl_, iV fs_, iV sn_] 43, ro b_a #[.slice a_fv n_fv c_fv, .slice a_fi fi.length c_fi, .slice a_fo fo.length c_fo, .slice a_stp stp.length c_stp, .slice a_pl pl.length c_pl] ty_a, imm (.slice a_pl pl.length c_pl) pl, imm (.slice a_stp stp.length c_stp) stp, imm (.slice a_fo fo.length c_fo) fo, imm (.slice a_fi fi.length c_fi) fi])
     have H17 := H16.freeze 0 rfl
     exact ⟨_, rfl, xt9, ⟨(some ⟨g2, 0, none⟩), 1, rfl, (rv_drop rfl (H17.rv 0 rfl))⟩⟩
    refine dc (fun f4 w10 hf4 xt10 hp4 => ?_) ?_
    ·
     have H18 := H5.ext xt10
     have s2 : f4 9 = pV b_a 0 := hp4 0 rfl rfl
     obtain ⟨a2, c2, s3, rv2⟩ : ∃ (a2 : Option Addr) (c2 : Nat), f4 12 = .slice a2 ([rd_] : List Int).length c2 ∧ RV (MS M [box bb0 #[iV kd, iV rd_, iV wa_, iV wb_, iV op_, .slice a_sl_ n_sl_ c_sl_, iV fs_, iV sn_] 43, ro b_a #[.slice a_fv n_fv c_fv, .slice a_fi fi.length c_fi, .slice a_fo fo.length c_fo, .slice a_stp stp.length c_stp, .slice a_pl pl.length c_pl] ty_a, imm (.slice a_pl pl.length c_pl) pl, imm (.slice a_stp stp.length c_stp) stp, imm (.slice a_fo fo.length c_fo) fo, imm (.slice a_fi fi.length c_fi) fi]) w10 (.slice a2 ([rd_] : List Int).length c2) ([rd_] : List Int) := hp4 3 rfl rfl
     have H19 := H18.put (it := imm (.slice a2 ([rd_] : List Int).length c2) ([rd_] : List Int)) rfl rv2
     have cc2 := aud_op (fi := fi) (l := ([rd_] : List Int)) (a_fv := a_fv) (n_fv := n_fv) (c_fv := c_fv) (a_fo := a_fo) (n_fo := fo.length) (c_fo := c_fo) (a_stp := a_stp) (n_stp := stp.length) (c_stp := c_stp) (a_pl := a_pl) (n_pl := pl.length) (c_pl := c_pl) (w := w10) H19.mb (H19.rv 6 rfl) (H19.rv 0 rfl) (H19.at_ 2 rfl)
     refine ca go28 rfl (ec s2 (ec s3 e0)) cc2 ?_
     rintro _ w11 ⟨rfl, xt11⟩
     exact ⟨_, rfl, xt11, rfl⟩
    refine dc (fun _ _ _ _ hp5 => mv rfl (hp5 4 rfl rfl) (d0 rfl rfl)) ?_
    refine dc (fun _ _ _ _ hp6 => gn rfl rfl (hp6 5 rfl rfl) b1 (d0 rfl rfl)) ?_
    refine dc (fun _ _ _ _ hp7 => gn rfl rfl (hp7 5 rfl rfl) b1 (d0 rfl rfl)) ?_
    refine dc (fun _ _ _ _ hp8 => gn rfl rfl (hp8 5 rfl rfl) b1 (d0 rfl rfl)) ?_
    refine dc (fun _ _ _ _ hp9 => gn rfl rfl (hp9 5 rfl rfl) b1 (d0 rfl rfl)) ?_
    refine dc (fun _ _ _ _ hp10 => gn rfl rfl (hp10 5 rfl rfl) b1 (d0 rfl rfl)) ?_
    refine dc (fun _ _ _ _ hp11 => gn rfl rfl (hp11 5 rfl rfl) b1 (d0 rfl rfl)) ?_
    refine dc (fun _ _ _ _ hp12 => gn rfl rfl (hp12 5 rfl rfl) b1 (d0 rfl rfl)) ?_
    exact DSteps.rest rfl _
   ·
    intro f13 w20 hf13 xt20 hp13
    have H29 := H5.ext xt20
    have s18 : f13 14 = .bool (!(([rd_] : List Int).any (outO fi))) := hp13 5 rfl
    refine k (gn rfl rfl s18 b1 (k (gn rfl rfl s18 b1 (k (gn rfl rfl s18 b1 (k (pickF rfl rfl rfl s18 b1 rfl (k (mv (v := .bool false) rfl rfl (k (gn rfl rfl rfl rfl (k (gn rfl rfl rfl rfl (k (gn rfl rfl rfl rfl (k (gn rfl rfl rfl rfl (k (gn rfl rfl rfl rfl (k (gn rfl rfl rfl rfl (k (pickF rfl rfl rfl rfl rfl rfl (k (asg (v := .bool false) rfl rfl (z (nx (rt (inb_ret (then_ret (r1 rfl rfl ?_)))))))))))))))))))))))))))))))
    have e0 : (false : Bool) = patO fi fo stp pl kd rd_ wa_ wb_ op_ fs_ sn_ := by simp only [patO, hasI, keptO, b0, b1, (notf b1), BL, cond_true, cond_false]
    have ev_ := cg1 (fun (x_0 : Bool) => (.bool x_0 : Value)) e0
    exact ⟨ev_, H29.below⟩
 ·
  have p0 := of_decide_eq_false b0
  refine sq (rg (k (eql rfl rfl rfl rfl (k (asg (v := .bool (decide (kd = 2))) rfl rfl (z (nx ?_)))))))
  refine cd (b := decide (kd = 2)) rfl rfl (fun b1 => ?_) (fun b1 => ?_)
  ·
   have p1 := of_decide_eq_true b1
   refine sq (rg (k (mv rfl i0 (k (fa fl43_4 rfl rfl (k (ldX H5 0 rfl ty3 rfl rfl (by decide) rfl (k (bs (xs := ([op_] : List Int)) (cells := #[iV op_]) (e := 3) H5 rfl (pbc rfl pb0) (fun _ => by kernel_rfl) ⟨[iV op_], [], rfl, ⟨rfl, (show I64 (op_) from (by first | assumption | (unfold I64 at *; omega)))⟩, rfl⟩ rfl (by unfold maxLen; omega) ?_)))))))))
   intro g0 w1 xt1 H6
   refine k ?_
   have H7 := H6.freeze 0 rfl
   have cc0 := aud_op (fi := fi) (l := ([op_] : List Int)) (a_fv := a_fv) (n_fv := n_fv) (c_fv := c_fv) (a_fo := a_fo) (n_fo := fo.length) (c_fo := c_fo) (a_stp := a_stp) (n_stp := stp.length) (c_stp := c_stp) (a_pl := a_pl) (n_pl := pl.length) (c_pl := c_pl) (w := w1) H7.mb (H7.rv 6 rfl) (H7.rv 0 rfl) (H7.at_ 2 rfl)
   refine ca go28 rfl (ec rfl (ec rfl e0)) cc0 ?_
   rintro _ w2 ⟨rfl, xt2⟩
   have H8 := H6.ext xt2
   refine k (mv (v := .bool (!(([op_] : List Int).any (outO fi)))) rfl rfl ?_)
   rcases Bool.eq_false_or_eq_true (!(([op_] : List Int).any (outO fi))) with b2 | b2
   · -- !(([op_] : List Int).any (outO fi)) is True
    refine k (gy rfl rfl rfl b2 (mv rfl i0 (k (gy rfl rfl rfl b2 ?_))))
    have cc1 := aud_bare (pl := pl) (a_fv := a_fv) (n_fv := n_fv) (c_fv := c_fv) (a_fi := a_fi) (n_fi := fi.length) (c_fi := c_fi) (a_fo := a_fo) (n_fo := fo.length) (c_fo := c_fo) (a_stp := a_stp) (n_stp := stp.length) (c_stp := c_stp) (w := w2) H8.mb (H8.rv 3 rfl) (H8.at_ 2 rfl)
    refine ca go29 rfl (ec rfl e0) cc1 ?_
    rintro _ w3 ⟨rfl, xt3⟩
    have H9 := H8.ext xt3
    refine k (pickT rfl rfl rfl rfl b2 rfl (k (mv (v := .bool (!(pl.any (fun z_ => false == z_)))) rfl rfl ?_)))
    rcases Bool.eq_false_or_eq_true (!(pl.any (fun z_ => false == z_))) with b3 | b3
    · -- !(pl.any (fun z_ => false == z_)) is True
     refine k (gy rfl rfl rfl b3 (mv rfl i0 (k (gy rfl rfl rfl b3 (fa fl43_6 rfl rfl (k (gy rfl rfl rfl b3 (ldX H9 1 rfl ty3 rfl rfl (by decide) rfl (k (gy rfl rfl rfl b3 (fa fl43_4 rfl rfl (k (gy rfl rfl rfl b3 (ldX H9 1 rfl ty3 rfl rfl (by decide) rfl (k (gy rfl rfl rfl b3 (fa fl43_4 rfl rfl (k (gy rfl rfl rfl b3 (ldX H9 1 rfl ty3 rfl rfl (by decide) rfl (k (gy rfl rfl rfl b3 ?_))))))))))))))))))))))
     have cc2 := aud_says (stp := stp) (n1 := fs_) (n2 := op_) (n3 := op_) (a_fv := a_fv) (n_fv := n_fv) (c_fv := c_fv) (a_fi := a_fi) (n_fi := fi.length) (c_fi := c_fi) (a_fo := a_fo) (n_fo := fo.length) (c_fo := c_fo) (a_pl := a_pl) (n_pl := pl.length) (c_pl := c_pl) (w := w3) H9.mb (H9.rv 4 rfl) (by first | assumption | (unfold I64 at *; omega)) (by first | assumption | (unfold I64 at *; omega)) (by first | assumption | (unfold I64 at *; omega)) (H9.at_ 2 rfl)
     refine ca go30 rfl (ec rfl (ec rfl (ec rfl (ec rfl e0)))) cc2 ?_
     rintro _ w4 ⟨rfl, xt4⟩
     have H10 := H9.ext xt4
     refine k (pickT rfl rfl rfl rfl b3 rfl (k (asg (v := .bool (saysO stp fs_ op_ op_)) rfl rfl (z (nx (rt (inb_ret (then_ret (r1 rfl rfl ?_)))))))))
     have e0 : (saysO stp fs_ op_ op_ : Bool) = patO fi fo stp pl kd rd_ wa_ wb_ op_ fs_ sn_ := by simp only [patO, hasI, keptO, b0, b1, b2, (nott b2), b3, (nott b3), BL, cond_true, cond_false]
     have ev_ := cg1 (fun (x_0 : Bool) => (.bool x_0 : Value)) e0
     exact ⟨ev_, H10.below⟩
    · -- !(pl.any (fun z_ => false == z_)) is False
     refine k (gn rfl rfl rfl b3 (k (gn rfl rfl rfl b3 (k (gn rfl rfl rfl b3 (k (gn rfl rfl rfl b3 (k (gn rfl rfl rfl b3 (k (gn rfl rfl rfl b3 (k (gn rfl rfl rfl b3 (k (gn rfl rfl rfl b3 (k (pickF rfl rfl rfl rfl b3 rfl (k (asg (v := .bool false) rfl rfl (z (nx (rt (inb_ret (then_ret (r1 rfl rfl ?_)))))))))))))))))))))))))
     have e0 : (false : Bool) = patO fi fo stp pl kd rd_ wa_ wb_ op_ fs_ sn_ := by simp only [patO, hasI, keptO, b0, b1, b2, (nott b2), b3, (notf b3), BL, cond_true, cond_false]
     have ev_ := cg1 (fun (x_0 : Bool) => (.bool x_0 : Value)) e0
     exact ⟨ev_, H9.below⟩
   · -- !(([op_] : List Int).any (outO fi)) is False
    refine k (gn rfl rfl rfl b2 (k (gn rfl rfl rfl b2 (k (pickF rfl rfl rfl rfl b2 rfl (k (mv (v := .bool false) rfl rfl (k (gn rfl rfl rfl rfl (k (gn rfl rfl rfl rfl (k (gn rfl rfl rfl rfl (k (gn rfl rfl rfl rfl (k (gn rfl rfl rfl rfl (k (gn rfl rfl rfl rfl (k (gn rfl rfl rfl rfl (k (gn rfl rfl rfl rfl (k (pickF rfl rfl rfl rfl rfl rfl (k (asg (v := .bool false) rfl rfl (z (nx (rt (inb_ret (then_ret (r1 rfl rfl ?_)))))))))))))))))))))))))))))))))
    have e0 : (false : Bool) = patO fi fo stp pl kd rd_ wa_ wb_ op_ fs_ sn_ := by simp only [patO, hasI, keptO, b0, b1, b2, (notf b2), BL, cond_true, cond_false]
    have ev_ := cg1 (fun (x_0 : Bool) => (.bool x_0 : Value)) e0
    exact ⟨ev_, H8.below⟩
  ·
   have p1 := of_decide_eq_false b1
   refine sq (rg (k (eql rfl rfl rfl rfl (k (asg (v := .bool (decide (kd = 3))) rfl rfl (z (nx ?_)))))))
   refine cd (b := decide (kd = 3)) rfl rfl (fun b2 => ?_) (fun b2 => ?_)
   ·
    have p2 := of_decide_eq_true b2
    refine sq (rg (k (mv rfl i0 (k (fa fl43_1 rfl rfl (k (ldX H5 0 rfl ty3 rfl rfl (by decide) rfl (k (fa fl43_2 rfl rfl (k (ldX H5 0 rfl ty3 rfl rfl (by decide) rfl (k ?_))))))))))))
    have cc0 := aud_early (fi := fi) (fo := fo) (n1 := rd_) (n2 := wa_) (a_fv := a_fv) (n_fv := n_fv) (c_fv := c_fv) (a_stp := a_stp) (n_stp := stp.length) (c_stp := c_stp) (a_pl := a_pl) (n_pl := pl.length) (c_pl := c_pl) (w := w0) H5.mb (H5.rv 5 rfl) (H5.rv 4 rfl) (by first | assumption | (unfold I64 at *; omega)) (by first | assumption | (unfold I64 at *; omega)) (H5.at_ 1 rfl) (by exact hfo)
    refine ca go31 rfl (ec rfl (ec rfl (ec rfl e0))) cc0 ?_
    rintro _ w1 ⟨rfl, xt1⟩
    have H6 := H5.ext xt1
    refine k (mv (v := .bool (earlyO fi fo rd_ wa_)) rfl rfl ?_)
    rcases Bool.eq_false_or_eq_true (earlyO fi fo rd_ wa_) with b3 | b3
    · -- earlyO fi fo rd_ wa_ is True
     refine k (gy rfl rfl rfl b3 (mv rfl i0 (k (gy rfl rfl rfl b3 ?_))))
     have cc1 := aud_bare (pl := pl) (a_fv := a_fv) (n_fv := n_fv) (c_fv := c_fv) (a_fi := a_fi) (n_fi := fi.length) (c_fi := c_fi) (a_fo := a_fo) (n_fo := fo.length) (c_fo := c_fo) (a_stp := a_stp) (n_stp := stp.length) (c_stp := c_stp) (w := w1) H6.mb (H6.rv 2 rfl) (H6.at_ 1 rfl)
     refine ca go29 rfl (ec rfl e0) cc1 ?_
     rintro _ w2 ⟨rfl, xt2⟩
     have H7 := H6.ext xt2
     refine k (pickT rfl rfl rfl rfl b3 rfl (k (mv (v := .bool (!(pl.any (fun z_ => false == z_)))) rfl rfl ?_)))
     rcases Bool.eq_false_or_eq_true (!(pl.any (fun z_ => false == z_))) with b4 | b4
     · -- !(pl.any (fun z_ => false == z_)) is True
      refine k (gy rfl rfl rfl b4 (mv rfl i0 (k (gy rfl rfl rfl b4 (fa fl43_6 rfl rfl (k (gy rfl rfl rfl b4 (ldX H7 0 rfl ty3 rfl rfl (by decide) rfl (k (gy rfl rfl rfl b4 (fa fl43_2 rfl rfl (k (gy rfl rfl rfl b4 (ldX H7 0 rfl ty3 rfl rfl (by decide) rfl (k (gy rfl rfl rfl b4 (fa fl43_1 rfl rfl (k (gy rfl rfl rfl b4 (ldX H7 0 rfl ty3 rfl rfl (by decide) rfl (k (gy rfl rfl rfl b4 ?_))))))))))))))))))))))
      have cc2 := aud_says (stp := stp) (n1 := fs_) (n2 := wa_) (n3 := rd_) (a_fv := a_fv) (n_fv := n_fv) (c_fv := c_fv) (a_fi := a_fi) (n_fi := fi.length) (c_fi := c_fi) (a_fo := a_fo) (n_fo := fo.length) (c_fo := c_fo) (a_pl := a_pl) (n_pl := pl.length) (c_pl := c_pl) (w := w2) H7.mb (H7.rv 3 rfl) (by first | assumption | (unfold I64 at *; omega)) (by first | assumption | (unfold I64 at *; omega)) (by first | assumption | (unfold I64 at *; omega)) (H7.at_ 1 rfl)
      refine ca go30 rfl (ec rfl (ec rfl (ec rfl (ec rfl e0)))) cc2 ?_
      rintro _ w3 ⟨rfl, xt3⟩
      have H8 := H7.ext xt3
      refine k (pickT rfl rfl rfl rfl b4 rfl (k (asg (v := .bool (saysO stp fs_ wa_ rd_)) rfl rfl (z (nx (rt (inb_ret (then_ret (r1 rfl rfl ?_)))))))))
      have e0 : (saysO stp fs_ wa_ rd_ : Bool) = patO fi fo stp pl kd rd_ wa_ wb_ op_ fs_ sn_ := by simp only [patO, hasI, keptO, b0, b1, b2, b3, b4, (nott b4), BL, cond_true, cond_false]
      have ev_ := cg1 (fun (x_0 : Bool) => (.bool x_0 : Value)) e0
      exact ⟨ev_, H8.below⟩
     · -- !(pl.any (fun z_ => false == z_)) is False
      refine k (gn rfl rfl rfl b4 (k (gn rfl rfl rfl b4 (k (gn rfl rfl rfl b4 (k (gn rfl rfl rfl b4 (k (gn rfl rfl rfl b4 (k (gn rfl rfl rfl b4 (k (gn rfl rfl rfl b4 (k (gn rfl rfl rfl b4 (k (pickF rfl rfl rfl rfl b4 rfl (k (asg (v := .bool false) rfl rfl (z (nx (rt (inb_ret (then_ret (r1 rfl rfl ?_)))))))))))))))))))))))))
      have e0 : (false : Bool) = patO fi fo stp pl kd rd_ wa_ wb_ op_ fs_ sn_ := by simp only [patO, hasI, keptO, b0, b1, b2, b3, b4, (notf b4), BL, cond_true, cond_false]
      have ev_ := cg1 (fun (x_0 : Bool) => (.bool x_0 : Value)) e0
      exact ⟨ev_, H7.below⟩
    · -- earlyO fi fo rd_ wa_ is False
     refine k (gn rfl rfl rfl b3 (k (gn rfl rfl rfl b3 (k (pickF rfl rfl rfl rfl b3 rfl (k (mv (v := .bool false) rfl rfl (k (gn rfl rfl rfl rfl (k (gn rfl rfl rfl rfl (k (gn rfl rfl rfl rfl (k (gn rfl rfl rfl rfl (k (gn rfl rfl rfl rfl (k (gn rfl rfl rfl rfl (k (gn rfl rfl rfl rfl (k (gn rfl rfl rfl rfl (k (pickF rfl rfl rfl rfl rfl rfl (k (asg (v := .bool false) rfl rfl (z (nx (rt (inb_ret (then_ret (r1 rfl rfl ?_)))))))))))))))))))))))))))))))))
     have e0 : (false : Bool) = patO fi fo stp pl kd rd_ wa_ wb_ op_ fs_ sn_ := by simp only [patO, hasI, keptO, b0, b1, b2, b3, BL, cond_true, cond_false]
     have ev_ := cg1 (fun (x_0 : Bool) => (.bool x_0 : Value)) e0
     exact ⟨ev_, H6.below⟩
   ·
    have p2 := of_decide_eq_false b2
    refine sq (rg (k (eql rfl rfl rfl rfl (k (asg (v := .bool (decide (kd = 4))) rfl rfl (z (nx ?_)))))))
    refine cd (b := decide (kd = 4)) rfl rfl (fun b3 => ?_) (fun b3 => ?_)
    ·
     have p3 := of_decide_eq_true b3
     refine sq ?_
     rcases Bool.eq_false_or_eq_true (!(([rd_, wa_, wb_] : List Int).any (outO fi))) with b4 | b4
     · -- !(([rd_, wa_, wb_] : List Int).any (outO fi)) is True
      obtain ⟨x0, hx0⟩ : ∃ x, fo[rd_.toNat]? = some x := ⟨_, List.getElem?_eq_getElem (by first | omega | (have h_ := op1_rng (fi := fi) (sb := rd_) (by assumption); omega) | (have h_ := op3_rng (fi := fi) (fr := rd_) (to := wa_) (sb := wb_) (by assumption); omega))⟩
      rcases Bool.eq_false_or_eq_true (decide (x0 = wa_)) with b5 | b5
      · -- decide (x0 = wa_) is True
       have p5 := of_decide_eq_true b5
       rcases Bool.eq_false_or_eq_true (otherO fi wa_ wb_) with b6 | b6
       · -- otherO fi wa_ wb_ is True
        rcases Bool.eq_false_or_eq_true (!(pl.any (fun z_ => false == z_))) with b7 | b7
        · -- !(pl.any (fun z_ => false == z_)) is True
         rcases Bool.eq_false_or_eq_true (saysO stp fs_ wa_ wb_) with b8 | b8
         · -- saysO stp fs_ wa_ wb_ is True
          refine dr 53 [eV (pV b_a 0), eV (pV bb0 1), eV (iV rd_), eV (pV bb0 2), eV (iV wa_), eV (pV bb0 3), eV (iV wb_), fun (v : Value) (w' : World) => ∃ (a5 : Option Addr) (c5 : Nat), v = .slice a5 ([rd_, wa_, wb_] : List Int).length c5 ∧ RV (MS M [box bb0 #[iV kd, iV rd_, iV wa_, iV wb_, iV op_, .slice a_sl_ n_sl_ c_sl_, iV fs_, iV sn_] 43, ro b_a #[.slice a_fv n_fv c_fv, .slice a_fi fi.length c_fi, .slice a_fo fo.length c_fo, .slice a_stp stp.length c_stp, .slice a_pl pl.length c_pl] ty_a, imm (.slice a_pl pl.length c_pl) pl, imm (.slice a_stp stp.length c_stp) stp, imm (.slice a_fo fo.length c_fo) fo, imm (.slice a_fi fi.length c_fi) fi]) w' (.slice a5 ([rd_, wa_, wb_] : List Int).length c5) ([rd_, wa_, wb_] : List Int), eV (.bool (!(([rd_, wa_, wb_] : List Int).any (outO fi)))), eV (.bool (!(([rd_, wa_, wb_] : List Int).any (outO fi)))), eV (pV b_a 0), eV (pV b_a 0), eV (pV b_a 0), eV (pV b_a 2), eV (.slice a_fo fo.length c_fo), eV (pV bb0 1), eV (iV rd_), fun (v : Value) (w' : World) => ∃ (ad4 : Addr), v = .pointer (some ad4) ∧ At (MS M [box bb0 #[iV kd, iV rd_, iV wa_, iV wb_, iV op_, .slice a_sl_ n_sl_ c_sl_, iV fs_, iV sn_] 43, ro b_a #[.slice a_fv n_fv c_fv, .slice a_fi fi.length c_fi, .slice a_fo fo.length c_fo, .slice a_stp stp.length c_stp, .slice a_pl pl.length c_pl] ty_a, imm (.slice a_pl pl.length c_pl) pl, imm (.slice a_stp stp.length c_stp) stp, imm (.slice a_fo fo.length c_fo) fo, imm (.slice a_fi fi.length c_fi) fi]) w' ad4 x0, fun (v : Value) (w' : World) => v = iV x0 ∧ I64 (x0), eV (pV bb0 2), eV (iV wa_), eV (.bool (decide (x0 = wa_))), eV (.bool (decide (x0 = wa_))), eV (.bool (decide (x0 = wa_))), eV (pV b_a 0), eV (pV bb0 2), eV (iV wa_), eV (pV bb0 3), eV (iV wb_), eV (.bool (otherO fi wa_ wb_)), eV (.bool (otherO fi wa_ wb_)), eV (.bool (otherO fi wa_ wb_)), eV (pV b_a 0), eV (.bool (!(pl.any (fun z_ => false == z_)))), eV (.bool (!(pl.any (fun z_ => false == z_)))), eV (.bool (!(pl.any (fun z_ => false == z_)))), eV (pV b_a 0), eV (pV bb0 6), eV (iV fs_), eV (pV bb0 2), eV (iV wa_), eV (pV bb0 3), eV (iV wb_), eV (.bool (saysO stp fs_ wa_ wb_)), eV (.bool (saysO stp fs_ wa_ wb_)), eV (.bool (saysO stp fs_ wa_ wb_)), eV (pV b_a 0), eV (pV bb0 7), eV (iV sn_), eV (pV bb0 3), eV (iV wb_), eV (pV bb0 1), eV (iV rd_)] rfl (by kernel_rfl) ?_ ?_
          ·
           refine dc (fun _ _ hf0 _ _ => mv rfl ((hf0 0 rfl).trans i0) (d0 rfl rfl)) ?_
           refine dc (fun _ _ hf1 _ _ => fa fl43_1 rfl (hf1 3 rfl) (d0 rfl rfl)) ?_
           refine dc (fun _ _ _ xt24 hp2 => ldX (H5.ext xt24) 0 rfl ty3 rfl (hp2 1 rfl rfl) (by decide) rfl (d0 rfl rfl)) ?_
           refine dc (fun _ _ hf3 _ _ => fa fl43_2 rfl (hf3 3 rfl) (d0 rfl rfl)) ?_
           refine dc (fun _ _ _ xt26 hp4 => ldX (H5.ext xt26) 0 rfl ty3 rfl (hp4 3 rfl rfl) (by decide) rfl (d0 rfl rfl)) ?_
           refine dc (fun _ _ hf5 _ _ => fa fl43_3 rfl (hf5 3 rfl) (d0 rfl rfl)) ?_
           refine dc (fun _ _ _ xt28 hp6 => ldX (H5.ext xt28) 0 rfl ty3 rfl (hp6 5 rfl rfl) (by decide) rfl (d0 rfl rfl)) ?_
           refine ⟨fun _ => ⟨fun f7 w29 hf7 xt29 hp7 => ?_, by rintro _ _ _ x_ ⟨a5, c5, e_, rv9⟩; exact ⟨a5, c5, e_, rv9.lift (Up.ext x_)⟩⟩, ?_⟩
           ·
            have H40 := H5.ext xt29
            have s3 : f7 81 = iV rd_ := hp7 2 rfl rfl
            have s4 : f7 83 = iV wa_ := hp7 4 rfl rfl
            have s5 : f7 85 = iV wb_ := hp7 6 rfl rfl
            refine bs (xs := ([rd_, wa_, wb_] : List Int)) (cells := #[iV rd_, iV wa_, iV wb_]) (e := 3) H40 rfl (pbc s3 (pbc s4 (pbc s5 pb0))) (fun _ => by kernel_rfl) ⟨[iV rd_], [iV wa_, iV wb_], rfl, ⟨rfl, (show I64 (rd_) from (by first | assumption | (unfold I64 at *; omega)))⟩, ⟨[iV wa_], [iV wb_], rfl, ⟨rfl, (show I64 (wa_) from (by first | assumption | (unfold I64 at *; omega)))⟩, ⟨[iV wb_], [], rfl, ⟨rfl, (show I64 (wb_) from (by first | assumption | (unfold I64 at *; omega)))⟩, rfl⟩⟩⟩ rfl (by unfold maxLen; omega) ?_
            intro g6 w30 xt30 (H41 : HI M w w30 [own w.heap.size 3 (.slice (some ⟨g6, 0, none⟩) 3 3) ([rd_, wa_, wb_] : List Int), box bb0 #[iV kd, iV rd_, iV wa_, iV wb_, iV op_, .slice a_sl_ n_sl_ c_sl_, iV fs_, iV sn_] 43, ro b_a #[.slice a_fv n_fv c_fv, .slice a_fi fi.length c_fi, .slice a_fo fo.length c_fo, .slice a_stp stp.length c_stp, .slice a_pl pl.length c_pl] ty_a, imm (.slice a_pl pl.length c_pl) pl, imm (.slice a_stp stp.length c_stp) stp, imm (.slice a_fo fo.length c_fo) fo, imm (.slice a_fi fi.length c_fi) fi])
            have H42 := H41.freeze 0 rfl
            exact ⟨_, rfl, xt30, ⟨(some ⟨g6, 0, none⟩), 3, rfl, (rv_drop rfl (H42.rv 0 rfl))⟩⟩
           refine dc (fun f8 w31 hf8 xt31 hp8 => ?_) ?_
           ·
            have H43 := H5.ext xt31
            have s6 : f8 79 = pV b_a 0 := hp8 0 rfl rfl
            obtain ⟨a6, c6, s7, rv11⟩ : ∃ (a6 : Option Addr) (c6 : Nat), f8 86 = .slice a6 ([rd_, wa_, wb_] : List Int).length c6 ∧ RV (MS M [box bb0 #[iV kd, iV rd_, iV wa_, iV wb_, iV op_, .slice a_sl_ n_sl_ c_sl_, iV fs_, iV sn_] 43, ro b_a #[.slice a_fv n_fv c_fv, .slice a_fi fi.length c_fi, .slice a_fo fo.length c_fo, .slice a_stp stp.length c_stp, .slice a_pl pl.length c_pl] ty_a, imm (.slice a_pl pl.length c_pl) pl, imm (.slice a_stp stp.length c_stp) stp, imm (.slice a_fo fo.length c_fo) fo, imm (.slice a_fi fi.length c_fi) fi]) w31 (.slice a6 ([rd_, wa_, wb_] : List Int).length c6) ([rd_, wa_, wb_] : List Int) := hp8 7 rfl rfl
            have H44 := H43.put (it := imm (.slice a6 ([rd_, wa_, wb_] : List Int).length c6) ([rd_, wa_, wb_] : List Int)) rfl rv11
            have cc15 := aud_op (fi := fi) (l := ([rd_, wa_, wb_] : List Int)) (a_fv := a_fv) (n_fv := n_fv) (c_fv := c_fv) (a_fo := a_fo) (n_fo := fo.length) (c_fo := c_fo) (a_stp := a_stp) (n_stp := stp.length) (c_stp := c_stp) (a_pl := a_pl) (n_pl := pl.length) (c_pl := c_pl) (w := w31) H44.mb (H44.rv 6 rfl) (H44.rv 0 rfl) (H44.at_ 2 rfl)
            refine ca go28 rfl (ec s6 (ec s7 e0)) cc15 ?_
            rintro _ w32 ⟨rfl, xt32⟩
            exact ⟨_, rfl, xt32, rfl⟩
           refine dc (fun _ _ _ _ hp9 => mv rfl (hp9 8 rfl rfl) (d0 rfl rfl)) ?_
           refine dc (fun f10 w34 hf10 xt34 hp10 => ?_) ?_
           ·
            have s9 : f10 88 = .bool (!(([rd_, wa_, wb_] : List Int).any (outO fi))) := hp10 9 rfl rfl
            refine gy rfl rfl s9 b4 (mv rfl ((hf10 0 rfl).trans i0) ?_)
            exact ⟨_, rfl, Ext.refl _, rfl⟩
           refine dc (fun f11 w35 hf11 xt35 hp11 => ?_) ?_
           ·
            have s10 : f11 88 = .bool (!(([rd_, wa_, wb_] : List Int).any (outO fi))) := hp11 9 rfl rfl
            have s11 : f11 89 = pV b_a 0 := hp11 10 rfl rfl
            refine gy rfl rfl s10 b4 (nc rfl s11 ?_)
            exact ⟨_, rfl, Ext.refl _, rfl⟩
           refine dc (fun f12 w36 hf12 xt36 hp12 => ?_) ?_
           ·
            have s12 : f12 88 = .bool (!(([rd_, wa_, wb_] : List Int).any (outO fi))) := hp12 9 rfl rfl
            have s13 : f12 90 = pV b_a 0 := hp12 11 rfl rfl
            refine gy rfl rfl s12 b4 (fa fl54_0 rfl s13 ?_)
            exact ⟨_, rfl, Ext.refl _, rfl⟩
           refine dc (fun f13 w37 hf13 xt37 hp13 => ?_) ?_
           ·
            have s14 : f13 88 = .bool (!(([rd_, wa_, wb_] : List Int).any (outO fi))) := hp13 9 rfl rfl
            have s15 : f13 91 = pV b_a 0 := hp13 12 rfl rfl
            refine gy rfl rfl s14 b4 (fa fl30_2 rfl s15 ?_)
            exact ⟨_, rfl, Ext.refl _, rfl⟩
           refine dc (fun f14 w38 hf14 xt38 hp14 => ?_) ?_
           ·
            have H51 := H5.ext xt38
            have s16 : f14 88 = .bool (!(([rd_, wa_, wb_] : List Int).any (outO fi))) := hp14 9 rfl rfl
            have s17 : f14 92 = pV b_a 2 := hp14 13 rfl rfl
            refine gy rfl rfl s16 b4 (ldR H51 1 rfl ty28 rfl s17 (by decide) rfl ?_)
            exact ⟨_, rfl, Ext.refl _, rfl⟩
           refine dc (fun f15 w39 hf15 xt39 hp15 => ?_) ?_
           ·
            have s18 : f15 88 = .bool (!(([rd_, wa_, wb_] : List Int).any (outO fi))) := hp15 9 rfl rfl
            refine gy rfl rfl s18 b4 (fa fl43_1 rfl (hf15 3 rfl) ?_)
            exact ⟨_, rfl, Ext.refl _, rfl⟩
           refine dc (fun f16 w40 hf16 xt40 hp16 => ?_) ?_
           ·
            have H53 := H5.ext xt40
            have s19 : f16 88 = .bool (!(([rd_, wa_, wb_] : List Int).any (outO fi))) := hp16 9 rfl rfl
            have s20 : f16 94 = pV bb0 1 := hp16 15 rfl rfl
            refine gy rfl rfl s19 b4 (ldX H53 0 rfl ty3 rfl s20 (by decide) rfl ?_)
            exact ⟨_, rfl, Ext.refl _, rfl⟩
           refine ⟨fun _ => ⟨fun f17 w41 hf17 xt41 hp17 => ?_, by rintro _ _ _ x_ ⟨ad4, e_, hA4⟩; exact ⟨ad4, e_, hA4.lift (Up.ext x_)⟩⟩, ?_⟩
           ·
            have H54 := H5.ext xt41
            have s21 : f17 88 = .bool (!(([rd_, wa_, wb_] : List Int).any (outO fi))) := hp17 9 rfl rfl
            have s22 : f17 93 = .slice a_fo fo.length c_fo := hp17 14 rfl rfl
            have s23 : f17 95 = iV rd_ := hp17 16 rfl rfl
            refine gy rfl rfl s21 b4 (ia (H54.rv 4 rfl) rfl rfl s22 s23 (by first | omega | (have h_ := op1_rng (fi := fi) (sb := rd_) (by assumption); omega) | (have h_ := op3_rng (fi := fi) (fr := rd_) (to := wa_) (sb := wb_) (by assumption); omega)) un28 ty3 ?_)
            intro ad5 x5 hx5 hA5
            obtain rfl : x0 = x5 := Option.some.inj (hx0.symm.trans hx5)
            exact ⟨_, rfl, Ext.refl _, ⟨ad5, rfl, hA5⟩⟩
           refine dc (fun f18 w42 hf18 xt42 hp18 => ?_) ?_
           ·
            have H55 := H5.ext xt42
            have s24 : f18 88 = .bool (!(([rd_, wa_, wb_] : List Int).any (outO fi))) := hp18 9 rfl rfl
            obtain ⟨ad6, s25, hA6⟩ : ∃ (ad6 : Addr), f18 96 = .pointer (some ad6) ∧ At (MS M [box bb0 #[iV kd, iV rd_, iV wa_, iV wb_, iV op_, .slice a_sl_ n_sl_ c_sl_, iV fs_, iV sn_] 43, ro b_a #[.slice a_fv n_fv c_fv, .slice a_fi fi.length c_fi, .slice a_fo fo.length c_fo, .slice a_stp stp.length c_stp, .slice a_pl pl.length c_pl] ty_a, imm (.slice a_pl pl.length c_pl) pl, imm (.slice a_stp stp.length c_stp) stp, imm (.slice a_fo fo.length c_fo) fo, imm (.slice a_fi fi.length c_fi) fi]) w42 ad6 x0 := hp18 17 rfl rfl
            have H56 := H55.put (it := atI ad6 x0) rfl hA6
            refine gy rfl rfl s24 b4 (ldI (H56.atv 0 rfl).w ty3 rfl s25 ?_)
            intro rv12
            exact ⟨_, rfl, Ext.refl _, ⟨rfl, rv12⟩⟩
           refine dc (fun f19 w43 hf19 xt43 hp19 => ?_) ?_
           ·
            have s26 : f19 88 = .bool (!(([rd_, wa_, wb_] : List Int).any (outO fi))) := hp19 9 rfl rfl
            refine gy rfl rfl s26 b4 (fa fl43_2 rfl (hf19 3 rfl) ?_)
            exact ⟨_, rfl, Ext.refl _, rfl⟩
           refine dc (fun f20 w44 hf20 xt44 hp20 => ?_) ?_
           ·
            have H58 := H5.ext xt44
            have s27 : f20 88 = .bool (!(([rd_, wa_, wb_] : List Int).any (outO fi))) := hp20 9 rfl rfl
            have s28 : f20 98 = pV bb0 2 := hp20 19 rfl rfl
            refine gy rfl rfl s27 b4 (ldX H58 0 rfl ty3 rfl s28 (by decide) rfl ?_)
            exact ⟨_, rfl, Ext.refl _, rfl⟩
           refine dc (fun f21 w45 hf21 xt45 hp21 => ?_) ?_
           ·
            have s29 : f21 88 = .bool (!(([rd_, wa_, wb_] : List Int).any (outO fi))) := hp21 9 rfl rfl
            obtain ⟨s30, rv13⟩ : f21 97 = iV x0 ∧ I64 (x0) := hp21 18 rfl rfl
            have s31 : f21 99 = iV wa_ := hp21 20 rfl rfl
            refine gy rfl rfl s29 b4 (eql rfl rfl s30 s31 ?_)
            exact ⟨_, rfl, Ext.refl _, rfl⟩
           refine dc (fun _ _ _ _ hp22 => pickT rfl rfl rfl (hp22 9 rfl rfl) b4 (hp22 21 rfl rfl) (d0 rfl rfl)) ?_
           refine dc (fun _ _ _ _ hp23 => mv rfl (hp23 22 rfl rfl) (d0 rfl rfl)) ?_
           refine dc (fun f24 w48 hf24 xt48 hp24 => ?_) ?_
           ·
            have s35 : f24 102 = .bool (decide (x0 = wa_)) := hp24 23 rfl rfl
            refine gy rfl rfl s35 b5 (mv rfl ((hf24 0 rfl).trans i0) ?_)
            exact ⟨_, rfl, Ext.refl _, rfl⟩
           refine dc (fun f25 w49 hf25 xt49 hp25 => ?_) ?_
           ·
            have s36 : f25 102 = .bool (decide (x0 = wa_)) := hp25 23 rfl rfl
            refine gy rfl rfl s36 b5 (fa fl43_2 rfl (hf25 3 rfl) ?_)
            exact ⟨_, rfl, Ext.refl _, rfl⟩
           refine dc (fun f26 w50 hf26 xt50 hp26 => ?_) ?_
           ·
            have H64 := H5.ext xt50
            have s37 : f26 102 = .bool (decide (x0 = wa_)) := hp26 23 rfl rfl
            have s38 : f26 104 = pV bb0 2 := hp26 25 rfl rfl
            refine gy rfl rfl s37 b5 (ldX H64 0 rfl ty3 rfl s38 (by decide) rfl ?_)
            exact ⟨_, rfl, Ext.refl _, rfl⟩
           refine dc (fun f27 w51 hf27 xt51 hp27 => ?_) ?_
           ·
            have s39 : f27 102 = .bool (decide (x0 = wa_)) := hp27 23 rfl rfl
            refine gy rfl rfl s39 b5 (fa fl43_3 rfl (hf27 3 rfl) ?_)
            exact ⟨_, rfl, Ext.refl _, rfl⟩
           refine dc (fun f28 w52 hf28 xt52 hp28 => ?_) ?_
           ·
            have H66 := H5.ext xt52
            have s40 : f28 102 = .bool (decide (x0 = wa_)) := hp28 23 rfl rfl
            have s41 : f28 106 = pV bb0 3 := hp28 27 rfl rfl
            refine gy rfl rfl s40 b5 (ldX H66 0 rfl ty3 rfl s41 (by decide) rfl ?_)
            exact ⟨_, rfl, Ext.refl _, rfl⟩
           refine dc (fun f29 w53 hf29 xt53 hp29 => ?_) ?_
           ·
            have H67 := H5.ext xt53
            have s42 : f29 102 = .bool (decide (x0 = wa_)) := hp29 23 rfl rfl
            have s43 : f29 103 = pV b_a 0 := hp29 24 rfl rfl
            have s44 : f29 105 = iV wa_ := hp29 26 rfl rfl
            have s45 : f29 107 = iV wb_ := hp29 28 rfl rfl
            refine gy rfl rfl s42 b5 ?_
            have cc16 := aud_other (fi := fi) (n1 := wa_) (n2 := wb_) (a_fv := a_fv) (n_fv := n_fv) (c_fv := c_fv) (a_fo := a_fo) (n_fo := fo.length) (c_fo := c_fo) (a_stp := a_stp) (n_stp := stp.length) (c_stp := c_stp) (a_pl := a_pl) (n_pl := pl.length) (c_pl := c_pl) (w := w53) H67.mb (H67.rv 5 rfl) (by first | assumption | (unfold I64 at *; omega)) (by first | assumption | (unfold I64 at *; omega)) (H67.at_ 1 rfl) (by first | omega | (have h_ := op1_rng (fi := fi) (sb := rd_) (by assumption); omega) | (have h_ := op3_rng (fi := fi) (fr := rd_) (to := wa_) (sb := wb_) (by assumption); omega)) (by first | omega | (have h_ := op1_rng (fi := fi) (sb := rd_) (by assumption); omega) | (have h_ := op3_rng (fi := fi) (fr := rd_) (to := wa_) (sb := wb_) (by assumption); omega))
            refine ca go32 rfl (ec s43 (ec s44 (ec s45 e0))) cc16 ?_
            rintro _ w54 ⟨rfl, xt54⟩
            exact ⟨_, rfl, xt54, rfl⟩
           refine dc (fun _ _ _ _ hp30 => pickT rfl rfl rfl (hp30 23 rfl rfl) b5 (hp30 29 rfl rfl) (d0 rfl rfl)) ?_
           refine dc (fun _ _ _ _ hp31 => mv rfl (hp31 30 rfl rfl) (d0 rfl rfl)) ?_
           refine dc (fun f32 w57 hf32 xt57 hp32 => ?_) ?_
           ·
            have s49 : f32 110 = .bool (otherO fi wa_ wb_) := hp32 31 rfl rfl
            refine gy rfl rfl s49 b6 (mv rfl ((hf32 0 rfl).trans i0) ?_)
            exact ⟨_, rfl, Ext.refl _, rfl⟩
           refine dc (fun f33 w58 hf33 xt58 hp33 => ?_) ?_
           ·
            have H72 := H5.ext xt58
            have s50 : f33 110 = .bool (otherO fi wa_ wb_) := hp33 31 rfl rfl
            have s51 : f33 111 = pV b_a 0 := hp33 32 rfl rfl
            refine gy rfl rfl s50 b6 ?_
            have cc17 := aud_bare (pl := pl) (a_fv := a_fv) (n_fv := n_fv) (c_fv := c_fv) (a_fi := a_fi) (n_fi := fi.length) (c_fi := c_fi) (a_fo := a_fo) (n_fo := fo.length) (c_fo := c_fo) (a_stp := a_stp) (n_stp := stp.length) (c_stp := c_stp) (w := w58) H72.mb (H72.rv 2 rfl) (H72.at_ 1 rfl)
            refine ca go29 rfl (ec s51 e0) cc17 ?_
            rintro _ w59 ⟨rfl, xt59⟩
            exact ⟨_, rfl, xt59, rfl⟩
           refine dc (fun _ _ _ _ hp34 => pickT rfl rfl rfl (hp34 31 rfl rfl) b6 (hp34 33 rfl rfl) (d0 rfl rfl)) ?_
           refine dc (fun _ _ _ _ hp35 => mv rfl (hp35 34 rfl rfl) (d0 rfl rfl)) ?_
           refine dc (fun f36 w62 hf36 xt62 hp36 => ?_) ?_
           ·
            have s55 : f36 114 = .bool (!(pl.any (fun z_ => false == z_))) := hp36 35 rfl rfl
            refine gy rfl rfl s55 b7 (mv rfl ((hf36 0 rfl).trans i0) ?_)
            exact ⟨_, rfl, Ext.refl _, rfl⟩
           refine dc (fun f37 w63 hf37 xt63 hp37 => ?_) ?_
           ·
            have s56 : f37 114 = .bool (!(pl.any (fun z_ => false == z_))) := hp37 35 rfl rfl
            refine gy rfl rfl s56 b7 (fa fl43_6 rfl (hf37 3 rfl) ?_)
            exact ⟨_, rfl, Ext.refl _, rfl⟩
           refine dc (fun f38 w64 hf38 xt64 hp38 => ?_) ?_
           ·
            have H78 := H5.ext xt64
            have s57 : f38 114 = .bool (!(pl.any (fun z_ => false == z_))) := hp38 35 rfl rfl
            have s58 : f38 116 = pV bb0 6 := hp38 37 rfl rfl
            refine gy rfl rfl s57 b7 (ldX H78 0 rfl ty3 rfl s58 (by decide) rfl ?_)
            exact ⟨_, rfl, Ext.refl _, rfl⟩
           refine dc (fun f39 w65 hf39 xt65 hp39 => ?_) ?_
           ·
            have s59 : f39 114 = .bool (!(pl.any (fun z_ => false == z_))) := hp39 35 rfl rfl
            refine gy rfl rfl s59 b7 (fa fl43_2 rfl (hf39 3 rfl) ?_)
            exact ⟨_, rfl, Ext.refl _, rfl⟩
           refine dc (fun f40 w66 hf40 xt66 hp40 => ?_) ?_
           ·
            have H80 := H5.ext xt66
            have s60 : f40 114 = .bool (!(pl.any (fun z_ => false == z_))) := hp40 35 rfl rfl
            have s61 : f40 118 = pV bb0 2 := hp40 39 rfl rfl
            refine gy rfl rfl s60 b7 (ldX H80 0 rfl ty3 rfl s61 (by decide) rfl ?_)
            exact ⟨_, rfl, Ext.refl _, rfl⟩
           refine dc (fun f41 w67 hf41 xt67 hp41 => ?_) ?_
           ·
            have s62 : f41 114 = .bool (!(pl.any (fun z_ => false == z_))) := hp41 35 rfl rfl
            refine gy rfl rfl s62 b7 (fa fl43_3 rfl (hf41 3 rfl) ?_)
            exact ⟨_, rfl, Ext.refl _, rfl⟩
           refine dc (fun f42 w68 hf42 xt68 hp42 => ?_) ?_
           ·
            have H82 := H5.ext xt68
            have s63 : f42 114 = .bool (!(pl.any (fun z_ => false == z_))) := hp42 35 rfl rfl
            have s64 : f42 120 = pV bb0 3 := hp42 41 rfl rfl
            refine gy rfl rfl s63 b7 (ldX H82 0 rfl ty3 rfl s64 (by decide) rfl ?_)
            exact ⟨_, rfl, Ext.refl _, rfl⟩
           refine dc (fun f43 w69 hf43 xt69 hp43 => ?_) ?_
           ·
            have H83 := H5.ext xt69
            have s65 : f43 114 = .bool (!(pl.any (fun z_ => false == z_))) := hp43 35 rfl rfl
            have s66 : f43 115 = pV b_a 0 := hp43 36 rfl rfl
            have s67 : f43 117 = iV fs_ := hp43 38 rfl rfl
            have s68 : f43 119 = iV wa_ := hp43 40 rfl rfl
            have s69 : f43 121 = iV wb_ := hp43 42 rfl rfl
            refine gy rfl rfl s65 b7 ?_
            have cc18 := aud_says (stp := stp) (n1 := fs_) (n2 := wa_) (n3 := wb_) (a_fv := a_fv) (n_fv := n_fv) (c_fv := c_fv) (a_fi := a_fi) (n_fi := fi.length) (c_fi := c_fi) (a_fo := a_fo) (n_fo := fo.length) (c_fo := c_fo) (a_pl := a_pl) (n_pl := pl.length) (c_pl := c_pl) (w := w69) H83.mb (H83.rv 3 rfl) (by first | assumption | (unfold I64 at *; omega)) (by first | assumption | (unfold I64 at *; omega)) (by first | assumption | (unfold I64 at *; omega)) (H83.at_ 1 rfl)
            refine ca go30 rfl (ec s66 (ec s67 (ec s68 (ec s69 e0)))) cc18 ?_
            rintro _ w70 ⟨rfl, xt70⟩
            exact ⟨_, rfl, xt70, rfl⟩
           refine dc (fun _ _ _ _ hp44 => pickT rfl rfl rfl (hp44 35 rfl rfl) b7 (hp44 43 rfl rfl) (d0 rfl rfl)) ?_
           refine dc (fun _ _ _ _ hp45 => mv rfl (hp45 44 rfl rfl) (d0 rfl rfl)) ?_
           refine dc (fun f46 w73 hf46 xt73 hp46 => ?_) ?_
           ·
            have s73 : f46 124 = .bool (saysO stp fs_ wa_ wb_) := hp46 45 rfl rfl
            refine gy rfl rfl s73 b8 (mv rfl ((hf46 0 rfl).trans i0) ?_)
            exact ⟨_, rfl, Ext.refl _, rfl⟩
           refine dc (fun f47 w74 hf47 xt74 hp47 => ?_) ?_
           ·
            have s74 : f47 124 = .bool (saysO stp fs_ wa_ wb_) := hp47 45 rfl rfl
            refine gy rfl rfl s74 b8 (fa fl43_7 rfl (hf47 3 rfl) ?_)
            exact ⟨_, rfl, Ext.refl _, rfl⟩
           refine dc (fun f48 w75 hf48 xt75 hp48 => ?_) ?_
           ·
            have H89 := H5.ext xt75
            have s75 : f48 124 = .bool (saysO stp fs_ wa_ wb_) := hp48 45 rfl rfl
            have s76 : f48 126 = pV bb0 7 := hp48 47 rfl rfl
            refine gy rfl rfl s75 b8 (ldX H89 0 rfl ty3 rfl s76 (by decide) rfl ?_)
            exact ⟨_, rfl, Ext.refl _, rfl⟩
           refine dc (fun f49 w76 hf49 xt76 hp49 => ?_) ?_
           ·
            have s77 : f49 124 = .bool (saysO stp fs_ wa_ wb_) := hp49 45 rfl rfl
            refine gy rfl rfl s77 b8 (fa fl43_3 rfl (hf49 3 rfl) ?_)
            exact ⟨_, rfl, Ext.refl _, rfl⟩
           refine dc (fun f50 w77 hf50 xt77 hp50 => ?_) ?_
           ·
            have H91 := H5.ext xt77
            have s78 : f50 124 = .bool (saysO stp fs_ wa_ wb_) := hp50 45 rfl rfl
            have s79 : f50 128 = pV bb0 3 := hp50 49 rfl rfl
            refine gy rfl rfl s78 b8 (ldX H91 0 rfl ty3 rfl s79 (by decide) rfl ?_)
            exact ⟨_, rfl, Ext.refl _, rfl⟩
           refine dc (fun f51 w78 hf51 xt78 hp51 => ?_) ?_
           ·
            have s80 : f51 124 = .bool (saysO stp fs_ wa_ wb_) := hp51 45 rfl rfl
            refine gy rfl rfl s80 b8 (fa fl43_1 rfl (hf51 3 rfl) ?_)
            exact ⟨_, rfl, Ext.refl _, rfl⟩
           refine dc (fun f52 w79 hf52 xt79 hp52 => ?_) ?_
           ·
            have H93 := H5.ext xt79
            have s81 : f52 124 = .bool (saysO stp fs_ wa_ wb_) := hp52 45 rfl rfl
            have s82 : f52 130 = pV bb0 1 := hp52 51 rfl rfl
            refine gy rfl rfl s81 b8 (ldX H93 0 rfl ty3 rfl s82 (by decide) rfl ?_)
            exact ⟨_, rfl, Ext.refl _, rfl⟩
           exact DSteps.rest rfl _
          ·
           intro f53 w80 hf53 xt80 hp53
           have H94 := H5.ext xt80
           have s83 : f53 124 = .bool (saysO stp fs_ wa_ wb_) := hp53 45 rfl
           have s84 : f53 125 = pV b_a 0 := hp53 46 rfl
           have s85 : f53 127 = iV sn_ := hp53 48 rfl
           have s86 : f53 129 = iV wb_ := hp53 50 rfl
           have s87 : f53 131 = iV rd_ := hp53 52 rfl
           refine k (gy rfl rfl s83 b8 ?_)
           have cc19 := aud_says (stp := stp) (n1 := sn_) (n2 := wb_) (n3 := rd_) (a_fv := a_fv) (n_fv := n_fv) (c_fv := c_fv) (a_fi := a_fi) (n_fi := fi.length) (c_fi := c_fi) (a_fo := a_fo) (n_fo := fo.length) (c_fo := c_fo) (a_pl := a_pl) (n_pl := pl.length) (c_pl := c_pl) (w := w80) H94.mb (H94.rv 3 rfl) (by first | assumption | (unfold I64 at *; omega)) (by first | assumption | (unfold I64 at *; omega)) (by first | assumption | (unfold I64 at *; omega)) (H94.at_ 1 rfl)
           refine ca go30 rfl (ec s84 (ec s85 (ec s86 (ec s87 e0)))) cc19 ?_
           rintro _ w81 ⟨rfl, xt81⟩
           have H95 := H94.ext xt81
           refine k (pickT rfl rfl rfl s83 b8 rfl (k (asg (v := .bool (saysO stp sn_ wb_ rd_)) rfl rfl (z (nx (rt (inb_ret (then_ret (r1 rfl rfl ?_)))))))))
           have e0 : (saysO stp sn_ wb_ rd_ : Bool) = patO fi fo stp pl kd rd_ wa_ wb_ op_ fs_ sn_ := by simp only [patO, hasI, keptO, List.getD_eq_getElem?_getD, hx0, Option.getD_some, Option.map_some, b0, b1, b2, b3, b4, (nott b4), b5, b6, b7, (nott b7), b8, BL, cond_true, cond_false]
           have ev_ := cg1 (fun (x_0 : Bool) => (.bool x_0 : Value)) e0
           exact ⟨ev_, H95.below⟩
         · -- saysO stp fs_ wa_ wb_ is False
          refine dr 53 [eV (pV b_a 0), eV (pV bb0 1), eV (iV rd_), eV (pV bb0 2), eV (iV wa_), eV (pV bb0 3), eV (iV wb_), fun (v : Value) (w' : World) => ∃ (a5 : Option Addr) (c5 : Nat), v = .slice a5 ([rd_, wa_, wb_] : List Int).length c5 ∧ RV (MS M [box bb0 #[iV kd, iV rd_, iV wa_, iV wb_, iV op_, .slice a_sl_ n_sl_ c_sl_, iV fs_, iV sn_] 43, ro b_a #[.slice a_fv n_fv c_fv, .slice a_fi fi.length c_fi, .slice a_fo fo.length c_fo, .slice a_stp stp.length c_stp, .slice a_pl pl.length c_pl] ty_a, imm (.slice a_pl pl.length c_pl) pl, imm (.slice a_stp stp.length c_stp) stp, imm (.slice a_fo fo.length c_fo) fo, imm (.slice a_fi fi.length c_fi) fi]) w' (.slice a5 ([rd_, wa_, wb_] : List Int).length c5) ([rd_, wa_, wb_] : List Int), eV (.bool (!(([rd_, wa_, wb_] : List Int).any (outO fi)))), eV (.bool (!(([rd_, wa_, wb_] : List Int).any (outO fi)))), eV (pV b_a 0), eV (pV b_a 0), eV (pV b_a 0), eV (pV b_a 2), eV (.slice a_fo fo.length c_fo), eV (pV bb0 1), eV (iV rd_), fun (v : Value) (w' : World) => ∃ (ad4 : Addr), v = .pointer (some ad4) ∧ At (MS M [box bb0 #[iV kd, iV rd_, iV wa_, iV wb_, iV op_, .slice a_sl_ n_sl_ c_sl_, iV fs_, iV sn_] 43, ro b_a #[.slice a_fv n_fv c_fv, .slice a_fi fi.length c_fi, .slice a_fo fo.length c_fo, .slice a_stp stp.length c_stp, .slice a_pl pl.length c_pl] ty_a, imm (.slice a_pl pl.length c_pl) pl, imm (.slice a_stp stp.length c_stp) stp, imm (.slice a_fo fo.length c_fo) fo, imm (.slice a_fi fi.length c_fi) fi]) w' ad4 x0, fun (v : Value) (w' : World) => v = iV x0 ∧ I64 (x0), eV (pV bb0 2), eV (iV wa_), eV (.bool (decide (x0 = wa_))), eV (.bool (decide (x0 = wa_))), eV (.bool (decide (x0 = wa_))), eV (pV b_a 0), eV (pV bb0 2), eV (iV wa_), eV (pV bb0 3), eV (iV wb_), eV (.bool (otherO fi wa_ wb_)), eV (.bool (otherO fi wa_ wb_)), eV (.bool (otherO fi wa_ wb_)), eV (pV b_a 0), eV (.bool (!(pl.any (fun z_ => false == z_)))), eV (.bool (!(pl.any (fun z_ => false == z_)))), eV (.bool (!(pl.any (fun z_ => false == z_)))), eV (pV b_a 0), eV (pV bb0 6), eV (iV fs_), eV (pV bb0 2), eV (iV wa_), eV (pV bb0 3), eV (iV wb_), eV (.bool (saysO stp fs_ wa_ wb_)), eV (.bool (saysO stp fs_ wa_ wb_)), eV (.bool (saysO stp fs_ wa_ wb_)), eV undef, eV undef, eV undef, eV undef, eV undef, eV undef, eV undef] rfl (by kernel_rfl) ?_ ?_
          ·
           refine dc (fun _ _ hf0 _ _ => mv rfl ((hf0 0 rfl).trans i0) (d0 rfl rfl)) ?_
           refine dc (fun _ _ hf1 _ _ => fa fl43_1 rfl (hf1 3 rfl) (d0 rfl rfl)) ?_
           refine dc (fun _ _ _ xt24 hp2 => ldX (H5.ext xt24) 0 rfl ty3 rfl (hp2 1 rfl rfl) (by decide) rfl (d0 rfl rfl)) ?_
           refine dc (fun _ _ hf3 _ _ => fa fl43_2 rfl (hf3 3 rfl) (d0 rfl rfl)) ?_
           refine dc (fun _ _ _ xt26 hp4 => ldX (H5.ext xt26) 0 rfl ty3 rfl (hp4 3 rfl rfl) (by decide) rfl (d0 rfl rfl)) ?_
           refine dc (fun _ _ hf5 _ _ => fa fl43_3 rfl (hf5 3 rfl) (d0 rfl rfl)) ?_
           refine dc (fun _ _ _ xt28 hp6 => ldX (H5.ext xt28) 0 rfl ty3 rfl (hp6 5 rfl rfl) (by decide) rfl (d0 rfl rfl)) ?_
           refine ⟨fun _ => ⟨fun f7 w29 hf7 xt29 hp7 => ?_, by rintro _ _ _ x_ ⟨a5, c5, e_, rv9⟩; exact ⟨a5, c5, e_, rv9.lift (Up.ext x_)⟩⟩, ?_⟩
           ·
            have H40 := H5.ext xt29
            have s3 : f7 81 = iV rd_ := hp7 2 rfl rfl
            have s4 : f7 83 = iV wa_ := hp7 4 rfl rfl
            have s5 : f7 85 = iV wb_ := hp7 6 rfl rfl
            refine bs (xs := ([rd_, wa_, wb_] : List Int)) (cells := #[iV rd_, iV wa_, iV wb_]) (e := 3) H40 rfl (pbc s3 (pbc s4 (pbc s5 pb0))) (fun _ => by kernel_rfl) ⟨[iV rd_], [iV wa_, iV wb_], rfl, ⟨rfl, (show I64 (rd_) from (by first | assumption | (unfold I64 at *; omega)))⟩, ⟨[iV wa_], [iV wb_], rfl, ⟨rfl, (show I64 (wa_) from (by first | assumption | (unfold I64 at *; omega)))⟩, ⟨[iV wb_], [], rfl, ⟨rfl, (show I64 (wb_) from (by first | assumption | (unfold I64 at *; omega)))⟩, rfl⟩⟩⟩ rfl (by unfold maxLen; omega) ?_
            intro g6 w30 xt30 (H41 : HI M w w30 [own w.heap.size 3 (.slice (some ⟨g6, 0, none⟩) 3 3) ([rd_, wa_, wb_] : List Int), box bb0 #[iV kd, iV rd_, iV wa_, iV wb_, iV op_, .slice a_sl_ n_sl_ c_sl_, iV fs_, iV sn_] 43, ro b_a #[.slice a_fv n_fv c_fv, .slice a_fi fi.length c_fi, .slice a_fo fo.length c_fo, .slice a_stp stp.length c_stp, .slice a_pl pl.length c_pl] ty_a, imm (.slice a_pl pl.length c_pl) pl, imm (.slice a_stp stp.length c_stp) stp, imm (.slice a_fo fo.length c_fo) fo, imm (.slice a_fi fi.length c_fi) fi])
            have H42 := H41.freeze 0 rfl
            exact ⟨_, rfl, xt30, ⟨(some ⟨g6, 0, none⟩), 3, rfl, (rv_drop rfl (H42.rv 0 rfl))⟩⟩
           refine dc (fun f8 w31 hf8 xt31 hp8 => ?_) ?_
           ·
            have H43 := H5.ext xt31
            have s6 : f8 79 = pV b_a 0 := hp8 0 rfl rfl
            obtain ⟨a6, c6, s7, rv11⟩ : ∃ (a6 : Option Addr) (c6 : Nat), f8 86 = .slice a6 ([rd_, wa_, wb_] : List Int).length c6 ∧ RV (MS M [box bb0 #[iV kd, iV rd_, iV wa_, iV wb_, iV op_, .slice a_sl_ n_sl_ c_sl_, iV fs_, iV sn_] 43, ro b_a #[.slice a_fv n_fv c_fv, .slice a_fi fi.length c_fi, .slice a_fo fo.length c_fo, .slice a_stp stp.length c_stp, .slice a_pl pl.length c_pl] ty_a, imm (.slice a_pl pl.length c_pl) pl, imm (.slice a_stp stp.length c_stp) stp, imm (.slice a_fo fo.length c_fo) fo, imm (.slice a_fi fi.length c_fi) fi]) w31 (.slice a6 ([rd_, wa_, wb_] : List Int).length c6) ([rd_, wa_, wb_] : List Int) := hp8 7 rfl rfl
            have H44 := H43.put (it := imm (.slice a6 ([rd_, wa_, wb_] : List Int).length c6) ([rd_, wa_, wb_] : List Int)) rfl rv11
            have cc15 := aud_op (fi := fi) (l := ([rd_, wa_, wb_] : List Int)) (a_fv := a_fv) (n_fv := n_fv) (c_fv := c_fv) (a_fo := a_fo) (n_fo := fo.length) (c_fo := c_fo) (a_stp := a_stp) (n_stp := stp.length) (c_stp := c_stp) (a_pl := a_pl) (n_pl := pl.length) (c_pl := c_pl) (w := w31) H44.mb (H44.rv 6 rfl) (H44.rv 0 rfl) (H44.at_ 2 rfl)
            refine ca go28 rfl (ec s6 (ec s7 e0)) cc15 ?_
            rintro _ w32 ⟨rfl, xt32⟩
            exact ⟨_, rfl, xt32, rfl⟩
           refine dc (fun _ _ _ _ hp9 => mv rfl (hp9 8 rfl rfl) (d0 rfl rfl)) ?_
           refine dc (fun f10 w34 hf10 xt34 hp10 => ?_) ?_
           ·
            have s9 : f10 88 = .bool (!(([rd_, wa_, wb_] : List Int).any (outO fi))) := hp10 9 rfl rfl
            refine gy rfl rfl s9 b4 (mv rfl ((hf10 0 rfl).trans i0) ?_)
            exact ⟨_, rfl, Ext.refl _, rfl⟩
           refine dc (fun f11 w35 hf11 xt35 hp11 => ?_) ?_
           ·
            have s10 : f11 88 = .bool (!(([rd_, wa_, wb_] : List Int).any (outO fi))) := hp11 9 rfl rfl
            have s11 : f11 89 = pV b_a 0 := hp11 10 rfl rfl
            refine gy rfl rfl s10 b4 (nc rfl s11 ?_)
            exact ⟨_, rfl, Ext.refl _, rfl⟩
           refine dc (fun f12 w36 hf12 xt36 hp12 => ?_) ?_
           ·
            have s12 : f12 88 = .bool (!(([rd_, wa_, wb_] : List Int).any (outO fi))) := hp12 9 rfl rfl
            have s13 : f12 90 = pV b_a 0 := hp12 11 rfl rfl
            refine gy rfl rfl s12 b4 (fa fl54_0 rfl s13 ?_)
            exact ⟨_, rfl, Ext.refl _, rfl⟩
           refine dc (fun f13 w37 hf13 xt37 hp13 => ?_) ?_
           ·
            have s14 : f13 88 = .bool (!(([rd_, wa_, wb_] : List Int).any (outO fi))) := hp13 9 rfl rfl
            have s15 : f13 91 = pV b_a 0 := hp13 12 rfl rfl
            refine gy rfl rfl s14 b4 (fa fl30_2 rfl s15 ?_)
            exact ⟨_, rfl, Ext.refl _, rfl⟩
           refine dc (fun f14 w38 hf14 xt38 hp14 => ?_) ?_
           ·
            have H51 := H5.ext xt38
            have s16 : f14 88 = .bool (!(([rd_, wa_, wb_] : List Int).any (outO fi))) := hp14 9 rfl rfl
            have s17 : f14 92 = pV b_a 2 := hp14 13 rfl rfl
            refine gy rfl rfl s16 b4 (ldR H51 1 rfl ty28 rfl s17 (by decide) rfl ?_)
            exact ⟨_, rfl, Ext.refl _, rfl⟩
           refine dc (fun f15 w39 hf15 xt39 hp15 => ?_) ?_
           ·
            have s18 : f15 88 = .bool (!(([rd_, wa_, wb_] : List Int).any (outO fi))) := hp15 9 rfl rfl
            refine gy rfl rfl s18 b4 (fa fl43_1 rfl (hf15 3 rfl) ?_)
            exact ⟨_, rfl, Ext.refl _, rfl⟩
           refine dc (fun f16 w40 hf16 xt40 hp16 => ?_) ?_
           ·
            have H53 := H5.ext xt40
            have s19 : f16 88 = .bool (!(([rd_, wa_, wb_] : List Int).any (outO fi))) := hp16 9 rfl rfl
            have s20 : f16 94 = pV bb0 1 := hp16 15 rfl rfl
            refine gy rfl rfl s19 b4 (ldX H53 0 rfl ty3 rfl s20 (by decide) rfl ?_)
            exact ⟨_, rfl, Ext.refl _, rfl⟩
           refine ⟨fun _ => ⟨fun f17 w41 hf17 xt41 hp17 => ?_, by rintro _ _ _ x_ ⟨ad4, e_, hA4⟩; exact ⟨ad4, e_, hA4.lift (Up.ext x_)⟩⟩, ?_⟩
           ·
            have H54 := H5.ext xt41
            have s21 : f17 88 = .bool (!(([rd_, wa_, wb_] : List Int).any (outO fi))) := hp17 9 rfl rfl
            have s22 : f17 93 = .slice a_fo fo.length c_fo := hp17 14 rfl rfl
            have s23 : f17 95 = iV rd_ := hp17 16 rfl rfl
            refine gy rfl rfl s21 b4 (ia (H54.rv 4 rfl) rfl rfl s22 s23 (by first | omega | (have h_ := op1_rng (fi := fi) (sb := rd_) (by assumption); omega) | (have h_ := op3_rng (fi := fi) (fr := rd_) (to := wa_) (sb := wb_) (by assumption); omega)) un28 ty3 ?_)
            intro ad5 x5 hx5 hA5
            obtain rfl : x0 = x5 := Option.some.inj (hx0.symm.trans hx5)
            exact ⟨_, rfl, Ext.refl _, ⟨ad5, rfl, hA5⟩⟩
           refine dc (fun f18 w42 hf18 xt42 hp18 => ?_) ?_
           ·
            have H55 := H5.ext xt42
            have s24 : f18 88 = .bool (!(([rd_, wa_, wb_] : List Int).any (outO fi))) := hp18 9 rfl rfl
            obtain ⟨ad6, s25, hA6⟩ : ∃ (ad6 : Addr), f18 96 = .pointer (some ad6) ∧ At (MS M [box bb0 #[iV kd, iV rd_, iV wa_, iV wb_, iV op_, .slice a_sl_ n_sl_ c_sl_, iV fs_, iV sn_] 43, ro b_a #[.slice a_fv n_fv c_fv, .slice a_fi fi.length c_fi, .slice a_fo fo.length c_fo, .slice a_stp stp.length c_stp, .slice a_pl pl.length c_pl] ty_a, imm (.slice a_pl pl.length c_pl) pl, imm (.slice a_stp stp.length c_stp) stp, imm (.slice a_fo fo.length c_fo) fo, imm (.slice a_fi fi.length c_fi) fi]) w42 ad6 x0 := hp18 17 rfl rfl
            have H56 := H55.put (it := atI ad6 x0) rfl hA6
            refine gy rfl rfl s24 b4 (ldI (H56.atv 0 rfl).w ty3 rfl s25 ?_)
            intro rv12
            exact ⟨_, rfl, Ext.refl _, ⟨rfl, rv12⟩⟩
           refine dc (fun f19 w43 hf19 xt43 hp19 => ?_) ?_
           ·
            have s26 : f19 88 = .bool (!(([rd_, wa_, wb_] : List Int).any (outO fi))) := hp19 9 rfl rfl
            refine gy rfl rfl s26 b4 (fa fl43_2 rfl (hf19 3 rfl) ?_)
            exact ⟨_, rfl, Ext.refl _, rfl⟩
           refine dc (fun f20 w44 hf20 xt44 hp20 => ?_) ?_
           ·
            have H58 := H5.ext xt44
            have s27 : f20 88 = .bool (!(([rd_, wa_, wb_] : List Int).any (outO fi))) := hp20 9 rfl rfl
            have s28 : f20 98 = pV bb0 2 := hp20 19 rfl rfl
            refine gy rfl rfl s27 b4 (ldX H58 0 rfl ty3 rfl s28 (by decide) rfl ?_)
            exact ⟨_, rfl, Ext.refl _, rfl⟩
           refine dc (fun f21 w45 hf21 xt45 hp21 => ?_) ?_
           ·
            have s29 : f21 88 = .bool (!(([rd_, wa_, wb_] : List Int).any (outO fi))) := hp21 9 rfl rfl
            obtain ⟨s30, rv13⟩ : f21 97 = iV x0 ∧ I64 (x0) := hp21 18 rfl rfl
            have s31 : f21 99 = iV wa_ := hp21 20 rfl rfl
            refine gy rfl rfl s29 b4 (eql rfl rfl s30 s31 ?_)
            exact ⟨_, rfl, Ext.refl _, rfl⟩
           refine dc (fun _ _ _ _ hp22 => pickT rfl rfl rfl (hp22 9 rfl rfl) b4 (hp22 21 rfl rfl) (d0 rfl rfl)) ?_
           refine dc (fun _ _ _ _ hp23 => mv rfl (hp23 22 rfl rfl) (d0 rfl rfl)) ?_
           refine dc (fun f24 w48 hf24 xt48 hp24 => ?_) ?_
           ·
            have s35 : f24 102 = .bool (decide (x0 = wa_)) := hp24 23 rfl rfl
            refine gy rfl rfl s35 b5 (mv rfl ((hf24 0 rfl).trans i0) ?_)
            exact ⟨_, rfl, Ext.refl _, rfl⟩
           refine dc (fun f25 w49 hf25 xt49 hp25 => ?_) ?_
           ·
            have s36 : f25 102 = .bool (decide (x0 = wa_)) := hp25 23 rfl rfl
            refine gy rfl rfl s36 b5 (fa fl43_2 rfl (hf25 3 rfl) ?_)
            exact ⟨_, rfl, Ext.refl _, rfl⟩
           refine dc (fun f26 w50 hf26 xt50 hp26 => ?_) ?_
           ·
            have H64 := H5.ext xt50
            have s37 : f26 102 = .bool (decide (x0 = wa_)) := hp26 23 rfl rfl
            have s38 : f26 104 = pV bb0 2 := hp26 25 rfl rfl
            refine gy rfl rfl s37 b5 (ldX H64 0 rfl ty3 rfl s38 (by decide) rfl ?_)
            exact ⟨_, rfl, Ext.refl _, rfl⟩
           refine dc (fun f27 w51 hf27 xt51 hp27 => ?_) ?_
           ·
            have s39 : f27 102 = .bool (decide (x0 = wa_)) := hp27 23 rfl rfl
            refine gy rfl rfl s39 b5 (fa fl43_3 rfl (hf27 3 rfl) ?_)
            exact ⟨_, rfl, Ext.refl _, rfl⟩
           refine dc (fun f28 w52 hf28 xt52 hp28 => ?_) ?_
           ·
            have H66 := H5.ext xt52
            have s40 : f28 102 = .bool (decide (x0 = wa_)) := hp28 23 rfl rfl
            have s41 : f28 106 = pV bb0 3 := hp28 27 rfl rfl
            refine gy rfl rfl s40 b5 (ldX H66 0 rfl ty3 rfl s41 (by decide) rfl ?_)
            exact ⟨_, rfl, Ext.refl _, rfl⟩
           refine dc (fun f29 w53 hf29 xt53 hp29 => ?_) ?_
           ·
            have H67 := H5.ext xt53
            have s42 : f29 102 = .bool (decide (x0 = wa_)) := hp29 23 rfl rfl
            have s43 : f29 103 = pV b_a 0 := hp29 24 rfl rfl
            have s44 : f29 105 = iV wa_ := hp29 26 rfl rfl
            have s45 : f29 107 = iV wb_ := hp29 28 rfl rfl
            refine gy rfl rfl s42 b5 ?_
            have cc16 := aud_other (fi := fi) (n1 := wa_) (n2 := wb_) (a_fv := a_fv) (n_fv := n_fv) (c_fv := c_fv) (a_fo := a_fo) (n_fo := fo.length) (c_fo := c_fo) (a_stp := a_stp) (n_stp := stp.length) (c_stp := c_stp) (a_pl := a_pl) (n_pl := pl.length) (c_pl := c_pl) (w := w53) H67.mb (H67.rv 5 rfl) (by first | assumption | (unfold I64 at *; omega)) (by first | assumption | (unfold I64 at *; omega)) (H67.at_ 1 rfl) (by first | omega | (have h_ := op1_rng (fi := fi) (sb := rd_) (by assumption); omega) | (have h_ := op3_rng (fi := fi) (fr := rd_) (to := wa_) (sb := wb_) (by assumption); omega)) (by first | omega | (have h_ := op1_rng (fi := fi) (sb := rd_) (by assumption); omega) | (have h_ := op3_rng (fi := fi) (fr := rd_) (to := wa_) (sb := wb_) (by assumption); omega))
            refine ca go32 rfl (ec s43 (ec s44 (ec s45 e0))) cc16 ?_
            rintro _ w54 ⟨rfl, xt54⟩
            exact ⟨_, rfl, xt54, rfl⟩
           refine dc (fun _ _ _ _ hp30 => pickT rfl rfl rfl (hp30 23 rfl rfl) b5 (hp30 29 rfl rfl) (d0 rfl rfl)) ?_
           refine dc (fun _ _ _ _ hp31 => mv rfl (hp31 30 rfl rfl) (d0 rfl rfl)) ?_
           refine dc (fun f32 w57 hf32 xt57 hp32 => ?_) ?_
           ·
            have s49 : f32 110 = .bool (otherO fi wa_ wb_) := hp32 31 rfl rfl
            refine gy rfl rfl s49 b6 (mv rfl ((hf32 0 rfl).trans i0) ?_)
            exact ⟨_, rfl, Ext.refl _, rfl⟩
           refine dc (fun f33 w58 hf33 xt58 hp33 => ?_) ?_
           ·
            have H72 := H5.ext xt58
            have s50 : f33 110 = .bool (otherO fi wa_ wb_) := hp33 31 rfl rfl
            have s51 : f33 111 = pV b_a 0 := hp33 32 rfl rfl
            refine gy rfl rfl s50 b6 ?_
            have cc17 := aud_bare (pl := pl) (a_fv := a_fv) (n_fv := n_fv) (c_fv := c_fv) (a_fi := a_fi) (n_fi := fi.length) (c_fi := c_fi) (a_fo := a_fo) (n_fo := fo.length) (c_fo := c_fo) (a_stp := a_stp) (n_stp := stp.length) (c_stp := c_stp) (w := w58) H72.mb (H72.rv 2 rfl) (H72.at_ 1 rfl)
            refine ca go29 rfl (ec s51 e0) cc17 ?_
            rintro _ w59 ⟨rfl, xt59⟩
            exact ⟨_, rfl, xt59, rfl⟩
           refine dc (fun _ _ _ _ hp34 => pickT rfl rfl rfl (hp34 31 rfl rfl) b6 (hp34 33 rfl rfl) (d0 rfl rfl)) ?_
           refine dc (fun _ _ _ _ hp35 => mv rfl (hp35 34 rfl rfl) (d0 rfl rfl)) ?_
           refine dc (fun f36 w62 hf36 xt62 hp36 => ?_) ?_
           ·
            have s55 : f36 114 = .bool (!(pl.any (fun z_ => false == z_))) := hp36 35 rfl rfl
            refine gy rfl rfl s55 b7 (mv rfl ((hf36 0 rfl).trans i0) ?_)
            exact ⟨_, rfl, Ext.refl _, rfl⟩
           refine dc (fun f37 w63 hf37 xt63 hp37 => ?_) ?_
           ·
            have s56 : f37 114 = .bool (!(pl.any (fun z_ => false == z_))) := hp37 35 rfl rfl
            refine gy rfl rfl s56 b7 (fa fl43_6 rfl (hf37 3 rfl) ?_)
            exact ⟨_, rfl, Ext.refl _, rfl⟩
           refine dc (fun f38 w64 hf38 xt64 hp38 => ?_) ?_
           ·
            have H78 := H5.ext xt64
            have s57 : f38 114 = .bool (!(pl.any (fun z_ => false == z_))) := hp38 35 rfl rfl
            have s58 : f38 116 = pV bb0 6 := hp38 37 rfl rfl
            refine gy rfl rfl s57 b7 (ldX H78 0 rfl ty3 rfl s58 (by decide) rfl ?_)
            exact ⟨_, rfl, Ext.refl _, rfl⟩
           refine dc (fun f39 w65 hf39 xt65 hp39 => ?_) ?_
           ·
            have s59 : f39 114 = .bool (!(pl.any (fun z_ => false == z_))) := hp39 35 rfl rfl
            refine gy rfl rfl s59 b7 (fa fl43_2 rfl (hf39 3 rfl) ?_)
            exact ⟨_, rfl, Ext.refl _, rfl⟩
           refine dc (fun f40 w66 hf40 xt66 hp40 => ?_) ?_
           ·
            have H80 := H5.ext xt66
            have s60 : f40 114 = .bool (!(pl.any (fun z_ => false == z_))) := hp40 35 rfl rfl
            have s61 : f40 118 = pV bb0 2 := hp40 39 rfl rfl
            refine gy rfl rfl s60 b7 (ldX H80 0 rfl ty3 rfl s61 (by decide) rfl ?_)
            exact ⟨_, rfl, Ext.refl _, rfl⟩
           refine dc (fun f41 w67 hf41 xt67 hp41 => ?_) ?_
           ·
            have s62 : f41 114 = .bool (!(pl.any (fun z_ => false == z_))) := hp41 35 rfl rfl
            refine gy rfl rfl s62 b7 (fa fl43_3 rfl (hf41 3 rfl) ?_)
            exact ⟨_, rfl, Ext.refl _, rfl⟩
           refine dc (fun f42 w68 hf42 xt68 hp42 => ?_) ?_
           ·
            have H82 := H5.ext xt68
            have s63 : f42 114 = .bool (!(pl.any (fun z_ => false == z_))) := hp42 35 rfl rfl
            have s64 : f42 120 = pV bb0 3 := hp42 41 rfl rfl
            refine gy rfl rfl s63 b7 (ldX H82 0 rfl ty3 rfl s64 (by decide) rfl ?_)
            exact ⟨_, rfl, Ext.refl _, rfl⟩
           refine dc (fun f43 w69 hf43 xt69 hp43 => ?_) ?_
           ·
            have H83 := H5.ext xt69
            have s65 : f43 114 = .bool (!(pl.any (fun z_ => false == z_))) := hp43 35 rfl rfl
            have s66 : f43 115 = pV b_a 0 := hp43 36 rfl rfl
            have s67 : f43 117 = iV fs_ := hp43 38 rfl rfl
            have s68 : f43 119 = iV wa_ := hp43 40 rfl rfl
            have s69 : f43 121 = iV wb_ := hp43 42 rfl rfl
            refine gy rfl rfl s65 b7 ?_
            have cc18 := aud_says (stp := stp) (n1 := fs_) (n2 := wa_) (n3 := wb_) (a_fv := a_fv) (n_fv := n_fv) (c_fv := c_fv) (a_fi := a_fi) (n_fi := fi.length) (c_fi := c_fi) (a_fo := a_fo) (n_fo := fo.length) (c_fo := c_fo) (a_pl := a_pl) (n_pl := pl.length) (c_pl := c_pl) (w := w69) H83.mb (H83.rv 3 rfl) (by first | assumption | (unfold I64 at *; omega)) (by first | assumption | (unfold I64 at *; omega)) (by first | assumption | (unfold I64 at *; omega)) (H83.at_ 1 rfl)
            refine ca go30 rfl (ec s66 (ec s67 (ec s68 (ec s69 e0)))) cc18 ?_
            rintro _ w70 ⟨rfl, xt70⟩
            exact ⟨_, rfl, xt70, rfl⟩
           refine dc (fun _ _ _ _ hp44 => pickT rfl rfl rfl (hp44 35 rfl rfl) b7 (hp44 43 rfl rfl) (d0 rfl rfl)) ?_
           refine dc (fun _ _ _ _ hp45 => mv rfl (hp45 44 rfl rfl) (d0 rfl rfl)) ?_
           refine dc (fun _ _ _ _ hp46 => gn rfl rfl (hp46 45 rfl rfl) b8 (d0 rfl rfl)) ?_
           refine dc (fun _ _ _ _ hp47 => gn rfl rfl (hp47 45 rfl rfl) b8 (d0 rfl rfl)) ?_
           refine dc (fun _ _ _ _ hp48 => gn rfl rfl (hp48 45 rfl rfl) b8 (d0 rfl rfl)) ?_
           refine dc (fun _ _ _ _ hp49 => gn rfl rfl (hp49 45 rfl rfl) b8 (d0 rfl rfl)) ?_
           refine dc (fun _ _ _ _ hp50 => gn rfl rfl (hp50 45 rfl rfl) b8 (d0 rfl rfl)) ?_
           refine dc (fun _ _ _ _ hp51 => gn rfl rfl (hp51 45 rfl rfl) b8 (d0 rfl rfl)) ?_
           refine dc (fun _ _ _ _ hp52 => gn rfl rfl (hp52 45 rfl rfl) b8 (d0 rfl rfl)) ?_
           exact DSteps.rest rfl _
          ·
           intro f53 w80 hf53 xt80 hp53
           have H94 := H5.ext xt80
           have s83 : f53 124 = .bool (saysO stp fs_ wa_ wb_) := hp53 45 rfl
           refine k (gn rfl rfl s83 b8 (k (pickF rfl rfl rfl s83 b8 rfl (k (asg (v := .bool false) rfl rfl (z (nx (rt (inb_ret (then_ret (r1 rfl rfl ?_)))))))))))
           have e0 : (false : Bool) = patO fi fo stp pl kd rd_ wa_ wb_ op_ fs_ sn_ := by simp only [patO, hasI, keptO, List.getD_eq_getElem?_getD, hx0, Option.getD_some, Option.map_some, b0, b1, b2, b3, b4, (nott b4), b5, b6, b7, (nott b7), b8, BL, cond_true, cond_false]
           have ev_ := cg1 (fun (x_0 : Bool) => (.bool x_0 : Value)) e0
           exact ⟨ev_, H94.below⟩
        · -- !(pl.any (fun z_ => false == z_)) is False
         refine dr 53 [eV (pV b_a 0), eV (pV bb0 1), eV (iV rd_), eV (pV bb0 2), eV (iV wa_), eV (pV bb0 3), eV (iV wb_), fun (v : Value) (w' : World) => ∃ (a4 : Option Addr) (c4 : Nat), v = .slice a4 ([rd_, wa_, wb_] : List Int).length c4 ∧ RV (MS M [box bb0 #[iV kd, iV rd_, iV wa_, iV wb_, iV op_, .slice a_sl_ n_sl_ c_sl_, iV fs_, iV sn_] 43, ro b_a #[.slice a_fv n_fv c_fv, .slice a_fi fi.length c_fi, .slice a_fo fo.length c_fo, .slice a_stp stp.length c_stp, .slice a_pl pl.length c_pl] ty_a, imm (.slice a_pl pl.length c_pl) pl, imm (.slice a_stp stp.length c_stp) stp, imm (.slice a_fo fo.length c_fo) fo, imm (.slice a_fi fi.length c_fi) fi]) w' (.slice a4 ([rd_, wa_, wb_] : List Int).length c4) ([rd_, wa_, wb_] : List Int), eV (.bool (!(([rd_, wa_, wb_] : List Int).any (outO fi)))), eV (.bool (!(([rd_, wa_, wb_] : List Int).any (outO fi)))), eV (pV b_a 0), eV (pV b_a 0), eV (pV b_a 0), eV (pV b_a 2), eV (.slice a_fo fo.length c_fo), eV (pV bb0 1), eV (iV rd_), fun (v : Value) (w' : World) => ∃ (ad3 : Addr), v = .pointer (some ad3) ∧ At (MS M [box bb0 #[iV kd, iV rd_, iV wa_, iV wb_, iV op_, .slice a_sl_ n_sl_ c_sl_, iV fs_, iV sn_] 43, ro b_a #[.slice a_fv n_fv c_fv, .slice a_fi fi.length c_fi, .slice a_fo fo.length c_fo, .slice a_stp stp.length c_stp, .slice a_pl pl.length c_pl] ty_a, imm (.slice a_pl pl.length c_pl) pl, imm (.slice a_stp stp.length c_stp) stp, imm (.slice a_fo fo.length c_fo) fo, imm (.slice a_fi fi.length c_fi) fi]) w' ad3 x0, fun (v : Value) (w' : World) => v = iV x0 ∧ I64 (x0), eV (pV bb0 2), eV (iV wa_), eV (.bool (decide (x0 = wa_))), eV (.bool (decide (x0 = wa_))), eV (.bool (decide (x0 = wa_))), eV (pV b_a 0), eV (pV bb0 2), eV (iV wa_), eV (pV bb0 3), eV (iV wb_), eV (.bool (otherO fi wa_ wb_)), eV (.bool (otherO fi wa_ wb_)), eV (.bool (otherO fi wa_ wb_)), eV (pV b_a 0), eV (.bool (!(pl.any (fun z_ => false == z_)))), eV (.bool (!(pl.any (fun z_ => false == z_)))), eV (.bool (!(pl.any (fun z_ => false == z_)))), eV undef, eV undef, eV undef, eV undef, eV undef, eV undef, eV undef, eV undef, eV (.bool false), eV (.bool false), eV undef, eV undef, eV undef, eV undef, eV undef, eV undef, eV undef] rfl (by kernel_rfl) ?_ ?_
         ·
          refine dc (fun _ _ hf0 _ _ => mv rfl ((hf0 0 rfl).trans i0) (d0 rfl rfl)) ?_
          refine dc (fun _ _ hf1 _ _ => fa fl43_1 rfl (hf1 3 rfl) (d0 rfl rfl)) ?_
          refine dc (fun _ _ _ xt18 hp2 => ldX (H5.ext xt18) 0 rfl ty3 rfl (hp2 1 rfl rfl) (by decide) rfl (d0 rfl rfl)) ?_
          refine dc (fun _ _ hf3 _ _ => fa fl43_2 rfl (hf3 3 rfl) (d0 rfl rfl)) ?_
          refine dc (fun _ _ _ xt20 hp4 => ldX (H5.ext xt20) 0 rfl ty3 rfl (hp4 3 rfl rfl) (by decide) rfl (d0 rfl rfl)) ?_
          refine dc (fun _ _ hf5 _ _ => fa fl43_3 rfl (hf5 3 rfl) (d0 rfl rfl)) ?_
          refine dc (fun _ _ _ xt22 hp6 => ldX (H5.ext xt22) 0 rfl ty3 rfl (hp6 5 rfl rfl) (by decide) rfl (d0 rfl rfl)) ?_
          refine ⟨fun _ => ⟨fun f7 w23 hf7 xt23 hp7 => ?_, by rintro _ _ _ x_ ⟨a4, c4, e_, rv7⟩; exact ⟨a4, c4, e_, rv7.lift (Up.ext x_)⟩⟩, ?_⟩
          ·
           have H33 := H5.ext xt23
           have s3 : f7 81 = iV rd_ := hp7 2 rfl rfl
           have s4 : f7 83 = iV wa_ := hp7 4 rfl rfl
           have s5 : f7 85 = iV wb_ := hp7 6 rfl rfl
           refine bs (xs := ([rd_, wa_, wb_] : List Int)) (cells := #[iV rd_, iV wa_, iV wb_]) (e := 3) H33 rfl (pbc s3 (pbc s4 (pbc s5 pb0))) (fun _ => by kernel_rfl) ⟨[iV rd_], [iV wa_, iV wb_], rfl, ⟨rfl, (show I64 (rd_) from (by first | assumption | (unfold I64 at *; omega)))⟩, ⟨[iV wa_], [iV wb_], rfl, ⟨rfl, (show I64 (wa_) from (by first | assumption | (unfold I64 at *; omega)))⟩, ⟨[iV wb_], [], rfl, ⟨rfl, (show I64 (wb_) from (by first | assumption | (unfold I64 at *; omega)))⟩, rfl⟩⟩⟩ rfl (by unfold maxLen; omega) ?_
           intro g5 w24 xt24 (H34 : HI M w w24 [own w.heap.size 3 (.slice (some ⟨g5, 0, none⟩) 3 3) ([rd_, wa_, wb_] : List Int), box bb0 #[iV kd, iV rd_, iV wa_, iV wb_, iV op_, .slice a_sl_ n_sl_ c_sl_, iV fs_, iV sn_] 43, ro b_a #[.slice a_fv n_fv c_fv, .slice a_fi fi.length c_fi, .slice a_fo fo.length c_fo, .slice a_stp stp.length c_stp, .slice a_pl pl.length c_pl] ty_a, imm (.slice a_pl pl.length c_pl) pl, imm (.slice a_stp stp.length c_stp) stp, imm (.slice a_fo fo.length c_fo) fo, imm (.slice a_fi fi.length c_fi) fi])
           have H35 := H34.freeze 0 rfl
           exact ⟨_, rfl, xt24, ⟨(some ⟨g5, 0, none⟩), 3, rfl, (rv_drop rfl (H35.rv 0 rfl))⟩⟩
          refine dc (fun f8 w25 hf8 xt25 hp8 => ?_) ?_
          ·
           have H36 := H5.ext xt25
           have s6 : f8 79 = pV b_a 0 := hp8 0 rfl rfl
           obtain ⟨a5, c5, s7, rv9⟩ : ∃ (a5 : Option Addr) (c5 : Nat), f8 86 = .slice a5 ([rd_, wa_, wb_] : List Int).length c5 ∧ RV (MS M [box bb0 #[iV kd, iV rd_, iV wa_, iV wb_, iV op_, .slice a_sl_ n_sl_ c_sl_, iV fs_, iV sn_] 43, ro b_a #[.slice a_fv n_fv c_fv, .slice a_fi fi.length c_fi, .slice a_fo fo.length c_fo, .slice a_stp stp.length c_stp, .slice a_pl pl.length c_pl] ty_a, imm (.slice a_pl pl.length c_pl) pl, imm (.slice a_stp stp.length c_stp) stp, imm (.slice a_fo fo.length c_fo) fo, imm (.slice a_fi fi.length c_fi) fi]) w25 (.slice a5 ([rd_, wa_, wb_] : List Int).length c5) ([rd_, wa_, wb_] : List Int) := hp8 7 rfl rfl
           have H37 := H36.put (it := imm (.slice a5 ([rd_, wa_, wb_] : List Int).length c5) ([rd_, wa_, wb_] : List Int)) rfl rv9
           have cc10 := aud_op (fi := fi) (l := ([rd_, wa_, wb_] : List Int)) (a_fv := a_fv) (n_fv := n_fv) (c_fv := c_fv) (a_fo := a_fo) (n_fo := fo.length) (c_fo := c_fo) (a_stp := a_stp) (n_stp := stp.length) (c_stp := c_stp) (a_pl := a_pl) (n_pl := pl.length) (c_pl := c_pl) (w := w25) H37.mb (H37.rv 6 rfl) (H37.rv 0 rfl) (H37.at_ 2 rfl)
           refine ca go28 rfl (ec s6 (ec s7 e0)) cc10 ?_
           rintro _ w26 ⟨rfl, xt26⟩
           exact ⟨_, rfl, xt26, rfl⟩
          refine dc (fun _ _ _ _ hp9 => mv rfl (hp9 8 rfl rfl) (d0 rfl rfl)) ?_
          refine dc (fun f10 w28 hf10 xt28 hp10 => ?_) ?_
          ·
           have s9 : f10 88 = .bool (!(([rd_, wa_, wb_] : List Int).any (outO fi))) := hp10 9 rfl rfl
           refine gy rfl rfl s9 b4 (mv rfl ((hf10 0 rfl).trans i0) ?_)
           exact ⟨_, rfl, Ext.refl _, rfl⟩
          refine dc (fun f11 w29 hf11 xt29 hp11 => ?_) ?_
          ·
           have s10 : f11 88 = .bool (!(([rd_, wa_, wb_] : List Int).any (outO fi))) := hp11 9 rfl rfl
           have s11 : f11 89 = pV b_a 0 := hp11 10 rfl rfl
           refine gy rfl rfl s10 b4 (nc rfl s11 ?_)
           exact ⟨_, rfl, Ext.refl _, rfl⟩
          refine dc (fun f12 w30 hf12 xt30 hp12 => ?_) ?_
          ·
           have s12 : f12 88 = .bool (!(([rd_, wa_, wb_] : List Int).any (outO fi))) := hp12 9 rfl rfl
           have s13 : f12 90 = pV b_a 0 := hp12 11 rfl rfl
           refine gy rfl rfl s12 b4 (fa fl54_0 rfl s13 ?_)
           exact ⟨_, rfl, Ext.refl _, rfl⟩
          refine dc (fun f13 w31 hf13 xt31 hp13 => ?_) ?_
          ·
           have s14 : f13 88 = .bool (!(([rd_, wa_, wb_] : List Int).any (outO fi))) := hp13 9 rfl rfl
           have s15 : f13 91 = pV b_a 0 := hp13 12 rfl rfl
           refine gy rfl rfl s14 b4 (fa fl30_2 rfl s15 ?_)
           exact ⟨_, rfl, Ext.refl _, rfl⟩
          refine dc (fun f14 w32 hf14 xt32 hp14 => ?_) ?_
          ·
           have H44 := H5.ext xt32
           have s16 : f14 88 = .bool (!(([rd_, wa_, wb_] : List Int).any (outO fi))) := hp14 9 rfl rfl
           have s17 : f14 92 = pV b_a 2 := hp14 13 rfl rfl
           refine gy rfl rfl s16 b4 (ldR H44 1 rfl ty28 rfl s17 (by decide) rfl ?_)
           exact ⟨_, rfl, Ext.refl _, rfl⟩
          refine dc (fun f15 w33 hf15 xt33 hp15 => ?_) ?_
          ·
           have s18 : f15 88 = .bool (!(([rd_, wa_, wb_] : List Int).any (outO fi))) := hp15 9 rfl rfl
           refine gy rfl rfl s18 b4 (fa fl43_1 rfl (hf15 3 rfl) ?_)
           exact ⟨_, rfl, Ext.refl _, rfl⟩
          refine dc (fun f16 w34 hf16 xt34 hp16 => ?_) ?_
          ·
           have H46 := H5.ext xt34
           have s19 : f16 88 = .bool (!(([rd_, wa_, wb_] : List Int).any (outO fi))) := hp16 9 rfl rfl
           have s20 : f16 94 = pV bb0 1 := hp16 15 rfl rfl
           refine gy rfl rfl s19 b4 (ldX H46 0 rfl ty3 rfl s20 (by decide) rfl ?_)
           exact ⟨_, rfl, Ext.refl _, rfl⟩
          refine ⟨fun _ => ⟨fun f17 w35 hf17 xt35 hp17 => ?_, by rintro _ _ _ x_ ⟨ad3, e_, hA3⟩; exact ⟨ad3, e_, hA3.lift (Up.ext x_)⟩⟩, ?_⟩
          ·
           have H47 := H5.ext xt35
           have s21 : f17 88 = .bool (!(([rd_, wa_, wb_] : List Int).any (outO fi))) := hp17 9 rfl rfl
           have s22 : f17 93 = .slice a_fo fo.length c_fo := hp17 14 rfl rfl
           have s23 : f17 95 = iV rd_ := hp17 16 rfl rfl
           refine gy rfl rfl s21 b4 (ia (H47.rv 4 rfl) rfl rfl s22 s23 (by first | omega | (have h_ := op1_rng (fi := fi) (sb := rd_) (by assumption); omega) | (have h_ := op3_rng (fi := fi) (fr := rd_) (to := wa_) (sb := wb_) (by assumption); omega)) un28 ty3 ?_)
           intro ad4 x4 hx4 hA4
           obtain rfl : x0 = x4 := Option.some.inj (hx0.symm.trans hx4)
           exact ⟨_, rfl, Ext.refl _, ⟨ad4, rfl, hA4⟩⟩
          refine dc (fun f18 w36 hf18 xt36 hp18 => ?_) ?_
          ·
           have H48 := H5.ext xt36
           have s24 : f18 88 = .bool (!(([rd_, wa_, wb_] : List Int).any (outO fi))) := hp18 9 rfl rfl
           obtain ⟨ad5, s25, hA5⟩ : ∃ (ad5 : Addr), f18 96 = .pointer (some ad5) ∧ At (MS M [box bb0 #[iV kd, iV rd_, iV wa_, iV wb_, iV op_, .slice a_sl_ n_sl_ c_sl_, iV fs_, iV sn_] 43, ro b_a #[.slice a_fv n_fv c_fv, .slice a_fi fi.length c_fi, .slice a_fo fo.length c_fo, .slice a_stp stp.length c_stp, .slice a_pl pl.length c_pl] ty_a, imm (.slice a_pl pl.length c_pl) pl, imm (.slice a_stp stp.length c_stp) stp, imm (.slice a_fo fo.length c_fo) fo, imm (.slice a_fi fi.length c_fi) fi]) w36 ad5 x0 := hp18 17 rfl rfl
           have H49 := H48.put (it := atI ad5 x0) rfl hA5
           refine gy rfl rfl s24 b4 (ldI (H49.atv 0 rfl).w ty3 rfl s25 ?_)
           intro rv10
           exact ⟨_, rfl, Ext.refl _, ⟨rfl, rv10⟩⟩
          refine dc (fun f19 w37 hf19 xt37 hp19 => ?_) ?_
          ·
           have s26 : f19 88 = .bool (!(([rd_, wa_, wb_] : List Int).any (outO fi))) := hp19 9 rfl rfl
           refine gy rfl rfl s26 b4 (fa fl43_2 rfl (hf19 3 rfl) ?_)
           exact ⟨_, rfl, Ext.refl _, rfl⟩
          refine dc (fun f20 w38 hf20 xt38 hp20 => ?_) ?_
          ·
           have H51 := H5.ext xt38
           have s27 : f20 88 = .bool (!(([rd_, wa_, wb_] : List Int).any (outO fi))) := hp20 9 rfl rfl
           have s28 : f20 98 = pV bb0 2 := hp20 19 rfl rfl
           refine gy rfl rfl s27 b4 (ldX H51 0 rfl ty3 rfl s28 (by decide) rfl ?_)
           exact ⟨_, rfl, Ext.refl _, rfl⟩
          refine dc (fun f21 w39 hf21 xt39 hp21 => ?_) ?_
          ·
           have s29 : f21 88 = .bool (!(([rd_, wa_, wb_] : List Int).any (outO fi))) := hp21 9 rfl rfl
           obtain ⟨s30, rv11⟩ : f21 97 = iV x0 ∧ I64 (x0) := hp21 18 rfl rfl
           have s31 : f21 99 = iV wa_ := hp21 20 rfl rfl
           refine gy rfl rfl s29 b4 (eql rfl rfl s30 s31 ?_)
           exact ⟨_, rfl, Ext.refl _, rfl⟩
          refine dc (fun _ _ _ _ hp22 => pickT rfl rfl rfl (hp22 9 rfl rfl) b4 (hp22 21 rfl rfl) (d0 rfl rfl)) ?_
          refine dc (fun _ _ _ _ hp23 => mv rfl (hp23 22 rfl rfl) (d0 rfl rfl)) ?_
          refine dc (fun f24 w42 hf24 xt42 hp24 => ?_) ?_
          ·
           have s35 : f24 102 = .bool (decide (x0 = wa_)) := hp24 23 rfl rfl
           refine gy rfl rfl s35 b5 (mv rfl ((hf24 0 rfl).trans i0) ?_)
           exact ⟨_, rfl, Ext.refl _, rfl⟩
          refine dc (fun f25 w43 hf25 xt43 hp25 => ?_) ?_
          ·
           have s36 : f25 102 = .bool (decide (x0 = wa_)) := hp25 23 rfl rfl
           refine gy rfl rfl s36 b5 (fa fl43_2 rfl (hf25 3 rfl) ?_)
           exact ⟨_, rfl, Ext.refl _, rfl⟩
          refine dc (fun f26 w44 hf26 xt44 hp26 => ?_) ?_
          ·
           have H57 := H5.ext xt44
           have s37 : f26 102 = .bool (decide (x0 = wa_)) := hp26 23 rfl rfl
           have s38 : f26 104 = pV bb0 2 := hp26 25 rfl rfl
           refine gy rfl rfl s37 b5 (ldX H57 0 rfl ty3 rfl s38 (by decide) rfl ?_)
           exact ⟨_, rfl, Ext.refl _, rfl⟩
          refine dc (fun f27 w45 hf27 xt45 hp27 => ?_) ?_
          ·
           have s39 : f27 102 = .bool (decide (x0 = wa_)) := hp27 23 rfl rfl
           refine gy rfl rfl s39 b5 (fa fl43_3 rfl (hf27 3 rfl) ?_)
           exact ⟨_, rfl, Ext.refl _, rfl⟩
          refine dc (fun f28 w46 hf28 xt46 hp28 => ?_) ?_
          ·
           have H59 := H5.ext xt46
           have s40 : f28 102 = .bool (decide (x0 = wa_)) := hp28 23 rfl rfl
           have s41 : f28 106 = pV bb0 3 := hp28 27 rfl rfl
           refine gy rfl rfl s40 b5 (ldX H59 0 rfl ty3 rfl s41 (by decide) rfl ?_)
           exact ⟨_, rfl, Ext.refl _, rfl⟩
          refine dc (fun f29 w47 hf29 xt47 hp29 => ?_) ?_
          ·
           have H60 := H5.ext xt47
           have s42 : f29 102 = .bool (decide (x0 = wa_)) := hp29 23 rfl rfl
           have s43 : f29 103 = pV b_a 0 := hp29 24 rfl rfl
           have s44 : f29 105 = iV wa_ := hp29 26 rfl rfl
           have s45 : f29 107 = iV wb_ := hp29 28 rfl rfl
           refine gy rfl rfl s42 b5 ?_
           have cc11 := aud_other (fi := fi) (n1 := wa_) (n2 := wb_) (a_fv := a_fv) (n_fv := n_fv) (c_fv := c_fv) (a_fo := a_fo) (n_fo := fo.length) (c_fo := c_fo) (a_stp := a_stp) (n_stp := stp.length) (c_stp := c_stp) (a_pl := a_pl) (n_pl := pl.length) (c_pl := c_pl) (w := w47) H60.mb (H60.rv 5 rfl) (by first | assumption | (unfold I64 at *; omega)) (by first | assumption | (unfold I64 at *; omega)) (H60.at_ 1 rfl) (by first | omega | (have h_ := op1_rng (fi := fi) (sb := rd_) (by assumption); omega) | (have h_ := op3_rng (fi := fi) (fr := rd_) (to := wa_) (sb := wb_) (by assumption); omega)) (by first | omega | (have h_ := op1_rng (fi := fi) (sb := rd_) (by assumption); omega) | (have h_ := op3_rng (fi := fi) (fr := rd_) (to := wa_) (sb := wb_) (by assumption); omega))
           refine ca go32 rfl (ec s43 (ec s44 (ec s45 e0))) cc11 ?_
           rintro _ w48 ⟨rfl, xt48⟩
           exact ⟨_, rfl, xt48, rfl⟩
          refine dc (fun _ _ _ _ hp30 => pickT rfl rfl rfl (hp30 23 rfl rfl) b5 (hp30 29 rfl rfl) (d0 rfl rfl)) ?_
          refine dc (fun _ _ _ _ hp31 => mv rfl (hp31 30 rfl rfl) (d0 rfl rfl)) ?_
          refine dc (fun f32 w51 hf32 xt51 hp32 => ?_) ?_
          ·
           have s49 : f32 110 = .bool (otherO fi wa_ wb_) := hp32 31 rfl rfl
           refine gy rfl rfl s49 b6 (mv rfl ((hf32 0 rfl).trans i0) ?_)
           exact ⟨_, rfl, Ext.refl _, rfl⟩
          refine dc (fun f33 w52 hf33 xt52 hp33 => ?_) ?_
          ·
           have H65 := H5.ext xt52
           have s50 : f33 110 = .bool (otherO fi wa_ wb_) := hp33 31 rfl rfl
           have s51 : f33 111 = pV b_a 0 := hp33 32 rfl rfl
           refine gy rfl rfl s50 b6 ?_
           have cc12 := aud_bare (pl := pl) (a_fv := a_fv) (n_fv := n_fv) (c_fv := c_fv) (a_fi := a_fi) (n_fi := fi.length) (c_fi := c_fi) (a_fo := a_fo) (n_fo := fo.length) (c_fo := c_fo) (a_stp := a_stp) (n_stp := stp.length) (c_stp := c_stp) (w := w52) H65.mb (H65.rv 2 rfl) (H65.at_ 1 rfl)
           refine ca go29 rfl (ec s51 e0) cc12 ?_
           rintro _ w53 ⟨rfl, xt53⟩
           exact ⟨_, rfl, xt53, rfl⟩
          refine dc (fun _ _ _ _ hp34 => pickT rfl rfl rfl (hp34 31 rfl rfl) b6 (hp34 33 rfl rfl) (d0 rfl rfl)) ?_
          refine dc (fun _ _ _ _ hp35 => mv rfl (hp35 34 rfl rfl) (d0 rfl rfl)) ?_
          refine dc (fun _ _ _ _ hp36 => gn rfl rfl (hp36 35 rfl rfl) b7 (d0 rfl rfl)) ?_
          refine dc (fun _ _ _ _ hp37 => gn rfl rfl (hp37 35 rfl rfl) b7 (d0 rfl rfl)) ?_
          refine dc (fun _ _ _ _ hp38 => gn rfl rfl (hp38 35 rfl rfl) b7 (d0 rfl rfl)) ?_
          refine dc (fun _ _ _ _ hp39 => gn rfl rfl (hp39 35 rfl rfl) b7 (d0 rfl rfl)) ?_
          refine dc (fun _ _ _ _ hp40 => gn rfl rfl (hp40 35 rfl rfl) b7 (d0 rfl rfl)) ?_
          refine dc (fun _ _ _ _ hp41 => gn rfl rfl (hp41 35 rfl rfl) b7 (d0 rfl rfl)) ?_
          refine dc (fun _ _ _ _ hp42 => gn rfl rfl (hp42 35 rfl rfl) b7 (d0 rfl rfl)) ?_
          refine dc (fun _ _ _ _ hp43 => gn rfl rfl (hp43 35 rfl rfl) b7 (d0 rfl rfl)) ?_
          refine dc (fun _ _ _ _ hp44 => pickF rfl rfl rfl (hp44 35 rfl rfl) b7 rfl (d0 rfl rfl)) ?_
          refine dc (fun _ _ _ _ hp45 => mv rfl (hp45 44 rfl rfl) (d0 rfl rfl)) ?_
          refine dc (fun _ _ _ _ hp46 => gn rfl rfl (hp46 45 rfl rfl) rfl (d0 rfl rfl)) ?_
          refine dc (fun _ _ _ _ hp47 => gn rfl rfl (hp47 45 rfl rfl) rfl (d0 rfl rfl)) ?_
          refine dc (fun _ _ _ _ hp48 => gn rfl rfl (hp48 45 rfl rfl) rfl (d0 rfl rfl)) ?_
          refine dc (fun _ _ _ _ hp49 => gn rfl rfl (hp49 45 rfl rfl) rfl (d0 rfl rfl)) ?_
          refine dc (fun _ _ _ _ hp50 => gn rfl rfl (hp50 45 rfl rfl) rfl (d0 rfl rfl)) ?_
          refine dc (fun _ _ _ _ hp51 => gn rfl rfl (hp51 45 rfl rfl) rfl (d0 rfl rfl)) ?_
          refine dc (fun _ _ _ _ hp52 => gn rfl rfl (hp52 45 rfl rfl) rfl (d0 rfl rfl)) ?_
          exact DSteps.rest rfl _
         ·
          intro f53 w73 hf53 xt73 hp53
          have H86 := H5.ext xt73
          have s83 : f53 124 = .bool false := hp53 45 rfl
          refine k (gn rfl rfl s83 rfl (k (pickF rfl rfl rfl s83 rfl rfl (k (asg (v := .bool false) rfl rfl (z (nx (rt (inb_ret (then_ret (r1 rfl rfl ?_)))))))))))
          have e0 : (false : Bool) = patO fi fo stp pl kd rd_ wa_ wb_ op_ fs_ sn_ := by simp only [patO, hasI, keptO, List.getD_eq_getElem?_getD, hx0, Option.getD_some, Option.map_some, b0, b1, b2, b3, b4, (nott b4), b5, b6, b7, (notf b7), BL, cond_true, cond_false]
          have ev_ := cg1 (fun (x_0 : Bool) => (.bool x_0 : Value)) e0
          exact ⟨ev_, H86.below⟩
       · -- otherO fi wa_ wb_ is False
        refine dr 53 [eV (pV b_a 0), eV (pV bb0 1), eV (iV rd_), eV (pV bb0 2), eV (iV wa_), eV (pV bb0 3), eV (iV wb_), fun (v : Value) (w' : World) => ∃ (a3 : Option Addr) (c3 : Nat), v = .slice a3 ([rd_, wa_, wb_] : List Int).length c3 ∧ RV (MS M [box bb0 #[iV kd, iV rd_, iV wa_, iV wb_, iV op_, .slice a_sl_ n_sl_ c_sl_, iV fs_, iV sn_] 43, ro b_a #[.slice a_fv n_fv c_fv, .slice a_fi fi.length c_fi, .slice a_fo fo.length c_fo, .slice a_stp stp.length c_stp, .slice a_pl pl.length c_pl] ty_a, imm (.slice a_pl pl.length c_pl) pl, imm (.slice a_stp stp.length c_stp) stp, imm (.slice a_fo fo.length c_fo) fo, imm (.slice a_fi fi.length c_fi) fi]) w' (.slice a3 ([rd_, wa_, wb_] : List Int).length c3) ([rd_, wa_, wb_] : List Int), eV (.bool (!(([rd_, wa_, wb_] : List Int).any (outO fi)))), eV (.bool (!(([rd_, wa_, wb_] : List Int).any (outO fi)))), eV (pV b_a 0), eV (pV b_a 0), eV (pV b_a 0), eV (pV b_a 2), eV (.slice a_fo fo.length c_fo), eV (pV bb0 1), eV (iV rd_), fun (v : Value) (w' : World) => ∃ (ad2 : Addr), v = .pointer (some ad2) ∧ At (MS M [box bb0 #[iV kd, iV rd_, iV wa_, iV wb_, iV op_, .slice a_sl_ n_sl_ c_sl_, iV fs_, iV sn_] 43, ro b_a #[.slice a_fv n_fv c_fv, .slice a_fi fi.length c_fi, .slice a_fo fo.length c_fo, .slice a_stp stp.length c_stp, .slice a_pl pl.length c_pl] ty_a, imm (.slice a_pl pl.length c_pl) pl, imm (.slice a_stp stp.length c_stp) stp, imm (.slice a_fo fo.length c_fo) fo, imm (.slice a_fi fi.length c_fi) fi]) w' ad2 x0, fun (v : Value) (w' : World) => v = iV x0 ∧ I64 (x0), eV (pV bb0 2), eV (iV wa_), eV (.bool (decide (x0 = wa_))), eV (.bool (decide (x0 = wa_))), eV (.bool (decide (x0 = wa_))), eV (pV b_a 0), eV (pV bb0 2), eV (iV wa_), eV (pV bb0 3), eV (iV wb_), eV (.bool (otherO fi wa_ wb_)), eV (.bool (otherO fi wa_ wb_)), eV (.bool (otherO fi wa_ wb_)), eV undef, eV undef, eV (.bool false), eV (.bool false), eV undef, eV undef, eV undef, eV undef, eV undef, eV undef, eV undef, eV undef, eV (.bool false), eV (.bool false), eV undef, eV undef, eV undef, eV undef, eV undef, eV undef, eV undef] rfl (by kernel_rfl) ?_ ?_
        ·
         refine dc (fun _ _ hf0 _ _ => mv rfl ((hf0 0 rfl).trans i0) (d0 rfl rfl)) ?_
         refine dc (fun _ _ hf1 _ _ => fa fl43_1 rfl (hf1 3 rfl) (d0 rfl rfl)) ?_
         refine dc (fun _ _ _ xt13 hp2 => ldX (H5.ext xt13) 0 rfl ty3 rfl (hp2 1 rfl rfl) (by decide) rfl (d0 rfl rfl)) ?_
         refine dc (fun _ _ hf3 _ _ => fa fl43_2 rfl (hf3 3 rfl) (d0 rfl rfl)) ?_
         refine dc (fun _ _ _ xt15 hp4 => ldX (H5.ext xt15) 0 rfl ty3 rfl (hp4 3 rfl rfl) (by decide) rfl (d0 rfl rfl)) ?_
         refine dc (fun _ _ hf5 _ _ => fa fl43_3 rfl (hf5 3 rfl) (d0 rfl rfl)) ?_
         refine dc (fun _ _ _ xt17 hp6 => ldX (H5.ext xt17) 0 rfl ty3 rfl (hp6 5 rfl rfl) (by decide) rfl (d0 rfl rfl)) ?_
         refine ⟨fun _ => ⟨fun f7 w18 hf7 xt18 hp7 => ?_, by rintro _ _ _ x_ ⟨a3, c3, e_, rv5⟩; exact ⟨a3, c3, e_, rv5.lift (Up.ext x_)⟩⟩, ?_⟩
         ·
          have H27 := H5.ext xt18
          have s3 : f7 81 = iV rd_ := hp7 2 rfl rfl
          have s4 : f7 83 = iV wa_ := hp7 4 rfl rfl
          have s5 : f7 85 = iV wb_ := hp7 6 rfl rfl
          refine bs (xs := ([rd_, wa_, wb_] : List Int)) (cells := #[iV rd_, iV wa_, iV wb_]) (e := 3) H27 rfl (pbc s3 (pbc s4 (pbc s5 pb0))) (fun _ => by kernel_rfl) ⟨[iV rd_], [iV wa_, iV wb_], rfl, ⟨rfl, (show I64 (rd_) from (by first | assumption | (unfold I64 at *; omega)))⟩, ⟨[iV wa_], [iV wb_], rfl, ⟨rfl, (show I64 (wa_) from (by first | assumption | (unfold I64 at *; omega)))⟩, ⟨[iV wb_], [], rfl, ⟨rfl, (show I64 (wb_) from (by first | assumption | (unfold I64 at *; omega)))⟩, rfl⟩⟩⟩ rfl (by unfold maxLen; omega) ?_
          intro g4 w19 xt19 (H28 : HI M w w19 [own w.heap.size 3 (.slice (some ⟨g4, 0, none⟩) 3 3) ([rd_, wa_, wb_] : List Int), box bb0 #[iV kd, iV rd_, iV wa_, iV wb_, iV op_, .slice a_sl_ n_sl_ c_sl_, iV fs_, iV sn_] 43, ro b_a #[.slice a_fv n_fv c_fv, .slice a_fi fi.length c_fi, .slice a_fo fo.length c_fo, .slice a_stp stp.length c_stp, .slice a_pl pl.length c_pl] ty_a, imm (.slice a_pl pl.length c_pl) pl, imm (.slice a_stp stp.length c_stp) stp, imm (.slice a_fo fo.length c_fo) fo, imm (.slice a_fi fi.length c_fi) fi])
          have H29 := H28.freeze 0 rfl
          exact ⟨_, rfl, xt19, ⟨(some ⟨g4, 0, none⟩), 3, rfl, (rv_drop rfl (H29.rv 0 rfl))⟩⟩
         refine dc (fun f8 w20 hf8 xt20 hp8 => ?_) ?_
         ·
          have H30 := H5.ext xt20
          have s6 : f8 79 = pV b_a 0 := hp8 0 rfl rfl
          obtain ⟨a4, c4, s7, rv7⟩ : ∃ (a4 : Option Addr) (c4 : Nat), f8 86 = .slice a4 ([rd_, wa_, wb_] : List Int).length c4 ∧ RV (MS M [box bb0 #[iV kd, iV rd_, iV wa_, iV wb_, iV op_, .slice a_sl_ n_sl_ c_sl_, iV fs_, iV sn_] 43, ro b_a #[.slice a_fv n_fv c_fv, .slice a_fi fi.length c_fi, .slice a_fo fo.length c_fo, .slice a_stp stp.length c_stp, .slice a_pl pl.length c_pl] ty_a, imm (.slice a_pl pl.length c_pl) pl, imm (.slice a_stp stp.length c_stp) stp, imm (.slice a_fo fo.length c_fo) fo, imm (.slice a_fi fi.length c_fi) fi]) w20 (.slice a4 ([rd_, wa_, wb_] : List Int).length c4) ([rd_, wa_, wb_] : List Int) := hp8 7 rfl rfl
          have H31 := H30.put (it := imm (.slice a4 ([rd_, wa_, wb_] : List Int).length c4) ([rd_, wa_, wb_] : List Int)) rfl rv7
          have cc6 := aud_op (fi := fi) (l := ([rd_, wa_, wb_] : List Int)) (a_fv := a_fv) (n_fv := n_fv) (c_fv := c_fv) (a_fo := a_fo) (n_fo := fo.length) (c_fo := c_fo) (a_stp := a_stp) (n_stp := stp.length) (c_stp := c_stp) (a_pl := a_pl) (n_pl := pl.length) (c_pl := c_pl) (w := w20) H31.mb (H31.rv 6 rfl) (H31.rv 0 rfl) (H31.at_ 2 rfl)
          refine ca go28 rfl (ec s6 (ec s7 e0)) cc6 ?_
          rintro _ w21 ⟨rfl, xt21⟩
          exact ⟨_, rfl, xt21, rfl⟩
         refine dc (fun _ _ _ _ hp9 => mv rfl (hp9 8 rfl rfl) (d0 rfl rfl)) ?_
         refine dc (fun f10 w23 hf10 xt23 hp10 => ?_) ?_
         ·
          have s9 : f10 88 = .bool (!(([rd_, wa_, wb_] : List Int).any (outO fi))) := hp10 9 rfl rfl
          refine gy rfl rfl s9 b4 (mv rfl ((hf10 0 rfl).trans i0) ?_)
          exact ⟨_, rfl, Ext.refl _, rfl⟩
         refine dc (fun f11 w24 hf11 xt24 hp11 => ?_) ?_
         ·
          have s10 : f11 88 = .bool (!(([rd_, wa_, wb_] : List Int).any (outO fi))) := hp11 9 rfl rfl
          have s11 : f11 89 = pV b_a 0 := hp11 10 rfl rfl
          refine gy rfl rfl s10 b4 (nc rfl s11 ?_)
          exact ⟨_, rfl, Ext.refl _, rfl⟩
         refine dc (fun f12 w25 hf12 xt25 hp12 => ?_) ?_
         ·
          have s12 : f12 88 = .bool (!(([rd_, wa_, wb_] : List Int).any (outO fi))) := hp12 9 rfl rfl
          have s13 : f12 90 = pV b_a 0 := hp12 11 rfl rfl
          refine gy rfl rfl s12 b4 (fa fl54_0 rfl s13 ?_)
          exact ⟨_, rfl, Ext.refl _, rfl⟩
         refine dc (fun f13 w26 hf13 xt26 hp13 => ?_) ?_
         ·
          have s14 : f13 88 = .bool (!(([rd_, wa_, wb_] : List Int).any (outO fi))) := hp13 9 rfl rfl
          have s15 : f13 91 = pV b_a 0 := hp13 12 rfl rfl
          refine gy rfl rfl s14 b4 (fa fl30_2 rfl s15 ?_)
          exact ⟨_, rfl, Ext.refl _, rfl⟩
         refine dc (fun f14 w27 hf14 xt27 hp14 => ?_) ?_
         ·
          have H38 := H5.ext xt27
          have s16 : f14 88 = .bool (!(([rd_, wa_, wb_] : List Int).any (outO fi))) := hp14 9 rfl rfl
          have s17 : f14 92 = pV b_a 2 := hp14 13 rfl rfl
          refine gy rfl rfl s16 b4 (ldR H38 1 rfl ty28 rfl s17 (by decide) rfl ?_)
          exact ⟨_, rfl, Ext.refl _, rfl⟩
         refine dc (fun f15 w28 hf15 xt28 hp15 => ?_) ?_
         ·
          have s18 : f15 88 = .bool (!(([rd_, wa_, wb_] : List Int).any (outO fi))) := hp15 9 rfl rfl
          refine gy rfl rfl s18 b4 (fa fl43_1 rfl (hf15 3 rfl) ?_)
          exact ⟨_, rfl, Ext.refl _, rfl⟩
         refine dc (fun f16 w29 hf16 xt29 hp16 => ?_) ?_
         ·
          have H40 := H5.ext xt29
          have s19 : f16 88 = .bool (!(([rd_, wa_, wb_] : List Int).any (outO fi))) := hp16 9 rfl rfl
          have s20 : f16 94 = pV bb0 1 := hp16 15 rfl rfl
          refine gy rfl rfl s19 b4 (ldX H40 0 rfl ty3 rfl s20 (by decide) rfl ?_)
          exact ⟨_, rfl, Ext.refl _, rfl⟩
         refine ⟨fun _ => ⟨fun f17 w30 hf17 xt30 hp17 => ?_, by rintro _ _ _ x_ ⟨ad2, e_, hA2⟩; exact ⟨ad2, e_, hA2.lift (Up.ext x_)⟩⟩, ?_⟩
         ·
          have H41 := H5.ext xt30
          have s21 : f17 88 = .bool (!(([rd_, wa_, wb_] : List Int).any (outO fi))) := hp17 9 rfl rfl
          have s22 : f17 93 = .slice a_fo fo.length c_fo := hp17 14 rfl rfl
          have s23 : f17 95 = iV rd_ := hp17 16 rfl rfl
          refine gy rfl rfl s21 b4 (ia (H41.rv 4 rfl) rfl rfl s22 s23 (by first | omega | (have h_ := op1_rng (fi := fi) (sb := rd_) (by assumption); omega) | (have h_ := op3_rng (fi := fi) (fr := rd_) (to := wa_) (sb := wb_) (by assumption); omega)) un28 ty3 ?_)
          intro ad3 x3 hx3 hA3
          obtain rfl : x0 = x3 := Option.some.inj (hx0.symm.trans hx3)
          exact ⟨_, rfl, Ext.refl _, ⟨ad3, rfl, hA3⟩⟩
         refine dc (fun f18 w31 hf18 xt31 hp18 => ?_) ?_
         ·
          have H42 := H5.ext xt31
          have s24 : f18 88 = .bool (!(([rd_, wa_, wb_] : List Int).any (outO fi))) := hp18 9 rfl rfl
          obtain ⟨ad4, s25, hA4⟩ : ∃ (ad4 : Addr), f18 96 = .pointer (some ad4) ∧ At (MS M [box bb0 #[iV kd, iV rd_, iV wa_, iV wb_, iV op_, .slice a_sl_ n_sl_ c_sl_, iV fs_, iV sn_] 43, ro b_a #[.slice a_fv n_fv c_fv, .slice a_fi fi.length c_fi, .slice a_fo fo.length c_fo, .slice a_stp stp.length c_stp, .slice a_pl pl.length c_pl] ty_a, imm (.slice a_pl pl.length c_pl) pl, imm (.slice a_stp stp.length c_stp) stp, imm (.slice a_fo fo.length c_fo) fo, imm (.slice a_fi fi.length c_fi) fi]) w31 ad4 x0 := hp18 17 rfl rfl
          have H43 := H42.put (it := atI ad4 x0) rfl hA4
          refine gy rfl rfl s24 b4 (ldI (H43.atv 0 rfl).w ty3 rfl s25 ?_)
          intro rv8
          exact ⟨_, rfl, Ext.refl _, ⟨rfl, rv8⟩⟩
         refine dc (fun f19 w32 hf19 xt32 hp19 => ?_) ?_
         ·
          have s26 : f19 88 = .bool (!(([rd_, wa_, wb_] : List Int).any (outO fi))) := hp19 9 rfl rfl
          refine gy rfl rfl s26 b4 (fa fl43_2 rfl (hf19 3 rfl) ?_)
          exact ⟨_, rfl, Ext.refl _, rfl⟩
         refine dc (fun f20 w33 hf20 xt33 hp20 => ?_) ?_
         ·
          have H45 := H5.ext xt33
          have s27 : f20 88 = .bool (!(([rd_, wa_, wb_] : List Int).any (outO fi))) := hp20 9 rfl rfl
          have s28 : f20 98 = pV bb0 2 := hp20 19 rfl rfl
          refine gy rfl rfl s27 b4 (ldX H45 0 rfl ty3 rfl s28 (by decide) rfl ?_)
          exact ⟨_, rfl, Ext.refl _, rfl⟩
         refine dc (fun f21 w34 hf21 xt34 hp21 => ?_) ?_
         ·
          have s29 : f21 88 = .bool (!(([rd_, wa_, wb_] : List Int).any (outO fi))) := hp21 9 rfl rfl
          obtain ⟨s30, rv9⟩ : f21 97 = iV x0 ∧ I64 (x0) := hp21 18 rfl rfl
          have s31 : f21 99 = iV wa_ := hp21 20 rfl rfl
          refine gy rfl rfl s29 b4 (eql rfl rfl s30 s31 ?_)
          exact ⟨_, rfl, Ext.refl _, rfl⟩
         refine dc (fun _ _ _ _ hp22 => pickT rfl rfl rfl (hp22 9 rfl rfl) b4 (hp22 21 rfl rfl) (d0 rfl rfl)) ?_
         refine dc (fun _ _ _ _ hp23 => mv rfl (hp23 22 rfl rfl) (d0 rfl rfl)) ?_
         refine dc (fun f24 w37 hf24 xt37 hp24 => ?_) ?_
         ·
          have s35 : f24 102 = .bool (decide (x0 = wa_)) := hp24 23 rfl rfl
          refine gy rfl rfl s35 b5 (mv rfl ((hf24 0 rfl).trans i0) ?_)
          exact ⟨_, rfl, Ext.refl _, rfl⟩
         refine dc (fun f25 w38 hf25 xt38 hp25 => ?_) ?_
         ·
          have s36 : f25 102 = .bool (decide (x0 = wa_)) := hp25 23 rfl rfl
          refine gy rfl rfl s36 b5 (fa fl43_2 rfl (hf25 3 rfl) ?_)
          exact ⟨_, rfl, Ext.refl _, rfl⟩
         refine dc (fun f26 w39 hf26 xt39 hp26 => ?_) ?_
         ·
          have H51 := H5.ext xt39
          have s37 : f26 102 = .bool (decide (x0 = wa_)) := hp26 23 rfl rfl
          have s38 : f26 104 = pV bb0 2 := hp26 25 rfl rfl
          refine gy rfl rfl s37 b5 (ldX H51 0 rfl ty3 rfl s38 (by decide) rfl ?_)
          exact ⟨_, rfl, Ext.refl _, rfl⟩
         refine dc (fun f27 w40 hf27 xt40 hp27 => ?_) ?_
         ·
          have s39 : f27 102 = .bool (decide (x0 = wa_)) := hp27 23 rfl rfl
          refine gy rfl rfl s39 b5 (fa fl43_3 rfl (hf27 3 rfl) ?_)
          exact ⟨_, rfl, Ext.refl _, rfl⟩
         refine dc (fun f28 w41 hf28 xt41 hp28 => ?_) ?_
         ·
          have H53 := H5.ext xt41
          have s40 : f28 102 = .bool (decide (x0 = wa_)) := hp28 23 rfl rfl
          have s41 : f28 106 = pV bb0 3 := hp28 27 rfl rfl
          refine gy rfl rfl s40 b5 (ldX H53 0 rfl ty3 rfl s41 (by decide) rfl ?_)
          exact ⟨_, rfl, Ext.refl _, rfl⟩
         refine dc (fun f29 w42 hf29 xt42 hp29 => ?_) ?_
         ·
          have H54 := H5.ext xt42
          have s42 : f29 102 = .bool (decide (x0 = wa_)) := hp29 23 rfl rfl
          have s43 : f29 103 = pV b_a 0 := hp29 24 rfl rfl
          have s44 : f29 105 = iV wa_ := hp29 26 rfl rfl
          have s45 : f29 107 = iV wb_ := hp29 28 rfl rfl
          refine gy rfl rfl s42 b5 ?_
          have cc7 := aud_other (fi := fi) (n1 := wa_) (n2 := wb_) (a_fv := a_fv) (n_fv := n_fv) (c_fv := c_fv) (a_fo := a_fo) (n_fo := fo.length) (c_fo := c_fo) (a_stp := a_stp) (n_stp := stp.length) (c_stp := c_stp) (a_pl := a_pl) (n_pl := pl.length) (c_pl := c_pl) (w := w42) H54.mb (H54.rv 5 rfl) (by first | assumption | (unfold I64 at *; omega)) (by first | assumption | (unfold I64 at *; omega)) (H54.at_ 1 rfl) (by first | omega | (have h_ := op1_rng (fi := fi) (sb := rd_) (by assumption); omega) | (have h_ := op3_rng (fi := fi) (fr := rd_) (to := wa_) (sb := wb_) (by assumption); omega)) (by first | omega | (have h_ := op1_rng (fi := fi) (sb := rd_) (by assumption); omega) | (have h_ := op3_rng (fi := fi) (fr := rd_) (to := wa_) (sb := wb_) (by assumption); omega))
          refine ca go32 rfl (ec s43 (ec s44 (ec s45 e0))) cc7 ?_
          rintro _ w43 ⟨rfl, xt43⟩
          exact ⟨_, rfl, xt43, rfl⟩
         refine dc (fun _ _ _ _ hp30 => pickT rfl rfl rfl (hp30 23 rfl rfl) b5 (hp30 29 rfl rfl) (d0 rfl rfl)) ?_
         refine dc (fun _ _ _ _ hp31 => mv rfl (hp31 30 rfl rfl) (d0 rfl rfl)) ?_
         refine dc (fun _ _ _ _ hp32 => gn rfl rfl (hp32 31 rfl rfl) b6 (d0 rfl rfl)) ?_
         refine dc (fun _ _ _ _ hp33 => gn rfl rfl (hp33 31 rfl rfl) b6 (d0 rfl rfl)) ?_
         refine dc (fun _ _ _ _ hp34 => pickF rfl rfl rfl (hp34 31 rfl rfl) b6 rfl (d0 rfl rfl)) ?_
         refine dc (fun _ _ _ _ hp35 => mv rfl (hp35 34 rfl rfl) (d0 rfl rfl)) ?_
         refine dc (fun _ _ _ _ hp36 => gn rfl rfl (hp36 35 rfl rfl) rfl (d0 rfl rfl)) ?_
         refine dc (fun _ _ _ _ hp37 => gn rfl rfl (hp37 35 rfl rfl) rfl (d0 rfl rfl)) ?_
         refine dc (fun _ _ _ _ hp38 => gn rfl rfl (hp38 35 rfl rfl) rfl (d0 rfl rfl)) ?_
         refine dc (fun _ _ _ _ hp39 => gn rfl rfl (hp39 35 rfl rfl) rfl (d0 rfl rfl)) ?_
         refine dc (fun _ _ _ _ hp40 => gn rfl rfl (hp40 35 rfl rfl) rfl (d0 rfl rfl)) ?_
         refine dc (fun _ _ _ _ hp41 => gn rfl rfl (hp41 35 rfl rfl) rfl (d0 rfl rfl)) ?_
         refine dc (fun _ _ _ _ hp42 => gn rfl rfl (hp42 35 rfl rfl) rfl (d0 rfl rfl)) ?_
         refine dc (fun _ _ _ _ hp43 => gn rfl rfl (hp43 35 rfl rfl) rfl (d0 rfl rfl)) ?_
         refine dc (fun _ _ _ _ hp44 => pickF rfl rfl rfl (hp44 35 rfl rfl) rfl rfl (d0 rfl rfl)) ?_
         refine dc (fun _ _ _ _ hp45 => mv rfl (hp45 44 rfl rfl) (d0 rfl rfl)) ?_
         refine dc (fun _ _ _ _ hp46 => gn rfl rfl (hp46 45 rfl rfl) rfl (d0 rfl rfl)) ?_
         refine dc (fun _ _ _ _ hp47 => gn rfl rfl (hp47 45 rfl rfl) rfl (d0 rfl rfl)) ?_
         refine dc (fun _ _ _ _ hp48 => gn rfl rfl (hp48 45 rfl rfl) rfl (d0 rfl rfl)) ?_
         refine dc (fun _ _ _ _ hp49 => gn rfl rfl (hp49 45 rfl rfl) rfl (d0 rfl rfl)) ?_
         refine dc (fun _ _ _ _ hp50 => gn rfl rfl (hp50 45 rfl rfl) rfl (d0 rfl rfl)) ?_
         refine dc (fun _ _ _ _ hp51 => gn rfl rfl (hp51 45 rfl rfl) rfl (d0 rfl rfl)) ?_
         refine dc (fun _ _ _ _ hp52 => gn rfl rfl (hp52 45 rfl rfl) rfl (d0 rfl rfl)) ?_
         exact DSteps.rest rfl _
        ·
         intro f53 w67 hf53 xt67 hp53
         have H79 := H5.ext xt67
         have s83 : f53 124 = .bool false := hp53 45 rfl
         refine k (gn rfl rfl s83 rfl (k (pickF rfl rfl rfl s83 rfl rfl (k (asg (v := .bool false) rfl rfl (z (nx (rt (inb_ret (then_ret (r1 rfl rfl ?_)))))))))))
         have e0 : (false : Bool) = patO fi fo stp pl kd rd_ wa_ wb_ op_ fs_ sn_ := by simp only [patO, hasI, keptO, List.getD_eq_getElem?_getD, hx0, Option.getD_some, Option.map_some, b0, b1, b2, b3, b4, (nott b4), b5, b6, BL, cond_true, cond_false]
         have ev_ := cg1 (fun (x_0 : Bool) => (.bool x_0 : Value)) e0
         exact ⟨ev_, H79.below⟩
      · -- decide (x0 = wa_) is False
       have p5 := of_decide_eq_false b5
       refine dr 53 [eV (pV b_a 0), eV (pV bb0 1), eV (iV rd_), eV (pV bb0 2), eV (iV wa_), eV (pV bb0 3), eV (iV wb_), fun (v : Value) (w' : World) => ∃ (a2 : Option Addr) (c2 : Nat), v = .slice a2 ([rd_, wa_, wb_] : List Int).length c2 ∧ RV (MS M [box bb0 #[iV kd, iV rd_, iV wa_, iV wb_, iV op_, .slice a_sl_ n_sl_ c_sl_, iV fs_, iV sn_] 43, ro b_a #[.slice a_fv n_fv c_fv, .slice a_fi fi.length c_fi, .slice a_fo fo.length c_fo, .slice a_stp stp.length c_stp, .slice a_pl pl.length c_pl] ty_a, imm (.slice a_pl pl.length c_pl) pl, imm (.slice a_stp stp.length c_stp) stp, imm (.slice a_fo fo.length c_fo) fo, imm (.slice a_fi fi.length c_fi) fi]) w' (.slice a2 ([rd_, wa_, wb_] : List Int).length c2) ([rd_, wa_, wb_] : List Int), eV (.bool (!(([rd_, wa_, wb_] : List Int).any (outO fi)))), eV (.bool (!(([rd_, wa_, wb_] : List Int).any (outO fi)))), eV (pV b_a 0), eV (pV b_a 0), eV (pV b_a 0), eV (pV b_a 2), eV (.slice a_fo fo.length c_fo), eV (pV bb0 1), eV (iV rd_), fun (v : Value) (w' : World) => ∃ (ad1 : Addr), v = .pointer (some ad1) ∧ At (MS M [box bb0 #[iV kd, iV rd_, iV wa_, iV wb_, iV op_, .slice a_sl_ n_sl_ c_sl_, iV fs_, iV sn_] 43, ro b_a #[.slice a_fv n_fv c_fv, .slice a_fi fi.length c_fi, .slice a_fo fo.length c_fo, .slice a_stp stp.length c_stp, .slice a_pl pl.length c_pl] ty_a, imm (.slice a_pl pl.length c_pl) pl, imm (.slice a_stp stp.length c_stp) stp, imm (.slice a_fo fo.length c_fo) fo, imm (.slice a_fi fi.length c_fi) fi]) w' ad1 x0, fun (v : Value) (w' : World) => v = iV x0 ∧ I64 (x0), eV (pV bb0 2), eV (iV wa_), eV (.bool (decide (x0 = wa_))), eV (.bool (decide (x0 = wa_))), eV (.bool (decide (x0 = wa_))), eV undef, eV undef, eV undef, eV undef, eV undef, eV undef, eV (.bool false), eV (.bool false), eV undef, eV undef, eV (.bool false), eV (.bool false), eV undef, eV undef, eV undef, eV undef, eV undef, eV undef, eV undef, eV undef, eV (.bool false), eV (.bool false), eV undef, eV undef, eV undef, eV undef, eV undef, eV undef, eV undef] rfl (by kernel_rfl) ?_ ?_
       ·
        refine dc (fun _ _ hf0 _ _ => mv rfl ((hf0 0 rfl).trans i0) (d0 rfl rfl)) ?_
        refine dc (fun _ _ hf1 _ _ => fa fl43_1 rfl (hf1 3 rfl) (d0 rfl rfl)) ?_
        refine dc (fun _ _ _ xt9 hp2 => ldX (H5.ext xt9) 0 rfl ty3 rfl (hp2 1 rfl rfl) (by decide) rfl (d0 rfl rfl)) ?_
        refine dc (fun _ _ hf3 _ _ => fa fl43_2 rfl (hf3 3 rfl) (d0 rfl rfl)) ?_
        refine dc (fun _ _ _ xt11 hp4 => ldX (H5.ext xt11) 0 rfl ty3 rfl (hp4 3 rfl rfl) (by decide) rfl (d0 rfl rfl)) ?_
        refine dc (fun _ _ hf5 _ _ => fa fl43_3 rfl (hf5 3 rfl) (d0 rfl rfl)) ?_
        refine dc (fun _ _ _ xt13 hp6 => ldX (H5.ext xt13) 0 rfl ty3 rfl (hp6 5 rfl rfl) (by decide) rfl (d0 rfl rfl)) ?_
        refine ⟨fun _ => ⟨fun f7 w14 hf7 xt14 hp7 => ?_, by rintro _ _ _ x_ ⟨a2, c2, e_, rv3⟩; exact ⟨a2, c2, e_, rv3.lift (Up.ext x_)⟩⟩, ?_⟩
        ·
         have H22 := H5.ext xt14
         have s3 : f7 81 = iV rd_ := hp7 2 rfl rfl
         have s4 : f7 83 = iV wa_ := hp7 4 rfl rfl
         have s5 : f7 85 = iV wb_ := hp7 6 rfl rfl
         refine bs (xs := ([rd_, wa_, wb_] : List Int)) (cells := #[iV rd_, iV wa_, iV wb_]) (e := 3) H22 rfl (pbc s3 (pbc s4 (pbc s5 pb0))) (fun _ => by kernel_rfl) ⟨[iV rd_], [iV wa_, iV wb_], rfl, ⟨rfl, (show I64 (rd_) from (by first | assumption | (unfold I64 at *; omega)))⟩, ⟨[iV wa_], [iV wb_], rfl, ⟨rfl, (show I64 (wa_) from (by first | assumption | (unfold I64 at *; omega)))⟩, ⟨[iV wb_], [], rfl, ⟨rfl, (show I64 (wb_) from (by first | assumption | (unfold I64 at *; omega)))⟩, rfl⟩⟩⟩ rfl (by unfold maxLen; omega) ?_
         intro g3 w15 xt15 (H23 : HI M w w15 [own w.heap.size 3 (.slice (some ⟨g3, 0, none⟩) 3 3) ([rd_, wa_, wb_] : List Int), box bb0 #[iV kd, iV rd_, iV wa_, iV wb_, iV op_, .slice a_sl_ n_sl_ c_sl_, iV fs_, iV sn_] 43, ro b_a #[.slice a_fv n_fv c_fv, .slice a_fi fi.length c_fi, .slice a_fo fo.length c_fo, .slice a_stp stp.length c_stp, .slice a_pl pl.length c_pl] ty_a, imm (.slice a_pl pl.length c_pl) pl, imm (.slice a_stp stp.length c_stp) stp, imm (.slice a_fo fo.length c_fo) fo, imm (.slice a_fi fi.length c_fi) fi])
         have H24 := H23.freeze 0 rfl
         exact ⟨_, rfl, xt15, ⟨(some ⟨g3, 0, none⟩), 3, rfl, (rv_drop rfl (H24.rv 0 rfl))⟩⟩
        refine dc (fun f8 w16 hf8 xt16 hp8 => ?_) ?_
        ·
         have H25 := H5.ext xt16
         have s6 : f8 79 = pV b_a 0 := hp8 0 rfl rfl
         obtain ⟨a3, c3, s7, rv5⟩ : ∃ (a3 : Option Addr) (c3 : Nat), f8 86 = .slice a3 ([rd_, wa_, wb_] : List Int).length c3 ∧ RV (MS M [box bb0 #[iV kd, iV rd_, iV wa_, iV wb_, iV op_, .slice a_sl_ n_sl_ c_sl_, iV fs_, iV sn_] 43, ro b_a #[.slice a_fv n_fv c_fv, .slice a_fi fi.length c_fi, .slice a_fo fo.length c_fo, .slice a_stp stp.length c_stp, .slice a_pl pl.length c_pl] ty_a, imm (.slice a_pl pl.length c_pl) pl, imm (.slice a_stp stp.length c_stp) stp, imm (.slice a_fo fo.length c_fo) fo, imm (.slice a_fi fi.length c_fi) fi]) w16 (.slice a3 ([rd_, wa_, wb_] : List Int).length c3) ([rd_, wa_, wb_] : List Int) := hp8 7 rfl rfl
         have H26 := H25.put (it := imm (.slice a3 ([rd_, wa_, wb_] : List Int).length c3) ([rd_, wa_, wb_] : List Int)) rfl rv5
         have cc3 := aud_op (fi := fi) (l := ([rd_, wa_, wb_] : List Int)) (a_fv := a_fv) (n_fv := n_fv) (c_fv := c_fv) (a_fo := a_fo) (n_fo := fo.length) (c_fo := c_fo) (a_stp := a_stp) (n_stp := stp.length) (c_stp := c_stp) (a_pl := a_pl) (n_pl := pl.length) (c_pl := c_pl) (w := w16) H26.mb (H26.rv 6 rfl) (H26.rv 0 rfl) (H26.at_ 2 rfl)
         refine ca go28 rfl (ec s6 (ec s7 e0)) cc3 ?_
         rintro _ w17 ⟨rfl, xt17⟩
         exact ⟨_, rfl, xt17, rfl⟩
        refine dc (fun _ _ _ _ hp9 => mv rfl (hp9 8 rfl rfl) (d0 rfl rfl)) ?_
        refine dc (fun f10 w19 hf10 xt19 hp10 => ?_) ?_
        ·
         have s9 : f10 88 = .bool (!(([rd_, wa_, wb_] : List Int).any (outO fi))) := hp10 9 rfl rfl
         refine gy rfl rfl s9 b4 (mv rfl ((hf10 0 rfl).trans i0) ?_)
         exact ⟨_, rfl, Ext.refl _, rfl⟩
        refine dc (fun f11 w20 hf11 xt20 hp11 => ?_) ?_
        ·
         have s10 : f11 88 = .bool (!(([rd_, wa_, wb_] : List Int).any (outO fi))) := hp11 9 rfl rfl
         have s11 : f11 89 = pV b_a 0 := hp11 10 rfl rfl
         refine gy rfl rfl s10 b4 (nc rfl s11 ?_)
         exact ⟨_, rfl, Ext.refl _, rfl⟩
        refine dc (fun f12 w21 hf12 xt21 hp12 => ?_) ?_
        ·
         have s12 : f12 88 = .bool (!(([rd_, wa_, wb_] : List Int).any (outO fi))) := hp12 9 rfl rfl
         have s13 : f12 90 = pV b_a 0 := hp12 11 rfl rfl
         refine gy rfl rfl s12 b4 (fa fl54_0 rfl s13 ?_)
         exact ⟨_, rfl, Ext.refl _, rfl⟩
        refine dc (fun f13 w22 hf13 xt22 hp13 => ?_) ?_
        ·
         have s14 : f13 88 = .bool (!(([rd_, wa_, wb_] : List Int).any (outO fi))) := hp13 9 rfl rfl
         have s15 : f13 91 = pV b_a 0 := hp13 12 rfl rfl
         refine gy rfl rfl s14 b4 (fa fl30_2 rfl s15 ?_)
         exact ⟨_, rfl, Ext.refl _, rfl⟩
        refine dc (fun f14 w23 hf14 xt23 hp14 => ?_) ?_
        ·
         have H33 := H5.ext xt23
         have s16 : f14 88 = .bool (!(([rd_, wa_, wb_] : List Int).any (outO fi))) := hp14 9 rfl rfl
         have s17 : f14 92 = pV b_a 2 := hp14 13 rfl rfl
         refine gy rfl rfl s16 b4 (ldR H33 1 rfl ty28 rfl s17 (by decide) rfl ?_)
         exact ⟨_, rfl, Ext.refl _, rfl⟩
        refine dc (fun f15 w24 hf15 xt24 hp15 => ?_) ?_
        ·
         have s18 : f15 88 = .bool (!(([rd_, wa_, wb_] : List Int).any (outO fi))) := hp15 9 rfl rfl
         refine gy rfl rfl s18 b4 (fa fl43_1 rfl (hf15 3 rfl) ?_)
         exact ⟨_, rfl, Ext.refl _, rfl⟩
        refine dc (fun f16 w25 hf16 xt25 hp16 => ?_) ?_
        ·
         have H35 := H5.ext xt25
         have s19 : f16 88 = .bool (!(([rd_, wa_, wb_] : List Int).any (outO fi))) := hp16 9 rfl rfl
         have s20 : f16 94 = pV bb0 1 := hp16 15 rfl rfl
         refine gy rfl rfl s19 b4 (ldX H35 0 rfl ty3 rfl s20 (by decide) rfl ?_)
         exact ⟨_, rfl, Ext.refl _, rfl⟩
        refine ⟨fun _ => ⟨fun f17 w26 hf17 xt26 hp17 => ?_, by rintro _ _ _ x_ ⟨ad1, e_, hA1⟩; exact ⟨ad1, e_, hA1.lift (Up.ext x_)⟩⟩, ?_⟩
        ·
         have H36 := H5.ext xt26
         have s21 : f17 88 = .bool (!(([rd_, wa_, wb_] : List Int).any (outO fi))) := hp17 9 rfl rfl
         have s22 : f17 93 = .slice a_fo fo.length c_fo := hp17 14 rfl rfl
         have s23 : f17 95 = iV rd_ := hp17 16 rfl rfl
         refine gy rfl rfl s21 b4 (ia (H36.rv 4 rfl) rfl rfl s22 s23 (by first | omega | (have h_ := op1_rng (fi := fi) (sb := rd_) (by assumption); omega) | (have h_ := op3_rng (fi := fi) (fr := rd_) (to := wa_) (sb := wb_) (by assumption); omega)) un28 ty3 ?_)
         intro ad2 x2 hx2 hA2
         obtain rfl : x0 = x2 := Option.some.inj (hx0.symm.trans hx2)
         exact ⟨_, rfl, Ext.refl _, ⟨ad2, rfl, hA2⟩⟩
        refine dc (fun f18 w27 hf18 xt27 hp18 => ?_) ?_
        ·
         have H37 := H5.ext xt27
         have s24 : f18 88 = .bool (!(([rd_, wa_, wb_] : List Int).any (outO fi))) := hp18 9 rfl rfl
         obtain ⟨ad3, s25, hA3⟩ : ∃ (ad3 : Addr), f18 96 = .pointer (some ad3) ∧ At (MS M [box bb0 #[iV kd, iV rd_, iV wa_, iV wb_, iV op_, .slice a_sl_ n_sl_ c_sl_, iV fs_, iV sn_] 43, ro b_a #[.slice a_fv n_fv c_fv, .slice a_fi fi.length c_fi, .slice a_fo fo.length c_fo, .slice a_stp stp.length c_stp, .slice a_pl pl.length c_pl] ty_a, imm (.slice a_pl pl.length c_pl) pl, imm (.slice a_stp stp.length c_stp) stp, imm (.slice a_fo fo.length c_fo) fo, imm (.slice a_fi fi.length c_fi) fi]) w27 ad3 x0 := hp18 17 rfl rfl
         have H38 := H37.put (it := atI ad3 x0) rfl hA3
         refine gy rfl rfl s24 b4 (ldI (H38.atv 0 rfl).w ty3 rfl s25 ?_)
         intro rv6
         exact ⟨_, rfl, Ext.refl _, ⟨rfl, rv6⟩⟩
        refine dc (fun f19 w28 hf19 xt28 hp19 => ?_) ?_
        ·
         have s26 : f19 88 = .bool (!(([rd_, wa_, wb_] : List Int).any (outO fi))) := hp19 9 rfl rfl
         refine gy rfl rfl s26 b4 (fa fl43_2 rfl (hf19 3 rfl) ?_)
         exact ⟨_, rfl, Ext.refl _, rfl⟩
        refine dc (fun f20 w29 hf20 xt29 hp20 => ?_) ?_
        ·
         have H40 := H5.ext xt29
         have s27 : f20 88 = .bool (!(([rd_, wa_, wb_] : List Int).any (outO fi))) := hp20 9 rfl rfl
         have s28 : f20 98 = pV bb0 2 := hp20 19 rfl rfl
         refine gy rfl rfl s27 b4 (ldX H40 0 rfl ty3 rfl s28 (by decide) rfl ?_)
         exact ⟨_, rfl, Ext.refl _, rfl⟩
        refine dc (fun f21 w30 hf21 xt30 hp21 => ?_) ?_
        ·
         have s29 : f21 88 = .bool (!(([rd_, wa_, wb_] : List Int).any (outO fi))) := hp21 9 rfl rfl
         obtain ⟨s30, rv7⟩ : f21 97 = iV x0 ∧ I64 (x0) := hp21 18 rfl rfl
         have s31 : f21 99 = iV wa_ := hp21 20 rfl rfl
         refine gy rfl rfl s29 b4 (eql rfl rfl s30 s31 ?_)
         exact ⟨_, rfl, Ext.refl _, rfl⟩
        refine dc (fun _ _ _ _ hp22 => pickT rfl rfl rfl (hp22 9 rfl rfl) b4 (hp22 21 rfl rfl) (d0 rfl rfl)) ?_
        refine dc (fun _ _ _ _ hp23 => mv rfl (hp23 22 rfl rfl) (d0 rfl rfl)) ?_
        refine dc (fun _ _ _ _ hp24 => gn rfl rfl (hp24 23 rfl rfl) b5 (d0 rfl rfl)) ?_
        refine dc (fun _ _ _ _ hp25 => gn rfl rfl (hp25 23 rfl rfl) b5 (d0 rfl rfl)) ?_
        refine dc (fun _ _ _ _ hp26 => gn rfl rfl (hp26 23 rfl rfl) b5 (d0 rfl rfl)) ?_
        refine dc (fun _ _ _ _ hp27 => gn rfl rfl (hp27 23 rfl rfl) b5 (d0 rfl rfl)) ?_
        refine dc (fun _ _ _ _ hp28 => gn rfl rfl (hp28 23 rfl rfl) b5 (d0 rfl rfl)) ?_
        refine dc (fun _ _ _ _ hp29 => gn rfl rfl (hp29 23 rfl rfl) b5 (d0 rfl rfl)) ?_
        refine dc (fun _ _ _ _ hp30 => pickF rfl rfl rfl (hp30 23 rfl rfl) b5 rfl (d0 rfl rfl)) ?_
        refine dc (fun _ _ _ _ hp31 => mv rfl (hp31 30 rfl rfl) (d0 rfl rfl)) ?_
        refine dc (fun _ _ _ _ hp32 => gn rfl rfl (hp32 31 rfl rfl) rfl (d0 rfl rfl)) ?_
        refine dc (fun _ _ _ _ hp33 => gn rfl rfl (hp33 31 rfl rfl) rfl (d0 rfl rfl)) ?_
        refine dc (fun _ _ _ _ hp34 => pickF rfl rfl rfl (hp34 31 rfl rfl) rfl rfl (d0 rfl rfl)) ?_
        refine dc (fun _ _ _ _ hp35 => mv rfl (hp35 34 rfl rfl) (d0 rfl rfl)) ?_
        refine dc (fun _ _ _ _ hp36 => gn rfl rfl (hp36 35 rfl rfl) rfl (d0 rfl rfl)) ?_
        refine dc (fun _ _ _ _ hp37 => gn rfl rfl (hp37 35 rfl rfl) rfl (d0 rfl rfl)) ?_
        refine dc (fun _ _ _ _ hp38 => gn rfl rfl (hp38 35 rfl rfl) rfl (d0 rfl rfl)) ?_
        refine dc (fun _ _ _ _ hp39 => gn rfl rfl (hp39 35 rfl rfl) rfl (d0 rfl rfl)) ?_
        refine dc (fun _ _ _ _ hp40 => gn rfl rfl (hp40 35 rfl rfl) rfl (d0 rfl rfl)) ?_
        refine dc (fun _ _ _ _ hp41 => gn rfl rfl (hp41 35 rfl rfl) rfl (d0 rfl rfl)) ?_
        refine dc (fun _ _ _ _ hp42 => gn rfl rfl (hp42 35 rfl rfl) rfl (d0 rfl rfl)) ?_
        refine dc (fun _ _ _ _ hp43 => gn rfl rfl (hp43 35 rfl rfl) rfl (d0 rfl rfl)) ?_
        refine dc (fun _ _ _ _ hp44 => pickF rfl rfl rfl (hp44 35 rfl rfl) rfl rfl (d0 rfl rfl)) ?_
        refine dc (fun _ _ _ _ hp45 => mv rfl (hp45 44 rfl rfl) (d0 rfl rfl)) ?_
        refine dc (fun _ _ _ _ hp46 => gn rfl rfl (hp46 45 rfl rfl) rfl (d0 rfl rfl)) ?_
        refine dc (fun _ _ _ _ hp47 => gn rfl rfl (hp47 45 rfl rfl) rfl (d0 rfl rfl)) ?_
        refine dc (fun _ _ _ _ hp48 => gn rfl rfl (hp48 45 rfl rfl) rfl (d0 rfl rfl)) ?_
        refine dc (fun _ _ _ _ hp49 => gn rfl rfl (hp49 45 rfl rfl) rfl (d0 rfl rfl)) ?_
        refine dc (fun _ _ _ _ hp50 => gn rfl rfl (hp50 45 rfl rfl) rfl (d0 rfl rfl)) ?_
        refine dc (fun _ _ _ _ hp51 => gn rfl rfl (hp51 45 rfl rfl) rfl (d0 rfl rfl)) ?_
        refine dc (fun _ _ _ _ hp52 => gn rfl rfl (hp52 45 rfl rfl) rfl (d0 rfl rfl)) ?_
        exact DSteps.rest rfl _
       ·
        intro f53 w62 hf53 xt62 hp53
        have H73 := H5.ext xt62
        have s83 : f53 124 = .bool false := hp53 45 rfl
        refine k (gn rfl rfl s83 rfl (k (pickF rfl rfl rfl s83 rfl rfl (k (asg (v := .bool false) rfl rfl (z (nx (rt (inb_ret (then_ret (r1 rfl rfl ?_)))))))))))
        have e0 : (false : Bool) = patO fi fo stp pl kd rd_ wa_ wb_ op_ fs_ sn_ := by simp only [patO, hasI, keptO, List.getD_eq_getElem?_getD, hx0, Option.getD_some, Option.map_some, b0, b1, b2, b3, b4, (nott b4), b5, BL, cond_true, cond_false]
        have ev_ := cg1 (fun (x_0 : Bool) => (.bool x_0 : Value)) e0
        exact ⟨ev_, H73.below⟩
     · -- !(([rd_, wa_, wb_] : List Int).any (outO fi)) is False
      refine dr 53 [eV (pV b_a 0), eV (pV bb0 1), eV (iV rd_), eV (pV bb0 2), eV (iV wa_), eV (pV bb0 3), eV (iV wb_), fun (v : Value) (w' : World) => ∃ (a1 : Option Addr) (c1 : Nat), v = .slice a1 ([rd_, wa_, wb_] : List Int).length c1 ∧ RV (MS M [box bb0 #[iV kd, iV rd_, iV wa_, iV wb_, iV op_, .slice a_sl_ n_sl_ c_sl_, iV fs_, iV sn_] 43, ro b_a #[.slice a_fv n_fv c_fv, .slice a_fi fi.length c_fi, .slice a_fo fo.length c_fo, .slice a_stp stp.length c_stp, .slice a_pl pl.length c_pl] ty_a, imm (.slice a_pl pl.length c_pl) pl, imm (.slice a_stp stp.length c_stp) stp, imm (.slice a_fo fo.length c_fo) fo, imm (.slice a_fi fi.length c_fi) fi]) w' (.slice a1 ([rd_, wa_, wb_] : List Int).length c1) ([rd_, wa_, wb_] : List Int), eV (.bool (!(([rd_, wa_, wb_] : List Int).any (outO fi)))), eV (.bool (!(([rd_, wa_, wb_] : List Int).any (outO fi)))), eV undef, eV undef, eV undef, eV undef, eV undef, eV undef, eV undef, eV undef, eV undef, eV undef, eV undef, eV undef, eV (.bool false), eV (.bool false), eV undef, eV undef, eV undef, eV undef, eV undef, eV undef, eV (.bool false), eV (.bool false), eV undef, eV undef, eV (.bool false), eV (.bool false), eV undef, eV undef, eV undef, eV undef, eV undef, eV undef, eV undef, eV undef, eV (.bool false), eV (.bool false), eV undef, eV undef, eV undef, eV undef, eV undef, eV undef, eV undef] rfl (by kernel_rfl) ?_ ?_
      ·
       refine dc (fun _ _ hf0 _ _ => mv rfl ((hf0 0 rfl).trans i0) (d0 rfl rfl)) ?_
       refine dc (fun _ _ hf1 _ _ => fa fl43_1 rfl (hf1 3 rfl) (d0 rfl rfl)) ?_
       refine dc (fun _ _ _ xt7 hp2 => ldX (H5.ext xt7) 0 rfl ty3 rfl (hp2 1 rfl rfl) (by decide) rfl (d0 rfl rfl)) ?_
       refine dc (fun _ _ hf3 _ _ => fa fl43_2 rfl (hf3 3 rfl) (d0 rfl rfl)) ?_
       refine dc (fun _ _ _ xt9 hp4 => ldX (H5.ext xt9) 0 rfl ty3 rfl (hp4 3 rfl rfl) (by decide) rfl (d0 rfl rfl)) ?_
       refine dc (fun _ _ hf5 _ _ => fa fl43_3 rfl (hf5 3 rfl) (d0 rfl rfl)) ?_
       refine dc (fun _ _ _ xt11 hp6 => ldX (H5.ext xt11) 0 rfl ty3 rfl (hp6 5 rfl rfl) (by decide) rfl (d0 rfl rfl)) ?_
       refine ⟨fun _ => ⟨fun f7 w12 hf7 xt12 hp7 => ?_, by rintro _ _ _ x_ ⟨a1, c1, e_, rv1⟩; exact ⟨a1, c1, e_, rv1.lift (Up.ext x_)⟩⟩, ?_⟩
       ·
        have H19 := H5.ext xt12
        have s3 : f7 81 = iV rd_ := hp7 2 rfl rfl
        have s4 : f7 83 = iV wa_ := hp7 4 rfl rfl
        have s5 : f7 85 = iV wb_ := hp7 6 rfl rfl
        refine bs (xs := ([rd_, wa_, wb_] : List Int)) (cells := #[iV rd_, iV wa_, iV wb_]) (e := 3) H19 rfl (pbc s3 (pbc s4 (pbc s5 pb0))) (fun _ => by kernel_rfl) ⟨[iV rd_], [iV wa_, iV wb_], rfl, ⟨rfl, (show I64 (rd_) from (by first | assumption | (unfold I64 at *; omega)))⟩, ⟨[iV wa_], [iV wb_], rfl, ⟨rfl, (show I64 (wa_) from (by first | assumption | (unfold I64 at *; omega)))⟩, ⟨[iV wb_], [], rfl, ⟨rfl, (show I64 (wb_) from (by first | assumption | (unfold I64 at *; omega)))⟩, rfl⟩⟩⟩ rfl (by unfold maxLen; omega) ?_
        intro g2 w13 xt13 (H20 : HI M w w13 [own w.heap.size 3 (.slice (some ⟨g2, 0, none⟩) 3 3) ([rd_, wa_, wb_] : List Int), box bb0 #[iV kd, iV rd_, iV wa_, iV wb_, iV op_, .slice a_sl_ n_sl_ c_sl_, iV fs_, iV sn_] 43, ro b_a #[.slice a_fv n_fv c_fv, .slice a_fi fi.length c_fi, .slice a_fo fo.length c_fo, .slice a_stp stp.length c_stp, .slice a_pl pl.length c_pl] ty_a, imm (.slice a_pl pl.length c_pl) pl, imm (.slice a_stp stp.length c_stp) stp, imm (.slice a_fo fo.length c_fo) fo, imm (.slice a_fi fi.length c_fi) fi])
        have H21 := H20.freeze 0 rfl
        exact ⟨_, rfl, xt13, ⟨(some ⟨g2, 0, none⟩), 3, rfl, (rv_drop rfl (H21.rv 0 rfl))⟩⟩
       refine dc (fun f8 w14 hf8 xt14 hp8 => ?_) ?_
       ·
        have H22 := H5.ext xt14
        have s6 : f8 79 = pV b_a 0 := hp8 0 rfl rfl
        obtain ⟨a2, c2, s7, rv2⟩ : ∃ (a2 : Option Addr) (c2 : Nat), f8 86 = .slice a2 ([rd_, wa_, wb_] : List Int).length c2 ∧ RV (MS M [box bb0 #[iV kd, iV rd_, iV wa_, iV wb_, iV op_, .slice a_sl_ n_sl_ c_sl_, iV fs_, iV sn_] 43, ro b_a #[.slice a_fv n_fv c_fv, .slice a_fi fi.length c_fi, .slice a_fo fo.length c_fo, .slice a_stp stp.length c_stp, .slice a_pl pl.length c_pl] ty_a, imm (.slice a_pl pl.length c_pl) pl, imm (.slice a_stp stp.length c_stp) stp, imm (.slice a_fo fo.length c_fo) fo, imm (.slice a_fi fi.length c_fi) fi]) w14 (.slice a2 ([rd_, wa_, wb_] : List Int).length c2) ([rd_, wa_, wb_] : List Int) := hp8 7 rfl rfl
        have H23 := H22.put (it := imm (.slice a2 ([rd_, wa_, wb_] : List Int).length c2) ([rd_, wa_, wb_] : List Int)) rfl rv2
        have cc2 := aud_op (fi := fi) (l := ([rd_, wa_, wb_] : List Int)) (a_fv := a_fv) (n_fv := n_fv) (c_fv := c_fv) (a_fo := a_fo) (n_fo := fo.length) (c_fo := c_fo) (a_stp := a_stp) (n_stp := stp.length) (c_stp := c_stp) (a_pl := a_pl) (n_pl := pl.length) (c_pl := c_pl) (w := w14) H23.mb (H23.rv 6 rfl) (H23.rv 0 rfl) (H23.at_ 2 rfl)
        refine ca go28 rfl (ec s6 (ec s7 e0)) cc2 ?_
        rintro _ w15 ⟨rfl, xt15⟩
        exact ⟨_, rfl, xt15, rfl⟩
       refine dc (fun _ _ _ _ hp9 => mv rfl (hp9 8 rfl rfl) (d0 rfl rfl)) ?_
       refine dc (fun _ _ _ _ hp10 => gn rfl rfl (hp10 9 rfl rfl) b4 (d0 rfl rfl)) ?_
       refine dc (fun _ _ _ _ hp11 => gn rfl rfl (hp11 9 rfl rfl) b4 (d0 rfl rfl)) ?_
       refine dc (fun _ _ _ _ hp12 => gn rfl rfl (hp12 9 rfl rfl) b4 (d0 rfl rfl)) ?_
       refine dc (fun _ _ _ _ hp13 => gn rfl rfl (hp13 9 rfl rfl) b4 (d0 rfl rfl)) ?_
       refine dc (fun _ _ _ _ hp14 => gn rfl rfl (hp14 9 rfl rfl) b4 (d0 rfl rfl)) ?_
       refine dc (fun _ _ _ _ hp15 => gn rfl rfl (hp15 9 rfl rfl) b4 (d0 rfl rfl)) ?_
       refine dc (fun _ _ _ _ hp16 => gn rfl rfl (hp16 9 rfl rfl) b4 (d0 rfl rfl)) ?_
       refine dc (fun _ _ _ _ hp17 => gn rfl rfl (hp17 9 rfl rfl) b4 (d0 rfl rfl)) ?_
       refine dc (fun _ _ _ _ hp18 => gn rfl rfl (hp18 9 rfl rfl) b4 (d0 rfl rfl)) ?_
       refine dc (fun _ _ _ _ hp19 => gn rfl rfl (hp19 9 rfl rfl) b4 (d0 rfl rfl)) ?_
       refine dc (fun _ _ _ _ hp20 => gn rfl rfl (hp20 9 rfl rfl) b4 (d0 rfl rfl)) ?_
       refine dc (fun _ _ _ _ hp21 => gn rfl rfl (hp21 9 rfl rfl) b4 (d0 rfl rfl)) ?_
       refine dc (fun _ _ _ _ hp22 => pickF rfl rfl rfl (hp22 9 rfl rfl) b4 rfl (d0 rfl rfl)) ?_
       refine dc (fun _ _ _ _ hp23 => mv rfl (hp23 22 rfl rfl) (d0 rfl rfl)) ?_
       refine dc (fun _ _ _ _ hp24 => gn rfl rfl (hp24 23 rfl rfl) rfl (d0 rfl rfl)) ?_
       refine dc (fun _ _ _ _ hp25 => gn rfl rfl (hp25 23 rfl rfl) rfl (d0 rfl rfl)) ?_
       refine dc (fun _ _ _ _ hp26 => gn rfl rfl (hp26 23 rfl rfl) rfl (d0 rfl rfl)) ?_
       refine dc (fun _ _ _ _ hp27 => gn rfl rfl (hp27 23 rfl rfl) rfl (d0 rfl rfl)) ?_
       refine dc (fun _ _ _ _ hp28 => gn rfl rfl (hp28 23 rfl rfl) rfl (d0 rfl rfl)) ?_
       refine dc (fun _ _ _ _ hp29 => gn rfl rfl (hp29 23 rfl rfl) rfl (d0 rfl rfl)) ?_
       refine dc (fun _ _ _ _ hp30 => pickF rfl rfl rfl (hp30 23 rfl rfl) rfl rfl (d0 rfl rfl)) ?_
       refine dc (fun _ _ _ _ hp31 => mv rfl (hp31 30 rfl rfl) (d0 rfl rfl)) ?_
       refine dc (fun _ _ _ _ hp32 => gn rfl rfl (hp32 31 rfl rfl) rfl (d0 rfl rfl)) ?_
       refine dc (fun _ _ _ _ hp33 => gn rfl rfl (hp33 31 rfl rfl) rfl (d0 rfl rfl)) ?_
       refine dc (fun _ _ _ _ hp34 => pickF rfl rfl rfl (hp34 31 rfl rfl) rfl rfl (d0 rfl rfl)) ?_
       refine dc (fun _ _ _ _ hp35 => mv rfl (hp35 34 rfl rfl) (d0 rfl rfl)) ?_
       refine dc (fun _ _ _ _ hp36 => gn rfl rfl (hp36 35 rfl rfl) rfl (d0 rfl rfl)) ?_
       refine dc (fun _ _ _ _ hp37 => gn rfl rfl (hp37 35 rfl rfl) rfl (d0 rfl rfl)) ?_
       refine dc (fun _ _ _ _ hp38 => gn rfl rfl (hp38 35 rfl rfl) rfl (d0 rfl rfl)) ?_
       refine dc (fun _ _ _ _ hp39 => gn rfl rfl (hp39 35 rfl rfl) rfl (d0 rfl rfl)) ?_
       refine dc (fun _ _ _ _ hp40 => gn rfl rfl (hp40 35 rfl rfl) rfl (d0 rfl rfl)) ?_
       refine dc (fun _ _ _ _ hp41 => gn rfl rfl (hp41 35 rfl rfl) rfl (d0 rfl rfl)) ?_
       refine dc (fun _ _ _ _ hp42 => gn rfl rfl (hp42 35 rfl rfl) rfl (d0 rfl rfl)) ?_
       refine dc (fun _ _ _ _ hp43 => gn rfl rfl (hp43 35 rfl rfl) rfl (d0 rfl rfl)) ?_
       refine dc (fun _ _ _ _ hp44 => pickF rfl rfl rfl (hp44 35 rfl rfl) rfl rfl (d0 rfl rfl)) ?_
       refine dc (fun _ _ _ _ hp45 => mv rfl (hp45 44 rfl rfl) (d0 rfl rfl)) ?_
       refine dc (fun _ _ _ _ hp46 => gn rfl rfl (hp46 45 rfl rfl) rfl (d0 rfl rfl)) ?_
       refine dc (fun _ _ _ _ hp47 => gn rfl rfl (hp47 45 rfl rfl) rfl (d0 rfl rfl)) ?_
       refine dc (fun _ _ _ _ hp48 => gn rfl rfl (hp48 45 rfl rfl) rfl (d0 rfl rfl)) ?_
       refine dc (fun _ _ _ _ hp49 => gn rfl rfl (hp49 45 rfl rfl) rfl (d0 rfl rfl)) ?_
       refine dc (fun _ _ _ _ hp50 => gn rfl rfl (hp50 45 rfl rfl) rfl (d0 rfl rfl)) ?_
       refine dc (fun _ _ _ _ hp51 => gn rfl rfl (hp51 45 rfl rfl) rfl (d0 rfl rfl)) ?_
       refine dc (fun _ _ _ _ hp52 => gn rfl rfl (hp52 45 rfl rfl) rfl (d0 rfl rfl)) ?_
       exact DSteps.rest rfl _
      ·
       intro f53 w60 hf53 xt60 hp53
       have H69 := H5.ext xt60
       have s83 : f53 124 = .bool false := hp53 45 rfl
       refine k (gn rfl rfl s83 rfl (k (pickF rfl rfl rfl s83 rfl rfl (k (asg (v := .bool false) rfl rfl (z (nx (rt (inb_ret (then_ret (r1 rfl rfl ?_)))))))))))
       have e0 : (false : Bool) = patO fi fo stp pl kd rd_ wa_ wb_ op_ fs_ sn_ := by simp only [patO, hasI, keptO, b0, b1, b2, b3, b4, (notf b4), BL, cond_true, cond_false]
       have ev_ := cg1 (fun (x_0 : Bool) => (.bool x_0 : Value)) e0
       exact ⟨ev_, H69.below⟩
    ·
     have p3 := of_decide_eq_false b3
     refine sq (rg (k (eql rfl rfl rfl rfl (k (asg (v := .bool (decide (kd = 5))) rfl rfl (z (nx ?_)))))))
     refine cd (b := decide (kd = 5)) rfl rfl (fun b4 => ?_) (fun b4 => ?_)
     ·
      have p4 := of_decide_eq_true b4
      refine sq (rg (k (mv rfl i0 (k (fa fl43_4 rfl rfl (k (ldX H5 0 rfl ty3 rfl rfl (by decide) rfl (k (bs (xs := ([op_] : List Int)) (cells := #[iV op_]) (e := 3) H5 rfl (pbc rfl pb0) (fun _ => by kernel_rfl) ⟨[iV op_], [], rfl, ⟨rfl, (show I64 (op_) from (by first | assumption | (unfold I64 at *; omega)))⟩, rfl⟩ rfl (by unfold maxLen; omega) ?_)))))))))
      intro g0 w1 xt1 H6
      refine k ?_
      have H7 := H6.freeze 0 rfl
      have cc0 := aud_op (fi := fi) (l := ([op_] : List Int)) (a_fv := a_fv) (n_fv := n_fv) (c_fv := c_fv) (a_fo := a_fo) (n_fo := fo.length) (c_fo := c_fo) (a_stp := a_stp) (n_stp := stp.length) (c_stp := c_stp) (a_pl := a_pl) (n_pl := pl.length) (c_pl := c_pl) (w := w1) H7.mb (H7.rv 6 rfl) (H7.rv 0 rfl) (H7.at_ 2 rfl)
      refine ca go28 rfl (ec rfl (ec rfl e0)) cc0 ?_
      rintro _ w2 ⟨rfl, xt2⟩
      have H8 := H6.ext xt2
      refine k (mv (v := .bool (!(([op_] : List Int).any (outO fi)))) rfl rfl ?_)
      rcases Bool.eq_false_or_eq_true (!(([op_] : List Int).any (outO fi))) with b5 | b5
      · -- !(([op_] : List Int).any (outO fi)) is True
       refine k (gy rfl rfl rfl b5 (mv rfl i0 (k (gy rfl rfl rfl b5 ?_))))
       have cc1 := aud_founded (stp := stp) (pl := pl) (a_fv := a_fv) (n_fv := n_fv) (c_fv := c_fv) (a_fi := a_fi) (n_fi := fi.length) (c_fi := c_fi) (a_fo := a_fo) (n_fo := fo.length) (c_fo := c_fo) (w := w2) H8.mb (H8.rv 4 rfl) (H8.rv 3 rfl) (H8.at_ 2 rfl) (by exact hrule)
       refine ca go33 rfl (ec rfl e0) cc1 ?_
       rintro _ w3 ⟨rfl, xt3⟩
       have H9 := H8.ext xt3
       refine k (pickT rfl rfl rfl rfl b5 rfl (k (mv (v := .bool (!(stp.any (foundO pl)))) rfl rfl ?_)))
       rcases Bool.eq_false_or_eq_true (!(stp.any (foundO pl))) with b6 | b6
       · -- !(stp.any (foundO pl)) is True
        refine k (gy rfl rfl rfl b6 (mv rfl i0 (k (gy rfl rfl rfl b6 (fa fl43_6 rfl rfl (k (gy rfl rfl rfl b6 (ldX H9 1 rfl ty3 rfl rfl (by decide) rfl (k (gy rfl rfl rfl b6 (fa fl43_4 rfl rfl (k (gy rfl rfl rfl b6 (ldX H9 1 rfl ty3 rfl rfl (by decide) rfl (k (gy rfl rfl rfl b6 (fa fl43_4 rfl rfl (k (gy rfl rfl rfl b6 (ldX H9 1 rfl ty3 rfl rfl (by decide) rfl (k (gy rfl rfl rfl b6 ?_))))))))))))))))))))))
        have cc2 := aud_says (stp := stp) (n1 := fs_) (n2 := op_) (n3 := op_) (a_fv := a_fv) (n_fv := n_fv) (c_fv := c_fv) (a_fi := a_fi) (n_fi := fi.length) (c_fi := c_fi) (a_fo := a_fo) (n_fo := fo.length) (c_fo := c_fo) (a_pl := a_pl) (n_pl := pl.length) (c_pl := c_pl) (w := w3) H9.mb (H9.rv 4 rfl) (by first | assumption | (unfold I64 at *; omega)) (by first | assumption | (unfold I64 at *; omega)) (by first | assumption | (unfold I64 at *; omega)) (H9.at_ 2 rfl)
        refine ca go30 rfl (ec rfl (ec rfl (ec rfl (ec rfl e0)))) cc2 ?_
        rintro _ w4 ⟨rfl, xt4⟩
        have H10 := H9.ext xt4
        refine k (pickT rfl rfl rfl rfl b6 rfl (k (asg (v := .bool (saysO stp fs_ op_ op_)) rfl rfl (z (nx (rt (inb_ret (then_ret (r1 rfl rfl ?_)))))))))
        have e0 : (saysO stp fs_ op_ op_ : Bool) = patO fi fo stp pl kd rd_ wa_ wb_ op_ fs_ sn_ := by simp only [patO, hasI, keptO, b0, b1, b2, b3, b4, b5, (nott b5), b6, (nott b6), BL, cond_true, cond_false]
        have ev_ := cg1 (fun (x_0 : Bool) => (.bool x_0 : Value)) e0
        exact ⟨ev_, H10.below⟩
       · -- !(stp.any (foundO pl)) is False
        refine k (gn rfl rfl rfl b6 (k (gn rfl rfl rfl b6 (k (gn rfl rfl rfl b6 (k (gn rfl rfl rfl b6 (k (gn rfl rfl rfl b6 (k (gn rfl rfl rfl b6 (k (gn rfl rfl rfl b6 (k (gn rfl rfl rfl b6 (k (pickF rfl rfl rfl rfl b6 rfl (k (asg (v := .bool false) rfl rfl (z (nx (rt (inb_ret (then_ret (r1 rfl rfl ?_)))))))))))))))))))))))))
        have e0 : (false : Bool) = patO fi fo stp pl kd rd_ wa_ wb_ op_ fs_ sn_ := by simp only [patO, hasI, keptO, b0, b1, b2, b3, b4, b5, (nott b5), b6, (notf b6), BL, cond_true, cond_false]
        have ev_ := cg1 (fun (x_0 : Bool) => (.bool x_0 : Value)) e0
        exact ⟨ev_, H9.below⟩
      · -- !(([op_] : List Int).any (outO fi)) is False
       refine k (gn rfl rfl rfl b5 (k (gn rfl rfl rfl b5 (k (pickF rfl rfl rfl rfl b5 rfl (k (mv (v := .bool false) rfl rfl (k (gn rfl rfl rfl rfl (k (gn rfl rfl rfl rfl (k (gn rfl rfl rfl rfl (k (gn rfl rfl rfl rfl (k (gn rfl rfl rfl rfl (k (gn rfl rfl rfl rfl (k (gn rfl rfl rfl rfl (k (gn rfl rfl rfl rfl (k (pickF rfl rfl rfl rfl rfl rfl (k (asg (v := .bool false) rfl rfl (z (nx (rt (inb_ret (then_ret (r1 rfl rfl ?_)))))))))))))))))))))))))))))))))
       have e0 : (false : Bool) = patO fi fo stp pl kd rd_ wa_ wb_ op_ fs_ sn_ := by simp only [patO, hasI, keptO, b0, b1, b2, b3, b4, b5, (notf b5), BL, cond_true, cond_false]
       have ev_ := cg1 (fun (x_0 : Bool) => (.bool x_0 : Value)) e0
       exact ⟨ev_, H8.below⟩
     ·
      have p4 := of_decide_eq_false b4
      refine sq (rg (k (eql rfl rfl rfl rfl (k (asg (v := .bool (decide (kd = 6))) rfl rfl (z (nx ?_)))))))
      refine cd (b := decide (kd = 6)) rfl rfl (fun b5 => ?_) (fun b5 => ?_)
      ·
       have p5 := of_decide_eq_true b5
       refine sq ?_
       rcases Bool.eq_false_or_eq_true (!(([op_] : List Int).any (outO fi))) with b6 | b6
       · -- !(([op_] : List Int).any (outO fi)) is True
        rcases Bool.eq_false_or_eq_true (earlyO fi fo rd_ wa_) with b7 | b7
        · -- earlyO fi fo rd_ wa_ is True
         rcases Bool.eq_false_or_eq_true ((keepL (wrQ fi) (pastA fi op_)).any (fun (z_ : Int) => decide (rd_ = z_))) with b8 | b8
         · -- (keepL (wrQ fi) (pastA fi op_)).any (fun (z_ : Int) => decid is True
          rcases Bool.eq_false_or_eq_true (wthO fi fo stp op_) with b9 | b9
          · -- wthO fi fo stp op_ is True
           refine dr 39 [eV (pV b_a 0), eV (pV bb0 4), eV (iV op_), fun (v : Value) (w' : World) => ∃ (a6 : Option Addr) (c6 : Nat), v = .slice a6 ([op_] : List Int).length c6 ∧ RV (MS M [box bb0 #[iV kd, iV rd_, iV wa_, iV wb_, iV op_, .slice a_sl_ n_sl_ c_sl_, iV fs_, iV sn_] 43, ro b_a #[.slice a_fv n_fv c_fv, .slice a_fi fi.length c_fi, .slice a_fo fo.length c_fo, .slice a_stp stp.length c_stp, .slice a_pl pl.length c_pl] ty_a, imm (.slice a_pl pl.length c_pl) pl, imm (.slice a_stp stp.length c_stp) stp, imm (.slice a_fo fo.length c_fo) fo, imm (.slice a_fi fi.length c_fi) fi]) w' (.slice a6 ([op_] : List Int).length c6) ([op_] : List Int), eV (.bool (!(([op_] : List Int).any (outO fi)))), eV (.bool (!(([op_] : List Int).any (outO fi)))), eV (pV b_a 0), eV (pV bb0 1), eV (iV rd_), eV (pV bb0 2), eV (iV wa_), eV (.bool (earlyO fi fo rd_ wa_)), eV (.bool (earlyO fi fo rd_ wa_)), eV (.bool (earlyO fi fo rd_ wa_)), eV (pV b_a 0), eV (pV b_a 0), eV (pV b_a 0), eV (.agg #[.slice a_fv n_fv c_fv, .slice a_fi fi.length c_fi, .slice a_fo fo.length c_fo]), eV (pV bb0 4), eV (iV op_), fun (v : Value) (w' : World) => ∃ (a7 : Option Addr) (c7 : Nat), v = .slice a7 (keepL (wrQ fi) (pastA fi op_)).length c7 ∧ RV (MS M [box bb0 #[iV kd, iV rd_, iV wa_, iV wb_, iV op_, .slice a_sl_ n_sl_ c_sl_, iV fs_, iV sn_] 43, ro b_a #[.slice a_fv n_fv c_fv, .slice a_fi fi.length c_fi, .slice a_fo fo.length c_fo, .slice a_stp stp.length c_stp, .slice a_pl pl.length c_pl] ty_a, imm (.slice a_pl pl.length c_pl) pl, imm (.slice a_stp stp.length c_stp) stp, imm (.slice a_fo fo.length c_fo) fo, imm (.slice a_fi fi.length c_fi) fi]) w' (.slice a7 (keepL (wrQ fi) (pastA fi op_)).length c7) (keepL (wrQ fi) (pastA fi op_)), eV (pV bb0 1), eV (iV rd_), eV (.bool ((keepL (wrQ fi) (pastA fi op_)).any (fun (z_ : Int) => decide (rd_ = z_)))), eV (.bool ((keepL (wrQ fi) (pastA fi op_)).any (fun (z_ : Int) => decide (rd_ = z_)))), eV (.bool ((keepL (wrQ fi) (pastA fi op_)).any (fun (z_ : Int) => decide (rd_ = z_)))), eV (pV b_a 0), eV (pV bb0 4), eV (iV op_), eV (.bool (wthO fi fo stp op_)), eV (.bool (wthO fi fo stp op_)), eV (.bool (wthO fi fo stp op_)), eV (pV b_a 0), eV (pV bb0 6), eV (iV fs_), eV (pV bb0 2), eV (iV wa_), eV (pV bb0 1), eV (iV rd_)] rfl (by kernel_rfl) ?_ ?_
           ·
            refine dc (fun _ _ hf0 _ _ => mv rfl ((hf0 0 rfl).trans i0) (d0 rfl rfl)) ?_
            refine dc (fun _ _ hf1 _ _ => fa fl43_4 rfl (hf1 3 rfl) (d0 rfl rfl)) ?_
            refine dc (fun _ _ _ xt25 hp2 => ldX (H5.ext xt25) 0 rfl ty3 rfl (hp2 1 rfl rfl) (by decide) rfl (d0 rfl rfl)) ?_
            refine ⟨fun _ => ⟨fun f3 w26 hf3 xt26 hp3 => ?_, by rintro _ _ _ x_ ⟨a6, c6, e_, rv8⟩; exact ⟨a6, c6, e_, rv8.lift (Up.ext x_)⟩⟩, ?_⟩
            ·
             have H39 := H5.ext xt26
             have s1 : f3 159 = iV op_ := hp3 2 rfl rfl
             refine bs (xs := ([op_] : List Int)) (cells := #[iV op_]) (e := 3) H39 rfl (pbc s1 pb0) (fun _ => by kernel_rfl) ⟨[iV op_], [], rfl, ⟨rfl, (show I64 (op_) from (by first | assumption | (unfold I64 at *; omega)))⟩, rfl⟩ rfl (by unfold maxLen; omega) ?_
             intro g5 w27 xt27 (H40 : HI M w w27 [own w.heap.size 3 (.slice (some ⟨g5, 0, none⟩) 1 1) ([op_] : List Int), box bb0 #[iV kd, iV rd_, iV wa_, iV wb_, iV op_, .slice a_sl_ n_sl_ c_sl_, iV fs_, iV sn_] 43, ro b_a #[.slice a_fv n_fv c_fv, .slice a_fi fi.length c_fi, .slice a_fo fo.length c_fo, .slice a_stp stp.length c_stp, .slice a_pl pl.length c_pl] ty_a, imm (.slice a_pl pl.length c_pl) pl, imm (.slice a_stp stp.length c_stp) stp, imm (.slice a_fo fo.length c_fo) fo, imm (.slice a_fi fi.length c_fi) fi])
             have H41 := H40.freeze 0 rfl
             exact ⟨_, rfl, xt27, ⟨(some ⟨g5, 0, none⟩), 1, rfl, (rv_drop rfl (H41.rv 0 rfl))⟩⟩
            refine dc (fun f4 w28 hf4 xt28 hp4 => ?_) ?_
            ·
             have H42 := H5.ext xt28
             have s2 : f4 157 = pV b_a 0 := hp4 0 rfl rfl
             obtain ⟨a8, c8, s3, rv11⟩ : ∃ (a8 : Option Addr) (c8 : Nat), f4 160 = .slice a8 ([op_] : List Int).length c8 ∧ RV (MS M [box bb0 #[iV kd, iV rd_, iV wa_, iV wb_, iV op_, .slice a_sl_ n_sl_ c_sl_, iV fs_, iV sn_] 43, ro b_a #[.slice a_fv n_fv c_fv, .slice a_fi fi.length c_fi, .slice a_fo fo.length c_fo, .slice a_stp stp.length c_stp, .slice a_pl pl.length c_pl] ty_a, imm (.slice a_pl pl.length c_pl) pl, imm (.slice a_stp stp.length c_stp) stp, imm (.slice a_fo fo.length c_fo) fo, imm (.slice a_fi fi.length c_fi) fi]) w28 (.slice a8 ([op_] : List Int).length c8) ([op_] : List Int) := hp4 3 rfl rfl
             have H43 := H42.put (it := imm (.slice a8 ([op_] : List Int).length c8) ([op_] : List Int)) rfl rv11
             have cc17 := aud_op (fi := fi) (l := ([op_] : List Int)) (a_fv := a_fv) (n_fv := n_fv) (c_fv := c_fv) (a_fo := a_fo) (n_fo := fo.length) (c_fo := c_fo) (a_stp := a_stp) (n_stp := stp.length) (c_stp := c_stp) (a_pl := a_pl) (n_pl := pl.length) (c_pl := c_pl) (w := w28) H43.mb (H43.rv 6 rfl) (H43.rv 0 rfl) (H43.at_ 2 rfl)
             refine ca go28 rfl (ec s2 (ec s3 e0)) cc17 ?_
             rintro _ w29 ⟨rfl, xt29⟩
             exact ⟨_, rfl, xt29, rfl⟩
            refine dc (fun _ _ _ _ hp5 => mv rfl (hp5 4 rfl rfl) (d0 rfl rfl)) ?_
            refine dc (fun f6 w31 hf6 xt31 hp6 => ?_) ?_
            ·
             have s5 : f6 162 = .bool (!(([op_] : List Int).any (outO fi))) := hp6 5 rfl rfl
             refine gy rfl rfl s5 b6 (mv rfl ((hf6 0 rfl).trans i0) ?_)
             exact ⟨_, rfl, Ext.refl _, rfl⟩
            refine dc (fun f7 w32 hf7 xt32 hp7 => ?_) ?_
            ·
             have s6 : f7 162 = .bool (!(([op_] : List Int).any (outO fi))) := hp7 5 rfl rfl
             refine gy rfl rfl s6 b6 (fa fl43_1 rfl (hf7 3 rfl) ?_)
             exact ⟨_, rfl, Ext.refl _, rfl⟩
            refine dc (fun f8 w33 hf8 xt33 hp8 => ?_) ?_
            ·
             have H48 := H5.ext xt33
             have s7 : f8 162 = .bool (!(([op_] : List Int).any (outO fi))) := hp8 5 rfl rfl
             have s8 : f8 164 = pV bb0 1 := hp8 7 rfl rfl
             refine gy rfl rfl s7 b6 (ldX H48 0 rfl ty3 rfl s8 (by decide) rfl ?_)
             exact ⟨_, rfl, Ext.refl _, rfl⟩
            refine dc (fun f9 w34 hf9 xt34 hp9 => ?_) ?_
            ·
             have s9 : f9 162 = .bool (!(([op_] : List Int).any (outO fi))) := hp9 5 rfl rfl
             refine gy rfl rfl s9 b6 (fa fl43_2 rfl (hf9 3 rfl) ?_)
             exact ⟨_, rfl, Ext.refl _, rfl⟩
            refine dc (fun f10 w35 hf10 xt35 hp10 => ?_) ?_
            ·
             have H50 := H5.ext xt35
             have s10 : f10 162 = .bool (!(([op_] : List Int).any (outO fi))) := hp10 5 rfl rfl
             have s11 : f10 166 = pV bb0 2 := hp10 9 rfl rfl
             refine gy rfl rfl s10 b6 (ldX H50 0 rfl ty3 rfl s11 (by decide) rfl ?_)
             exact ⟨_, rfl, Ext.refl _, rfl⟩
            refine dc (fun f11 w36 hf11 xt36 hp11 => ?_) ?_
            ·
             have H51 := H5.ext xt36
             have s12 : f11 162 = .bool (!(([op_] : List Int).any (outO fi))) := hp11 5 rfl rfl
             have s13 : f11 163 = pV b_a 0 := hp11 6 rfl rfl
             have s14 : f11 165 = iV rd_ := hp11 8 rfl rfl
             have s15 : f11 167 = iV wa_ := hp11 10 rfl rfl
             refine gy rfl rfl s12 b6 ?_
             have cc18 := aud_early (fi := fi) (fo := fo) (n1 := rd_) (n2 := wa_) (a_fv := a_fv) (n_fv := n_fv) (c_fv := c_fv) (a_stp := a_stp) (n_stp := stp.length) (c_stp := c_stp) (a_pl := a_pl) (n_pl := pl.length) (c_pl := c_pl) (w := w36) H51.mb (H51.rv 5 rfl) (H51.rv 4 rfl) (by first | assumption | (unfold I64 at *; omega)) (by first | assumption | (unfold I64 at *; omega)) (H51.at_ 1 rfl) (by exact hfo)
             refine ca go31 rfl (ec s13 (ec s14 (ec s15 e0))) cc18 ?_
             rintro _ w37 ⟨rfl, xt37⟩
             exact ⟨_, rfl, xt37, rfl⟩
            refine dc (fun _ _ _ _ hp12 => pickT rfl rfl rfl (hp12 5 rfl rfl) b6 (hp12 11 rfl rfl) (d0 rfl rfl)) ?_
            refine dc (fun _ _ _ _ hp13 => mv rfl (hp13 12 rfl rfl) (d0 rfl rfl)) ?_
            refine dc (fun f14 w40 hf14 xt40 hp14 => ?_) ?_
            ·
             have s19 : f14 170 = .bool (earlyO fi fo rd_ wa_) := hp14 13 rfl rfl
             refine gy rfl rfl s19 b7 (mv rfl ((hf14 0 rfl).trans i0) ?_)
             exact ⟨_, rfl, Ext.refl _, rfl⟩
            refine dc (fun f15 w41 hf15 xt41 hp15 => ?_) ?_
            ·
             have s20 : f15 170 = .bool (earlyO fi fo rd_ wa_) := hp15 13 rfl rfl
             have s21 : f15 171 = pV b_a 0 := hp15 14 rfl rfl
             refine gy rfl rfl s20 b7 (nc rfl s21 ?_)
             exact ⟨_, rfl, Ext.refl _, rfl⟩
            refine dc (fun f16 w42 hf16 xt42 hp16 => ?_) ?_
            ·
             have s22 : f16 170 = .bool (earlyO fi fo rd_ wa_) := hp16 13 rfl rfl
             have s23 : f16 172 = pV b_a 0 := hp16 15 rfl rfl
             refine gy rfl rfl s22 b7 (fa fl54_0 rfl s23 ?_)
             exact ⟨_, rfl, Ext.refl _, rfl⟩
            refine dc (fun f17 w43 hf17 xt43 hp17 => ?_) ?_
            ·
             have H58 := H5.ext xt43
             have s24 : f17 170 = .bool (earlyO fi fo rd_ wa_) := hp17 13 rfl rfl
             have s25 : f17 173 = pV b_a 0 := hp17 16 rfl rfl
             refine gy rfl rfl s24 b7 (ldR H58 1 rfl ty30 rfl s25 (by decide) rfl ?_)
             exact ⟨_, rfl, Ext.refl _, rfl⟩
            refine dc (fun f18 w44 hf18 xt44 hp18 => ?_) ?_
            ·
             have s26 : f18 170 = .bool (earlyO fi fo rd_ wa_) := hp18 13 rfl rfl
             refine gy rfl rfl s26 b7 (fa fl43_4 rfl (hf18 3 rfl) ?_)
             exact ⟨_, rfl, Ext.refl _, rfl⟩
            refine dc (fun f19 w45 hf19 xt45 hp19 => ?_) ?_
            ·
             have H60 := H5.ext xt45
             have s27 : f19 170 = .bool (earlyO fi fo rd_ wa_) := hp19 13 rfl rfl
             have s28 : f19 175 = pV bb0 4 := hp19 18 rfl rfl
             refine gy rfl rfl s27 b7 (ldX H60 0 rfl ty3 rfl s28 (by decide) rfl ?_)
             exact ⟨_, rfl, Ext.refl _, rfl⟩
            refine ⟨fun _ => ⟨fun f20 w46 hf20 xt46 hp20 => ?_, by rintro _ _ _ x_ ⟨a7, c7, e_, rv10⟩; exact ⟨a7, c7, e_, rv10.lift (Up.ext x_)⟩⟩, ?_⟩
            ·
             have H61 := H5.ext xt46
             have s29 : f20 170 = .bool (earlyO fi fo rd_ wa_) := hp20 13 rfl rfl
             have s30 : f20 174 = .agg #[.slice a_fv n_fv c_fv, .slice a_fi fi.length c_fi, .slice a_fo fo.length c_fo] := hp20 17 rfl rfl
             have s31 : f20 176 = iV op_ := hp20 19 rfl rfl
             refine gy rfl rfl s29 b7 ?_
             have cc19 := past_Kept (fi := fi) (o := op_) (a_fv := a_fv) (n_fv := n_fv) (c_fv := c_fv) (a_fo := a_fo) (n_fo := fo.length) (c_fo := c_fo) (w := w46) H61.mb (H61.rv 5 rfl) (by first | assumption | (unfold I64 at *; omega)) (by exact ho) (by first | exact hn_fi | omega)
             refine ca go34 rfl (ec s30 (ec s31 e0)) cc19 ?_
             rintro _ w47 ⟨a9, c9, rfl, xt47, rv12⟩
             have rv13 := OwnsG.rv rv12 H61.mb
             exact ⟨_, rfl, xt47, ⟨a9, c9, rfl, rv13⟩⟩
            refine dc (fun f21 w48 hf21 xt48 hp21 => ?_) ?_
            ·
             have s32 : f21 170 = .bool (earlyO fi fo rd_ wa_) := hp21 13 rfl rfl
             refine gy rfl rfl s32 b7 (fa fl43_1 rfl (hf21 3 rfl) ?_)
             exact ⟨_, rfl, Ext.refl _, rfl⟩
            refine dc (fun f22 w49 hf22 xt49 hp22 => ?_) ?_
            ·
             have H65 := H5.ext xt49
             have s33 : f22 170 = .bool (earlyO fi fo rd_ wa_) := hp22 13 rfl rfl
             have s34 : f22 178 = pV bb0 1 := hp22 21 rfl rfl
             refine gy rfl rfl s33 b7 (ldX H65 0 rfl ty3 rfl s34 (by decide) rfl ?_)
             exact ⟨_, rfl, Ext.refl _, rfl⟩
            refine dc (fun f23 w50 hf23 xt50 hp23 => ?_) ?_
            ·
             have H66 := H5.ext xt50
             have s35 : f23 170 = .bool (earlyO fi fo rd_ wa_) := hp23 13 rfl rfl
             obtain ⟨a10, c10, s36, rv14⟩ : ∃ (a10 : Option Addr) (c10 : Nat), f23 177 = .slice a10 (keepL (wrQ fi) (pastA fi op_)).length c10 ∧ RV (MS M [box bb0 #[iV kd, iV rd_, iV wa_, iV wb_, iV op_, .slice a_sl_ n_sl_ c_sl_, iV fs_, iV sn_] 43, ro b_a #[.slice a_fv n_fv c_fv, .slice a_fi fi.length c_fi, .slice a_fo fo.length c_fo, .slice a_stp stp.length c_stp, .slice a_pl pl.length c_pl] ty_a, imm (.slice a_pl pl.length c_pl) pl, imm (.slice a_stp stp.length c_stp) stp, imm (.slice a_fo fo.length c_fo) fo, imm (.slice a_fi fi.length c_fi) fi]) w50 (.slice a10 (keepL (wrQ fi) (pastA fi op_)).length c10) (keepL (wrQ fi) (pastA fi op_)) := hp23 20 rfl rfl
             have H67 := H66.put (it := imm (.slice a10 (keepL (wrQ fi) (pastA fi op_)).length c10) (keepL (wrQ fi) (pastA fi op_))) rfl rv14
             have s37 : f23 179 = iV rd_ := hp23 22 rfl rfl
             refine gy rfl rfl s35 b7 ?_
             have cc20 := contains_int (l0_ := (keepL (wrQ fi) (pastA fi op_))) (v0_ := rd_) (w := w50) H67.mb (H67.rv 0 rfl) (by first | assumption | (unfold I64 at *; omega))
             refine ca go15 rfl (ec s36 (ec s37 e0)) cc20 ?_
             rintro _ w51 ⟨rfl, xt51⟩
             exact ⟨_, rfl, xt51, rfl⟩
            refine dc (fun _ _ _ _ hp24 => pickT rfl rfl rfl (hp24 13 rfl rfl) b7 (hp24 23 rfl rfl) (d0 rfl rfl)) ?_
            refine dc (fun _ _ _ _ hp25 => mv rfl (hp25 24 rfl rfl) (d0 rfl rfl)) ?_
            refine dc (fun f26 w54 hf26 xt54 hp26 => ?_) ?_
            ·
             have s41 : f26 182 = .bool ((keepL (wrQ fi) (pastA fi op_)).any (fun (z_ : Int) => decide (rd_ = z_))) := hp26 25 rfl rfl
             refine gy rfl rfl s41 b8 (mv rfl ((hf26 0 rfl).trans i0) ?_)
             exact ⟨_, rfl, Ext.refl _, rfl⟩
            refine dc (fun f27 w55 hf27 xt55 hp27 => ?_) ?_
            ·
             have s42 : f27 182 = .bool ((keepL (wrQ fi) (pastA fi op_)).any (fun (z_ : Int) => decide (rd_ = z_))) := hp27 25 rfl rfl
             refine gy rfl rfl s42 b8 (fa fl43_4 rfl (hf27 3 rfl) ?_)
             exact ⟨_, rfl, Ext.refl _, rfl⟩
            refine dc (fun f28 w56 hf28 xt56 hp28 => ?_) ?_
            ·
             have H73 := H5.ext xt56
             have s43 : f28 182 = .bool ((keepL (wrQ fi) (pastA fi op_)).any (fun (z_ : Int) => decide (rd_ = z_))) := hp28 25 rfl rfl
             have s44 : f28 184 = pV bb0 4 := hp28 27 rfl rfl
             refine gy rfl rfl s43 b8 (ldX H73 0 rfl ty3 rfl s44 (by decide) rfl ?_)
             exact ⟨_, rfl, Ext.refl _, rfl⟩
            refine dc (fun f29 w57 hf29 xt57 hp29 => ?_) ?_
            ·
             have H74 := H5.ext xt57
             have s45 : f29 182 = .bool ((keepL (wrQ fi) (pastA fi op_)).any (fun (z_ : Int) => decide (rd_ = z_))) := hp29 25 rfl rfl
             have s46 : f29 183 = pV b_a 0 := hp29 26 rfl rfl
             have s47 : f29 185 = iV op_ := hp29 28 rfl rfl
             refine gy rfl rfl s45 b8 ?_
             have cc21 := aud_within (fi := fi) (fo := fo) (stp := stp) (op_ := op_) (a_fv := a_fv) (n_fv := n_fv) (c_fv := c_fv) (a_pl := a_pl) (n_pl := pl.length) (c_pl := c_pl) (w := w57) H74.mb (hT.ext H74.below) (H74.rv 5 rfl) (H74.rv 4 rfl) (H74.rv 3 rfl) (by first | assumption | (unfold I64 at *; omega)) (H74.at_ 1 rfl) (by exact ho) (by first | exact hn_fi | omega) (by exact hfo) (by exact hfr)
             refine ca go35 rfl (ec s46 (ec s47 e0)) cc21 ?_
             rintro _ w58 ⟨rfl, xt58⟩
             exact ⟨_, rfl, xt58, rfl⟩
            refine dc (fun _ _ _ _ hp30 => pickT rfl rfl rfl (hp30 25 rfl rfl) b8 (hp30 29 rfl rfl) (d0 rfl rfl)) ?_
            refine dc (fun _ _ _ _ hp31 => mv rfl (hp31 30 rfl rfl) (d0 rfl rfl)) ?_
            refine dc (fun f32 w61 hf32 xt61 hp32 => ?_) ?_
            ·
             have s51 : f32 188 = .bool (wthO fi fo stp op_) := hp32 31 rfl rfl
             refine gy rfl rfl s51 b9 (mv rfl ((hf32 0 rfl).trans i0) ?_)
             exact ⟨_, rfl, Ext.refl _, rfl⟩
            refine dc (fun f33 w62 hf33 xt62 hp33 => ?_) ?_
            ·
             have s52 : f33 188 = .bool (wthO fi fo stp op_) := hp33 31 rfl rfl
             refine gy rfl rfl s52 b9 (fa fl43_6 rfl (hf33 3 rfl) ?_)
             exact ⟨_, rfl, Ext.refl _, rfl⟩
            refine dc (fun f34 w63 hf34 xt63 hp34 => ?_) ?_
            ·
             have H80 := H5.ext xt63
             have s53 : f34 188 = .bool (wthO fi fo stp op_) := hp34 31 rfl rfl
             have s54 : f34 190 = pV bb0 6 := hp34 33 rfl rfl
             refine gy rfl rfl s53 b9 (ldX H80 0 rfl ty3 rfl s54 (by decide) rfl ?_)
             exact ⟨_, rfl, Ext.refl _, rfl⟩
            refine dc (fun f35 w64 hf35 xt64 hp35 => ?_) ?_
            ·
             have s55 : f35 188 = .bool (wthO fi fo stp op_) := hp35 31 rfl rfl
             refine gy rfl rfl s55 b9 (fa fl43_2 rfl (hf35 3 rfl) ?_)
             exact ⟨_, rfl, Ext.refl _, rfl⟩
            refine dc (fun f36 w65 hf36 xt65 hp36 => ?_) ?_
            ·
             have H82 := H5.ext xt65
             have s56 : f36 188 = .bool (wthO fi fo stp op_) := hp36 31 rfl rfl
             have s57 : f36 192 = pV bb0 2 := hp36 35 rfl rfl
             refine gy rfl rfl s56 b9 (ldX H82 0 rfl ty3 rfl s57 (by decide) rfl ?_)
             exact ⟨_, rfl, Ext.refl _, rfl⟩
            refine dc (fun f37 w66 hf37 xt66 hp37 => ?_) ?_
            ·
             have s58 : f37 188 = .bool (wthO fi fo stp op_) := hp37 31 rfl rfl
             refine gy rfl rfl s58 b9 (fa fl43_1 rfl (hf37 3 rfl) ?_)
             exact ⟨_, rfl, Ext.refl _, rfl⟩
            refine dc (fun f38 w67 hf38 xt67 hp38 => ?_) ?_
            ·
             have H84 := H5.ext xt67
             have s59 : f38 188 = .bool (wthO fi fo stp op_) := hp38 31 rfl rfl
             have s60 : f38 194 = pV bb0 1 := hp38 37 rfl rfl
             refine gy rfl rfl s59 b9 (ldX H84 0 rfl ty3 rfl s60 (by decide) rfl ?_)
             exact ⟨_, rfl, Ext.refl _, rfl⟩
            exact DSteps.rest rfl _
           ·
            intro f39 w68 hf39 xt68 hp39
            have H85 := H5.ext xt68
            have s61 : f39 188 = .bool (wthO fi fo stp op_) := hp39 31 rfl
            have s62 : f39 189 = pV b_a 0 := hp39 32 rfl
            have s63 : f39 191 = iV fs_ := hp39 34 rfl
            have s64 : f39 193 = iV wa_ := hp39 36 rfl
            have s65 : f39 195 = iV rd_ := hp39 38 rfl
            refine k (gy rfl rfl s61 b9 ?_)
            have cc22 := aud_says (stp := stp) (n1 := fs_) (n2 := wa_) (n3 := rd_) (a_fv := a_fv) (n_fv := n_fv) (c_fv := c_fv) (a_fi := a_fi) (n_fi := fi.length) (c_fi := c_fi) (a_fo := a_fo) (n_fo := fo.length) (c_fo := c_fo) (a_pl := a_pl) (n_pl := pl.length) (c_pl := c_pl) (w := w68) H85.mb (H85.rv 3 rfl) (by first | assumption | (unfold I64 at *; omega)) (by first | assumption | (unfold I64 at *; omega)) (by first | assumption | (unfold I64 at *; omega)) (H85.at_ 1 rfl)
            refine ca go30 rfl (ec s62 (ec s63 (ec s64 (ec s65 e0)))) cc22 ?_
            rintro _ w69 ⟨rfl, xt69⟩
            have H86 := H85.ext xt69
            refine k (pickT rfl rfl rfl s61 b9 rfl (k (asg (v := .bool (saysO stp fs_ wa_ rd_)) rfl rfl (z (nx (rt (inb_ret (then_ret (r1 rfl rfl ?_)))))))))
            have e0 : (saysO stp fs_ wa_ rd_ : Bool) = patO fi fo stp pl kd rd_ wa_ wb_ op_ fs_ sn_ := by simp only [patO, hasI, keptO, b0, b1, b2, b3, b4, b5, b6, (nott b6), b7, b8, b9, BL, cond_true, cond_false]
            have ev_ := cg1 (fun (x_0 : Bool) => (.bool x_0 : Value)) e0
            exact ⟨ev_, H86.below⟩
          · -- wthO fi fo stp op_ is False
           refine dr 39 [eV (pV b_a 0), eV (pV bb0 4), eV (iV op_), fun (v : Value) (w' : World) => ∃ (a6 : Option Addr) (c6 : Nat), v = .slice a6 ([op_] : List Int).length c6 ∧ RV (MS M [box bb0 #[iV kd, iV rd_, iV wa_, iV wb_, iV op_, .slice a_sl_ n_sl_ c_sl_, iV fs_, iV sn_] 43, ro b_a #[.slice a_fv n_fv c_fv, .slice a_fi fi.length c_fi, .slice a_fo fo.length c_fo, .slice a_stp stp.length c_stp, .slice a_pl pl.length c_pl] ty_a, imm (.slice a_pl pl.length c_pl) pl, imm (.slice a_stp stp.length c_stp) stp, imm (.slice a_fo fo.length c_fo) fo, imm (.slice a_fi fi.length c_fi) fi]) w' (.slice a6 ([op_] : List Int).length c6) ([op_] : List Int), eV (.bool (!(([op_] : List Int).any (outO fi)))), eV (.bool (!(([op_] : List Int).any (outO fi)))), eV (pV b_a 0), eV (pV bb0 1), eV (iV rd_), eV (pV bb0 2), eV (iV wa_), eV (.bool (earlyO fi fo rd_ wa_)), eV (.bool (earlyO fi fo rd_ wa_)), eV (.bool (earlyO fi fo rd_ wa_)), eV (pV b_a 0), eV (pV b_a 0), eV (pV b_a 0), eV (.agg #[.slice a_fv n_fv c_fv, .slice a_fi fi.length c_fi, .slice a_fo fo.length c_fo]), eV (pV bb0 4), eV (iV op_), fun (v : Value) (w' : World) => ∃ (a7 : Option Addr) (c7 : Nat), v = .slice a7 (keepL (wrQ fi) (pastA fi op_)).length c7 ∧ RV (MS M [box bb0 #[iV kd, iV rd_, iV wa_, iV wb_, iV op_, .slice a_sl_ n_sl_ c_sl_, iV fs_, iV sn_] 43, ro b_a #[.slice a_fv n_fv c_fv, .slice a_fi fi.length c_fi, .slice a_fo fo.length c_fo, .slice a_stp stp.length c_stp, .slice a_pl pl.length c_pl] ty_a, imm (.slice a_pl pl.length c_pl) pl, imm (.slice a_stp stp.length c_stp) stp, imm (.slice a_fo fo.length c_fo) fo, imm (.slice a_fi fi.length c_fi) fi]) w' (.slice a7 (keepL (wrQ fi) (pastA fi op_)).length c7) (keepL (wrQ fi) (pastA fi op_)), eV (pV bb0 1), eV (iV rd_), eV (.bool ((keepL (wrQ fi) (pastA fi op_)).any (fun (z_ : Int) => decide (rd_ = z_)))), eV (.bool ((keepL (wrQ fi) (pastA fi op_)).any (fun (z_ : Int) => decide (rd_ = z_)))), eV (.bool ((keepL (wrQ fi) (pastA fi op_)).any (fun (z_ : Int) => decide (rd_ = z_)))), eV (pV b_a 0), eV (pV bb0 4), eV (iV op_), eV (.bool (wthO fi fo stp op_)), eV (.bool (wthO fi fo stp op_)), eV (.bool (wthO fi fo stp op_)), eV undef, eV undef, eV undef, eV undef, eV undef, eV undef, eV undef] rfl (by kernel_rfl) ?_ ?_
           ·
            refine dc (fun _ _ hf0 _ _ => mv rfl ((hf0 0 rfl).trans i0) (d0 rfl rfl)) ?_
            refine dc (fun _ _ hf1 _ _ => fa fl43_4 rfl (hf1 3 rfl) (d0 rfl rfl)) ?_
            refine dc (fun _ _ _ xt25 hp2 => ldX (H5.ext xt25) 0 rfl ty3 rfl (hp2 1 rfl rfl) (by decide) rfl (d0 rfl rfl)) ?_
            refine ⟨fun _ => ⟨fun f3 w26 hf3 xt26 hp3 => ?_, by rintro _ _ _ x_ ⟨a6, c6, e_, rv8⟩; exact ⟨a6, c6, e_, rv8.lift (Up.ext x_)⟩⟩, ?_⟩
            ·
             have H39 := H5.ext xt26
             have s1 : f3 159 = iV op_ := hp3 2 rfl rfl
             refine bs (xs := ([op_] : List Int)) (cells := #[iV op_]) (e := 3) H39 rfl (pbc s1 pb0) (fun _ => by kernel_rfl) ⟨[iV op_], [], rfl, ⟨rfl, (show I64 (op_) from (by first | assumption | (unfold I64 at *; omega)))⟩, rfl⟩ rfl (by unfold maxLen; omega) ?_
             intro g5 w27 xt27 (H40 : HI M w w27 [own w.heap.size 3 (.slice (some ⟨g5, 0, none⟩) 1 1) ([op_] : List Int), box bb0 #[iV kd, iV rd_, iV wa_, iV wb_, iV op_, .slice a_sl_ n_sl_ c_sl_, iV fs_, iV sn_] 43, ro b_a #[.slice a_fv n_fv c_fv, .slice a_fi fi.length c_fi, .slice a_fo fo.length c_fo, .slice a_stp stp.length c_stp, .slice a_pl pl.length c_pl] ty_a, imm (.slice a_pl pl.length c_pl) pl, imm (.slice a_stp stp.length c_stp) stp, imm (.slice a_fo fo.length c_fo) fo, imm (.slice a_fi fi.length c_fi) fi])
             have H41 := H40.freeze 0 rfl
             exact ⟨_, rfl, xt27, ⟨(some ⟨g5, 0, none⟩), 1, rfl, (rv_drop rfl (H41.rv 0 rfl))⟩⟩
            refine dc (fun f4 w28 hf4 xt28 hp4 => ?_) ?_
            ·
             have H42 := H5.ext xt28
             have s2 : f4 157 = pV b_a 0 := hp4 0 rfl rfl
             obtain ⟨a8, c8, s3, rv11⟩ : ∃ (a8 : Option Addr) (c8 : Nat), f4 160 = .slice a8 ([op_] : List Int).length c8 ∧ RV (MS M [box bb0 #[iV kd, iV rd_, iV wa_, iV wb_, iV op_, .slice a_sl_ n_sl_ c_sl_, iV fs_, iV sn_] 43, ro b_a #[.slice a_fv n_fv c_fv, .slice a_fi fi.length c_fi, .slice a_fo fo.length c_fo, .slice a_stp stp.length c_stp, .slice a_pl pl.length c_pl] ty_a, imm (.slice a_pl pl.length c_pl) pl, imm (.slice a_stp stp.length c_stp) stp, imm (.slice a_fo fo.length c_fo) fo, imm (.slice a_fi fi.length c_fi) fi]) w28 (.slice a8 ([op_] : List Int).length c8) ([op_] : List Int) := hp4 3 rfl rfl
             have H43 := H42.put (it := imm (.slice a8 ([op_] : List Int).length c8) ([op_] : List Int)) rfl rv11
             have cc17 := aud_op (fi := fi) (l := ([op_] : List Int)) (a_fv := a_fv) (n_fv := n_fv) (c_fv := c_fv) (a_fo := a_fo) (n_fo := fo.length) (c_fo := c_fo) (a_stp := a_stp) (n_stp := stp.length) (c_stp := c_stp) (a_pl := a_pl) (n_pl := pl.length) (c_pl := c_pl) (w := w28) H43.mb (H43.rv 6 rfl) (H43.rv 0 rfl) (H43.at_ 2 rfl)
             refine ca go28 rfl (ec s2 (ec s3 e0)) cc17 ?_
             rintro _ w29 ⟨rfl, xt29⟩
             exact ⟨_, rfl, xt29, rfl⟩
            refine dc (fun _ _ _ _ hp5 => mv rfl (hp5 4 rfl rfl) (d0 rfl rfl)) ?_
            refine dc (fun f6 w31 hf6 xt31 hp6 => ?_) ?_
            ·
             have s5 : f6 162 = .bool (!(([op_] : List Int).any (outO fi))) := hp6 5 rfl rfl
             refine gy rfl rfl s5 b6 (mv rfl ((hf6 0 rfl).trans i0) ?_)
             exact ⟨_, rfl, Ext.refl _, rfl⟩
            refine dc (fun f7 w32 hf7 xt32 hp7 => ?_) ?_
            ·
             have s6 : f7 162 = .bool (!(([op_] : List Int).any (outO fi))) := hp7 5 rfl rfl
             refine gy rfl rfl s6 b6 (fa fl43_1 rfl (hf7 3 rfl) ?_)
             exact ⟨_, rfl, Ext.refl _, rfl⟩
            refine dc (fun f8 w33 hf8 xt33 hp8 => ?_) ?_
            ·
             have H48 := H5.ext xt33
             have s7 : f8 162 = .bool (!(([op_] : List Int).any (outO fi))) := hp8 5 rfl rfl
             have s8 : f8 164 = pV bb0 1 := hp8 7 rfl rfl
             refine gy rfl rfl s7 b6 (ldX H48 0 rfl ty3 rfl s8 (by decide) rfl ?_)
             exact ⟨_, rfl, Ext.refl _, rfl⟩
            refine dc (fun f9 w34 hf9 xt34 hp9 => ?_) ?_
            ·
             have s9 : f9 162 = .bool (!(([op_] : List Int).any (outO fi))) := hp9 5 rfl rfl
             refine gy rfl rfl s9 b6 (fa fl43_2 rfl (hf9 3 rfl) ?_)
             exact ⟨_, rfl, Ext.refl _, rfl⟩
            refine dc (fun f10 w35 hf10 xt35 hp10 => ?_) ?_
            ·
             have H50 := H5.ext xt35
             have s10 : f10 162 = .bool (!(([op_] : List Int).any (outO fi))) := hp10 5 rfl rfl
             have s11 : f10 166 = pV bb0 2 := hp10 9 rfl rfl
             refine gy rfl rfl s10 b6 (ldX H50 0 rfl ty3 rfl s11 (by decide) rfl ?_)
             exact ⟨_, rfl, Ext.refl _, rfl⟩
            refine dc (fun f11 w36 hf11 xt36 hp11 => ?_) ?_
            ·
             have H51 := H5.ext xt36
             have s12 : f11 162 = .bool (!(([op_] : List Int).any (outO fi))) := hp11 5 rfl rfl
             have s13 : f11 163 = pV b_a 0 := hp11 6 rfl rfl
             have s14 : f11 165 = iV rd_ := hp11 8 rfl rfl
             have s15 : f11 167 = iV wa_ := hp11 10 rfl rfl
             refine gy rfl rfl s12 b6 ?_
             have cc18 := aud_early (fi := fi) (fo := fo) (n1 := rd_) (n2 := wa_) (a_fv := a_fv) (n_fv := n_fv) (c_fv := c_fv) (a_stp := a_stp) (n_stp := stp.length) (c_stp := c_stp) (a_pl := a_pl) (n_pl := pl.length) (c_pl := c_pl) (w := w36) H51.mb (H51.rv 5 rfl) (H51.rv 4 rfl) (by first | assumption | (unfold I64 at *; omega)) (by first | assumption | (unfold I64 at *; omega)) (H51.at_ 1 rfl) (by exact hfo)
             refine ca go31 rfl (ec s13 (ec s14 (ec s15 e0))) cc18 ?_
             rintro _ w37 ⟨rfl, xt37⟩
             exact ⟨_, rfl, xt37, rfl⟩
            refine dc (fun _ _ _ _ hp12 => pickT rfl rfl rfl (hp12 5 rfl rfl) b6 (hp12 11 rfl rfl) (d0 rfl rfl)) ?_
            refine dc (fun _ _ _ _ hp13 => mv rfl (hp13 12 rfl rfl) (d0 rfl rfl)) ?_
            refine dc (fun f14 w40 hf14 xt40 hp14 => ?_) ?_
            ·
             have s19 : f14 170 = .bool (earlyO fi fo rd_ wa_) := hp14 13 rfl rfl
             refine gy rfl rfl s19 b7 (mv rfl ((hf14 0 rfl).trans i0) ?_)
             exact ⟨_, rfl, Ext.refl _, rfl⟩
            refine dc (fun f15 w41 hf15 xt41 hp15 => ?_) ?_
            ·
             have s20 : f15 170 = .bool (earlyO fi fo rd_ wa_) := hp15 13 rfl rfl
             have s21 : f15 171 = pV b_a 0 := hp15 14 rfl rfl
             refine gy rfl rfl s20 b7 (nc rfl s21 ?_)
             exact ⟨_, rfl, Ext.refl _, rfl⟩
            refine dc (fun f16 w42 hf16 xt42 hp16 => ?_) ?_
            ·
             have s22 : f16 170 = .bool (earlyO fi fo rd_ wa_) := hp16 13 rfl rfl
             have s23 : f16 172 = pV b_a 0 := hp16 15 rfl rfl
             refine gy rfl rfl s22 b7 (fa fl54_0 rfl s23 ?_)
             exact ⟨_, rfl, Ext.refl _, rfl⟩
            refine dc (fun f17 w43 hf17 xt43 hp17 => ?_) ?_
            ·
             have H58 := H5.ext xt43
             have s24 : f17 170 = .bool (earlyO fi fo rd_ wa_) := hp17 13 rfl rfl
             have s25 : f17 173 = pV b_a 0 := hp17 16 rfl rfl
             refine gy rfl rfl s24 b7 (ldR H58 1 rfl ty30 rfl s25 (by decide) rfl ?_)
             exact ⟨_, rfl, Ext.refl _, rfl⟩
            refine dc (fun f18 w44 hf18 xt44 hp18 => ?_) ?_
            ·
             have s26 : f18 170 = .bool (earlyO fi fo rd_ wa_) := hp18 13 rfl rfl
             refine gy rfl rfl s26 b7 (fa fl43_4 rfl (hf18 3 rfl) ?_)
             exact ⟨_, rfl, Ext.refl _, rfl⟩
            refine dc (fun f19 w45 hf19 xt45 hp19 => ?_) ?_
            ·
             have H60 := H5.ext xt45
             have s27 : f19 170 = .bool (earlyO fi fo rd_ wa_) := hp19 13 rfl rfl
             have s28 : f19 175 = pV bb0 4 := hp19 18 rfl rfl
             refine gy rfl rfl s27 b7 (ldX H60 0 rfl ty3 rfl s28 (by decide) rfl ?_)
             exact ⟨_, rfl, Ext.refl _, rfl⟩
            refine ⟨fun _ => ⟨fun f20 w46 hf20 xt46 hp20 => ?_, by rintro _ _ _ x_ ⟨a7, c7, e_, rv10⟩; exact ⟨a7, c7, e_, rv10.lift (Up.ext x_)⟩⟩, ?_⟩
            ·
             have H61 := H5.ext xt46
             have s29 : f20 170 = .bool (earlyO fi fo rd_ wa_) := hp20 13 rfl rfl
             have s30 : f20 174 = .agg #[.slice a_fv n_fv c_fv, .slice a_fi fi.length c_fi, .slice a_fo fo.length c_fo] := hp20 17 rfl rfl
             have s31 : f20 176 = iV op_ := hp20 19 rfl rfl
             refine gy rfl rfl s29 b7 ?_
             have cc19 := past_Kept (fi := fi) (o := op_) (a_fv := a_fv) (n_fv := n_fv) (c_fv := c_fv) (a_fo := a_fo) (n_fo := fo.length) (c_fo := c_fo) (w := w46) H61.mb (H61.rv 5 rfl) (by first | assumption | (unfold I64 at *; omega)) (by exact ho) (by first | exact hn_fi | omega)
             refine ca go34 rfl (ec s30 (ec s31 e0)) cc19 ?_
             rintro _ w47 ⟨a9, c9, rfl, xt47, rv12⟩
             have rv13 := OwnsG.rv rv12 H61.mb
             exact ⟨_, rfl, xt47, ⟨a9, c9, rfl, rv13⟩⟩
            refine dc (fun f21 w48 hf21 xt48 hp21 => ?_) ?_
            ·
             have s32 : f21 170 = .bool (earlyO fi fo rd_ wa_) := hp21 13 rfl rfl
             refine gy rfl rfl s32 b7 (fa fl43_1 rfl (hf21 3 rfl) ?_)
             exact ⟨_, rfl, Ext.refl _, rfl⟩
            refine dc (fun f22 w49 hf22 xt49 hp22 => ?_) ?_
            ·
             have H65 := H5.ext xt49
             have s33 : f22 170 = .bool (earlyO fi fo rd_ wa_) := hp22 13 rfl rfl
             have s34 : f22 178 = pV bb0 1 := hp22 21 rfl rfl
             refine gy rfl rfl s33 b7 (ldX H65 0 rfl ty3 rfl s34 (by decide) rfl ?_)
             exact ⟨_, rfl, Ext.refl _, rfl⟩
            refine dc (fun f23 w50 hf23 xt50 hp23 => ?_) ?_
            ·
             have H66 := H5.ext xt50
             have s35 : f23 170 = .bool (earlyO fi fo rd_ wa_) := hp23 13 rfl rfl
             obtain ⟨a10, c10, s36, rv14⟩ : ∃ (a10 : Option Addr) (c10 : Nat), f23 177 = .slice a10 (keepL (wrQ fi) (pastA fi op_)).length c10 ∧ RV (MS M [box bb0 #[iV kd, iV rd_, iV wa_, iV wb_, iV op_, .slice a_sl_ n_sl_ c_sl_, iV fs_, iV sn_] 43, ro b_a #[.slice a_fv n_fv c_fv, .slice a_fi fi.length c_fi, .slice a_fo fo.length c_fo, .slice a_stp stp.length c_stp, .slice a_pl pl.length c_pl] ty_a, imm (.slice a_pl pl.length c_pl) pl, imm (.slice a_stp stp.length c_stp) stp, imm (.slice a_fo fo.length c_fo) fo, imm (.slice a_fi fi.length c_fi) fi]) w50 (.slice a10 (keepL (wrQ fi) (pastA fi op_)).length c10) (keepL (wrQ fi) (pastA fi op_)) := hp23 20 rfl rfl
             have H67 := H66.put (it := imm (.slice a10 (keepL (wrQ fi) (pastA fi op_)).length c10) (keepL (wrQ fi) (pastA fi op_))) rfl rv14
             have s37 : f23 179 = iV rd_ := hp23 22 rfl rfl
             refine gy rfl rfl s35 b7 ?_
             have cc20 := contains_int (l0_ := (keepL (wrQ fi) (pastA fi op_))) (v0_ := rd_) (w := w50) H67.mb (H67.rv 0 rfl) (by first | assumption | (unfold I64 at *; omega))
             refine ca go15 rfl (ec s36 (ec s37 e0)) cc20 ?_
             rintro _ w51 ⟨rfl, xt51⟩
             exact ⟨_, rfl, xt51, rfl⟩
            refine dc (fun _ _ _ _ hp24 => pickT rfl rfl rfl (hp24 13 rfl rfl) b7 (hp24 23 rfl rfl) (d0 rfl rfl)) ?_
            refine dc (fun _ _ _ _ hp25 => mv rfl (hp25 24 rfl rfl) (d0 rfl rfl)) ?_
            refine dc (fun f26 w54 hf26 xt54 hp26 => ?_) ?_
            ·
             have s41 : f26 182 = .bool ((keepL (wrQ fi) (pastA fi op_)).any (fun (z_ : Int) => decide (rd_ = z_))) := hp26 25 rfl rfl
             refine gy rfl rfl s41 b8 (mv rfl ((hf26 0 rfl).trans i0) ?_)
             exact ⟨_, rfl, Ext.refl _, rfl⟩
            refine dc (fun f27 w55 hf27 xt55 hp27 => ?_) ?_
            ·
             have s42 : f27 182 = .bool ((keepL (wrQ fi) (pastA fi op_)).any (fun (z_ : Int) => decide (rd_ = z_))) := hp27 25 rfl rfl
             refine gy rfl rfl s42 b8 (fa fl43_4 rfl (hf27 3 rfl) ?_)
             exact ⟨_, rfl, Ext.refl _, rfl⟩
            refine dc (fun f28 w56 hf28 xt56 hp28 => ?_) ?_
            ·
             have H73 := H5.ext xt56
             have s43 : f28 182 = .bool ((keepL (wrQ fi) (pastA fi op_)).any (fun (z_ : Int) => decide (rd_ = z_))) := hp28 25 rfl rfl
             have s44 : f28 184 = pV bb0 4 := hp28 27 rfl rfl
             refine gy rfl rfl s43 b8 (ldX H73 0 rfl ty3 rfl s44 (by decide) rfl ?_)
             exact ⟨_, rfl, Ext.refl _, rfl⟩
            refine dc (fun f29 w57 hf29 xt57 hp29 => ?_) ?_
            ·
             have H74 := H5.ext xt57
             have s45 : f29 182 = .bool ((keepL (wrQ fi) (pastA fi op_)).any (fun (z_ : Int) => decide (rd_ = z_))) := hp29 25 rfl rfl
             have s46 : f29 183 = pV b_a 0 := hp29 26 rfl rfl
             have s47 : f29 185 = iV op_ := hp29 28 rfl rfl
             refine gy rfl rfl s45 b8 ?_
             have cc21 := aud_within (fi := fi) (fo := fo) (stp := stp) (op_ := op_) (a_fv := a_fv) (n_fv := n_fv) (c_fv := c_fv) (a_pl := a_pl) (n_pl := pl.length) (c_pl := c_pl) (w := w57) H74.mb (hT.ext H74.below) (H74.rv 5 rfl) (H74.rv 4 rfl) (H74.rv 3 rfl) (by first | assumption | (unfold I64 at *; omega)) (H74.at_ 1 rfl) (by exact ho) (by first | exact hn_fi | omega) (by exact hfo) (by exact hfr)
             refine ca go35 rfl (ec s46 (ec s47 e0)) cc21 ?_
             rintro _ w58 ⟨rfl, xt58⟩
             exact ⟨_, rfl, xt58, rfl⟩
            refine dc (fun _ _ _ _ hp30 => pickT rfl rfl rfl (hp30 25 rfl rfl) b8 (hp30 29 rfl rfl) (d0 rfl rfl)) ?_
            refine dc (fun _ _ _ _ hp31 => mv rfl (hp31 30 rfl rfl) (d0 rfl rfl)) ?_
            refine dc (fun _ _ _ _ hp32 => gn rfl rfl (hp32 31 rfl rfl) b9 (d0 rfl rfl)) ?_
            refine dc (fun _ _ _ _ hp33 => gn rfl rfl (hp33 31 rfl rfl) b9 (d0 rfl rfl)) ?_
            refine dc (fun _ _ _ _ hp34 => gn rfl rfl (hp34 31 rfl rfl) b9 (d0 rfl rfl)) ?_
            refine dc (fun _ _ _ _ hp35 => gn rfl rfl (hp35 31 rfl rfl) b9 (d0 rfl rfl)) ?_
            refine dc (fun _ _ _ _ hp36 => gn rfl rfl (hp36 31 rfl rfl) b9 (d0 rfl rfl)) ?_
            refine dc (fun _ _ _ _ hp37 => gn rfl rfl (hp37 31 rfl rfl) b9 (d0 rfl rfl)) ?_
            refine dc (fun _ _ _ _ hp38 => gn rfl rfl (hp38 31 rfl rfl) b9 (d0 rfl rfl)) ?_
            exact DSteps.rest rfl _
           ·
            intro f39 w68 hf39 xt68 hp39
            have H85 := H5.ext xt68
            have s61 : f39 188 = .bool (wthO fi fo stp op_) := hp39 31 rfl
            refine k (gn rfl rfl s61 b9 (k (pickF rfl rfl rfl s61 b9 rfl (k (asg (v := .bool false) rfl rfl (z (nx (rt (inb_ret (then_ret (r1 rfl rfl ?_)))))))))))
            have e0 : (false : Bool) = patO fi fo stp pl kd rd_ wa_ wb_ op_ fs_ sn_ := by simp only [patO, hasI, keptO, b0, b1, b2, b3, b4, b5, b6, (nott b6), b7, b8, b9, BL, cond_true, cond_false]
            have ev_ := cg1 (fun (x_0 : Bool) => (.bool x_0 : Value)) e0
            exact ⟨ev_, H85.below⟩
         · -- (keepL (wrQ fi) (pastA fi op_)).any (fun (z_ : Int) => decid is False
          refine dr 39 [eV (pV b_a 0), eV (pV bb0 4), eV (iV op_), fun (v : Value) (w' : World) => ∃ (a4 : Option Addr) (c4 : Nat), v = .slice a4 ([op_] : List Int).length c4 ∧ RV (MS M [box bb0 #[iV kd, iV rd_, iV wa_, iV wb_, iV op_, .slice a_sl_ n_sl_ c_sl_, iV fs_, iV sn_] 43, ro b_a #[.slice a_fv n_fv c_fv, .slice a_fi fi.length c_fi, .slice a_fo fo.length c_fo, .slice a_stp stp.length c_stp, .slice a_pl pl.length c_pl] ty_a, imm (.slice a_pl pl.length c_pl) pl, imm (.slice a_stp stp.length c_stp) stp, imm (.slice a_fo fo.length c_fo) fo, imm (.slice a_fi fi.length c_fi) fi]) w' (.slice a4 ([op_] : List Int).length c4) ([op_] : List Int), eV (.bool (!(([op_] : List Int).any (outO fi)))), eV (.bool (!(([op_] : List Int).any (outO fi)))), eV (pV b_a 0), eV (pV bb0 1), eV (iV rd_), eV (pV bb0 2), eV (iV wa_), eV (.bool (earlyO fi fo rd_ wa_)), eV (.bool (earlyO fi fo rd_ wa_)), eV (.bool (earlyO fi fo rd_ wa_)), eV (pV b_a 0), eV (pV b_a 0), eV (pV b_a 0), eV (.agg #[.slice a_fv n_fv c_fv, .slice a_fi fi.length c_fi, .slice a_fo fo.length c_fo]), eV (pV bb0 4), eV (iV op_), fun (v : Value) (w' : World) => ∃ (a5 : Option Addr) (c5 : Nat), v = .slice a5 (keepL (wrQ fi) (pastA fi op_)).length c5 ∧ RV (MS M [box bb0 #[iV kd, iV rd_, iV wa_, iV wb_, iV op_, .slice a_sl_ n_sl_ c_sl_, iV fs_, iV sn_] 43, ro b_a #[.slice a_fv n_fv c_fv, .slice a_fi fi.length c_fi, .slice a_fo fo.length c_fo, .slice a_stp stp.length c_stp, .slice a_pl pl.length c_pl] ty_a, imm (.slice a_pl pl.length c_pl) pl, imm (.slice a_stp stp.length c_stp) stp, imm (.slice a_fo fo.length c_fo) fo, imm (.slice a_fi fi.length c_fi) fi]) w' (.slice a5 (keepL (wrQ fi) (pastA fi op_)).length c5) (keepL (wrQ fi) (pastA fi op_)), eV (pV bb0 1), eV (iV rd_), eV (.bool ((keepL (wrQ fi) (pastA fi op_)).any (fun (z_ : Int) => decide (rd_ = z_)))), eV (.bool ((keepL (wrQ fi) (pastA fi op_)).any (fun (z_ : Int) => decide (rd_ = z_)))), eV (.bool ((keepL (wrQ fi) (pastA fi op_)).any (fun (z_ : Int) => decide (rd_ = z_)))), eV undef, eV undef, eV undef, eV undef, eV (.bool false), eV (.bool false), eV undef, eV undef, eV undef, eV undef, eV undef, eV undef, eV undef] rfl (by kernel_rfl) ?_ ?_
          ·
           refine dc (fun _ _ hf0 _ _ => mv rfl ((hf0 0 rfl).trans i0) (d0 rfl rfl)) ?_
           refine dc (fun _ _ hf1 _ _ => fa fl43_4 rfl (hf1 3 rfl) (d0 rfl rfl)) ?_
           refine dc (fun _ _ _ xt18 hp2 => ldX (H5.ext xt18) 0 rfl ty3 rfl (hp2 1 rfl rfl) (by decide) rfl (d0 rfl rfl)) ?_
           refine ⟨fun _ => ⟨fun f3 w19 hf3 xt19 hp3 => ?_, by rintro _ _ _ x_ ⟨a4, c4, e_, rv5⟩; exact ⟨a4, c4, e_, rv5.lift (Up.ext x_)⟩⟩, ?_⟩
           ·
            have H30 := H5.ext xt19
            have s1 : f3 159 = iV op_ := hp3 2 rfl rfl
            refine bs (xs := ([op_] : List Int)) (cells := #[iV op_]) (e := 3) H30 rfl (pbc s1 pb0) (fun _ => by kernel_rfl) ⟨[iV op_], [], rfl, ⟨rfl, (show I64 (op_) from (by first | assumption | (unfold I64 at *; omega)))⟩, rfl⟩ rfl (by unfold maxLen; omega) ?_
            intro g4 w20 xt20 (H31 : HI M w w20 [own w.heap.size 3 (.slice (some ⟨g4, 0, none⟩) 1 1) ([op_] : List Int), box bb0 #[iV kd, iV rd_, iV wa_, iV wb_, iV op_, .slice a_sl_ n_sl_ c_sl_, iV fs_, iV sn_] 43, ro b_a #[.slice a_fv n_fv c_fv, .slice a_fi fi.length c_fi, .slice a_fo fo.length c_fo, .slice a_stp stp.length c_stp, .slice a_pl pl.length c_pl] ty_a, imm (.slice a_pl pl.length c_pl) pl, imm (.slice a_stp stp.length c_stp) stp, imm (.slice a_fo fo.length c_fo) fo, imm (.slice a_fi fi.length c_fi) fi])
            have H32 := H31.freeze 0 rfl
            exact ⟨_, rfl, xt20, ⟨(some ⟨g4, 0, none⟩), 1, rfl, (rv_drop rfl (H32.rv 0 rfl))⟩⟩
           refine dc (fun f4 w21 hf4 xt21 hp4 => ?_) ?_
           ·
            have H33 := H5.ext xt21
            have s2 : f4 157 = pV b_a 0 := hp4 0 rfl rfl
            obtain ⟨a6, c6, s3, rv8⟩ : ∃ (a6 : Option Addr) (c6 : Nat), f4 160 = .slice a6 ([op_] : List Int).length c6 ∧ RV (MS M [box bb0 #[iV kd, iV rd_, iV wa_, iV wb_, iV op_, .slice a_sl_ n_sl_ c_sl_, iV fs_, iV sn_] 43, ro b_a #[.slice a_fv n_fv c_fv, .slice a_fi fi.length c_fi, .slice a_fo fo.length c_fo, .slice a_stp stp.length c_stp, .slice a_pl pl.length c_pl] ty_a, imm (.slice a_pl pl.length c_pl) pl, imm (.slice a_stp stp.length c_stp) stp, imm (.slice a_fo fo.length c_fo) fo, imm (.slice a_fi fi.length c_fi) fi]) w21 (.slice a6 ([op_] : List Int).length c6) ([op_] : List Int) := hp4 3 rfl rfl
            have H34 := H33.put (it := imm (.slice a6 ([op_] : List Int).length c6) ([op_] : List Int)) rfl rv8
            have cc11 := aud_op (fi := fi) (l := ([op_] : List Int)) (a_fv := a_fv) (n_fv := n_fv) (c_fv := c_fv) (a_fo := a_fo) (n_fo := fo.length) (c_fo := c_fo) (a_stp := a_stp) (n_stp := stp.length) (c_stp := c_stp) (a_pl := a_pl) (n_pl := pl.length) (c_pl := c_pl) (w := w21) H34.mb (H34.rv 6 rfl) (H34.rv 0 rfl) (H34.at_ 2 rfl)
            refine ca go28 rfl (ec s2 (ec s3 e0)) cc11 ?_
            rintro _ w22 ⟨rfl, xt22⟩
            exact ⟨_, rfl, xt22, rfl⟩
           refine dc (fun _ _ _ _ hp5 => mv rfl (hp5 4 rfl rfl) (d0 rfl rfl)) ?_
           refine dc (fun f6 w24 hf6 xt24 hp6 => ?_) ?_
           ·
            have s5 : f6 162 = .bool (!(([op_] : List Int).any (outO fi))) := hp6 5 rfl rfl
            refine gy rfl rfl s5 b6 (mv rfl ((hf6 0 rfl).trans i0) ?_)
            exact ⟨_, rfl, Ext.refl _, rfl⟩
           refine dc (fun f7 w25 hf7 xt25 hp7 => ?_) ?_
           ·
            have s6 : f7 162 = .bool (!(([op_] : List Int).any (outO fi))) := hp7 5 rfl rfl
            refine gy rfl rfl s6 b6 (fa fl43_1 rfl (hf7 3 rfl) ?_)
            exact ⟨_, rfl, Ext.refl _, rfl⟩
           refine dc (fun f8 w26 hf8 xt26 hp8 => ?_) ?_
           ·
            have H39 := H5.ext xt26
            have s7 : f8 162 = .bool (!(([op_] : List Int).any (outO fi))) := hp8 5 rfl rfl
            have s8 : f8 164 = pV bb0 1 := hp8 7 rfl rfl
            refine gy rfl rfl s7 b6 (ldX H39 0 rfl ty3 rfl s8 (by decide) rfl ?_)
            exact ⟨_, rfl, Ext.refl _, rfl⟩
           refine dc (fun f9 w27 hf9 xt27 hp9 => ?_) ?_
           ·
            have s9 : f9 162 = .bool (!(([op_] : List Int).any (outO fi))) := hp9 5 rfl rfl
            refine gy rfl rfl s9 b6 (fa fl43_2 rfl (hf9 3 rfl) ?_)
            exact ⟨_, rfl, Ext.refl _, rfl⟩
           refine dc (fun f10 w28 hf10 xt28 hp10 => ?_) ?_
           ·
            have H41 := H5.ext xt28
            have s10 : f10 162 = .bool (!(([op_] : List Int).any (outO fi))) := hp10 5 rfl rfl
            have s11 : f10 166 = pV bb0 2 := hp10 9 rfl rfl
            refine gy rfl rfl s10 b6 (ldX H41 0 rfl ty3 rfl s11 (by decide) rfl ?_)
            exact ⟨_, rfl, Ext.refl _, rfl⟩
           refine dc (fun f11 w29 hf11 xt29 hp11 => ?_) ?_
           ·
            have H42 := H5.ext xt29
            have s12 : f11 162 = .bool (!(([op_] : List Int).any (outO fi))) := hp11 5 rfl rfl
            have s13 : f11 163 = pV b_a 0 := hp11 6 rfl rfl
            have s14 : f11 165 = iV rd_ := hp11 8 rfl rfl
            have s15 : f11 167 = iV wa_ := hp11 10 rfl rfl
            refine gy rfl rfl s12 b6 ?_
            have cc12 := aud_early (fi := fi) (fo := fo) (n1 := rd_) (n2 := wa_) (a_fv := a_fv) (n_fv := n_fv) (c_fv := c_fv) (a_stp := a_stp) (n_stp := stp.length) (c_stp := c_stp) (a_pl := a_pl) (n_pl := pl.length) (c_pl := c_pl) (w := w29) H42.mb (H42.rv 5 rfl) (H42.rv 4 rfl) (by first | assumption | (unfold I64 at *; omega)) (by first | assumption | (unfold I64 at *; omega)) (H42.at_ 1 rfl) (by exact hfo)
            refine ca go31 rfl (ec s13 (ec s14 (ec s15 e0))) cc12 ?_
            rintro _ w30 ⟨rfl, xt30⟩
            exact ⟨_, rfl, xt30, rfl⟩
           refine dc (fun _ _ _ _ hp12 => pickT rfl rfl rfl (hp12 5 rfl rfl) b6 (hp12 11 rfl rfl) (d0 rfl rfl)) ?_
           refine dc (fun _ _ _ _ hp13 => mv rfl (hp13 12 rfl rfl) (d0 rfl rfl)) ?_
           refine dc (fun f14 w33 hf14 xt33 hp14 => ?_) ?_
           ·
            have s19 : f14 170 = .bool (earlyO fi fo rd_ wa_) := hp14 13 rfl rfl
            refine gy rfl rfl s19 b7 (mv rfl ((hf14 0 rfl).trans i0) ?_)
            exact ⟨_, rfl, Ext.refl _, rfl⟩
           refine dc (fun f15 w34 hf15 xt34 hp15 => ?_) ?_
           ·
            have s20 : f15 170 = .bool (earlyO fi fo rd_ wa_) := hp15 13 rfl rfl
            have s21 : f15 171 = pV b_a 0 := hp15 14 rfl rfl
            refine gy rfl rfl s20 b7 (nc rfl s21 ?_)
            exact ⟨_, rfl, Ext.refl _, rfl⟩
           refine dc (fun f16 w35 hf16 xt35 hp16 => ?_) ?_
           ·
            have s22 : f16 170 = .bool (earlyO fi fo rd_ wa_) := hp16 13 rfl rfl
            have s23 : f16 172 = pV b_a 0 := hp16 15 rfl rfl
            refine gy rfl rfl s22 b7 (fa fl54_0 rfl s23 ?_)
            exact ⟨_, rfl, Ext.refl _, rfl⟩
           refine dc (fun f17 w36 hf17 xt36 hp17 => ?_) ?_
           ·
            have H49 := H5.ext xt36
            have s24 : f17 170 = .bool (earlyO fi fo rd_ wa_) := hp17 13 rfl rfl
            have s25 : f17 173 = pV b_a 0 := hp17 16 rfl rfl
            refine gy rfl rfl s24 b7 (ldR H49 1 rfl ty30 rfl s25 (by decide) rfl ?_)
            exact ⟨_, rfl, Ext.refl _, rfl⟩
           refine dc (fun f18 w37 hf18 xt37 hp18 => ?_) ?_
           ·
            have s26 : f18 170 = .bool (earlyO fi fo rd_ wa_) := hp18 13 rfl rfl
            refine gy rfl rfl s26 b7 (fa fl43_4 rfl (hf18 3 rfl) ?_)
            exact ⟨_, rfl, Ext.refl _, rfl⟩
           refine dc (fun f19 w38 hf19 xt38 hp19 => ?_) ?_
           ·
            have H51 := H5.ext xt38
            have s27 : f19 170 = .bool (earlyO fi fo rd_ wa_) := hp19 13 rfl rfl
            have s28 : f19 175 = pV bb0 4 := hp19 18 rfl rfl
            refine gy rfl rfl s27 b7 (ldX H51 0 rfl ty3 rfl s28 (by decide) rfl ?_)
            exact ⟨_, rfl, Ext.refl _, rfl⟩
           refine ⟨fun _ => ⟨fun f20 w39 hf20 xt39 hp20 => ?_, by rintro _ _ _ x_ ⟨a5, c5, e_, rv7⟩; exact ⟨a5, c5, e_, rv7.lift (Up.ext x_)⟩⟩, ?_⟩
           ·
            have H52 := H5.ext xt39
            have s29 : f20 170 = .bool (earlyO fi fo rd_ wa_) := hp20 13 rfl rfl
            have s30 : f20 174 = .agg #[.slice a_fv n_fv c_fv, .slice a_fi fi.length c_fi, .slice a_fo fo.length c_fo] := hp20 17 rfl rfl
            have s31 : f20 176 = iV op_ := hp20 19 rfl rfl
            refine gy rfl rfl s29 b7 ?_
            have cc13 := past_Kept (fi := fi) (o := op_) (a_fv := a_fv) (n_fv := n_fv) (c_fv := c_fv) (a_fo := a_fo) (n_fo := fo.length) (c_fo := c_fo) (w := w39) H52.mb (H52.rv 5 rfl) (by first | assumption | (unfold I64 at *; omega)) (by exact ho) (by first | exact hn_fi | omega)
            refine ca go34 rfl (ec s30 (ec s31 e0)) cc13 ?_
            rintro _ w40 ⟨a7, c7, rfl, xt40, rv9⟩
            have rv10 := OwnsG.rv rv9 H52.mb
            exact ⟨_, rfl, xt40, ⟨a7, c7, rfl, rv10⟩⟩
           refine dc (fun f21 w41 hf21 xt41 hp21 => ?_) ?_
           ·
            have s32 : f21 170 = .bool (earlyO fi fo rd_ wa_) := hp21 13 rfl rfl
            refine gy rfl rfl s32 b7 (fa fl43_1 rfl (hf21 3 rfl) ?_)
            exact ⟨_, rfl, Ext.refl _, rfl⟩
           refine dc (fun f22 w42 hf22 xt42 hp22 => ?_) ?_
           ·
            have H56 := H5.ext xt42
            have s33 : f22 170 = .bool (earlyO fi fo rd_ wa_) := hp22 13 rfl rfl
            have s34 : f22 178 = pV bb0 1 := hp22 21 rfl rfl
            refine gy rfl rfl s33 b7 (ldX H56 0 rfl ty3 rfl s34 (by decide) rfl ?_)
            exact ⟨_, rfl, Ext.refl _, rfl⟩
           refine dc (fun f23 w43 hf23 xt43 hp23 => ?_) ?_
           ·
            have H57 := H5.ext xt43
            have s35 : f23 170 = .bool (earlyO fi fo rd_ wa_) := hp23 13 rfl rfl
            obtain ⟨a8, c8, s36, rv11⟩ : ∃ (a8 : Option Addr) (c8 : Nat), f23 177 = .slice a8 (keepL (wrQ fi) (pastA fi op_)).length c8 ∧ RV (MS M [box bb0 #[iV kd, iV rd_, iV wa_, iV wb_, iV op_, .slice a_sl_ n_sl_ c_sl_, iV fs_, iV sn_] 43, ro b_a #[.slice a_fv n_fv c_fv, .slice a_fi fi.length c_fi, .slice a_fo fo.length c_fo, .slice a_stp stp.length c_stp, .slice a_pl pl.length c_pl] ty_a, imm (.slice a_pl pl.length c_pl) pl, imm (.slice a_stp stp.length c_stp) stp, imm (.slice a_fo fo.length c_fo) fo, imm (.slice a_fi fi.length c_fi) fi]) w43 (.slice a8 (keepL (wrQ fi) (pastA fi op_)).length c8) (keepL (wrQ fi) (pastA fi op_)) := hp23 20 rfl rfl
            have H58 := H57.put (it := imm (.slice a8 (keepL (wrQ fi) (pastA fi op_)).length c8) (keepL (wrQ fi) (pastA fi op_))) rfl rv11
            have s37 : f23 179 = iV rd_ := hp23 22 rfl rfl
            refine gy rfl rfl s35 b7 ?_
            have cc14 := contains_int (l0_ := (keepL (wrQ fi) (pastA fi op_))) (v0_ := rd_) (w := w43) H58.mb (H58.rv 0 rfl) (by first | assumption | (unfold I64 at *; omega))
            refine ca go15 rfl (ec s36 (ec s37 e0)) cc14 ?_
            rintro _ w44 ⟨rfl, xt44⟩
            exact ⟨_, rfl, xt44, rfl⟩
           refine dc (fun _ _ _ _ hp24 => pickT rfl rfl rfl (hp24 13 rfl rfl) b7 (hp24 23 rfl rfl) (d0 rfl rfl)) ?_
           refine dc (fun _ _ _ _ hp25 => mv rfl (hp25 24 rfl rfl) (d0 rfl rfl)) ?_
           refine dc (fun _ _ _ _ hp26 => gn rfl rfl (hp26 25 rfl rfl) b8 (d0 rfl rfl)) ?_
           refine dc (fun _ _ _ _ hp27 => gn rfl rfl (hp27 25 rfl rfl) b8 (d0 rfl rfl)) ?_
           refine dc (fun _ _ _ _ hp28 => gn rfl rfl (hp28 25 rfl rfl) b8 (d0 rfl rfl)) ?_
           refine dc (fun _ _ _ _ hp29 => gn rfl rfl (hp29 25 rfl rfl) b8 (d0 rfl rfl)) ?_
           refine dc (fun _ _ _ _ hp30 => pickF rfl rfl rfl (hp30 25 rfl rfl) b8 rfl (d0 rfl rfl)) ?_
           refine dc (fun _ _ _ _ hp31 => mv rfl (hp31 30 rfl rfl) (d0 rfl rfl)) ?_
           refine dc (fun _ _ _ _ hp32 => gn rfl rfl (hp32 31 rfl rfl) rfl (d0 rfl rfl)) ?_
           refine dc (fun _ _ _ _ hp33 => gn rfl rfl (hp33 31 rfl rfl) rfl (d0 rfl rfl)) ?_
           refine dc (fun _ _ _ _ hp34 => gn rfl rfl (hp34 31 rfl rfl) rfl (d0 rfl rfl)) ?_
           refine dc (fun _ _ _ _ hp35 => gn rfl rfl (hp35 31 rfl rfl) rfl (d0 rfl rfl)) ?_
           refine dc (fun _ _ _ _ hp36 => gn rfl rfl (hp36 31 rfl rfl) rfl (d0 rfl rfl)) ?_
           refine dc (fun _ _ _ _ hp37 => gn rfl rfl (hp37 31 rfl rfl) rfl (d0 rfl rfl)) ?_
           refine dc (fun _ _ _ _ hp38 => gn rfl rfl (hp38 31 rfl rfl) rfl (d0 rfl rfl)) ?_
           exact DSteps.rest rfl _
          ·
           intro f39 w60 hf39 xt60 hp39
           have H75 := H5.ext xt60
           have s61 : f39 188 = .bool false := hp39 31 rfl
           refine k (gn rfl rfl s61 rfl (k (pickF rfl rfl rfl s61 rfl rfl (k (asg (v := .bool false) rfl rfl (z (nx (rt (inb_ret (then_ret (r1 rfl rfl ?_)))))))))))
           have e0 : (false : Bool) = patO fi fo stp pl kd rd_ wa_ wb_ op_ fs_ sn_ := by simp only [patO, hasI, keptO, b0, b1, b2, b3, b4, b5, b6, (nott b6), b7, b8, BL, cond_true, cond_false]
           have ev_ := cg1 (fun (x_0 : Bool) => (.bool x_0 : Value)) e0
           exact ⟨ev_, H75.below⟩
        · -- earlyO fi fo rd_ wa_ is False
         refine dr 39 [eV (pV b_a 0), eV (pV bb0 4), eV (iV op_), fun (v : Value) (w' : World) => ∃ (a2 : Option Addr) (c2 : Nat), v = .slice a2 ([op_] : List Int).length c2 ∧ RV (MS M [box bb0 #[iV kd, iV rd_, iV wa_, iV wb_, iV op_, .slice a_sl_ n_sl_ c_sl_, iV fs_, iV sn_] 43, ro b_a #[.slice a_fv n_fv c_fv, .slice a_fi fi.length c_fi, .slice a_fo fo.length c_fo, .slice a_stp stp.length c_stp, .slice a_pl pl.length c_pl] ty_a, imm (.slice a_pl pl.length c_pl) pl, imm (.slice a_stp stp.length c_stp) stp, imm (.slice a_fo fo.length c_fo) fo, imm (.slice a_fi fi.length c_fi) fi]) w' (.slice a2 ([op_] : List Int).length c2) ([op_] : List Int), eV (.bool (!(([op_] : List Int).any (outO fi)))), eV (.bool (!(([op_] : List Int).any (outO fi)))), eV (pV b_a 0), eV (pV bb0 1), eV (iV rd_), eV (pV bb0 2), eV (iV wa_), eV (.bool (earlyO fi fo rd_ wa_)), eV (.bool (earlyO fi fo rd_ wa_)), eV (.bool (earlyO fi fo rd_ wa_)), eV undef, eV undef, eV undef, eV undef, eV undef, eV undef, eV undef, eV undef, eV undef, eV undef, eV (.bool false), eV (.bool false), eV undef, eV undef, eV undef, eV undef, eV (.bool false), eV (.bool false), eV undef, eV undef, eV undef, eV undef, eV undef, eV undef, eV undef] rfl (by kernel_rfl) ?_ ?_
         ·
          refine dc (fun _ _ hf0 _ _ => mv rfl ((hf0 0 rfl).trans i0) (d0 rfl rfl)) ?_
          refine dc (fun _ _ hf1 _ _ => fa fl43_4 rfl (hf1 3 rfl) (d0 rfl rfl)) ?_
          refine dc (fun _ _ _ xt11 hp2 => ldX (H5.ext xt11) 0 rfl ty3 rfl (hp2 1 rfl rfl) (by decide) rfl (d0 rfl rfl)) ?_
          refine ⟨fun _ => ⟨fun f3 w12 hf3 xt12 hp3 => ?_, by rintro _ _ _ x_ ⟨a2, c2, e_, rv2⟩; exact ⟨a2, c2, e_, rv2.lift (Up.ext x_)⟩⟩, ?_⟩
          ·
           have H20 := H5.ext xt12
           have s1 : f3 159 = iV op_ := hp3 2 rfl rfl
           refine bs (xs := ([op_] : List Int)) (cells := #[iV op_]) (e := 3) H20 rfl (pbc s1 pb0) (fun _ => by kernel_rfl) ⟨[iV op_], [], rfl, ⟨rfl, (show I64 (op_) from (by first | assumption | (unfold I64 at *; omega)))⟩, rfl⟩ rfl (by unfold maxLen; omega) ?_
           intro g3 w13 xt13 (H21 : HI M w w13 [own w.heap.size 3 (.slice (some ⟨g3, 0, none⟩) 1 1) ([op_] : List Int), box bb0 #[iV kd, iV rd_, iV wa_, iV wb_, iV op_, .slice a_sl_ n_sl_ c_sl_, iV fs_, iV sn_] 43, ro b_a #[.slice a_fv n_fv c_fv, .slice a_fi fi.length c_fi, .slice a_fo fo.length c_fo, .slice a_stp stp.length c_stp, .slice a_pl pl.length c_pl] ty_a, imm (.slice a_pl pl.length c_pl) pl, imm (.slice a_stp stp.length c_stp) stp, imm (.slice a_fo fo.length c_fo) fo, imm (.slice a_fi fi.length c_fi) fi])
           have H22 := H21.freeze 0 rfl
           exact ⟨_, rfl, xt13, ⟨(some ⟨g3, 0, none⟩), 1, rfl, (rv_drop rfl (H22.rv 0 rfl))⟩⟩
          refine dc (fun f4 w14 hf4 xt14 hp4 => ?_) ?_
          ·
           have H23 := H5.ext xt14
           have s2 : f4 157 = pV b_a 0 := hp4 0 rfl rfl
           obtain ⟨a3, c3, s3, rv3⟩ : ∃ (a3 : Option Addr) (c3 : Nat), f4 160 = .slice a3 ([op_] : List Int).length c3 ∧ RV (MS M [box bb0 #[iV kd, iV rd_, iV wa_, iV wb_, iV op_, .slice a_sl_ n_sl_ c_sl_, iV fs_, iV sn_] 43, ro b_a #[.slice a_fv n_fv c_fv, .slice a_fi fi.length c_fi, .slice a_fo fo.length c_fo, .slice a_stp stp.length c_stp, .slice a_pl pl.length c_pl] ty_a, imm (.slice a_pl pl.length c_pl) pl, imm (.slice a_stp stp.length c_stp) stp, imm (.slice a_fo fo.length c_fo) fo, imm (.slice a_fi fi.length c_fi) fi]) w14 (.slice a3 ([op_] : List Int).length c3) ([op_] : List Int) := hp4 3 rfl rfl
           have H24 := H23.put (it := imm (.slice a3 ([op_] : List Int).length c3) ([op_] : List Int)) rfl rv3
           have cc5 := aud_op (fi := fi) (l := ([op_] : List Int)) (a_fv := a_fv) (n_fv := n_fv) (c_fv := c_fv) (a_fo := a_fo) (n_fo := fo.length) (c_fo := c_fo) (a_stp := a_stp) (n_stp := stp.length) (c_stp := c_stp) (a_pl := a_pl) (n_pl := pl.length) (c_pl := c_pl) (w := w14) H24.mb (H24.rv 6 rfl) (H24.rv 0 rfl) (H24.at_ 2 rfl)
           refine ca go28 rfl (ec s2 (ec s3 e0)) cc5 ?_
           rintro _ w15 ⟨rfl, xt15⟩
           exact ⟨_, rfl, xt15, rfl⟩
          refine dc (fun _ _ _ _ hp5 => mv rfl (hp5 4 rfl rfl) (d0 rfl rfl)) ?_
          refine dc (fun f6 w17 hf6 xt17 hp6 => ?_) ?_
          ·
           have s5 : f6 162 = .bool (!(([op_] : List Int).any (outO fi))) := hp6 5 rfl rfl
           refine gy rfl rfl s5 b6 (mv rfl ((hf6 0 rfl).trans i0) ?_)
           exact ⟨_, rfl, Ext.refl _, rfl⟩
          refine dc (fun f7 w18 hf7 xt18 hp7 => ?_) ?_
          ·
           have s6 : f7 162 = .bool (!(([op_] : List Int).any (outO fi))) := hp7 5 rfl rfl
           refine gy rfl rfl s6 b6 (fa fl43_1 rfl (hf7 3 rfl) ?_)
           exact ⟨_, rfl, Ext.refl _, rfl⟩
          refine dc (fun f8 w19 hf8 xt19 hp8 => ?_) ?_
          ·
           have H29 := H5.ext xt19
           have s7 : f8 162 = .bool (!(([op_] : List Int).any (outO fi))) := hp8 5 rfl rfl
           have s8 : f8 164 = pV bb0 1 := hp8 7 rfl rfl
           refine gy rfl rfl s7 b6 (ldX H29 0 rfl ty3 rfl s8 (by decide) rfl ?_)
           exact ⟨_, rfl, Ext.refl _, rfl⟩
          refine dc (fun f9 w20 hf9 xt20 hp9 => ?_) ?_
          ·
           have s9 : f9 162 = .bool (!(([op_] : List Int).any (outO fi))) := hp9 5 rfl rfl
           refine gy rfl rfl s9 b6 (fa fl43_2 rfl (hf9 3 rfl) ?_)
           exact ⟨_, rfl, Ext.refl _, rfl⟩
          refine dc (fun f10 w21 hf10 xt21 hp10 => ?_) ?_
          ·
           have H31 := H5.ext xt21
           have s10 : f10 162 = .bool (!(([op_] : List Int).any (outO fi))) := hp10 5 rfl rfl
           have s11 : f10 166 = pV bb0 2 := hp10 9 rfl rfl
           refine gy rfl rfl s10 b6 (ldX H31 0 rfl ty3 rfl s11 (by decide) rfl ?_)
           exact ⟨_, rfl, Ext.refl _, rfl⟩
          refine dc (fun f11 w22 hf11 xt22 hp11 => ?_) ?_
          ·
           have H32 := H5.ext xt22
           have s12 : f11 162 = .bool (!(([op_] : List Int).any (outO fi))) := hp11 5 rfl rfl
           have s13 : f11 163 = pV b_a 0 := hp11 6 rfl rfl
           have s14 : f11 165 = iV rd_ := hp11 8 rfl rfl
           have s15 : f11 167 = iV wa_ := hp11 10 rfl rfl
           refine gy rfl rfl s12 b6 ?_
           have cc6 := aud_early (fi := fi) (fo := fo) (n1 := rd_) (n2 := wa_) (a_fv := a_fv) (n_fv := n_fv) (c_fv := c_fv) (a_stp := a_stp) (n_stp := stp.length) (c_stp := c_stp) (a_pl := a_pl) (n_pl := pl.length) (c_pl := c_pl) (w := w22) H32.mb (H32.rv 5 rfl) (H32.rv 4 rfl) (by first | assumption | (unfold I64 at *; omega)) (by first | assumption | (unfold I64 at *; omega)) (H32.at_ 1 rfl) (by exact hfo)
           refine ca go31 rfl (ec s13 (ec s14 (ec s15 e0))) cc6 ?_
           rintro _ w23 ⟨rfl, xt23⟩
           exact ⟨_, rfl, xt23, rfl⟩
          refine dc (fun _ _ _ _ hp12 => pickT rfl rfl rfl (hp12 5 rfl rfl) b6 (hp12 11 rfl rfl) (d0 rfl rfl)) ?_
          refine dc (fun _ _ _ _ hp13 => mv rfl (hp13 12 rfl rfl) (d0 rfl rfl)) ?_
          refine dc (fun _ _ _ _ hp14 => gn rfl rfl (hp14 13 rfl rfl) b7 (d0 rfl rfl)) ?_
          refine dc (fun _ _ _ _ hp15 => gn rfl rfl (hp15 13 rfl rfl) b7 (d0 rfl rfl)) ?_
          refine dc (fun _ _ _ _ hp16 => gn rfl rfl (hp16 13 rfl rfl) b7 (d0 rfl rfl)) ?_
          refine dc (fun _ _ _ _ hp17 => gn rfl rfl (hp17 13 rfl rfl) b7 (d0 rfl rfl)) ?_
          refine dc (fun _ _ _ _ hp18 => gn rfl rfl (hp18 13 rfl rfl) b7 (d0 rfl rfl)) ?_
          refine dc (fun _ _ _ _ hp19 => gn rfl rfl (hp19 13 rfl rfl) b7 (d0 rfl rfl)) ?_
          refine dc (fun _ _ _ _ hp20 => gn rfl rfl (hp20 13 rfl rfl) b7 (d0 rfl rfl)) ?_
          refine dc (fun _ _ _ _ hp21 => gn rfl rfl (hp21 13 rfl rfl) b7 (d0 rfl rfl)) ?_
          refine dc (fun _ _ _ _ hp22 => gn rfl rfl (hp22 13 rfl rfl) b7 (d0 rfl rfl)) ?_
          refine dc (fun _ _ _ _ hp23 => gn rfl rfl (hp23 13 rfl rfl) b7 (d0 rfl rfl)) ?_
          refine dc (fun _ _ _ _ hp24 => pickF rfl rfl rfl (hp24 13 rfl rfl) b7 rfl (d0 rfl rfl)) ?_
          refine dc (fun _ _ _ _ hp25 => mv rfl (hp25 24 rfl rfl) (d0 rfl rfl)) ?_
          refine dc (fun _ _ _ _ hp26 => gn rfl rfl (hp26 25 rfl rfl) rfl (d0 rfl rfl)) ?_
          refine dc (fun _ _ _ _ hp27 => gn rfl rfl (hp27 25 rfl rfl) rfl (d0 rfl rfl)) ?_
          refine dc (fun _ _ _ _ hp28 => gn rfl rfl (hp28 25 rfl rfl) rfl (d0 rfl rfl)) ?_
          refine dc (fun _ _ _ _ hp29 => gn rfl rfl (hp29 25 rfl rfl) rfl (d0 rfl rfl)) ?_
          refine dc (fun _ _ _ _ hp30 => pickF rfl rfl rfl (hp30 25 rfl rfl) rfl rfl (d0 rfl rfl)) ?_
          refine dc (fun _ _ _ _ hp31 => mv rfl (hp31 30 rfl rfl) (d0 rfl rfl)) ?_
          refine dc (fun _ _ _ _ hp32 => gn rfl rfl (hp32 31 rfl rfl) rfl (d0 rfl rfl)) ?_
          refine dc (fun _ _ _ _ hp33 => gn rfl rfl (hp33 31 rfl rfl) rfl (d0 rfl rfl)) ?_
          refine dc (fun _ _ _ _ hp34 => gn rfl rfl (hp34 31 rfl rfl) rfl (d0 rfl rfl)) ?_
          refine dc (fun _ _ _ _ hp35 => gn rfl rfl (hp35 31 rfl rfl) rfl (d0 rfl rfl)) ?_
          refine dc (fun _ _ _ _ hp36 => gn rfl rfl (hp36 31 rfl rfl) rfl (d0 rfl rfl)) ?_
          refine dc (fun _ _ _ _ hp37 => gn rfl rfl (hp37 31 rfl rfl) rfl (d0 rfl rfl)) ?_
          refine dc (fun _ _ _ _ hp38 => gn rfl rfl (hp38 31 rfl rfl) rfl (d0 rfl rfl)) ?_
          exact DSteps.rest rfl _
         ·
          intro f39 w51 hf39 xt51 hp39
          have H61 := H5.ext xt51
          have s61 : f39 188 = .bool false := hp39 31 rfl
          refine k (gn rfl rfl s61 rfl (k (pickF rfl rfl rfl s61 rfl rfl (k (asg (v := .bool false) rfl rfl (z (nx (rt (inb_ret (then_ret (r1 rfl rfl ?_)))))))))))
          have e0 : (false : Bool) = patO fi fo stp pl kd rd_ wa_ wb_ op_ fs_ sn_ := by simp only [patO, hasI, keptO, b0, b1, b2, b3, b4, b5, b6, (nott b6), b7, BL, cond_true, cond_false]
          have ev_ := cg1 (fun (x_0 : Bool) => (.bool x_0 : Value)) e0
          exact ⟨ev_, H61.below⟩
       · -- !(([op_] : List Int).any (outO fi)) is False
        refine dr 39 [eV (pV b_a 0), eV (pV bb0 4), eV (iV op_), fun (v : Value) (w' : World) => ∃ (a1 : Option Addr) (c1 : Nat), v = .slice a1 ([op_] : List Int).length c1 ∧ RV (MS M [box bb0 #[iV kd, iV rd_, iV wa_, iV wb_, iV op_, .slice a_sl_ n_sl_ c_sl_, iV fs_, iV sn_] 43, ro b_a #[.slice a_fv n_fv c_fv, .slice a_fi fi.length c_fi, .slice a_fo fo.length c_fo, .slice a_stp stp.length c_stp, .slice a_pl pl.length c_pl] ty_a, imm (.slice a_pl pl.length c_pl) pl, imm (.slice a_stp stp.length c_stp) stp, imm (.slice a_fo fo.length c_fo) fo, imm (.slice a_fi fi.length c_fi) fi]) w' (.slice a1 ([op_] : List Int).length c1) ([op_] : List Int), eV (.bool (!(([op_] : List Int).any (outO fi)))), eV (.bool (!(([op_] : List Int).any (outO fi)))), eV undef, eV undef, eV undef, eV undef, eV undef, eV undef, eV (.bool false), eV (.bool false), eV undef, eV undef, eV undef, eV undef, eV undef, eV undef, eV undef, eV undef, eV undef, eV undef, eV (.bool false), eV (.bool false), eV undef, eV undef, eV undef, eV undef, eV (.bool false), eV (.bool false), eV undef, eV undef, eV undef, eV undef, eV undef, eV undef, eV undef] rfl (by kernel_rfl) ?_ ?_
        ·
         refine dc (fun _ _ hf0 _ _ => mv rfl ((hf0 0 rfl).trans i0) (d0 rfl rfl)) ?_
         refine dc (fun _ _ hf1 _ _ => fa fl43_4 rfl (hf1 3 rfl) (d0 rfl rfl)) ?_
         refine dc (fun _ _ _ xt7 hp2 => ldX (H5.ext xt7) 0 rfl ty3 rfl (hp2 1 rfl rfl) (by decide) rfl (d0 rfl rfl)) ?_
         refine ⟨fun _ => ⟨fun f3 w8 hf3 xt8 hp3 => ?_, by rintro _ _ _ x_ ⟨a1, c1, e_, rv1⟩; exact ⟨a1, c1, e_, rv1.lift (Up.ext x_)⟩⟩, ?_⟩
         ·
          have H15 := H5.ext xt8
          have s1 : f3 159 = iV op_ := hp3 2 rfl rfl
          refine bs (xs := ([op_] : List Int)) (cells := #[iV op_]) (e := 3) H15 rfl (pbc s1 pb0) (fun _ => by kernel_rfl) ⟨[iV op_], [], rfl, ⟨rfl, (show I64 (op_) from (by first | assumption | (unfold I64 at *; omega)))⟩, rfl⟩ rfl (by unfold maxLen; omega) ?_
          intro g2 w9 xt9 (H16 : HI M w w9 [own w.heap.size 3 (.slice (some ⟨g2, 0, none⟩) 1 1) ([op_] : List Int), box bb0 #[iV kd, iV rd_, iV wa_, iV wb_, iV op_, .slice a_sl_ n_sl_ c_sl_, iV fs_, iV sn_] 43, ro b_a #[.slice a_fv n_fv c_fv, .slice a_fi fi.length c_fi, .slice a_fo fo.length c_fo, .slice a_stp stp.length c_stp, .slice a_pl pl.length c_pl] ty_a, imm (.slice a_pl pl.length c_pl) pl, imm (.slice a_stp stp.length c_stp) stp, imm (.slice a_fo fo.length c_fo) fo, imm (.slice a_fi fi.length c_fi) fi])
          have H17 := H16.freeze 0 rfl
          exact ⟨_, rfl, xt9, ⟨(some ⟨g2, 0, none⟩), 1, rfl, (rv_drop rfl (H17.rv 0 rfl))⟩⟩
         refine dc (fun f4 w10 hf4 xt10 hp4 => ?_) ?_
         ·
          have H18 := H5.ext xt10
          have s2 : f4 157 = pV b_a 0 := hp4 0 rfl rfl
          obtain ⟨a2, c2, s3, rv2⟩ : ∃ (a2 : Option Addr) (c2 : Nat), f4 160 = .slice a2 ([op_] : List Int).length c2 ∧ RV (MS M [box bb0 #[iV kd, iV rd_, iV wa_, iV wb_, iV op_, .slice a_sl_ n_sl_ c_sl_, iV fs_, iV sn_] 43, ro b_a #[.slice a_fv n_fv c_fv, .slice a_fi fi.length c_fi, .slice a_fo fo.length c_fo, .slice a_stp stp.length c_stp, .slice a_pl pl.length c_pl] ty_a, imm (.slice a_pl pl.length c_pl) pl, imm (.slice a_stp stp.length c_stp) stp, imm (.slice a_fo fo.length c_fo) fo, imm (.slice a_fi fi.length c_fi) fi]) w10 (.slice a2 ([op_] : List Int).length c2) ([op_] : List Int) := hp4 3 rfl rfl
          have H19 := H18.put (it := imm (.slice a2 ([op_] : List Int).length c2) ([op_] : List Int)) rfl rv2
          have cc2 := aud_op (fi := fi) (l := ([op_] : List Int)) (a_fv := a_fv) (n_fv := n_fv) (c_fv := c_fv) (a_fo := a_fo) (n_fo := fo.length) (c_fo := c_fo) (a_stp := a_stp) (n_stp := stp.length) (c_stp := c_stp) (a_pl := a_pl) (n_pl := pl.length) (c_pl := c_pl) (w := w10) H19.mb (H19.rv 6 rfl) (H19.rv 0 rfl) (H19.at_ 2 rfl)
          refine ca go28 rfl (ec s2 (ec s3 e0)) cc2 ?_
          rintro _ w11 ⟨rfl, xt11⟩
          exact ⟨_, rfl, xt11, rfl⟩
         refine dc (fun _ _ _ _ hp5 => mv rfl (hp5 4 rfl rfl) (d0 rfl rfl)) ?_
         refine dc (fun _ _ _ _ hp6 => gn rfl rfl (hp6 5 rfl rfl) b6 (d0 rfl rfl)) ?_
         refine dc (fun _ _ _ _ hp7 => gn rfl rfl (hp7 5 rfl rfl) b6 (d0 rfl rfl)) ?_
         refine dc (fun _ _ _ _ hp8 => gn rfl rfl (hp8 5 rfl rfl) b6 (d0 rfl rfl)) ?_
         refine dc (fun _ _ _ _ hp9 => gn rfl rfl (hp9 5 rfl rfl) b6 (d0 rfl rfl)) ?_
         refine dc (fun _ _ _ _ hp10 => gn rfl rfl (hp10 5 rfl rfl) b6 (d0 rfl rfl)) ?_
         refine dc (fun _ _ _ _ hp11 => gn rfl rfl (hp11 5 rfl rfl) b6 (d0 rfl rfl)) ?_
         refine dc (fun _ _ _ _ hp12 => pickF rfl rfl rfl (hp12 5 rfl rfl) b6 rfl (d0 rfl rfl)) ?_
         refine dc (fun _ _ _ _ hp13 => mv rfl (hp13 12 rfl rfl) (d0 rfl rfl)) ?_
         refine dc (fun _ _ _ _ hp14 => gn rfl rfl (hp14 13 rfl rfl) rfl (d0 rfl rfl)) ?_
         refine dc (fun _ _ _ _ hp15 => gn rfl rfl (hp15 13 rfl rfl) rfl (d0 rfl rfl)) ?_
         refine dc (fun _ _ _ _ hp16 => gn rfl rfl (hp16 13 rfl rfl) rfl (d0 rfl rfl)) ?_
         refine dc (fun _ _ _ _ hp17 => gn rfl rfl (hp17 13 rfl rfl) rfl (d0 rfl rfl)) ?_
         refine dc (fun _ _ _ _ hp18 => gn rfl rfl (hp18 13 rfl rfl) rfl (d0 rfl rfl)) ?_
         refine dc (fun _ _ _ _ hp19 => gn rfl rfl (hp19 13 rfl rfl) rfl (d0 rfl rfl)) ?_
         refine dc (fun _ _ _ _ hp20 => gn rfl rfl (hp20 13 rfl rfl) rfl (d0 rfl rfl)) ?_
         refine dc (fun _ _ _ _ hp21 => gn rfl rfl (hp21 13 rfl rfl) rfl (d0 rfl rfl)) ?_
         refine dc (fun _ _ _ _ hp22 => gn rfl rfl (hp22 13 rfl rfl) rfl (d0 rfl rfl)) ?_
         refine dc (fun _ _ _ _ hp23 => gn rfl rfl (hp23 13 rfl rfl) rfl (d0 rfl rfl)) ?_
         refine dc (fun _ _ _ _ hp24 => pickF rfl rfl rfl (hp24 13 rfl rfl) rfl rfl (d0 rfl rfl)) ?_
         refine dc (fun _ _ _ _ hp25 => mv rfl (hp25 24 rfl rfl) (d0 rfl rfl)) ?_
         refine dc (fun _ _ _ _ hp26 => gn rfl rfl (hp26 25 rfl rfl) rfl (d0 rfl rfl)) ?_
         refine dc (fun _ _ _ _ hp27 => gn rfl rfl (hp27 25 rfl rfl) rfl (d0 rfl rfl)) ?_
         refine dc (fun _ _ _ _ hp28 => gn rfl rfl (hp28 25 rfl rfl) rfl (d0 rfl rfl)) ?_
         refine dc (fun _ _ _ _ hp29 => gn rfl rfl (hp29 25 rfl rfl) rfl (d0 rfl rfl)) ?_
         refine dc (fun _ _ _ _ hp30 => pickF rfl rfl rfl (hp30 25 rfl rfl) rfl rfl (d0 rfl rfl)) ?_
         refine dc (fun _ _ _ _ hp31 => mv rfl (hp31 30 rfl rfl) (d0 rfl rfl)) ?_
         refine dc (fun _ _ _ _ hp32 => gn rfl rfl (hp32 31 rfl rfl) rfl (d0 rfl rfl)) ?_
         refine dc (fun _ _ _ _ hp33 => gn rfl rfl (hp33 31 rfl rfl) rfl (d0 rfl rfl)) ?_
         refine dc (fun _ _ _ _ hp34 => gn rfl rfl (hp34 31 rfl rfl) rfl (d0 rfl rfl)) ?_
         refine dc (fun _ _ _ _ hp35 => gn rfl rfl (hp35 31 rfl rfl) rfl (d0 rfl rfl)) ?_
         refine dc (fun _ _ _ _ hp36 => gn rfl rfl (hp36 31 rfl rfl) rfl (d0 rfl rfl)) ?_
         refine dc (fun _ _ _ _ hp37 => gn rfl rfl (hp37 31 rfl rfl) rfl (d0 rfl rfl)) ?_
         refine dc (fun _ _ _ _ hp38 => gn rfl rfl (hp38 31 rfl rfl) rfl (d0 rfl rfl)) ?_
         exact DSteps.rest rfl _
        ·
         intro f39 w46 hf39 xt46 hp39
         have H55 := H5.ext xt46
         have s61 : f39 188 = .bool false := hp39 31 rfl
         refine k (gn rfl rfl s61 rfl (k (pickF rfl rfl rfl s61 rfl rfl (k (asg (v := .bool false) rfl rfl (z (nx (rt (inb_ret (then_ret (r1 rfl rfl ?_)))))))))))
         have e0 : (false : Bool) = patO fi fo stp pl kd rd_ wa_ wb_ op_ fs_ sn_ := by simp only [patO, hasI, keptO, b0, b1, b2, b3, b4, b5, b6, (notf b6), BL, cond_true, cond_false]
         have ev_ := cg1 (fun (x_0 : Bool) => (.bool x_0 : Value)) e0
         exact ⟨ev_, H55.below⟩
      ·
       have p5 := of_decide_eq_false b5
       refine sq (rg (k (eql rfl rfl rfl rfl (k (asg (v := .bool (decide (kd = 7))) rfl rfl (z (nx ?_)))))))
       refine cd (b := decide (kd = 7)) rfl rfl (fun b6 => ?_) (fun b6 => ?_)
       ·
        have p6 := of_decide_eq_true b6
        refine sq (rg (k (mv rfl i0 (k (fa fl43_4 rfl rfl (k (ldX H5 0 rfl ty3 rfl rfl (by decide) rfl (k (fa fl43_2 rfl rfl (k (ldX H5 0 rfl ty3 rfl rfl (by decide) rfl (k (bs (xs := ([op_, wa_] : List Int)) (cells := #[iV op_, iV wa_]) (e := 3) H5 rfl (pbc rfl (pbc rfl pb0)) (fun _ => by kernel_rfl) ⟨[iV op_], [iV wa_], rfl, ⟨rfl, (show I64 (op_) from (by first | assumption | (unfold I64 at *; omega)))⟩, ⟨[iV wa_], [], rfl, ⟨rfl, (show I64 (wa_) from (by first | assumption | (unfold I64 at *; omega)))⟩, rfl⟩⟩ rfl (by unfold maxLen; omega) ?_)))))))))))))
        intro g0 w1 xt1 H6
        refine k ?_
        have H7 := H6.freeze 0 rfl
        have cc0 := aud_op (fi := fi) (l := ([op_, wa_] : List Int)) (a_fv := a_fv) (n_fv := n_fv) (c_fv := c_fv) (a_fo := a_fo) (n_fo := fo.length) (c_fo := c_fo) (a_stp := a_stp) (n_stp := stp.length) (c_stp := c_stp) (a_pl := a_pl) (n_pl := pl.length) (c_pl := c_pl) (w := w1) H7.mb (H7.rv 6 rfl) (H7.rv 0 rfl) (H7.at_ 2 rfl)
        refine ca go28 rfl (ec rfl (ec rfl e0)) cc0 ?_
        rintro _ w2 ⟨rfl, xt2⟩
        have H8 := H6.ext xt2
        refine k (mv (v := .bool (!(([op_, wa_] : List Int).any (outO fi)))) rfl rfl ?_)
        rcases Bool.eq_false_or_eq_true (!(([op_, wa_] : List Int).any (outO fi))) with b7 | b7
        · -- !(([op_, wa_] : List Int).any (outO fi)) is True
         refine k (gy rfl rfl rfl b7 (mv rfl i0 (k (gy rfl rfl rfl b7 (fa fl43_4 rfl rfl (k (gy rfl rfl rfl b7 (ldX H8 1 rfl ty3 rfl rfl (by decide) rfl (k (gy rfl rfl rfl b7 ?_))))))))))
         have cc1 := aud_within (fi := fi) (fo := fo) (stp := stp) (op_ := op_) (a_fv := a_fv) (n_fv := n_fv) (c_fv := c_fv) (a_pl := a_pl) (n_pl := pl.length) (c_pl := c_pl) (w := w2) H8.mb (hT.ext H8.below) (H8.rv 6 rfl) (H8.rv 5 rfl) (H8.rv 4 rfl) (by first | assumption | (unfold I64 at *; omega)) (H8.at_ 2 rfl) (by exact ho) (by first | exact hn_fi | omega) (by exact hfo) (by exact hfr)
         refine ca go35 rfl (ec rfl (ec rfl e0)) cc1 ?_
         rintro _ w3 ⟨rfl, xt3⟩
         have H9 := H8.ext xt3
         refine k (pickT rfl rfl rfl rfl b7 rfl (k (mv (v := .bool (wthO fi fo stp op_)) rfl rfl ?_)))
         rcases Bool.eq_false_or_eq_true (wthO fi fo stp op_) with b8 | b8
         · -- wthO fi fo stp op_ is True
          refine k (gy rfl rfl rfl b8 (mv rfl i0 (k (gy rfl rfl rfl b8 (fa fl43_6 rfl rfl (k (gy rfl rfl rfl b8 (ldX H9 1 rfl ty3 rfl rfl (by decide) rfl (k (gy rfl rfl rfl b8 (fa fl43_2 rfl rfl (k (gy rfl rfl rfl b8 (ldX H9 1 rfl ty3 rfl rfl (by decide) rfl (k (gy rfl rfl rfl b8 (fa fl43_2 rfl rfl (k (gy rfl rfl rfl b8 (ldX H9 1 rfl ty3 rfl rfl (by decide) rfl (k (gy rfl rfl rfl b8 ?_))))))))))))))))))))))
          have cc2 := aud_says (stp := stp) (n1 := fs_) (n2 := wa_) (n3 := wa_) (a_fv := a_fv) (n_fv := n_fv) (c_fv := c_fv) (a_fi := a_fi) (n_fi := fi.length) (c_fi := c_fi) (a_fo := a_fo) (n_fo := fo.length) (c_fo := c_fo) (a_pl := a_pl) (n_pl := pl.length) (c_pl := c_pl) (w := w3) H9.mb (H9.rv 4 rfl) (by first | assumption | (unfold I64 at *; omega)) (by first | assumption | (unfold I64 at *; omega)) (by first | assumption | (unfold I64 at *; omega)) (H9.at_ 2 rfl)
          refine ca go30 rfl (ec rfl (ec rfl (ec rfl (ec rfl e0)))) cc2 ?_
          rintro _ w4 ⟨rfl, xt4⟩
          have H10 := H9.ext xt4
          refine k (pickT rfl rfl rfl rfl b8 rfl (k (asg (v := .bool (saysO stp fs_ wa_ wa_)) rfl rfl (z (nx (rt (inb_ret (then_ret (r1 rfl rfl ?_)))))))))
          have e0 : (saysO stp fs_ wa_ wa_ : Bool) = patO fi fo stp pl kd rd_ wa_ wb_ op_ fs_ sn_ := by simp only [patO, hasI, keptO, b0, b1, b2, b3, b4, b5, b6, b7, (nott b7), b8, BL, cond_true, cond_false]
          have ev_ := cg1 (fun (x_0 : Bool) => (.bool x_0 : Value)) e0
          exact ⟨ev_, H10.below⟩
         · -- wthO fi fo stp op_ is False
          refine k (gn rfl rfl rfl b8 (k (gn rfl rfl rfl b8 (k (gn rfl rfl rfl b8 (k (gn rfl rfl rfl b8 (k (gn rfl rfl rfl b8 (k (gn rfl rfl rfl b8 (k (gn rfl rfl rfl b8 (k (gn rfl rfl rfl b8 (k (pickF rfl rfl rfl rfl b8 rfl (k (asg (v := .bool false) rfl rfl (z (nx (rt (inb_ret (then_ret (r1 rfl rfl ?_)))))))))))))))))))))))))
          have e0 : (false : Bool) = patO fi fo stp pl kd rd_ wa_ wb_ op_ fs_ sn_ := by simp only [patO, hasI, keptO, b0, b1, b2, b3, b4, b5, b6, b7, (nott b7), b8, BL, cond_true, cond_false]
          have ev_ := cg1 (fun (x_0 : Bool) => (.bool x_0 : Value)) e0
          exact ⟨ev_, H9.below⟩
        · -- !(([op_, wa_] : List Int).any (outO fi)) is False
         refine k (gn rfl rfl rfl b7 (k (gn rfl rfl rfl b7 (k (gn rfl rfl rfl b7 (k (gn rfl rfl rfl b7 (k (pickF rfl rfl rfl rfl b7 rfl (k (mv (v := .bool false) rfl rfl (k (gn rfl rfl rfl rfl (k (gn rfl rfl rfl rfl (k (gn rfl rfl rfl rfl (k (gn rfl rfl rfl rfl (k (gn rfl rfl rfl rfl (k (gn rfl rfl rfl rfl (k (gn rfl rfl rfl rfl (k (gn rfl rfl rfl rfl (k (pickF rfl rfl rfl rfl rfl rfl (k (asg (v := .bool false) rfl rfl (z (nx (rt (inb_ret (then_ret (r1 rfl rfl ?_)))))))))))))))))))))))))))))))))))))
         have e0 : (false : Bool) = patO fi fo stp pl kd rd_ wa_ wb_ op_ fs_ sn_ := by simp only [patO, hasI, keptO, b0, b1, b2, b3, b4, b5, b6, b7, (notf b7), BL, cond_true, cond_false]
         have ev_ := cg1 (fun (x_0 : Bool) => (.bool x_0 : Value)) e0
         exact ⟨ev_, H8.below⟩
       ·
        have p6 := of_decide_eq_false b6
        refine sk (inb_normal (nx (sq (rg (k (asg (v := .bool false) rfl rfl (z (nx (rt (r1 rfl rfl ?_))))))))))
        have e0 : (false : Bool) = patO fi fo stp pl kd rd_ wa_ wb_ op_ fs_ sn_ := by simp only [patO, hasI, keptO, b0, b1, b2, b3, b4, b5, b6, BL, cond_true, cond_false]
        have ev_ := cg1 (fun (x_0 : Bool) => (.bool x_0 : Value)) e0
        exact ⟨ev_, H5.below⟩
end Go.Proofs.YtefcbihikknlkaaDoor
namespace Go.Proofs.YtefcbihikknlkaaDoor
open Go.Ew Go.RowKit
set_option linter.unusedVariables false
set_option linter.unusedSimpArgs false
attribute [local irreducible] WL WC SO Code.wp wpList retQ Ret
attribute [local irreducible] bitB hasW inR hasR setR countW countR subR words newR listR orR firstW tab8
theorem go16 : GoF Tryd.prog 16 := ⟨_, _, Tryd.func16, rfl, by kernel_rfl⟩
theorem ty43 : TyF Tryd.prog 43 8 true 80 (.agg #[.int .i64 0, .int .i64 0, .int .i64 0, .int .i64 0, .int .i64 0, .slice none 0 0, .int .i64 0, .int .i64 0]) := ⟨by kernel_rfl, by kernel_rfl⟩
theorem go18 : GoF Tryd.prog 18 := ⟨_, _, Tryd.func18, rfl, by kernel_rfl⟩
theorem go19 : GoF Tryd.prog 19 := ⟨_, _, Tryd.func19, rfl, by kernel_rfl⟩
theorem fl43_5 : FldF Tryd.prog 43 5 5 := ⟨_, _, Tryd.underlying43, rfl, rfl, by kernel_rfl⟩
theorem go20 : GoF Tryd.prog 20 := ⟨_, _, Tryd.func20, rfl, by kernel_rfl⟩
set_option maxRecDepth 100000 in
set_option maxHeartbeats 1600000 in
theorem audit_Holds {M : Nat → Prop} {w : World} {a_fv : Option Addr} {n_fv c_fv : Nat} {a_fi : Option Addr} {c_fi : Nat} {fi : List (Int × Int × Bool × Int × Int)} {a_fo : Option Addr} {c_fo : Nat} {fo : List Int} {lv : Int} {kd : Int} {rd_ : Int} {wa_ : Int} {wb_ : Int} {op_ : Int} {a_sl_ : Option Addr} {c_sl_ : Nat} {sl_ : List (Int × Int × Int × Int × Int)} {fs_ : Int} {sn_ : Int} (hM : ∀ b, M b → b < w.heap.size) (hT : TabAt 0 w) (h_fi : RV M w (.slice a_fi fi.length c_fi) fi) (h_fo : RV M w (.slice a_fo fo.length c_fo) fo) (h_lv : I64 lv) (h_kd : I64 kd) (h_rd_ : I64 rd_) (h_wa_ : I64 wa_) (h_wb_ : I64 wb_) (h_op_ : I64 op_) (h_sl_ : RV M w (.slice a_sl_ sl_.length c_sl_) sl_) (h_fs_ : I64 fs_) (h_sn_ : I64 sn_) (ho : OrdI fi) (hn_fi : fi.length ≤ 4096) (hfo : fo.length = fi.length) (hfr : ∀ x ∈ fo, x < ((fi.length : Nat) : Int)) (hst : sl_.length ≤ 90000) : Calls Tryd.prog 10 #[.agg #[.slice a_fv n_fv c_fv, .slice a_fi fi.length c_fi, .slice a_fo fo.length c_fo], .int .i64 lv, .agg #[.int .i64 kd, .int .i64 rd_, .int .i64 wa_, .int .i64 wb_, .int .i64 op_, .slice a_sl_ sl_.length c_sl_, .int .i64 fs_, .int .i64 sn_]] w (Ret fun v w' =>  v = .bool (holdsO fi fo lv kd rd_ wa_ wb_ op_ sl_ fs_ sn_) ∧ Ext w w') := by
 refine enter 31 Tryd.func10 rfl rfl rfl fun f0 ha => ?_
 have H := HI.start (M0 := M) (w := w) hM
 have H0 := H.put (it := imm (.slice a_fi fi.length c_fi) fi) rfl (by rw [MS_nil]; exact h_fi)
 have H1 := H0.put (it := imm (.slice a_fo fo.length c_fo) fo) rfl (by rw [MS_cons_none rfl, MS_nil]; exact h_fo)
 have H2 := H1.put (it := imm (.slice a_sl_ sl_.length c_sl_) sl_) rfl (by rw [MS_cons_none rfl, MS_cons_none rfl, MS_nil]; exact h_sl_)
 have ln_fi := rv_len h_fi
 have ln_fo := rv_len h_fo
 have ln_sl_ := rv_len h_sl_
 have i0 : f0 0 = .agg #[.slice a_fv n_fv c_fv, .slice a_fi fi.length c_fi, .slice a_fo fo.length c_fo] := ha 0 (by simp)
 have i1 : f0 1 = iV lv := ha 1 (by simp)
 have i2 : f0 2 = .agg #[iV kd, iV rd_, iV wa_, iV wb_, iV op_, .slice a_sl_ sl_.length c_sl_, iV fs_, iV sn_] := ha 2 (by simp)
 refine sq (rg (k (bx H2 rfl i0 ?_)))
 intro bb0 w0 xt0 (H3 : HI M w w0 [box bb0 #[.slice a_fv n_fv c_fv, .slice a_fi fi.length c_fi, .slice a_fo fo.length c_fo] 30, imm (.slice a_sl_ sl_.length c_sl_) sl_, imm (.slice a_fo fo.length c_fo) fo, imm (.slice a_fi fi.length c_fi) fi])
 refine k (bx H3 rfl i2 ?_)
 intro bb1 w1 xt1 (H4 : HI M w w1 [box bb1 #[iV kd, iV rd_, iV wa_, iV wb_, iV op_, .slice a_sl_ sl_.length c_sl_, iV fs_, iV sn_] 43, box bb0 #[.slice a_fv n_fv c_fv, .slice a_fi fi.length c_fi, .slice a_fo fo.length c_fo] 30, imm (.slice a_sl_ sl_.length c_sl_) sl_, imm (.slice a_fo fo.length c_fo) fo, imm (.slice a_fi fi.length c_fi) fi])
 refine k (asg (v := .bool false) rfl rfl (z (nx (sq (rg (k (ldX H4 1 rfl ty30 rfl rfl (by decide) rfl (k (bd (v := .agg #[.slice a_fv n_fv c_fv, .slice a_fi fi.length c_fi, .slice a_fo fo.length c_fo, .slice none 0 0, .slice none 0 0]) rfl (pbc rfl pb0) (fun _ => by kernel_rfl) (k (bx H4 rfl rfl ?_)))))))))))
 intro bb2 w2 xt2 (H5 : HI M w w2 [box bb2 #[.slice a_fv n_fv c_fv, .slice a_fi fi.length c_fi, .slice a_fo fo.length c_fo, .slice none 0 0, .slice none 0 0] 54, box bb1 #[iV kd, iV rd_, iV wa_, iV wb_, iV op_, .slice a_sl_ sl_.length c_sl_, iV fs_, iV sn_] 43, box bb0 #[.slice a_fv n_fv c_fv, .slice a_fi fi.length c_fi, .slice a_fo fo.length c_fo] 30, imm (.slice a_sl_ sl_.length c_sl_) sl_, imm (.slice a_fo fo.length c_fo) fo, imm (.slice a_fi fi.length c_fi) fi])
 refine k (asg (v := pV bb2 0) rfl rfl (z (nx (sq (sq ?_)))))
 refine dr 4 [eV (iV lv), fun (v : Value) (w' : World) => ∃ (a0 : Option Addr) (c0 : Nat), v = .slice a0 (kindsO lv).length c0 ∧ RV (MS M [box bb2 #[.slice a_fv n_fv c_fv, .slice a_fi fi.length c_fi, .slice a_fo fo.length c_fo, .slice none 0 0, .slice none 0 0] 54, box bb1 #[iV kd, iV rd_, iV wa_, iV wb_, iV op_, .slice a_sl_ sl_.length c_sl_, iV fs_, iV sn_] 43, box bb0 #[.slice a_fv n_fv c_fv, .slice a_fi fi.length c_fi, .slice a_fo fo.length c_fo] 30, imm (.slice a_sl_ sl_.length c_sl_) sl_, imm (.slice a_fo fo.length c_fo) fo, imm (.slice a_fi fi.length c_fi) fi]) w' (.slice a0 (kindsO lv).length c0) (kindsO lv), eV (pV bb1 0), eV (iV kd)] rfl (by kernel_rfl) ?_ ?_
 ·
  refine dc (fun _ _ hf0 _ _ => mv rfl ((hf0 1 rfl).trans i1) (d0 rfl rfl)) ?_
  refine ⟨fun _ => ⟨fun f1 w5 hf1 xt5 hp1 => ?_, by rintro _ _ _ x_ ⟨a0, c0, e_, rv1⟩; exact ⟨a0, c0, e_, rv1.lift (Up.ext x_)⟩⟩, ?_⟩
  ·
   have H9 := H5.ext xt5
   have s0 : f1 11 = iV lv := hp1 0 rfl rfl
   have cc1 := bad_Kinds (lv := lv) (w := w5) H9.mb (by first | assumption | (unfold I64 at *; omega))
   refine ca go16 rfl (ec s0 e0) cc1 ?_
   rintro _ w6 ⟨a1, c1, rfl, xt6, rv2⟩
   have rv3 := OwnsG.rv rv2 H9.mb
   exact ⟨_, rfl, xt6, ⟨a1, c1, rfl, rv3⟩⟩
  refine dc (fun _ _ hf2 _ _ => fa fl43_0 rfl (hf2 5 rfl) (d0 rfl rfl)) ?_
  refine dc (fun _ _ _ xt8 hp3 => ldX (H5.ext xt8) 1 rfl ty3 rfl (hp3 2 rfl rfl) (by decide) rfl (d0 rfl rfl)) ?_
  exact DSteps.rest rfl _
 ·
  intro f4 w9 hf4 xt9 hp4
  have H14 := H5.ext xt9
  have s2 : f4 5 = pV bb1 0 := hf4 5 rfl
  have s3 : f4 7 = pV bb2 0 := hf4 7 rfl
  obtain ⟨a2, c2, s4, rv4⟩ : ∃ (a2 : Option Addr) (c2 : Nat), f4 12 = .slice a2 (kindsO lv).length c2 ∧ RV (MS M [box bb2 #[.slice a_fv n_fv c_fv, .slice a_fi fi.length c_fi, .slice a_fo fo.length c_fo, .slice none 0 0, .slice none 0 0] 54, box bb1 #[iV kd, iV rd_, iV wa_, iV wb_, iV op_, .slice a_sl_ sl_.length c_sl_, iV fs_, iV sn_] 43, box bb0 #[.slice a_fv n_fv c_fv, .slice a_fi fi.length c_fi, .slice a_fo fo.length c_fo] 30, imm (.slice a_sl_ sl_.length c_sl_) sl_, imm (.slice a_fo fo.length c_fo) fo, imm (.slice a_fi fi.length c_fi) fi]) w9 (.slice a2 (kindsO lv).length c2) (kindsO lv) := hp4 1 rfl
  have H15 := H14.put (it := imm (.slice a2 (kindsO lv).length c2) (kindsO lv)) rfl rv4
  have s5 : f4 14 = iV kd := hp4 3 rfl
  refine k ?_
  have cc2 := contains_int (l0_ := (kindsO lv)) (v0_ := kd) (w := w9) H15.mb (H15.rv 0 rfl) (by first | assumption | (unfold I64 at *; omega))
  refine ca go15 rfl (ec s4 (ec s5 e0)) cc2 ?_
  rintro _ w10 ⟨rfl, xt10⟩
  have H16 := H15.ext xt10
  refine k (not_ rfl rfl (k (mv (v := .bool (!((kindsO lv).any (fun (z_ : Int) => decide (kd = z_))))) rfl rfl ?_)))
  rcases Bool.eq_false_or_eq_true (!((kindsO lv).any (fun (z_ : Int) => decide (kd = z_)))) with b0 | b0
  · -- !((kindsO lv).any (fun (z_ : Int) => decide (kd = z_))) is True
   refine k (gn rfl rfl rfl b0 (k (gn rfl rfl rfl b0 (k (gn rfl rfl rfl b0 (k (pickT rfl rfl rfl rfl b0 rfl (z (nx (cdT rfl rfl rfl (sq (rg (k (asg (v := .bool false) rfl rfl (z (nx (rt (then_ret (r1 rfl rfl ?_)))))))))))))))))))
   have e0 : (false : Bool) = holdsO fi fo lv kd rd_ wa_ wb_ op_ sl_ fs_ sn_ := by simp only [holdsO, hasI, b0, (nott b0), BL, cond_true, cond_false]
   have ev_ := cg1 (fun (x_0 : Bool) => (.bool x_0 : Value)) e0
   exact ⟨ev_, H16.below⟩
  · -- !((kindsO lv).any (fun (z_ : Int) => decide (kd = z_))) is False
   refine k (gy rfl rfl rfl b0 (ldX H16 2 rfl ty43 rfl s2 (by decide) rfl (k (gy rfl rfl rfl b0 ?_))))
   have cc3 := audit_unnamed (kd := kd) (rd_ := rd_) (wa_ := wa_) (wb_ := wb_) (op_ := op_) (fs_ := fs_) (sn_ := sn_) (a_sl_ := a_sl_) (n_sl_ := sl_.length) (c_sl_ := c_sl_) (w := w10) H16.mb (by first | assumption | (unfold I64 at *; omega)) (by first | assumption | (unfold I64 at *; omega)) (by first | assumption | (unfold I64 at *; omega)) (by first | assumption | (unfold I64 at *; omega)) (by first | assumption | (unfold I64 at *; omega)) (by first | assumption | (unfold I64 at *; omega)) (by first | assumption | (unfold I64 at *; omega))
   refine ca go18 rfl (ec rfl e0) cc3 ?_
   rintro _ w11 ⟨a3, c3, rfl, xt11, rv5⟩
   have H17 := H16.ownsG rv5
   refine k (gy rfl rfl rfl b0 ?_)
   have H18 := H17.freeze 0 rfl
   have cc4 := containsFunc_int (r := (unnO kd rd_ wa_ wb_ op_ fs_ sn_)) (p := (fun (x_ : Int) => !decide (x_ = (-1)))) (w := w11) H18.mb (H18.rv 0 rfl) ⟨go19, fun w_ v_ x_ hx_ e_ hv_ => by have H_ := H18.ext e_; obtain ⟨_, ⟨rfl, rv6⟩, rfl⟩ := hv_; exact audit_Holds1 rv6⟩
   refine ca go17 rfl (ec rfl (ec rfl e0)) cc4 ?_
   rintro _ w12 ⟨rfl, xt12⟩
   have H19 := H17.ext xt12
   refine k (pickF rfl rfl rfl rfl b0 rfl (z (nx ?_)))
   refine cd (b := (unnO kd rd_ wa_ wb_ op_ fs_ sn_).any (fun (x_ : Int) => !decide (x_ = (-1)))) rfl rfl (fun b1 => ?_) (fun b1 => ?_)
   ·
    refine sq (rg (k (asg (v := .bool false) rfl rfl (z (nx (rt (then_ret (r1 rfl rfl ?_))))))))
    have e0 : (false : Bool) = holdsO fi fo lv kd rd_ wa_ wb_ op_ sl_ fs_ sn_ := by simp only [holdsO, hasI, b0, (notf b0), b1, BL, cond_true, cond_false]
    have ev_ := cg1 (fun (x_0 : Bool) => (.bool x_0 : Value)) e0
    exact ⟨ev_, H19.below⟩
   ·
    refine sk (nx (sq (rg (k (mv rfl s3 (k (fa fl43_5 rfl s2 (k (ldX H19 3 rfl ty23 rfl rfl (by decide) rfl (k ?_))))))))))
    have H20 := H19.nil_ (Int × Int × Int × Int × Int) 35
    have H21 := H20.nil_ Bool 4
    have H22 : HI M w w12 ([box bb2 #[.slice a_fv n_fv c_fv, .slice a_fi fi.length c_fi, .slice a_fo fo.length c_fo, .slice none 0 0, .slice none 0 0] 54, imm (.slice a_fi fi.length c_fi) fi, imm (.slice a_fo fo.length c_fo) fo, own w.heap.size 35 (.slice none 0 0) ([] : List (Int × Int × Int × Int × Int)), own w.heap.size 4 (.slice none 0 0) ([] : List Bool), imm (.slice a_sl_ sl_.length c_sl_) sl_] ++ [own w.heap.size 3 (.slice a3 (unnO kd rd_ wa_ wb_ op_ fs_ sn_).length c3) (unnO kd rd_ wa_ wb_ op_ fs_ sn_), imm (.slice a2 (kindsO lv).length c2) (kindsO lv), box bb1 #[iV kd, iV rd_, iV wa_, iV wb_, iV op_, .slice a_sl_ sl_.length c_sl_, iV fs_, iV sn_] 43, box bb0 #[.slice a_fv n_fv c_fv, .slice a_fi fi.length c_fi, .slice a_fo fo.length c_fo] 30]) := H21.pickN [4, 9, 8, 1, 0, 7, 2, 3, 5, 6] (by decide) rfl
    have cc5 := aud_take (b_a := bb2) (a_fv := a_fv) (n_fv := n_fv) (c_fv := c_fv) (a_fi := a_fi) (c_fi := c_fi) (fi := fi) (a_fo := a_fo) (c_fo := c_fo) (fo := fo) (a_stp := none) (c_stp := 0) (stp := ([] : List (Int × Int × Int × Int × Int))) (a_pl := none) (c_pl := 0) (pl := ([] : List Bool)) (a_l := a_sl_) (c_l := c_sl_) (l := sl_) (w := w) (w_ := w12) (r := [own w.heap.size 3 (.slice a3 (unnO kd rd_ wa_ wb_ op_ fs_ sn_).length c3) (unnO kd rd_ wa_ wb_ op_ fs_ sn_), imm (.slice a2 (kindsO lv).length c2) (kindsO lv), box bb1 #[iV kd, iV rd_, iV wa_, iV wb_, iV op_, .slice a_sl_ sl_.length c_sl_, iV fs_, iV sn_] 43, box bb0 #[.slice a_fv n_fv c_fv, .slice a_fi fi.length c_fi, .slice a_fo fo.length c_fo] 30]) (M := M) (by exact ho) (by first | exact hn_fi | omega) (by exact hfo) (by rfl) (by first | omega | (simp; omega)) H22
    refine ca go14 rfl (ec rfl (ec rfl e0)) cc5 ?_
    rintro _ w13 ⟨a4, c4, a5, c5, rfl, H23⟩
    have H24 : HI M w w13 [box bb2 #[.slice a_fv n_fv c_fv, .slice a_fi fi.length c_fi, .slice a_fo fo.length c_fo, .slice a4 ((takeO fi fo ([] : List (Int × Int × Int × Int × Int)) ([] : List Bool) sl_).2.1).length c4, .slice a5 ((takeO fi fo ([] : List (Int × Int × Int × Int × Int)) ([] : List Bool) sl_).2.2).length c5] 54, imm (.slice a_fi fi.length c_fi) fi, imm (.slice a_fo fo.length c_fo) fo, own w.heap.size 35 (.slice a4 ((takeO fi fo ([] : List (Int × Int × Int × Int × Int)) ([] : List Bool) sl_).2.1).length c4) ((takeO fi fo ([] : List (Int × Int × Int × Int × Int)) ([] : List Bool) sl_).2.1), own w.heap.size 4 (.slice a5 ((takeO fi fo ([] : List (Int × Int × Int × Int × Int)) ([] : List Bool) sl_).2.2).length c5) ((takeO fi fo ([] : List (Int × Int × Int × Int × Int)) ([] : List Bool) sl_).2.2), imm (.slice a_sl_ sl_.length c_sl_) sl_, own w.heap.size 3 (.slice a3 (unnO kd rd_ wa_ wb_ op_ fs_ sn_).length c3) (unnO kd rd_ wa_ wb_ op_ fs_ sn_), imm (.slice a2 (kindsO lv).length c2) (kindsO lv), box bb1 #[iV kd, iV rd_, iV wa_, iV wb_, iV op_, .slice a_sl_ sl_.length c_sl_, iV fs_, iV sn_] 43, box bb0 #[.slice a_fv n_fv c_fv, .slice a_fi fi.length c_fi, .slice a_fo fo.length c_fo] 30] := H23
    refine k (mv (v := .bool ((takeO fi fo ([] : List (Int × Int × Int × Int × Int)) ([] : List Bool) sl_).1)) rfl rfl ?_)
    rcases Bool.eq_false_or_eq_true ((takeO fi fo ([] : List (Int × Int × Int × Int × Int)) ([] : List Bool) sl_).1) with b2 | b2
    · -- (takeO fi fo ([] : List (Int × Int × Int × Int × Int)) ([] : is True
     refine k (gy rfl rfl rfl b2 (mv rfl s3 (k (gy rfl rfl rfl b2 (ldX H24 8 rfl ty43 rfl s2 (by decide) rfl (k (gy rfl rfl rfl b2 ?_)))))))
     have H25 := H24.freeze 3 rfl
     have H26 := H25.freeze 4 rfl
     have cc6 := aud_pattern (fi := fi) (fo := fo) (stp := ((takeO fi fo ([] : List (Int × Int × Int × Int × Int)) ([] : List Bool) sl_).2.1)) (pl := ((takeO fi fo ([] : List (Int × Int × Int × Int × Int)) ([] : List Bool) sl_).2.2)) (kd := kd) (rd_ := rd_) (wa_ := wa_) (wb_ := wb_) (op_ := op_) (fs_ := fs_) (sn_ := sn_) (a_fv := a_fv) (n_fv := n_fv) (c_fv := c_fv) (a_sl_ := a_sl_) (n_sl_ := sl_.length) (c_sl_ := c_sl_) (w := w13) (M := fun _ => False) (fun _ h_ => h_.elim) (hT.ext H26.below) ((H26.rv 1 rfl).lift (Up.less fun _ _ h_ => h_.elim)) ((H26.rv 2 rfl).lift (Up.less fun _ _ h_ => h_.elim)) ((H26.rv 3 rfl).lift (Up.less fun _ _ h_ => h_.elim)) ((H26.rv 4 rfl).lift (Up.less fun _ _ h_ => h_.elim)) (by first | assumption | (unfold I64 at *; omega)) (by first | assumption | (unfold I64 at *; omega)) (by first | assumption | (unfold I64 at *; omega)) (by first | assumption | (unfold I64 at *; omega)) (by first | assumption | (unfold I64 at *; omega)) (by first | assumption | (unfold I64 at *; omega)) (by first | assumption | (unfold I64 at *; omega)) ⟨H26.at_ 0 rfl, fun h_ => h_⟩ (by exact ho) (by first | exact hn_fi | omega) (by exact hfo) (by exact hfr) (by exact rule_in (by assumption))
     refine ca go20 rfl (ec rfl (ec rfl e0)) cc6 ?_
     rintro _ w14 ⟨rfl, xt13⟩
     have H27 := H24.ext xt13
     refine k (pickT rfl rfl rfl rfl b2 rfl (k (asg (v := .bool (patO fi fo ((takeO fi fo ([] : List (Int × Int × Int × Int × Int)) ([] : List Bool) sl_).2.1) ((takeO fi fo ([] : List (Int × Int × Int × Int × Int)) ([] : List Bool) sl_).2.2) kd rd_ wa_ wb_ op_ fs_ sn_)) rfl rfl (z (nx (rt (r1 rfl rfl ?_)))))))
     have e0 : (patO fi fo ((takeO fi fo ([] : List (Int × Int × Int × Int × Int)) ([] : List Bool) sl_).2.1) ((takeO fi fo ([] : List (Int × Int × Int × Int × Int)) ([] : List Bool) sl_).2.2) kd rd_ wa_ wb_ op_ fs_ sn_ : Bool) = holdsO fi fo lv kd rd_ wa_ wb_ op_ sl_ fs_ sn_ := by simp only [holdsO, hasI, b0, (notf b0), b1, b2, BL, cond_true, cond_false]
     have ev_ := cg1 (fun (x_0 : Bool) => (.bool x_0 : Value)) e0
     exact ⟨ev_, H27.below⟩
    · -- (takeO fi fo ([] : List (Int × Int × Int × Int × Int)) ([] : is False
     refine k (gn rfl rfl rfl b2 (k (gn rfl rfl rfl b2 (k (gn rfl rfl rfl b2 (k (pickF rfl rfl rfl rfl b2 rfl (k (asg (v := .bool false) rfl rfl (z (nx (rt (r1 rfl rfl ?_)))))))))))))
     have e0 : (false : Bool) = holdsO fi fo lv kd rd_ wa_ wb_ op_ sl_ fs_ sn_ := by simp only [holdsO, hasI, b0, (notf b0), b1, b2, BL, cond_true, cond_false]
     have ev_ := cg1 (fun (x_0 : Bool) => (.bool x_0 : Value)) e0
     exact ⟨ev_, H24.below⟩
end Go.Proofs.YtefcbihikknlkaaDoor
namespace Go.Proofs.YtefcbihikknlkaaDoor
open Go.Ew Go.RowKit
set_option linter.unusedVariables false
set_option linter.unusedSimpArgs false
attribute [local irreducible] WL WC SO Code.wp wpList retQ Ret
attribute [local irreducible] bitB hasW inR hasR setR countW countR subR words newR listR orR firstW tab8
theorem go6 : GoF Tryd.prog 6 := ⟨_, _, Tryd.func6, rfl, by kernel_rfl⟩
theorem go10 : GoF Tryd.prog 10 := ⟨_, _, Tryd.func10, rfl, by kernel_rfl⟩
theorem go7 : GoF Tryd.prog 7 := ⟨_, _, Tryd.func7, rfl, by kernel_rfl⟩
set_option maxRecDepth 100000 in
set_option maxHeartbeats 1600000 in
theorem awake21 {w : World} (hT : TabAt 0 w) : Calls Tryd.prog 5 #[] w (Ret fun v w' =>  v = .bool true ∧ Ext w w') := by
 refine enter 39 Tryd.func5 rfl rfl rfl fun f0 ha => ?_
 have H := HI.start (M0 := (fun _ => False)) (w := w) (fun _ h => h.elim)
 refine sq (rg (k (asg (v := .bool false) rfl rfl (z (nx (sq (rg (k (bd (v := .agg #[.bool false, .string ⟨#[120]⟩, iV 1]) rfl (pbc rfl (pbc rfl pb0)) (fun _ => by kernel_rfl) (k (bs (xs := ([(false, ⟨#[120]⟩, 1)] : List (Bool × ByteArray × Int))) (cells := #[.bool false, .string ⟨#[120]⟩, iV 1]) (e := 41) H rfl (pbc rfl pb0) (fun _ => by kernel_rfl) ⟨[.bool false, .string ⟨#[120]⟩, iV 1], [], rfl, ⟨_, _, rfl, rfl, ⟨_, _, rfl, ⟨rfl, (by decide +kernel)⟩, ⟨rfl, (show I64 (1) from (by first | (unfold I64; decide +kernel) | decide +kernel))⟩⟩⟩, rfl⟩ rfl (by unfold maxLen; omega) ?_)))))))))))
 intro g0 w0 xt0 H0
 refine k ?_
 have H1 := H0.freeze 0 rfl
 refine bs (xs := ([([(false, ⟨#[120]⟩, 1)] : List (Bool × ByteArray × Int))] : List (List (Bool × ByteArray × Int)))) (cells := #[.slice (some ⟨g0, 0, none⟩) ([(false, ⟨#[120]⟩, 1)] : List (Bool × ByteArray × Int)).length 1]) (e := 38) H1 rfl (pbc rfl pb0) (fun _ => by kernel_rfl) ⟨[.slice (some ⟨g0, 0, none⟩) ([(false, ⟨#[120]⟩, 1)] : List (Bool × ByteArray × Int)).length 1], [], rfl, ⟨_, rfl, RV.list.1 (H1.rv 0 rfl)⟩, rfl⟩ rfl (by unfold maxLen; omega) ?_
 intro g1 w1 xt1 H2
 refine k ?_
 have H3 := H2.freeze 0 rfl
 have cc0 := ref11_Of (h := ([([(false, ⟨#[120]⟩, 1)] : List (Bool × ByteArray × Int))] : List (List (Bool × ByteArray × Int)))) (w := w1) H3.mb (H3.rv 0 rfl) (by decide +kernel)
 refine ca go6 rfl (ec rfl e0) cc0 ?_
 rintro _ w2 ⟨a0, c0, a1, c1, a2, c2, rfl, xt2, rv0, rv1, rv2⟩
 have H4 := H3.ext xt2
 have H5 := H4.put (it := imm (.slice a0 (o11V ([([(false, ⟨#[120]⟩, 1)] : List (Bool × ByteArray × Int))] : List (List (Bool × ByteArray × Int)))).length c0) (o11V ([([(false, ⟨#[120]⟩, 1)] : List (Bool × ByteArray × Int))] : List (List (Bool × ByteArray × Int))))) rfl rv0
 have H6 := H5.put (it := imm (.slice a1 (o11I ([([(false, ⟨#[120]⟩, 1)] : List (Bool × ByteArray × Int))] : List (List (Bool × ByteArray × Int)))).length c1) (o11I ([([(false, ⟨#[120]⟩, 1)] : List (Bool × ByteArray × Int))] : List (List (Bool × ByteArray × Int))))) rfl (by rw [MS_cons_none rfl]; exact rv1)
 have H7 := H6.put (it := imm (.slice a2 (o11F ([([(false, ⟨#[120]⟩, 1)] : List (Bool × ByteArray × Int))] : List (List (Bool × ByteArray × Int)))).length c2) (o11F ([([(false, ⟨#[120]⟩, 1)] : List (Bool × ByteArray × Int))] : List (List (Bool × ByteArray × Int))))) rfl (by rw [MS_cons_none rfl, MS_cons_none rfl]; exact rv2)
 refine k (mv (v := .tuple #[.agg #[.slice a0 (o11V ([([(false, ⟨#[120]⟩, 1)] : List (Bool × ByteArray × Int))] : List (List (Bool × ByteArray × Int)))).length c0, .slice a1 (o11I ([([(false, ⟨#[120]⟩, 1)] : List (Bool × ByteArray × Int))] : List (List (Bool × ByteArray × Int)))).length c1, .slice a2 (o11F ([([(false, ⟨#[120]⟩, 1)] : List (Bool × ByteArray × Int))] : List (List (Bool × ByteArray × Int)))).length c2], .bool (o11 ([([(false, ⟨#[120]⟩, 1)] : List (Bool × ByteArray × Int))] : List (List (Bool × ByteArray × Int))))]) rfl rfl (k (xt rfl rfl rfl (k (xt rfl rfl rfl (k (al H7 ty30 ?_)))))))
 intro bb0 w3 xt3 (H8 : HI (fun _ => False) w w3 [box bb0 #[.slice none 0 0, .slice none 0 0, .slice none 0 0] 30, imm (.slice a2 (o11F ([([(false, ⟨#[120]⟩, 1)] : List (Bool × ByteArray × Int))] : List (List (Bool × ByteArray × Int)))).length c2) (o11F ([([(false, ⟨#[120]⟩, 1)] : List (Bool × ByteArray × Int))] : List (List (Bool × ByteArray × Int)))), imm (.slice a1 (o11I ([([(false, ⟨#[120]⟩, 1)] : List (Bool × ByteArray × Int))] : List (List (Bool × ByteArray × Int)))).length c1) (o11I ([([(false, ⟨#[120]⟩, 1)] : List (Bool × ByteArray × Int))] : List (List (Bool × ByteArray × Int)))), imm (.slice a0 (o11V ([([(false, ⟨#[120]⟩, 1)] : List (Bool × ByteArray × Int))] : List (List (Bool × ByteArray × Int)))).length c0) (o11V ([([(false, ⟨#[120]⟩, 1)] : List (Bool × ByteArray × Int))] : List (List (Bool × ByteArray × Int)))), imm (.slice (some ⟨g1, 0, none⟩) 1 1) ([([(false, ⟨#[120]⟩, 1)] : List (Bool × ByteArray × Int))] : List (List (Bool × ByteArray × Int))), imm (.slice (some ⟨g0, 0, none⟩) 1 1) ([(false, ⟨#[120]⟩, 1)] : List (Bool × ByteArray × Int))])
 refine k (stX H8 0 rfl ty30 rfl rfl rfl rfl rfl rfl rfl ?_)
 intro w4 (H9 : HI (fun _ => False) w w4 [box bb0 #[.slice a0 (o11V ([([(false, ⟨#[120]⟩, 1)] : List (Bool × ByteArray × Int))] : List (List (Bool × ByteArray × Int)))).length c0, .slice a1 (o11I ([([(false, ⟨#[120]⟩, 1)] : List (Bool × ByteArray × Int))] : List (List (Bool × ByteArray × Int)))).length c1, .slice a2 (o11F ([([(false, ⟨#[120]⟩, 1)] : List (Bool × ByteArray × Int))] : List (List (Bool × ByteArray × Int)))).length c2] 30, imm (.slice a2 (o11F ([([(false, ⟨#[120]⟩, 1)] : List (Bool × ByteArray × Int))] : List (List (Bool × ByteArray × Int)))).length c2) (o11F ([([(false, ⟨#[120]⟩, 1)] : List (Bool × ByteArray × Int))] : List (List (Bool × ByteArray × Int)))), imm (.slice a1 (o11I ([([(false, ⟨#[120]⟩, 1)] : List (Bool × ByteArray × Int))] : List (List (Bool × ByteArray × Int)))).length c1) (o11I ([([(false, ⟨#[120]⟩, 1)] : List (Bool × ByteArray × Int))] : List (List (Bool × ByteArray × Int)))), imm (.slice a0 (o11V ([([(false, ⟨#[120]⟩, 1)] : List (Bool × ByteArray × Int))] : List (List (Bool × ByteArray × Int)))).length c0) (o11V ([([(false, ⟨#[120]⟩, 1)] : List (Bool × ByteArray × Int))] : List (List (Bool × ByteArray × Int)))), imm (.slice (some ⟨g1, 0, none⟩) 1 1) ([([(false, ⟨#[120]⟩, 1)] : List (Bool × ByteArray × Int))] : List (List (Bool × ByteArray × Int))), imm (.slice (some ⟨g0, 0, none⟩) 1 1) ([(false, ⟨#[120]⟩, 1)] : List (Bool × ByteArray × Int))])
 refine k (asg (v := .bool (o11 ([([(false, ⟨#[120]⟩, 1)] : List (Bool × ByteArray × Int))] : List (List (Bool × ByteArray × Int))))) rfl rfl (z (nx (sq (rg (k (bd (v := .agg #[iV 1, iV 0, iV (-1), iV (-1), iV (-1), .slice none 0 0, iV (-1), iV (-1)]) rfl (pbc rfl (pbc rfl (pbc rfl (pbc rfl (pbc rfl (pbc rfl (pbc rfl pb0))))))) (fun _ => by kernel_rfl) (k (al H9 ty43 ?_)))))))))
 intro bb1 w5 xt4 (H10 : HI (fun _ => False) w w5 [box bb1 #[iV 0, iV 0, iV 0, iV 0, iV 0, .slice none 0 0, iV 0, iV 0] 43, box bb0 #[.slice a0 (o11V ([([(false, ⟨#[120]⟩, 1)] : List (Bool × ByteArray × Int))] : List (List (Bool × ByteArray × Int)))).length c0, .slice a1 (o11I ([([(false, ⟨#[120]⟩, 1)] : List (Bool × ByteArray × Int))] : List (List (Bool × ByteArray × Int)))).length c1, .slice a2 (o11F ([([(false, ⟨#[120]⟩, 1)] : List (Bool × ByteArray × Int))] : List (List (Bool × ByteArray × Int)))).length c2] 30, imm (.slice a2 (o11F ([([(false, ⟨#[120]⟩, 1)] : List (Bool × ByteArray × Int))] : List (List (Bool × ByteArray × Int)))).length c2) (o11F ([([(false, ⟨#[120]⟩, 1)] : List (Bool × ByteArray × Int))] : List (List (Bool × ByteArray × Int)))), imm (.slice a1 (o11I ([([(false, ⟨#[120]⟩, 1)] : List (Bool × ByteArray × Int))] : List (List (Bool × ByteArray × Int)))).length c1) (o11I ([([(false, ⟨#[120]⟩, 1)] : List (Bool × ByteArray × Int))] : List (List (Bool × ByteArray × Int)))), imm (.slice a0 (o11V ([([(false, ⟨#[120]⟩, 1)] : List (Bool × ByteArray × Int))] : List (List (Bool × ByteArray × Int)))).length c0) (o11V ([([(false, ⟨#[120]⟩, 1)] : List (Bool × ByteArray × Int))] : List (List (Bool × ByteArray × Int)))), imm (.slice (some ⟨g1, 0, none⟩) 1 1) ([([(false, ⟨#[120]⟩, 1)] : List (Bool × ByteArray × Int))] : List (List (Bool × ByteArray × Int))), imm (.slice (some ⟨g0, 0, none⟩) 1 1) ([(false, ⟨#[120]⟩, 1)] : List (Bool × ByteArray × Int))])
 refine k (stX H10 0 rfl ty43 rfl rfl rfl rfl rfl rfl rfl ?_)
 intro w6 (H11 : HI (fun _ => False) w w6 [box bb1 #[iV 1, iV 0, iV (-1), iV (-1), iV (-1), .slice none 0 0, iV (-1), iV (-1)] 43, box bb0 #[.slice a0 (o11V ([([(false, ⟨#[120]⟩, 1)] : List (Bool × ByteArray × Int))] : List (List (Bool × ByteArray × Int)))).length c0, .slice a1 (o11I ([([(false, ⟨#[120]⟩, 1)] : List (Bool × ByteArray × Int))] : List (List (Bool × ByteArray × Int)))).length c1, .slice a2 (o11F ([([(false, ⟨#[120]⟩, 1)] : List (Bool × ByteArray × Int))] : List (List (Bool × ByteArray × Int)))).length c2] 30, imm (.slice a2 (o11F ([([(false, ⟨#[120]⟩, 1)] : List (Bool × ByteArray × Int))] : List (List (Bool × ByteArray × Int)))).length c2) (o11F ([([(false, ⟨#[120]⟩, 1)] : List (Bool × ByteArray × Int))] : List (List (Bool × ByteArray × Int)))), imm (.slice a1 (o11I ([([(false, ⟨#[120]⟩, 1)] : List (Bool × ByteArray × Int))] : List (List (Bool × ByteArray × Int)))).length c1) (o11I ([([(false, ⟨#[120]⟩, 1)] : List (Bool × ByteArray × Int))] : List (List (Bool × ByteArray × Int)))), imm (.slice a0 (o11V ([([(false, ⟨#[120]⟩, 1)] : List (Bool × ByteArray × Int))] : List (List (Bool × ByteArray × Int)))).length c0) (o11V ([([(false, ⟨#[120]⟩, 1)] : List (Bool × ByteArray × Int))] : List (List (Bool × ByteArray × Int)))), imm (.slice (some ⟨g1, 0, none⟩) 1 1) ([([(false, ⟨#[120]⟩, 1)] : List (Bool × ByteArray × Int))] : List (List (Bool × ByteArray × Int))), imm (.slice (some ⟨g0, 0, none⟩) 1 1) ([(false, ⟨#[120]⟩, 1)] : List (Bool × ByteArray × Int))])
 refine z (nx (sq (rg (k (ldX H11 0 rfl ty43 rfl rfl (by decide) rfl (k (al H11 ty43 ?_)))))))
 intro bb2 w7 xt5 (H12 : HI (fun _ => False) w w7 [box bb2 #[iV 0, iV 0, iV 0, iV 0, iV 0, .slice none 0 0, iV 0, iV 0] 43, box bb1 #[iV 1, iV 0, iV (-1), iV (-1), iV (-1), .slice none 0 0, iV (-1), iV (-1)] 43, box bb0 #[.slice a0 (o11V ([([(false, ⟨#[120]⟩, 1)] : List (Bool × ByteArray × Int))] : List (List (Bool × ByteArray × Int)))).length c0, .slice a1 (o11I ([([(false, ⟨#[120]⟩, 1)] : List (Bool × ByteArray × Int))] : List (List (Bool × ByteArray × Int)))).length c1, .slice a2 (o11F ([([(false, ⟨#[120]⟩, 1)] : List (Bool × ByteArray × Int))] : List (List (Bool × ByteArray × Int)))).length c2] 30, imm (.slice a2 (o11F ([([(false, ⟨#[120]⟩, 1)] : List (Bool × ByteArray × Int))] : List (List (Bool × ByteArray × Int)))).length c2) (o11F ([([(false, ⟨#[120]⟩, 1)] : List (Bool × ByteArray × Int))] : List (List (Bool × ByteArray × Int)))), imm (.slice a1 (o11I ([([(false, ⟨#[120]⟩, 1)] : List (Bool × ByteArray × Int))] : List (List (Bool × ByteArray × Int)))).length c1) (o11I ([([(false, ⟨#[120]⟩, 1)] : List (Bool × ByteArray × Int))] : List (List (Bool × ByteArray × Int)))), imm (.slice a0 (o11V ([([(false, ⟨#[120]⟩, 1)] : List (Bool × ByteArray × Int))] : List (List (Bool × ByteArray × Int)))).length c0) (o11V ([([(false, ⟨#[120]⟩, 1)] : List (Bool × ByteArray × Int))] : List (List (Bool × ByteArray × Int)))), imm (.slice (some ⟨g1, 0, none⟩) 1 1) ([([(false, ⟨#[120]⟩, 1)] : List (Bool × ByteArray × Int))] : List (List (Bool × ByteArray × Int))), imm (.slice (some ⟨g0, 0, none⟩) 1 1) ([(false, ⟨#[120]⟩, 1)] : List (Bool × ByteArray × Int))])
 refine k (stX H12 0 rfl ty43 rfl rfl rfl rfl rfl rfl rfl ?_)
 intro w8 (H13 : HI (fun _ => False) w w8 [box bb2 #[iV 1, iV 0, iV (-1), iV (-1), iV (-1), .slice none 0 0, iV (-1), iV (-1)] 43, box bb1 #[iV 1, iV 0, iV (-1), iV (-1), iV (-1), .slice none 0 0, iV (-1), iV (-1)] 43, box bb0 #[.slice a0 (o11V ([([(false, ⟨#[120]⟩, 1)] : List (Bool × ByteArray × Int))] : List (List (Bool × ByteArray × Int)))).length c0, .slice a1 (o11I ([([(false, ⟨#[120]⟩, 1)] : List (Bool × ByteArray × Int))] : List (List (Bool × ByteArray × Int)))).length c1, .slice a2 (o11F ([([(false, ⟨#[120]⟩, 1)] : List (Bool × ByteArray × Int))] : List (List (Bool × ByteArray × Int)))).length c2] 30, imm (.slice a2 (o11F ([([(false, ⟨#[120]⟩, 1)] : List (Bool × ByteArray × Int))] : List (List (Bool × ByteArray × Int)))).length c2) (o11F ([([(false, ⟨#[120]⟩, 1)] : List (Bool × ByteArray × Int))] : List (List (Bool × ByteArray × Int)))), imm (.slice a1 (o11I ([([(false, ⟨#[120]⟩, 1)] : List (Bool × ByteArray × Int))] : List (List (Bool × ByteArray × Int)))).length c1) (o11I ([([(false, ⟨#[120]⟩, 1)] : List (Bool × ByteArray × Int))] : List (List (Bool × ByteArray × Int)))), imm (.slice a0 (o11V ([([(false, ⟨#[120]⟩, 1)] : List (Bool × ByteArray × Int))] : List (List (Bool × ByteArray × Int)))).length c0) (o11V ([([(false, ⟨#[120]⟩, 1)] : List (Bool × ByteArray × Int))] : List (List (Bool × ByteArray × Int)))), imm (.slice (some ⟨g1, 0, none⟩) 1 1) ([([(false, ⟨#[120]⟩, 1)] : List (Bool × ByteArray × Int))] : List (List (Bool × ByteArray × Int))), imm (.slice (some ⟨g0, 0, none⟩) 1 1) ([(false, ⟨#[120]⟩, 1)] : List (Bool × ByteArray × Int))])
 refine z (nx (sq (rg (k (fa fl43_4 rfl rfl (k (stX H13 0 rfl ty3 rfl rfl rfl rfl rfl rfl rfl ?_)))))))
 intro w9 (H14 : HI (fun _ => False) w w9 [box bb2 #[iV 1, iV 0, iV (-1), iV (-1), iV 0, .slice none 0 0, iV (-1), iV (-1)] 43, box bb1 #[iV 1, iV 0, iV (-1), iV (-1), iV (-1), .slice none 0 0, iV (-1), iV (-1)] 43, box bb0 #[.slice a0 (o11V ([([(false, ⟨#[120]⟩, 1)] : List (Bool × ByteArray × Int))] : List (List (Bool × ByteArray × Int)))).length c0, .slice a1 (o11I ([([(false, ⟨#[120]⟩, 1)] : List (Bool × ByteArray × Int))] : List (List (Bool × ByteArray × Int)))).length c1, .slice a2 (o11F ([([(false, ⟨#[120]⟩, 1)] : List (Bool × ByteArray × Int))] : List (List (Bool × ByteArray × Int)))).length c2] 30, imm (.slice a2 (o11F ([([(false, ⟨#[120]⟩, 1)] : List (Bool × ByteArray × Int))] : List (List (Bool × ByteArray × Int)))).length c2) (o11F ([([(false, ⟨#[120]⟩, 1)] : List (Bool × ByteArray × Int))] : List (List (Bool × ByteArray × Int)))), imm (.slice a1 (o11I ([([(false, ⟨#[120]⟩, 1)] : List (Bool × ByteArray × Int))] : List (List (Bool × ByteArray × Int)))).length c1) (o11I ([([(false, ⟨#[120]⟩, 1)] : List (Bool × ByteArray × Int))] : List (List (Bool × ByteArray × Int)))), imm (.slice a0 (o11V ([([(false, ⟨#[120]⟩, 1)] : List (Bool × ByteArray × Int))] : List (List (Bool × ByteArray × Int)))).length c0) (o11V ([([(false, ⟨#[120]⟩, 1)] : List (Bool × ByteArray × Int))] : List (List (Bool × ByteArray × Int)))), imm (.slice (some ⟨g1, 0, none⟩) 1 1) ([([(false, ⟨#[120]⟩, 1)] : List (Bool × ByteArray × Int))] : List (List (Bool × ByteArray × Int))), imm (.slice (some ⟨g0, 0, none⟩) 1 1) ([(false, ⟨#[120]⟩, 1)] : List (Bool × ByteArray × Int))])
 refine z (nx (sq (rg (k (ldX H14 2 rfl ty30 rfl rfl (by decide) rfl (k (ldX H14 1 rfl ty43 rfl rfl (by decide) rfl (k ?_))))))))
 have cc1 := audit_Holds (fi := (o11I ([([(false, ⟨#[120]⟩, 1)] : List (Bool × ByteArray × Int))] : List (List (Bool × ByteArray × Int))))) (fo := (o11F ([([(false, ⟨#[120]⟩, 1)] : List (Bool × ByteArray × Int))] : List (List (Bool × ByteArray × Int))))) (lv := 1) (kd := 1) (rd_ := 0) (wa_ := (-1)) (wb_ := (-1)) (op_ := (-1)) (sl_ := ([] : List (Int × Int × Int × Int × Int))) (fs_ := (-1)) (sn_ := (-1)) (a_fv := a0) (n_fv := (o11V ([([(false, ⟨#[120]⟩, 1)] : List (Bool × ByteArray × Int))] : List (List (Bool × ByteArray × Int)))).length) (c_fv := c0) (w := w9) H14.mb (hT.ext H14.below) (H14.rv 4 rfl) (H14.rv 3 rfl) (by first | (unfold I64; decide +kernel) | decide +kernel) (by first | (unfold I64; decide +kernel) | decide +kernel) (by first | (unfold I64; decide +kernel) | decide +kernel) (by first | (unfold I64; decide +kernel) | decide +kernel) (by first | (unfold I64; decide +kernel) | decide +kernel) (by first | (unfold I64; decide +kernel) | decide +kernel) (rv_nil _ _) (by first | (unfold I64; decide +kernel) | decide +kernel) (by first | (unfold I64; decide +kernel) | decide +kernel) (by exact o11_ord _) (by decide +kernel) (by decide +kernel) (by decide +kernel) (by decide +kernel)
 refine ca go10 rfl (ec rfl (ec rfl (ec rfl e0))) cc1 ?_
 rintro _ w10 ⟨rfl, xt6⟩
 have H15 := H14.ext xt6
 refine k (mv (v := .bool (holdsO (o11I ([([(false, ⟨#[120]⟩, 1)] : List (Bool × ByteArray × Int))] : List (List (Bool × ByteArray × Int)))) (o11F ([([(false, ⟨#[120]⟩, 1)] : List (Bool × ByteArray × Int))] : List (List (Bool × ByteArray × Int)))) 1 1 0 (-1) (-1) (-1) ([] : List (Int × Int × Int × Int × Int)) (-1) (-1))) rfl rfl ?_)
 have tr0 : (holdsO (o11I ([([(false, ⟨#[120]⟩, 1)] : List (Bool × ByteArray × Int))] : List (List (Bool × ByteArray × Int)))) (o11F ([([(false, ⟨#[120]⟩, 1)] : List (Bool × ByteArray × Int))] : List (List (Bool × ByteArray × Int)))) 1 1 0 (-1) (-1) (-1) ([] : List (Int × Int × Int × Int × Int)) (-1) (-1)) = true := (by decide +kernel)
 refine k (gy rfl rfl rfl tr0 (ldX H15 2 rfl ty30 rfl rfl (by decide) rfl (k (gy rfl rfl rfl tr0 (ldX H15 1 rfl ty43 rfl rfl (by decide) rfl (k (gy rfl rfl rfl tr0 ?_)))))))
 have cc2 := audit_Holds (fi := (o11I ([([(false, ⟨#[120]⟩, 1)] : List (Bool × ByteArray × Int))] : List (List (Bool × ByteArray × Int))))) (fo := (o11F ([([(false, ⟨#[120]⟩, 1)] : List (Bool × ByteArray × Int))] : List (List (Bool × ByteArray × Int))))) (lv := 3) (kd := 1) (rd_ := 0) (wa_ := (-1)) (wb_ := (-1)) (op_ := (-1)) (sl_ := ([] : List (Int × Int × Int × Int × Int))) (fs_ := (-1)) (sn_ := (-1)) (a_fv := a0) (n_fv := (o11V ([([(false, ⟨#[120]⟩, 1)] : List (Bool × ByteArray × Int))] : List (List (Bool × ByteArray × Int)))).length) (c_fv := c0) (w := w10) H15.mb (hT.ext H15.below) (H15.rv 4 rfl) (H15.rv 3 rfl) (by first | (unfold I64; decide +kernel) | decide +kernel) (by first | (unfold I64; decide +kernel) | decide +kernel) (by first | (unfold I64; decide +kernel) | decide +kernel) (by first | (unfold I64; decide +kernel) | decide +kernel) (by first | (unfold I64; decide +kernel) | decide +kernel) (by first | (unfold I64; decide +kernel) | decide +kernel) (rv_nil _ _) (by first | (unfold I64; decide +kernel) | decide +kernel) (by first | (unfold I64; decide +kernel) | decide +kernel) (by exact o11_ord _) (by decide +kernel) (by decide +kernel) (by decide +kernel) (by decide +kernel)
 refine ca go10 rfl (ec rfl (ec rfl (ec rfl e0))) cc2 ?_
 rintro _ w11 ⟨rfl, xt7⟩
 have H16 := H15.ext xt7
 refine k (pickT rfl rfl rfl rfl tr0 rfl (k (mv (v := .bool (holdsO (o11I ([([(false, ⟨#[120]⟩, 1)] : List (Bool × ByteArray × Int))] : List (List (Bool × ByteArray × Int)))) (o11F ([([(false, ⟨#[120]⟩, 1)] : List (Bool × ByteArray × Int))] : List (List (Bool × ByteArray × Int)))) 3 1 0 (-1) (-1) (-1) ([] : List (Int × Int × Int × Int × Int)) (-1) (-1))) rfl rfl ?_)))
 have tr1 : (holdsO (o11I ([([(false, ⟨#[120]⟩, 1)] : List (Bool × ByteArray × Int))] : List (List (Bool × ByteArray × Int)))) (o11F ([([(false, ⟨#[120]⟩, 1)] : List (Bool × ByteArray × Int))] : List (List (Bool × ByteArray × Int)))) 3 1 0 (-1) (-1) (-1) ([] : List (Int × Int × Int × Int × Int)) (-1) (-1)) = true := (by decide +kernel)
 refine k (gy rfl rfl rfl tr1 (ldX H16 2 rfl ty30 rfl rfl (by decide) rfl (k (gy rfl rfl rfl tr1 (ldX H16 1 rfl ty43 rfl rfl (by decide) rfl (k (gy rfl rfl rfl tr1 ?_)))))))
 have cc3 := audit_Holds (fi := (o11I ([([(false, ⟨#[120]⟩, 1)] : List (Bool × ByteArray × Int))] : List (List (Bool × ByteArray × Int))))) (fo := (o11F ([([(false, ⟨#[120]⟩, 1)] : List (Bool × ByteArray × Int))] : List (List (Bool × ByteArray × Int))))) (lv := 0) (kd := 1) (rd_ := 0) (wa_ := (-1)) (wb_ := (-1)) (op_ := (-1)) (sl_ := ([] : List (Int × Int × Int × Int × Int))) (fs_ := (-1)) (sn_ := (-1)) (a_fv := a0) (n_fv := (o11V ([([(false, ⟨#[120]⟩, 1)] : List (Bool × ByteArray × Int))] : List (List (Bool × ByteArray × Int)))).length) (c_fv := c0) (w := w11) H16.mb (hT.ext H16.below) (H16.rv 4 rfl) (H16.rv 3 rfl) (by first | (unfold I64; decide +kernel) | decide +kernel) (by first | (unfold I64; decide +kernel) | decide +kernel) (by first | (unfold I64; decide +kernel) | decide +kernel) (by first | (unfold I64; decide +kernel) | decide +kernel) (by first | (unfold I64; decide +kernel) | decide +kernel) (by first | (unfold I64; decide +kernel) | decide +kernel) (rv_nil _ _) (by first | (unfold I64; decide +kernel) | decide +kernel) (by first | (unfold I64; decide +kernel) | decide +kernel) (by exact o11_ord _) (by decide +kernel) (by decide +kernel) (by decide +kernel) (by decide +kernel)
 refine ca go10 rfl (ec rfl (ec rfl (ec rfl e0))) cc3 ?_
 rintro _ w12 ⟨rfl, xt8⟩
 have H17 := H16.ext xt8
 refine k (gy rfl rfl rfl tr1 (not_ rfl rfl (k (pickT rfl rfl rfl rfl tr1 rfl (k (mv (v := .bool (!(holdsO (o11I ([([(false, ⟨#[120]⟩, 1)] : List (Bool × ByteArray × Int))] : List (List (Bool × ByteArray × Int)))) (o11F ([([(false, ⟨#[120]⟩, 1)] : List (Bool × ByteArray × Int))] : List (List (Bool × ByteArray × Int)))) 0 1 0 (-1) (-1) (-1) ([] : List (Int × Int × Int × Int × Int)) (-1) (-1)))) rfl rfl ?_))))))
 have tr2 : (holdsO (o11I ([([(false, ⟨#[120]⟩, 1)] : List (Bool × ByteArray × Int))] : List (List (Bool × ByteArray × Int)))) (o11F ([([(false, ⟨#[120]⟩, 1)] : List (Bool × ByteArray × Int))] : List (List (Bool × ByteArray × Int)))) 0 1 0 (-1) (-1) (-1) ([] : List (Int × Int × Int × Int × Int)) (-1) (-1)) = false := (by decide +kernel)
 refine k (gy rfl rfl rfl (by rw [show (holdsO (o11I ([([(false, ⟨#[120]⟩, 1)] : List (Bool × ByteArray × Int))] : List (List (Bool × ByteArray × Int)))) (o11F ([([(false, ⟨#[120]⟩, 1)] : List (Bool × ByteArray × Int))] : List (List (Bool × ByteArray × Int)))) 0 1 0 (-1) (-1) (-1) ([] : List (Int × Int × Int × Int × Int)) (-1) (-1)) = false from tr2] <;> rfl) (ldX H17 2 rfl ty30 rfl rfl (by decide) rfl (k (gy rfl rfl rfl (by rw [show (holdsO (o11I ([([(false, ⟨#[120]⟩, 1)] : List (Bool × ByteArray × Int))] : List (List (Bool × ByteArray × Int)))) (o11F ([([(false, ⟨#[120]⟩, 1)] : List (Bool × ByteArray × Int))] : List (List (Bool × ByteArray × Int)))) 0 1 0 (-1) (-1) (-1) ([] : List (Int × Int × Int × Int × Int)) (-1) (-1)) = false from tr2] <;> rfl) (ldX H17 0 rfl ty43 rfl rfl (by decide) rfl (k (gy rfl rfl rfl (by rw [show (holdsO (o11I ([([(false, ⟨#[120]⟩, 1)] : List (Bool × ByteArray × Int))] : List (List (Bool × ByteArray × Int)))) (o11F ([([(false, ⟨#[120]⟩, 1)] : List (Bool × ByteArray × Int))] : List (List (Bool × ByteArray × Int)))) 0 1 0 (-1) (-1) (-1) ([] : List (Int × Int × Int × Int × Int)) (-1) (-1)) = false from tr2] <;> rfl) ?_)))))))
 have cc4 := audit_Holds (fi := (o11I ([([(false, ⟨#[120]⟩, 1)] : List (Bool × ByteArray × Int))] : List (List (Bool × ByteArray × Int))))) (fo := (o11F ([([(false, ⟨#[120]⟩, 1)] : List (Bool × ByteArray × Int))] : List (List (Bool × ByteArray × Int))))) (lv := 1) (kd := 1) (rd_ := 0) (wa_ := (-1)) (wb_ := (-1)) (op_ := 0) (sl_ := ([] : List (Int × Int × Int × Int × Int))) (fs_ := (-1)) (sn_ := (-1)) (a_fv := a0) (n_fv := (o11V ([([(false, ⟨#[120]⟩, 1)] : List (Bool × ByteArray × Int))] : List (List (Bool × ByteArray × Int)))).length) (c_fv := c0) (w := w12) H17.mb (hT.ext H17.below) (H17.rv 4 rfl) (H17.rv 3 rfl) (by first | (unfold I64; decide +kernel) | decide +kernel) (by first | (unfold I64; decide +kernel) | decide +kernel) (by first | (unfold I64; decide +kernel) | decide +kernel) (by first | (unfold I64; decide +kernel) | decide +kernel) (by first | (unfold I64; decide +kernel) | decide +kernel) (by first | (unfold I64; decide +kernel) | decide +kernel) (rv_nil _ _) (by first | (unfold I64; decide +kernel) | decide +kernel) (by first | (unfold I64; decide +kernel) | decide +kernel) (by exact o11_ord _) (by decide +kernel) (by decide +kernel) (by decide +kernel) (by decide +kernel)
 refine ca go10 rfl (ec rfl (ec rfl (ec rfl e0))) cc4 ?_
 rintro _ w13 ⟨rfl, xt9⟩
 have H18 := H17.ext xt9
 refine k (gy rfl rfl rfl (by rw [show (holdsO (o11I ([([(false, ⟨#[120]⟩, 1)] : List (Bool × ByteArray × Int))] : List (List (Bool × ByteArray × Int)))) (o11F ([([(false, ⟨#[120]⟩, 1)] : List (Bool × ByteArray × Int))] : List (List (Bool × ByteArray × Int)))) 0 1 0 (-1) (-1) (-1) ([] : List (Int × Int × Int × Int × Int)) (-1) (-1)) = false from tr2] <;> rfl) (not_ rfl rfl (k (pickT rfl rfl rfl rfl (by rw [show (holdsO (o11I ([([(false, ⟨#[120]⟩, 1)] : List (Bool × ByteArray × Int))] : List (List (Bool × ByteArray × Int)))) (o11F ([([(false, ⟨#[120]⟩, 1)] : List (Bool × ByteArray × Int))] : List (List (Bool × ByteArray × Int)))) 0 1 0 (-1) (-1) (-1) ([] : List (Int × Int × Int × Int × Int)) (-1) (-1)) = false from tr2] <;> rfl) rfl (k (mv (v := .bool (!(holdsO (o11I ([([(false, ⟨#[120]⟩, 1)] : List (Bool × ByteArray × Int))] : List (List (Bool × ByteArray × Int)))) (o11F ([([(false, ⟨#[120]⟩, 1)] : List (Bool × ByteArray × Int))] : List (List (Bool × ByteArray × Int)))) 1 1 0 (-1) (-1) 0 ([] : List (Int × Int × Int × Int × Int)) (-1) (-1)))) rfl rfl ?_))))))
 have tr3 : (holdsO (o11I ([([(false, ⟨#[120]⟩, 1)] : List (Bool × ByteArray × Int))] : List (List (Bool × ByteArray × Int)))) (o11F ([([(false, ⟨#[120]⟩, 1)] : List (Bool × ByteArray × Int))] : List (List (Bool × ByteArray × Int)))) 1 1 0 (-1) (-1) 0 ([] : List (Int × Int × Int × Int × Int)) (-1) (-1)) = false := (by decide +kernel)
 refine k (gy rfl rfl rfl (by rw [show (holdsO (o11I ([([(false, ⟨#[120]⟩, 1)] : List (Bool × ByteArray × Int))] : List (List (Bool × ByteArray × Int)))) (o11F ([([(false, ⟨#[120]⟩, 1)] : List (Bool × ByteArray × Int))] : List (List (Bool × ByteArray × Int)))) 1 1 0 (-1) (-1) 0 ([] : List (Int × Int × Int × Int × Int)) (-1) (-1)) = false from tr3] <;> rfl) (ldX H18 2 rfl ty30 rfl rfl (by decide) rfl (k (gy rfl rfl rfl (by rw [show (holdsO (o11I ([([(false, ⟨#[120]⟩, 1)] : List (Bool × ByteArray × Int))] : List (List (Bool × ByteArray × Int)))) (o11F ([([(false, ⟨#[120]⟩, 1)] : List (Bool × ByteArray × Int))] : List (List (Bool × ByteArray × Int)))) 1 1 0 (-1) (-1) 0 ([] : List (Int × Int × Int × Int × Int)) (-1) (-1)) = false from tr3] <;> rfl) ?_))))
 have cc5 := audit_Steps (fi := (o11I ([([(false, ⟨#[120]⟩, 1)] : List (Bool × ByteArray × Int))] : List (List (Bool × ByteArray × Int))))) (fo := (o11F ([([(false, ⟨#[120]⟩, 1)] : List (Bool × ByteArray × Int))] : List (List (Bool × ByteArray × Int))))) (l := ([] : List (Int × Int × Int × Int × Int))) (a_fv := a0) (n_fv := (o11V ([([(false, ⟨#[120]⟩, 1)] : List (Bool × ByteArray × Int))] : List (List (Bool × ByteArray × Int)))).length) (c_fv := c0) (w := w13) H18.mb (H18.rv 4 rfl) (H18.rv 3 rfl) (rv_nil _ _) (by exact o11_ord _) (by decide +kernel) (by decide +kernel) (by decide +kernel)
 refine ca go7 rfl (ec rfl (ec rfl e0)) cc5 ?_
 rintro _ w14 ⟨rfl, xt10⟩
 have H19 := H18.ext xt10
 refine k (pickT rfl rfl rfl rfl (by rw [show (holdsO (o11I ([([(false, ⟨#[120]⟩, 1)] : List (Bool × ByteArray × Int))] : List (List (Bool × ByteArray × Int)))) (o11F ([([(false, ⟨#[120]⟩, 1)] : List (Bool × ByteArray × Int))] : List (List (Bool × ByteArray × Int)))) 1 1 0 (-1) (-1) 0 ([] : List (Int × Int × Int × Int × Int)) (-1) (-1)) = false from tr3] <;> rfl) rfl (k (asg (v := .bool (stepsO (o11I ([([(false, ⟨#[120]⟩, 1)] : List (Bool × ByteArray × Int))] : List (List (Bool × ByteArray × Int)))) (o11F ([([(false, ⟨#[120]⟩, 1)] : List (Bool × ByteArray × Int))] : List (List (Bool × ByteArray × Int)))) ([] : List (Int × Int × Int × Int × Int)))) rfl rfl (z (nx (rt (r1 rfl rfl ?_)))))))
 have tr4 : (stepsO (o11I ([([(false, ⟨#[120]⟩, 1)] : List (Bool × ByteArray × Int))] : List (List (Bool × ByteArray × Int)))) (o11F ([([(false, ⟨#[120]⟩, 1)] : List (Bool × ByteArray × Int))] : List (List (Bool × ByteArray × Int)))) ([] : List (Int × Int × Int × Int × Int))) = true := (by decide +kernel)
 have e0 : (stepsO (o11I ([([(false, ⟨#[120]⟩, 1)] : List (Bool × ByteArray × Int))] : List (List (Bool × ByteArray × Int)))) (o11F ([([(false, ⟨#[120]⟩, 1)] : List (Bool × ByteArray × Int))] : List (List (Bool × ByteArray × Int)))) ([] : List (Int × Int × Int × Int × Int)) : Bool) = true := by exact tr4
 have ev_ := cg1 (fun (x_0 : Bool) => (.bool x_0 : Value)) e0
 exact ⟨ev_, H19.below⟩
end Go.Proofs.YtefcbihikknlkaaDoor
