/- PRINTED by my own tool (wip/tool/gen.py): contracts of Go functions of this seat, each with its proof. -/
import Derived.Test.YtefcbihikknlkaaDoorOwnB
import Derived.Test.YtefcbihikknlkaaDoorGenD
import Derived.Test.YtefcbihikknlkaaDoorGenB
import Derived.Test.YtefcbihikknlkaaDoorGenC
import Derived.Test.YtefcbihikknlkaaDoorGenA
import Derived.Test.YtefcbihikknlkaaDoorOwnA
namespace Go.Proofs.YtefcbihikknlkaaDoor
open Go.Ew Go.RowKit
set_option linter.unusedVariables false
set_option linter.unusedSimpArgs false
attribute [local irreducible] WL WC SO Code.wp wpList retQ Ret
attribute [local irreducible] bitB hasW inR hasR setR countW countR subR words newR listR orR firstW tab8
theorem go4 : GoF Tryd.prog 4 := ⟨_, _, Tryd.func4, rfl, by kernel_rfl⟩
theorem go5 : GoF Tryd.prog 5 := ⟨_, _, Tryd.func5, rfl, by kernel_rfl⟩
set_option maxRecDepth 100000 in
set_option maxHeartbeats 1600000 in
theorem law_AuditBegins {M : Nat → Prop} {w : World} {a_h : Option Addr} {c_h : Nat} {h : List (List (Bool × ByteArray × Int))} {a_l : Option Addr} {c_l : Nat} {l : List (Int × Int × Int × Int × Int)} {cut : Int} (hM : ∀ b, M b → b < w.heap.size) (hT : TabAt 0 w) (h_h : RV M w (.slice a_h h.length c_h) h) (h_l : RV M w (.slice a_l l.length c_l) l) (h_cut : 0 ≤ cut ∧ cut ≤ 255) (hb_h : h.flatten.length ≤ 1048576) : Calls Tryd.prog 3 #[.slice a_h h.length c_h, .slice a_l l.length c_l, .int .u8 cut] w (Ret fun v w' =>  v = .bool true ∧ Ext w w') := by
 refine enter 101 Tryd.func3 rfl rfl rfl fun f0 ha => ?_
 have H := HI.start (M0 := M) (w := w) hM
 have H0 := H.put (it := imm (.slice a_h h.length c_h) h) rfl (by rw [MS_nil]; exact h_h)
 have H1 := H0.put (it := imm (.slice a_l l.length c_l) l) rfl (by rw [MS_cons_none rfl, MS_nil]; exact h_l)
 have ln_h := rv_len h_h
 have ln_l := rv_len h_l
 have i0 : f0 0 = .slice a_h h.length c_h := ha 0 (by simp)
 have i1 : f0 1 = .slice a_l l.length c_l := ha 1 (by simp)
 have i2 : f0 2 = .int .u8 cut := ha 2 (by simp)
 refine sq (rg (k (asg (v := .bool false) rfl rfl (z (nx (sq (sq (rg (k (mv rfl i0 (k ?_)))))))))))
 have cc0 := ref06_Small (h := h) (m := 12) (w := w) H1.mb (H1.rv 1 rfl) (by first | assumption | (unfold I64 at *; omega)) (by omega)
 refine ca go4 rfl (ec rfl (ec rfl e0)) cc0 ?_
 rintro _ w0 ⟨rfl, xt0⟩
 have H2 := H1.ext xt0
 refine k (not_ rfl rfl (k (mv (v := .bool (!(smallH h 12))) rfl rfl ?_)))
 rcases Bool.eq_false_or_eq_true (!(smallH h 12)) with b0 | b0
 · -- !(smallH h 12) is True
  refine k (gn rfl rfl rfl b0 (k (gn rfl rfl rfl b0 (k (gn rfl rfl rfl b0 (k (pickT rfl rfl rfl rfl b0 rfl (z (nx (cdT rfl rfl rfl (sq (rg (k ?_)))))))))))))
  have cc1 := awake21 (w := w0) (hT.ext H2.below)
  refine ca go5 rfl e0 cc1 ?_
  rintro _ w1 ⟨rfl, xt1⟩
  have H3 := H2.ext xt1
  refine k (asg (v := .bool true) rfl rfl (z (nx (rt (then_ret (r1 rfl rfl ?_))))))
  exact ⟨rfl, H3.below⟩
 · -- !(smallH h 12) is False
  refine k (gy rfl rfl rfl b0 (mv rfl i1 (k (gy rfl rfl rfl b0 (lnS rfl rfl un23 (k (gy rfl rfl rfl b0 (gtr rfl rfl rfl rfl (k (pickF rfl rfl rfl rfl b0 rfl (z (nx ?_))))))))))))
  refine cd (b := decide (60 < (l.length : Int))) rfl rfl (fun b1 => ?_) (fun b1 => ?_)
  ·
   have p1 := of_decide_eq_true b1
   refine sq (rg (k ?_))
   have cc1 := awake21 (w := w0) (hT.ext H2.below)
   refine ca go5 rfl e0 cc1 ?_
   rintro _ w1 ⟨rfl, xt1⟩
   have H3 := H2.ext xt1
   refine k (asg (v := .bool true) rfl rfl (z (nx (rt (then_ret (r1 rfl rfl ?_))))))
   exact ⟨rfl, H3.below⟩
  ·
   have p1 := of_decide_eq_false b1
   refine sk (nx (sq ?_))
   have sm_ : smallH h 12 = true := by simpa using ‹(!smallH h 12) = false›
   have fl_ := (small_iff.1 sm_).2.1
   have il_ := o11I_len h
   refine rg (k (mv rfl i0 (k ?_)))
   have cc1 := ref11_Of (h := h) (w := w0) H2.mb (H2.rv 1 rfl) (by omega)
   refine ca go6 rfl (ec rfl e0) cc1 ?_
   rintro _ w1 ⟨a0, c0, a1, c1, a2, c2, rfl, xt1, rv0, rv1, rv2⟩
   have H3 := H2.ext xt1
   have H4 := H3.put (it := imm (.slice a0 (o11V h).length c0) (o11V h)) rfl rv0
   have H5 := H4.put (it := imm (.slice a1 (o11I h).length c1) (o11I h)) rfl (by rw [MS_cons_none rfl]; exact rv1)
   have H6 := H5.put (it := imm (.slice a2 (o11F h).length c2) (o11F h)) rfl (by rw [MS_cons_none rfl, MS_cons_none rfl]; exact rv2)
   refine k (mv (v := .tuple #[.agg #[.slice a0 (o11V h).length c0, .slice a1 (o11I h).length c1, .slice a2 (o11F h).length c2], .bool (o11 h)]) rfl rfl (k (xt rfl rfl rfl (k (xt rfl rfl rfl (k (al H6 ty30 ?_)))))))
   intro bb0 w2 xt2 (H7 : HI M w w2 [box bb0 #[.slice none 0 0, .slice none 0 0, .slice none 0 0] 30, imm (.slice a2 (o11F h).length c2) (o11F h), imm (.slice a1 (o11I h).length c1) (o11I h), imm (.slice a0 (o11V h).length c0) (o11V h), imm (.slice a_l l.length c_l) l, imm (.slice a_h h.length c_h) h])
   refine k (stX H7 0 rfl ty30 rfl rfl rfl rfl rfl rfl rfl ?_)
   intro w3 (H8 : HI M w w3 [box bb0 #[.slice a0 (o11V h).length c0, .slice a1 (o11I h).length c1, .slice a2 (o11F h).length c2] 30, imm (.slice a2 (o11F h).length c2) (o11F h), imm (.slice a1 (o11I h).length c1) (o11I h), imm (.slice a0 (o11V h).length c0) (o11V h), imm (.slice a_l l.length c_l) l, imm (.slice a_h h.length c_h) h])
   refine k (asg (v := .bool (o11 h)) rfl rfl (z (nx (sq (sq (rg (k (mv (v := .bool (o11 h)) rfl rfl (k (not_ rfl rfl (z (nx ?_))))))))))))
   refine cd (b := !(o11 h)) rfl rfl (fun b2 => ?_) (fun b2 => ?_)
   ·
    refine sq (rg (k ?_))
    have cc2 := awake21 (w := w3) (hT.ext H8.below)
    refine ca go5 rfl e0 cc2 ?_
    rintro _ w4 ⟨rfl, xt3⟩
    have H9 := H8.ext xt3
    refine k (asg (v := .bool true) rfl rfl (z (nx (rt (then_ret (r1 rfl rfl ?_))))))
    exact ⟨rfl, H9.below⟩
   ·
    refine sk (nx (sq (rg (k (mv rfl i2 (k (cvI rfl rfl (by first | assumption | (unfold I64 at *; omega)) un5 un3 (k (mv rfl i1 (k (lnS rfl rfl un23 (k (add rfl rfl rfl rfl (by first | assumption | (unfold I64 at *; omega)) (k (rem rfl rfl rfl rfl (by omega) (k (asg (v := iV (cut % ((l.length : Int) + 1))) rfl rfl (z (nx (sq ?_))))))))))))))))))))
    have hn0_ := Int.emod_nonneg cut (show ((l.length : Int) + 1) ≠ 0 by omega)
    have hn1_ := Int.emod_lt_of_pos cut (show 0 < (l.length : Int) + 1 by omega)
    refine dr 7 [eV (.agg #[.slice a0 (o11V h).length c0, .slice a1 (o11I h).length c1, .slice a2 (o11F h).length c2]), eV (.slice a_l l.length c_l), eV (.bool (stepsO (o11I h) (o11F h) l)), eV (.agg #[.slice a0 (o11V h).length c0, .slice a1 (o11I h).length c1, .slice a2 (o11F h).length c2]), eV (.slice a_l l.length c_l), eV (iV (cut % ((l.length : Int) + 1))), fun (v : Value) (w' : World) => ∃ (a3 : Option Addr) (c3 : Nat), v = .slice a3 (l.take (cut % ((l.length : Int) + 1)).toNat).length c3 ∧ RV (MS M [box bb0 #[.slice a0 (o11V h).length c0, .slice a1 (o11I h).length c1, .slice a2 (o11F h).length c2] 30, imm (.slice a2 (o11F h).length c2) (o11F h), imm (.slice a1 (o11I h).length c1) (o11I h), imm (.slice a0 (o11V h).length c0) (o11V h), imm (.slice a_l l.length c_l) l, imm (.slice a_h h.length c_h) h]) w' (.slice a3 (l.take (cut % ((l.length : Int) + 1)).toNat).length c3) (l.take (cut % ((l.length : Int) + 1)).toNat)] rfl (by kernel_rfl) ?_ ?_
    ·
     refine dc (fun _ _ hf0 xt4 _ => ldX (H8.ext xt4) 0 rfl ty30 rfl (hf0 7 rfl) (by decide) rfl (d0 rfl rfl)) ?_
     refine dc (fun _ _ hf1 _ _ => mv rfl ((hf1 1 rfl).trans i1) (d0 rfl rfl)) ?_
     refine dc (fun f2 w7 hf2 xt6 hp2 => ?_) ?_
     ·
      have H13 := H8.ext xt6
      have s0 : f2 36 = .agg #[.slice a0 (o11V h).length c0, .slice a1 (o11I h).length c1, .slice a2 (o11F h).length c2] := hp2 0 rfl rfl
      have s1 : f2 37 = .slice a_l l.length c_l := hp2 1 rfl rfl
      have cc3 := audit_Steps (fi := (o11I h)) (fo := (o11F h)) (l := l) (a_fv := a0) (n_fv := (o11V h).length) (c_fv := c0) (w := w7) H13.mb (H13.rv 2 rfl) (H13.rv 1 rfl) (H13.rv 4 rfl) (by exact o11_ord h) (by omega) (by exact o11F_len h) (by first | omega | (rw [List.length_take]; omega) | (simp only [List.length_nil]; omega))
      refine ca go7 rfl (ec s0 (ec s1 e0)) cc3 ?_
      rintro _ w8 ⟨rfl, xt7⟩
      exact ⟨_, rfl, xt7, rfl⟩
     refine dc (fun _ _ hf3 xt8 _ => ldX (H8.ext xt8) 0 rfl ty30 rfl (hf3 7 rfl) (by decide) rfl (d0 rfl rfl)) ?_
     refine dc (fun _ _ hf4 _ _ => mv rfl ((hf4 1 rfl).trans i1) (d0 rfl rfl)) ?_
     refine dc (fun _ _ hf5 _ _ => mv rfl (hf5 9 rfl) (d0 rfl rfl)) ?_
     refine ⟨fun _ => ⟨fun f6 w12 hf6 xt11 hp6 => ?_, by rintro _ _ _ x_ ⟨a3, c3, e_, rv3⟩; exact ⟨a3, c3, e_, rv3.lift (Up.ext x_)⟩⟩, ?_⟩
     ·
      have H18 := H8.ext xt11
      have s2 : f6 40 = .slice a_l l.length c_l := hp6 4 rfl rfl
      have s3 : f6 41 = iV (cut % ((l.length : Int) + 1)) := hp6 5 rfl rfl
      refine slH (H18.rv 4 rfl) rfl rfl s2 s3 (by first | omega | (simp; omega)) un23 ty35 ?_
      intro a4 c4 rv4
      exact ⟨_, rfl, Ext.refl _, ⟨a4, c4, rfl, rv4⟩⟩
     exact DSteps.rest rfl _
    ·
     intro f7 w13 hf7 xt12 hp7
     have H20 := H8.ext xt12
     have s4 : f7 1 = .slice a_l l.length c_l := (hf7 1 rfl).trans i1
     have s5 : f7 7 = pV bb0 0 := hf7 7 rfl
     have s6 : f7 38 = .bool (stepsO (o11I h) (o11F h) l) := hp7 2 rfl
     have s7 : f7 39 = .agg #[.slice a0 (o11V h).length c0, .slice a1 (o11I h).length c1, .slice a2 (o11F h).length c2] := hp7 3 rfl
     obtain ⟨a5, c5, s8, rv5⟩ : ∃ (a5 : Option Addr) (c5 : Nat), f7 42 = .slice a5 (l.take (cut % ((l.length : Int) + 1)).toNat).length c5 ∧ RV (MS M [box bb0 #[.slice a0 (o11V h).length c0, .slice a1 (o11I h).length c1, .slice a2 (o11F h).length c2] 30, imm (.slice a2 (o11F h).length c2) (o11F h), imm (.slice a1 (o11I h).length c1) (o11I h), imm (.slice a0 (o11V h).length c0) (o11V h), imm (.slice a_l l.length c_l) l, imm (.slice a_h h.length c_h) h]) w13 (.slice a5 (l.take (cut % ((l.length : Int) + 1)).toNat).length c5) (l.take (cut % ((l.length : Int) + 1)).toNat) := hp7 6 rfl
     have H21 := H20.put (it := imm (.slice a5 (l.take (cut % ((l.length : Int) + 1)).toNat).length c5) (l.take (cut % ((l.length : Int) + 1)).toNat)) rfl rv5
     refine k ?_
     have cc4 := audit_Steps (fi := (o11I h)) (fo := (o11F h)) (l := (l.take (cut % ((l.length : Int) + 1)).toNat)) (a_fv := a0) (n_fv := (o11V h).length) (c_fv := c0) (w := w13) H21.mb (H21.rv 3 rfl) (H21.rv 2 rfl) (H21.rv 0 rfl) (by exact o11_ord h) (by omega) (by exact o11F_len h) (by first | omega | (rw [List.length_take]; omega) | (simp only [List.length_nil]; omega))
     refine ca go7 rfl (ec s7 (ec s8 e0)) cc4 ?_
     rintro _ w14 ⟨rfl, xt13⟩
     have H22 := H21.ext xt13
     refine k (asg rfl s6 (k (asg (v := .bool (stepsO (o11I h) (o11F h) (l.take (cut % ((l.length : Int) + 1)).toNat))) rfl rfl (z (nx (sq (sq (rg (k (asg (v := iV 0) rfl rfl (z (nx (bk ?_)))))))))))))
     refine lp (fun m f w' => ∃ (i : Nat), m = l.length - i ∧ f 1 = .slice a_l l.length c_l ∧ f 7 = pV bb0 0 ∧ f 10 = .bool (stepsO (o11I h) (o11F h) l) ∧ f 11 = .bool (stepsO (o11I h) (o11F h) (l.take (cut % ((l.length : Int) + 1)).toNat)) ∧ f 12 = iV (i : Int) ∧  HI M w w' [imm (.slice a5 (l.take (cut % ((l.length : Int) + 1)).toNat).length c5) (l.take (cut % ((l.length : Int) + 1)).toNat), box bb0 #[.slice a0 (o11V h).length c0, .slice a1 (o11I h).length c1, .slice a2 (o11F h).length c2] 30, imm (.slice a2 (o11F h).length c2) (o11F h), imm (.slice a1 (o11I h).length c1) (o11I h), imm (.slice a0 (o11V h).length c0) (o11V h), imm (.slice a_l l.length c_l) l, imm (.slice a_h h.length c_h) h] ∧ (i ≤ l.length)) _ ⟨0, rfl, s4, s5, rfl, rfl, (ieq rfl (by rfl)), H22, (by omega)⟩ ?_
     rintro _ f8 w15 ⟨i, rfl, s9, s10, s11, s12, s13, H23, hi_⟩
     refine sq (sq (rg (k (mv rfl s13 (k (mv rfl s9 (k (lnS rfl rfl un23 (k (lss rfl rfl rfl rfl (k (mv (v := .bool (decide ((i : Int) < (l.length : Int)))) rfl rfl ?_))))))))))))
     rcases Bool.eq_false_or_eq_true (decide ((i : Int) < (l.length : Int))) with b3 | b3
     · -- decide ((i : Int) < (l.length : Int)) is True
      have p3 := of_decide_eq_true b3
      refine k (gy rfl rfl rfl b3 (mv rfl s11 (k (pickT rfl rfl rfl rfl b3 rfl (z (nx ?_))))))
      refine cd (b := stepsO (o11I h) (o11F h) l) rfl rfl (fun b4 => ?_) (fun b4 => ?_)
      ·
       refine sk (nx (sq (bk (sq ?_))))
       obtain ⟨x0, hx0⟩ : ∃ x, l[(i : Int).toNat]? = some x := ⟨_, List.getElem?_eq_getElem (by first | omega | (simp; omega))⟩
       refine dr 34 [eV (.slice a_l l.length c_l), eV (iV (i : Int)), fun (v : Value) (w' : World) => ∃ (ad0 : Addr), v = .pointer (some ad0) ∧ At (MS M [imm (.slice a5 (l.take (cut % ((l.length : Int) + 1)).toNat).length c5) (l.take (cut % ((l.length : Int) + 1)).toNat), box bb0 #[.slice a0 (o11V h).length c0, .slice a1 (o11I h).length c1, .slice a2 (o11F h).length c2] 30, imm (.slice a2 (o11F h).length c2) (o11F h), imm (.slice a1 (o11I h).length c1) (o11I h), imm (.slice a0 (o11V h).length c0) (o11V h), imm (.slice a_l l.length c_l) l, imm (.slice a_h h.length c_h) h]) w' ad0 x0, fun (v : Value) (w' : World) => ∃ (ad0 : Addr), v = .pointer (some ((ad0).add 1)) ∧ At (MS M [imm (.slice a5 (l.take (cut % ((l.length : Int) + 1)).toNat).length c5) (l.take (cut % ((l.length : Int) + 1)).toNat), box bb0 #[.slice a0 (o11V h).length c0, .slice a1 (o11I h).length c1, .slice a2 (o11F h).length c2] 30, imm (.slice a2 (o11F h).length c2) (o11F h), imm (.slice a1 (o11I h).length c1) (o11I h), imm (.slice a0 (o11V h).length c0) (o11V h), imm (.slice a_l l.length c_l) l, imm (.slice a_h h.length c_h) h]) w' ad0 x0, fun (v : Value) (w' : World) => v = iV x0.2.1 ∧ I64 (x0.2.1), eV (.bool (decide (x0.2.1 < 0))), eV (.bool (decide (x0.2.1 < 0))), eV (.slice a_l l.length c_l), eV (iV (i : Int)), fun (v : Value) (w' : World) => ∃ (ad1 : Addr), v = .pointer (some ad1) ∧ At (MS M [imm (.slice a5 (l.take (cut % ((l.length : Int) + 1)).toNat).length c5) (l.take (cut % ((l.length : Int) + 1)).toNat), box bb0 #[.slice a0 (o11V h).length c0, .slice a1 (o11I h).length c1, .slice a2 (o11F h).length c2] 30, imm (.slice a2 (o11F h).length c2) (o11F h), imm (.slice a1 (o11I h).length c1) (o11I h), imm (.slice a0 (o11V h).length c0) (o11V h), imm (.slice a_l l.length c_l) l, imm (.slice a_h h.length c_h) h]) w' ad1 x0, fun (v : Value) (w' : World) => ∃ (ad1 : Addr), v = .pointer (some ((ad1).add 1)) ∧ At (MS M [imm (.slice a5 (l.take (cut % ((l.length : Int) + 1)).toNat).length c5) (l.take (cut % ((l.length : Int) + 1)).toNat), box bb0 #[.slice a0 (o11V h).length c0, .slice a1 (o11I h).length c1, .slice a2 (o11F h).length c2] 30, imm (.slice a2 (o11F h).length c2) (o11F h), imm (.slice a1 (o11I h).length c1) (o11I h), imm (.slice a0 (o11V h).length c0) (o11V h), imm (.slice a_l l.length c_l) l, imm (.slice a_h h.length c_h) h]) w' ad1 x0, fun (v : Value) (w' : World) => v = iV x0.2.1 ∧ I64 (x0.2.1), eV (pV bb0 1), eV (.slice a1 (o11I h).length c1), eV (iV ((o11I h).length : Int)), eV (.bool (decide (((o11I h).length : Int) ≤ x0.2.1))), eV (.bool (decide (((o11I h).length : Int) ≤ x0.2.1))), eV (.bool (decide (((o11I h).length : Int) ≤ x0.2.1))), eV (.slice a_l l.length c_l), eV (iV (i : Int)), fun (v : Value) (w' : World) => ∃ (ad2 : Addr), v = .pointer (some ad2) ∧ At (MS M [imm (.slice a5 (l.take (cut % ((l.length : Int) + 1)).toNat).length c5) (l.take (cut % ((l.length : Int) + 1)).toNat), box bb0 #[.slice a0 (o11V h).length c0, .slice a1 (o11I h).length c1, .slice a2 (o11F h).length c2] 30, imm (.slice a2 (o11F h).length c2) (o11F h), imm (.slice a1 (o11I h).length c1) (o11I h), imm (.slice a0 (o11V h).length c0) (o11V h), imm (.slice a_l l.length c_l) l, imm (.slice a_h h.length c_h) h]) w' ad2 x0, fun (v : Value) (w' : World) => ∃ (ad2 : Addr), v = .pointer (some ((ad2).add 2)) ∧ At (MS M [imm (.slice a5 (l.take (cut % ((l.length : Int) + 1)).toNat).length c5) (l.take (cut % ((l.length : Int) + 1)).toNat), box bb0 #[.slice a0 (o11V h).length c0, .slice a1 (o11I h).length c1, .slice a2 (o11F h).length c2] 30, imm (.slice a2 (o11F h).length c2) (o11F h), imm (.slice a1 (o11I h).length c1) (o11I h), imm (.slice a0 (o11V h).length c0) (o11V h), imm (.slice a_l l.length c_l) l, imm (.slice a_h h.length c_h) h]) w' ad2 x0, fun (v : Value) (w' : World) => v = iV x0.2.2.1 ∧ I64 (x0.2.2.1), eV (.bool (decide (x0.2.2.1 < 0))), eV (.bool (decide (x0.2.2.1 < 0))), eV (.bool (decide (x0.2.2.1 < 0))), eV (.slice a_l l.length c_l), eV (iV (i : Int)), fun (v : Value) (w' : World) => ∃ (ad3 : Addr), v = .pointer (some ad3) ∧ At (MS M [imm (.slice a5 (l.take (cut % ((l.length : Int) + 1)).toNat).length c5) (l.take (cut % ((l.length : Int) + 1)).toNat), box bb0 #[.slice a0 (o11V h).length c0, .slice a1 (o11I h).length c1, .slice a2 (o11F h).length c2] 30, imm (.slice a2 (o11F h).length c2) (o11F h), imm (.slice a1 (o11I h).length c1) (o11I h), imm (.slice a0 (o11V h).length c0) (o11V h), imm (.slice a_l l.length c_l) l, imm (.slice a_h h.length c_h) h]) w' ad3 x0, fun (v : Value) (w' : World) => ∃ (ad3 : Addr), v = .pointer (some ((ad3).add 2)) ∧ At (MS M [imm (.slice a5 (l.take (cut % ((l.length : Int) + 1)).toNat).length c5) (l.take (cut % ((l.length : Int) + 1)).toNat), box bb0 #[.slice a0 (o11V h).length c0, .slice a1 (o11I h).length c1, .slice a2 (o11F h).length c2] 30, imm (.slice a2 (o11F h).length c2) (o11F h), imm (.slice a1 (o11I h).length c1) (o11I h), imm (.slice a0 (o11V h).length c0) (o11V h), imm (.slice a_l l.length c_l) l, imm (.slice a_h h.length c_h) h]) w' ad3 x0, fun (v : Value) (w' : World) => v = iV x0.2.2.1 ∧ I64 (x0.2.2.1), eV (pV bb0 1), eV (.slice a1 (o11I h).length c1), eV (iV ((o11I h).length : Int))] rfl (by kernel_rfl) ?_ ?_
       ·
        refine dc (fun _ _ hf8 _ _ => mv rfl ((hf8 1 rfl).trans s9) (d0 rfl rfl)) ?_
        refine dc (fun _ _ hf9 _ _ => mv rfl ((hf9 12 rfl).trans s13) (d0 rfl rfl)) ?_
        refine ⟨fun _ => ⟨fun f11 w18 hf10 xt16 hp10 => ?_, by rintro _ _ _ x_ ⟨ad0, e_, hA0⟩; exact ⟨ad0, e_, hA0.lift (Up.ext x_)⟩⟩, ?_⟩
        ·
         have H26 := H23.ext xt16
         have s14 : f11 53 = .slice a_l l.length c_l := hp10 0 rfl rfl
         have s15 : f11 54 = iV (i : Int) := hp10 1 rfl rfl
         refine ia (H26.rv 5 rfl) rfl rfl s14 s15 (by first | omega | (simp; omega)) un23 ty35 ?_
         intro ad4 x4 hx4 hA4
         obtain rfl : x0 = x4 := Option.some.inj (hx0.symm.trans hx4)
         exact ⟨_, rfl, Ext.refl _, ⟨ad4, rfl, hA4⟩⟩
        refine ⟨fun _ => ⟨fun f12 w19 hf11 xt17 hp11 => ?_, by rintro _ _ _ x_ ⟨ad0, e_, hA0⟩; exact ⟨ad0, e_, hA0.lift (Up.ext x_)⟩⟩, ?_⟩
        ·
         obtain ⟨ad5, s16, hA5⟩ : ∃ (ad5 : Addr), f12 55 = .pointer (some ad5) ∧ At (MS M [imm (.slice a5 (l.take (cut % ((l.length : Int) + 1)).toNat).length c5) (l.take (cut % ((l.length : Int) + 1)).toNat), box bb0 #[.slice a0 (o11V h).length c0, .slice a1 (o11I h).length c1, .slice a2 (o11F h).length c2] 30, imm (.slice a2 (o11F h).length c2) (o11F h), imm (.slice a1 (o11I h).length c1) (o11I h), imm (.slice a0 (o11V h).length c0) (o11V h), imm (.slice a_l l.length c_l) l, imm (.slice a_h h.length c_h) h]) w19 ad5 x0 := hp11 2 rfl rfl
         refine fa fl35_1 rfl s16 ?_
         exact ⟨_, rfl, Ext.refl _, ⟨ad5, rfl, (by assumption)⟩⟩
        refine dc (fun f13 w20 hf12 xt18 hp12 => ?_) ?_
        ·
         have H29 := H23.ext xt18
         obtain ⟨ad6, s17, hA6⟩ : ∃ (ad6 : Addr), f13 56 = .pointer (some ((ad6).add 1)) ∧ At (MS M [imm (.slice a5 (l.take (cut % ((l.length : Int) + 1)).toNat).length c5) (l.take (cut % ((l.length : Int) + 1)).toNat), box bb0 #[.slice a0 (o11V h).length c0, .slice a1 (o11I h).length c1, .slice a2 (o11F h).length c2] 30, imm (.slice a2 (o11F h).length c2) (o11F h), imm (.slice a1 (o11I h).length c1) (o11I h), imm (.slice a0 (o11V h).length c0) (o11V h), imm (.slice a_l l.length c_l) l, imm (.slice a_h h.length c_h) h]) w20 ad6 x0 := hp12 3 rfl rfl
         have H30 := H29.put (it := atI ad6 x0) rfl hA6
         refine ldI (((H30.atv 0 rfl)).s1).fst.w ty3 rfl s17 ?_
         intro rv10
         exact ⟨_, rfl, Ext.refl _, ⟨rfl, rv10⟩⟩
        refine dc (fun f14 w21 hf13 xt19 hp13 => ?_) ?_
        ·
         obtain ⟨s18, rv11⟩ : f14 57 = iV x0.2.1 ∧ I64 (x0.2.1) := hp13 4 rfl rfl
         refine lss rfl rfl s18 rfl ?_
         exact ⟨_, rfl, Ext.refl _, rfl⟩
        refine dc (fun _ _ _ _ hp14 => mv rfl (hp14 5 rfl rfl) (d0 rfl rfl)) ?_
        refine dc (fun f16 w23 hf15 xt21 hp15 => ?_) ?_
        ·
         have s20 : f16 59 = .bool (decide (x0.2.1 < 0)) := hp15 6 rfl rfl
         refine gy rfl rfl s20 (decide_eq_false (by have h_ := steps_in b4 hx0; omega)) (mv rfl ((hf15 1 rfl).trans s9) ?_)
         exact ⟨_, rfl, Ext.refl _, rfl⟩
        refine dc (fun f17 w24 hf16 xt22 hp16 => ?_) ?_
        ·
         have s21 : f17 59 = .bool (decide (x0.2.1 < 0)) := hp16 6 rfl rfl
         refine gy rfl rfl s21 (decide_eq_false (by have h_ := steps_in b4 hx0; omega)) (mv rfl ((hf16 12 rfl).trans s13) ?_)
         exact ⟨_, rfl, Ext.refl _, rfl⟩
        refine ⟨fun _ => ⟨fun f18 w25 hf17 xt23 hp17 => ?_, by rintro _ _ _ x_ ⟨ad1, e_, hA1⟩; exact ⟨ad1, e_, hA1.lift (Up.ext x_)⟩⟩, ?_⟩
        ·
         have H35 := H23.ext xt23
         have s22 : f18 59 = .bool (decide (x0.2.1 < 0)) := hp17 6 rfl rfl
         have s23 : f18 60 = .slice a_l l.length c_l := hp17 7 rfl rfl
         have s24 : f18 61 = iV (i : Int) := hp17 8 rfl rfl
         refine gy rfl rfl s22 (decide_eq_false (by have h_ := steps_in b4 hx0; omega)) (ia (H35.rv 5 rfl) rfl rfl s23 s24 (by first | omega | (simp; omega)) un23 ty35 ?_)
         intro ad7 x5 hx5 hA7
         obtain rfl : x0 = x5 := Option.some.inj (hx0.symm.trans hx5)
         exact ⟨_, rfl, Ext.refl _, ⟨ad7, rfl, hA7⟩⟩
        refine ⟨fun _ => ⟨fun f19 w26 hf18 xt24 hp18 => ?_, by rintro _ _ _ x_ ⟨ad1, e_, hA1⟩; exact ⟨ad1, e_, hA1.lift (Up.ext x_)⟩⟩, ?_⟩
        ·
         have s25 : f19 59 = .bool (decide (x0.2.1 < 0)) := hp18 6 rfl rfl
         obtain ⟨ad8, s26, hA8⟩ : ∃ (ad8 : Addr), f19 62 = .pointer (some ad8) ∧ At (MS M [imm (.slice a5 (l.take (cut % ((l.length : Int) + 1)).toNat).length c5) (l.take (cut % ((l.length : Int) + 1)).toNat), box bb0 #[.slice a0 (o11V h).length c0, .slice a1 (o11I h).length c1, .slice a2 (o11F h).length c2] 30, imm (.slice a2 (o11F h).length c2) (o11F h), imm (.slice a1 (o11I h).length c1) (o11I h), imm (.slice a0 (o11V h).length c0) (o11V h), imm (.slice a_l l.length c_l) l, imm (.slice a_h h.length c_h) h]) w26 ad8 x0 := hp18 9 rfl rfl
         refine gy rfl rfl s25 (decide_eq_false (by have h_ := steps_in b4 hx0; omega)) (fa fl35_1 rfl s26 ?_)
         exact ⟨_, rfl, Ext.refl _, ⟨ad8, rfl, (by assumption)⟩⟩
        refine dc (fun f20 w27 hf19 xt25 hp19 => ?_) ?_
        ·
         have H38 := H23.ext xt25
         have s27 : f20 59 = .bool (decide (x0.2.1 < 0)) := hp19 6 rfl rfl
         obtain ⟨ad9, s28, hA9⟩ : ∃ (ad9 : Addr), f20 63 = .pointer (some ((ad9).add 1)) ∧ At (MS M [imm (.slice a5 (l.take (cut % ((l.length : Int) + 1)).toNat).length c5) (l.take (cut % ((l.length : Int) + 1)).toNat), box bb0 #[.slice a0 (o11V h).length c0, .slice a1 (o11I h).length c1, .slice a2 (o11F h).length c2] 30, imm (.slice a2 (o11F h).length c2) (o11F h), imm (.slice a1 (o11I h).length c1) (o11I h), imm (.slice a0 (o11V h).length c0) (o11V h), imm (.slice a_l l.length c_l) l, imm (.slice a_h h.length c_h) h]) w27 ad9 x0 := hp19 10 rfl rfl
         have H39 := H38.put (it := atI ad9 x0) rfl hA9
         refine gy rfl rfl s27 (decide_eq_false (by have h_ := steps_in b4 hx0; omega)) (ldI (((H39.atv 0 rfl)).s1).fst.w ty3 rfl s28 ?_)
         intro rv12
         exact ⟨_, rfl, Ext.refl _, ⟨rfl, rv12⟩⟩
        refine dc (fun f21 w28 hf20 xt26 hp20 => ?_) ?_
        ·
         have s29 : f21 59 = .bool (decide (x0.2.1 < 0)) := hp20 6 rfl rfl
         refine gy rfl rfl s29 (decide_eq_false (by have h_ := steps_in b4 hx0; omega)) (fa fl30_1 rfl ((hf20 7 rfl).trans s10) ?_)
         exact ⟨_, rfl, Ext.refl _, rfl⟩
        refine dc (fun f22 w29 hf21 xt27 hp21 => ?_) ?_
        ·
         have H41 := H23.ext xt27
         have s30 : f22 59 = .bool (decide (x0.2.1 < 0)) := hp21 6 rfl rfl
         have s31 : f22 65 = pV bb0 1 := hp21 12 rfl rfl
         refine gy rfl rfl s30 (decide_eq_false (by have h_ := steps_in b4 hx0; omega)) (ldX H41 1 rfl ty27 rfl s31 (by decide) rfl ?_)
         exact ⟨_, rfl, Ext.refl _, rfl⟩
        refine dc (fun f23 w30 hf22 xt28 hp22 => ?_) ?_
        ·
         have s32 : f23 59 = .bool (decide (x0.2.1 < 0)) := hp22 6 rfl rfl
         have s33 : f23 66 = .slice a1 (o11I h).length c1 := hp22 13 rfl rfl
         refine gy rfl rfl s32 (decide_eq_false (by have h_ := steps_in b4 hx0; omega)) (lnS rfl s33 un27 ?_)
         exact ⟨_, rfl, Ext.refl _, rfl⟩
        refine dc (fun f24 w31 hf23 xt29 hp23 => ?_) ?_
        ·
         have s34 : f24 59 = .bool (decide (x0.2.1 < 0)) := hp23 6 rfl rfl
         obtain ⟨s35, rv13⟩ : f24 64 = iV x0.2.1 ∧ I64 (x0.2.1) := hp23 11 rfl rfl
         have s36 : f24 67 = iV ((o11I h).length : Int) := hp23 14 rfl rfl
         refine gy rfl rfl s34 (decide_eq_false (by have h_ := steps_in b4 hx0; omega)) (geq rfl rfl s35 s36 ?_)
         exact ⟨_, rfl, Ext.refl _, rfl⟩
        refine dc (fun _ _ _ _ hp24 => pickF rfl rfl rfl (hp24 6 rfl rfl) (decide_eq_false (by have h_ := steps_in b4 hx0; omega)) (hp24 15 rfl rfl) (d0 rfl rfl)) ?_
        refine dc (fun _ _ _ _ hp25 => mv rfl (hp25 16 rfl rfl) (d0 rfl rfl)) ?_
        refine dc (fun f27 w34 hf26 xt32 hp26 => ?_) ?_
        ·
         have s40 : f27 70 = .bool (decide (((o11I h).length : Int) ≤ x0.2.1)) := hp26 17 rfl rfl
         refine gy rfl rfl s40 (decide_eq_false (by have h_ := steps_in b4 hx0; omega)) (mv rfl ((hf26 1 rfl).trans s9) ?_)
         exact ⟨_, rfl, Ext.refl _, rfl⟩
        refine dc (fun f28 w35 hf27 xt33 hp27 => ?_) ?_
        ·
         have s41 : f28 70 = .bool (decide (((o11I h).length : Int) ≤ x0.2.1)) := hp27 17 rfl rfl
         refine gy rfl rfl s41 (decide_eq_false (by have h_ := steps_in b4 hx0; omega)) (mv rfl ((hf27 12 rfl).trans s13) ?_)
         exact ⟨_, rfl, Ext.refl _, rfl⟩
        refine ⟨fun _ => ⟨fun f29 w36 hf28 xt34 hp28 => ?_, by rintro _ _ _ x_ ⟨ad2, e_, hA2⟩; exact ⟨ad2, e_, hA2.lift (Up.ext x_)⟩⟩, ?_⟩
        ·
         have H48 := H23.ext xt34
         have s42 : f29 70 = .bool (decide (((o11I h).length : Int) ≤ x0.2.1)) := hp28 17 rfl rfl
         have s43 : f29 71 = .slice a_l l.length c_l := hp28 18 rfl rfl
         have s44 : f29 72 = iV (i : Int) := hp28 19 rfl rfl
         refine gy rfl rfl s42 (decide_eq_false (by have h_ := steps_in b4 hx0; omega)) (ia (H48.rv 5 rfl) rfl rfl s43 s44 (by first | omega | (simp; omega)) un23 ty35 ?_)
         intro ad10 x6 hx6 hA10
         obtain rfl : x0 = x6 := Option.some.inj (hx0.symm.trans hx6)
         exact ⟨_, rfl, Ext.refl _, ⟨ad10, rfl, hA10⟩⟩
        refine ⟨fun _ => ⟨fun f30 w37 hf29 xt35 hp29 => ?_, by rintro _ _ _ x_ ⟨ad2, e_, hA2⟩; exact ⟨ad2, e_, hA2.lift (Up.ext x_)⟩⟩, ?_⟩
        ·
         have s45 : f30 70 = .bool (decide (((o11I h).length : Int) ≤ x0.2.1)) := hp29 17 rfl rfl
         obtain ⟨ad11, s46, hA11⟩ : ∃ (ad11 : Addr), f30 73 = .pointer (some ad11) ∧ At (MS M [imm (.slice a5 (l.take (cut % ((l.length : Int) + 1)).toNat).length c5) (l.take (cut % ((l.length : Int) + 1)).toNat), box bb0 #[.slice a0 (o11V h).length c0, .slice a1 (o11I h).length c1, .slice a2 (o11F h).length c2] 30, imm (.slice a2 (o11F h).length c2) (o11F h), imm (.slice a1 (o11I h).length c1) (o11I h), imm (.slice a0 (o11V h).length c0) (o11V h), imm (.slice a_l l.length c_l) l, imm (.slice a_h h.length c_h) h]) w37 ad11 x0 := hp29 20 rfl rfl
         refine gy rfl rfl s45 (decide_eq_false (by have h_ := steps_in b4 hx0; omega)) (fa fl35_2 rfl s46 ?_)
         exact ⟨_, rfl, Ext.refl _, ⟨ad11, rfl, (by assumption)⟩⟩
        refine dc (fun f31 w38 hf30 xt36 hp30 => ?_) ?_
        ·
         have H51 := H23.ext xt36
         have s47 : f31 70 = .bool (decide (((o11I h).length : Int) ≤ x0.2.1)) := hp30 17 rfl rfl
         obtain ⟨ad12, s48, hA12⟩ : ∃ (ad12 : Addr), f31 74 = .pointer (some ((ad12).add 2)) ∧ At (MS M [imm (.slice a5 (l.take (cut % ((l.length : Int) + 1)).toNat).length c5) (l.take (cut % ((l.length : Int) + 1)).toNat), box bb0 #[.slice a0 (o11V h).length c0, .slice a1 (o11I h).length c1, .slice a2 (o11F h).length c2] 30, imm (.slice a2 (o11F h).length c2) (o11F h), imm (.slice a1 (o11I h).length c1) (o11I h), imm (.slice a0 (o11V h).length c0) (o11V h), imm (.slice a_l l.length c_l) l, imm (.slice a_h h.length c_h) h]) w38 ad12 x0 := hp30 21 rfl rfl
         have H52 := H51.put (it := atI ad12 x0) rfl hA12
         refine gy rfl rfl s47 (decide_eq_false (by have h_ := steps_in b4 hx0; omega)) (ldI (((H52.atv 0 rfl)).s2).fst.w ty3 rfl s48 ?_)
         intro rv14
         exact ⟨_, rfl, Ext.refl _, ⟨rfl, rv14⟩⟩
        refine dc (fun f32 w39 hf31 xt37 hp31 => ?_) ?_
        ·
         have s49 : f32 70 = .bool (decide (((o11I h).length : Int) ≤ x0.2.1)) := hp31 17 rfl rfl
         obtain ⟨s50, rv15⟩ : f32 75 = iV x0.2.2.1 ∧ I64 (x0.2.2.1) := hp31 22 rfl rfl
         refine gy rfl rfl s49 (decide_eq_false (by have h_ := steps_in b4 hx0; omega)) (lss rfl rfl s50 rfl ?_)
         exact ⟨_, rfl, Ext.refl _, rfl⟩
        refine dc (fun _ _ _ _ hp32 => pickF rfl rfl rfl (hp32 17 rfl rfl) (decide_eq_false (by have h_ := steps_in b4 hx0; omega)) (hp32 23 rfl rfl) (d0 rfl rfl)) ?_
        refine dc (fun _ _ _ _ hp33 => mv rfl (hp33 24 rfl rfl) (d0 rfl rfl)) ?_
        refine dc (fun f35 w42 hf34 xt40 hp34 => ?_) ?_
        ·
         have s54 : f35 78 = .bool (decide (x0.2.2.1 < 0)) := hp34 25 rfl rfl
         refine gy rfl rfl s54 (decide_eq_false (by have h_ := steps_in b4 hx0; omega)) (mv rfl ((hf34 1 rfl).trans s9) ?_)
         exact ⟨_, rfl, Ext.refl _, rfl⟩
        refine dc (fun f36 w43 hf35 xt41 hp35 => ?_) ?_
        ·
         have s55 : f36 78 = .bool (decide (x0.2.2.1 < 0)) := hp35 25 rfl rfl
         refine gy rfl rfl s55 (decide_eq_false (by have h_ := steps_in b4 hx0; omega)) (mv rfl ((hf35 12 rfl).trans s13) ?_)
         exact ⟨_, rfl, Ext.refl _, rfl⟩
        refine ⟨fun _ => ⟨fun f37 w44 hf36 xt42 hp36 => ?_, by rintro _ _ _ x_ ⟨ad3, e_, hA3⟩; exact ⟨ad3, e_, hA3.lift (Up.ext x_)⟩⟩, ?_⟩
        ·
         have H58 := H23.ext xt42
         have s56 : f37 78 = .bool (decide (x0.2.2.1 < 0)) := hp36 25 rfl rfl
         have s57 : f37 79 = .slice a_l l.length c_l := hp36 26 rfl rfl
         have s58 : f37 80 = iV (i : Int) := hp36 27 rfl rfl
         refine gy rfl rfl s56 (decide_eq_false (by have h_ := steps_in b4 hx0; omega)) (ia (H58.rv 5 rfl) rfl rfl s57 s58 (by first | omega | (simp; omega)) un23 ty35 ?_)
         intro ad13 x7 hx7 hA13
         obtain rfl : x0 = x7 := Option.some.inj (hx0.symm.trans hx7)
         exact ⟨_, rfl, Ext.refl _, ⟨ad13, rfl, hA13⟩⟩
        refine ⟨fun _ => ⟨fun f38 w45 hf37 xt43 hp37 => ?_, by rintro _ _ _ x_ ⟨ad3, e_, hA3⟩; exact ⟨ad3, e_, hA3.lift (Up.ext x_)⟩⟩, ?_⟩
        ·
         have s59 : f38 78 = .bool (decide (x0.2.2.1 < 0)) := hp37 25 rfl rfl
         obtain ⟨ad14, s60, hA14⟩ : ∃ (ad14 : Addr), f38 81 = .pointer (some ad14) ∧ At (MS M [imm (.slice a5 (l.take (cut % ((l.length : Int) + 1)).toNat).length c5) (l.take (cut % ((l.length : Int) + 1)).toNat), box bb0 #[.slice a0 (o11V h).length c0, .slice a1 (o11I h).length c1, .slice a2 (o11F h).length c2] 30, imm (.slice a2 (o11F h).length c2) (o11F h), imm (.slice a1 (o11I h).length c1) (o11I h), imm (.slice a0 (o11V h).length c0) (o11V h), imm (.slice a_l l.length c_l) l, imm (.slice a_h h.length c_h) h]) w45 ad14 x0 := hp37 28 rfl rfl
         refine gy rfl rfl s59 (decide_eq_false (by have h_ := steps_in b4 hx0; omega)) (fa fl35_2 rfl s60 ?_)
         exact ⟨_, rfl, Ext.refl _, ⟨ad14, rfl, (by assumption)⟩⟩
        refine dc (fun f39 w46 hf38 xt44 hp38 => ?_) ?_
        ·
         have H61 := H23.ext xt44
         have s61 : f39 78 = .bool (decide (x0.2.2.1 < 0)) := hp38 25 rfl rfl
         obtain ⟨ad15, s62, hA15⟩ : ∃ (ad15 : Addr), f39 82 = .pointer (some ((ad15).add 2)) ∧ At (MS M [imm (.slice a5 (l.take (cut % ((l.length : Int) + 1)).toNat).length c5) (l.take (cut % ((l.length : Int) + 1)).toNat), box bb0 #[.slice a0 (o11V h).length c0, .slice a1 (o11I h).length c1, .slice a2 (o11F h).length c2] 30, imm (.slice a2 (o11F h).length c2) (o11F h), imm (.slice a1 (o11I h).length c1) (o11I h), imm (.slice a0 (o11V h).length c0) (o11V h), imm (.slice a_l l.length c_l) l, imm (.slice a_h h.length c_h) h]) w46 ad15 x0 := hp38 29 rfl rfl
         have H62 := H61.put (it := atI ad15 x0) rfl hA15
         refine gy rfl rfl s61 (decide_eq_false (by have h_ := steps_in b4 hx0; omega)) (ldI (((H62.atv 0 rfl)).s2).fst.w ty3 rfl s62 ?_)
         intro rv16
         exact ⟨_, rfl, Ext.refl _, ⟨rfl, rv16⟩⟩
        refine dc (fun f40 w47 hf39 xt45 hp39 => ?_) ?_
        ·
         have s63 : f40 78 = .bool (decide (x0.2.2.1 < 0)) := hp39 25 rfl rfl
         refine gy rfl rfl s63 (decide_eq_false (by have h_ := steps_in b4 hx0; omega)) (fa fl30_1 rfl ((hf39 7 rfl).trans s10) ?_)
         exact ⟨_, rfl, Ext.refl _, rfl⟩
        refine dc (fun f41 w48 hf40 xt46 hp40 => ?_) ?_
        ·
         have H64 := H23.ext xt46
         have s64 : f41 78 = .bool (decide (x0.2.2.1 < 0)) := hp40 25 rfl rfl
         have s65 : f41 84 = pV bb0 1 := hp40 31 rfl rfl
         refine gy rfl rfl s64 (decide_eq_false (by have h_ := steps_in b4 hx0; omega)) (ldX H64 1 rfl ty27 rfl s65 (by decide) rfl ?_)
         exact ⟨_, rfl, Ext.refl _, rfl⟩
        refine dc (fun f42 w49 hf41 xt47 hp41 => ?_) ?_
        ·
         have s66 : f42 78 = .bool (decide (x0.2.2.1 < 0)) := hp41 25 rfl rfl
         have s67 : f42 85 = .slice a1 (o11I h).length c1 := hp41 32 rfl rfl
         refine gy rfl rfl s66 (decide_eq_false (by have h_ := steps_in b4 hx0; omega)) (lnS rfl s67 un27 ?_)
         exact ⟨_, rfl, Ext.refl _, rfl⟩
        exact DSteps.rest rfl _
       ·
        intro f43 w50 hf42 xt48 hp42
        have H66 := H23.ext xt48
        have s68 : f43 1 = .slice a_l l.length c_l := (hf42 1 rfl).trans s9
        have s69 : f43 7 = pV bb0 0 := (hf42 7 rfl).trans s10
        have s70 : f43 10 = .bool (stepsO (o11I h) (o11F h) l) := (hf42 10 rfl).trans s11
        have s71 : f43 11 = .bool (stepsO (o11I h) (o11F h) (l.take (cut % ((l.length : Int) + 1)).toNat)) := (hf42 11 rfl).trans s12
        have s72 : f43 12 = iV (i : Int) := (hf42 12 rfl).trans s13
        have s73 : f43 78 = .bool (decide (x0.2.2.1 < 0)) := hp42 25 rfl
        obtain ⟨s74, rv17⟩ : f43 83 = iV x0.2.2.1 ∧ I64 (x0.2.2.1) := hp42 30 rfl
        have s75 : f43 86 = iV ((o11I h).length : Int) := hp42 33 rfl
        refine k (gy rfl rfl s73 (decide_eq_false (by have h_ := steps_in b4 hx0; omega)) (geq rfl rfl s74 s75 (k (pickF rfl rfl rfl s73 (decide_eq_false (by have h_ := steps_in b4 hx0; omega)) rfl (z (nx (cdF rfl rfl (decide_eq_false (by have h_ := steps_in b4 hx0; omega)) (sk (inb_normal (nx (rg (k (mv rfl s72 (k (add rfl rfl rfl rfl (by first | assumption | (unfold I64 at *; omega)) (k (asg (v := iV ((i : Int) + 1)) rfl rfl (z ?_))))))))))))))))))
        refine loopN _ ?_ ⟨(i + 1), rfl, s68, s69, s70, s71, (ieq rfl (by first | rfl | omega | (push_cast; omega))), H66, (by first | assumption | omega | simp | (simp; omega))⟩
        omega
      ·
       refine ex (then_exit (loop_exit (inb_here (nx (sq (rg (k ?_)))))))
       have cc5 := awake21 (w := w15) (hT.ext H23.below)
       refine ca go5 rfl e0 cc5 ?_
       rintro _ w16 ⟨rfl, xt14⟩
       have H24 := H23.ext xt14
       refine k (mv (v := .bool true) rfl rfl (k (gy rfl rfl rfl rfl (mv rfl s11 (k (gy rfl rfl rfl rfl (not_ rfl rfl (k (gy rfl rfl rfl rfl (mv (v := .bool (!(stepsO (o11I h) (o11F h) l))) rfl rfl (k (gn rfl rfl rfl (by rw [show (stepsO (o11I h) (o11F h) l) = false from b4] <;> rfl) (k (gy rfl rfl rfl rfl (pickT rfl rfl rfl rfl (by rw [show (stepsO (o11I h) (o11F h) l) = false from b4] <;> rfl) rfl (k (pickT rfl rfl rfl rfl rfl rfl (k (mv (v := .bool true) rfl rfl (k (gy rfl rfl rfl rfl (ldX H24 1 rfl ty30 rfl s10 (by decide) rfl (k (gy rfl rfl rfl rfl ?_))))))))))))))))))))))))
       have cc6 := audit_Steps (fi := (o11I h)) (fo := (o11F h)) (l := ([] : List (Int × Int × Int × Int × Int))) (a_fv := a0) (n_fv := (o11V h).length) (c_fv := c0) (w := w16) H24.mb (H24.rv 3 rfl) (H24.rv 2 rfl) (rv_nil _ _) (by exact o11_ord h) (by omega) (by exact o11F_len h) (by first | omega | (rw [List.length_take]; omega) | (simp only [List.length_nil]; omega))
       refine ca go7 rfl (ec rfl (ec rfl e0)) cc6 ?_
       rintro _ w17 ⟨rfl, xt15⟩
       have H25 := H24.ext xt15
       refine k (pickT rfl rfl rfl rfl rfl rfl (k (asg (v := .bool (stepsO (o11I h) (o11F h) ([] : List (Int × Int × Int × Int × Int)))) rfl rfl (z (nx (rt (r1 rfl rfl ?_)))))))
       have e0 : (stepsO (o11I h) (o11F h) ([] : List (Int × Int × Int × Int × Int)) : Bool) = true := by exact steps_nil
       have ev_ := cg1 (fun (x_0 : Bool) => (.bool x_0 : Value)) e0
       exact ⟨ev_, H25.below⟩
     · -- decide ((i : Int) < (l.length : Int)) is False
      have p3 := of_decide_eq_false b3
      refine k (gn rfl rfl rfl b3 (k (pickF rfl rfl rfl rfl b3 rfl (z (nx (cdF rfl rfl rfl (ex (then_exit (loop_exit (inb_here (nx (sq (rg (k ?_))))))))))))))
      have cc5 := awake21 (w := w15) (hT.ext H23.below)
      refine ca go5 rfl e0 cc5 ?_
      rintro _ w16 ⟨rfl, xt14⟩
      have H24 := H23.ext xt14
      refine k (mv (v := .bool true) rfl rfl (k (gy rfl rfl rfl rfl (mv rfl s11 (k (gy rfl rfl rfl rfl (not_ rfl rfl (k (gy rfl rfl rfl rfl (mv (v := .bool (!(stepsO (o11I h) (o11F h) l))) rfl rfl ?_))))))))))
      rcases Bool.eq_false_or_eq_true (!(stepsO (o11I h) (o11F h) l)) with b4 | b4
      · -- !(stepsO (o11I h) (o11F h) l) is True
       refine k (gn rfl rfl rfl b4 (k (gy rfl rfl rfl rfl (pickT rfl rfl rfl rfl b4 rfl (k (pickT rfl rfl rfl rfl rfl rfl (k (mv (v := .bool true) rfl rfl (k (gy rfl rfl rfl rfl (ldX H24 1 rfl ty30 rfl s10 (by decide) rfl (k (gy rfl rfl rfl rfl ?_)))))))))))))
       have cc6 := audit_Steps (fi := (o11I h)) (fo := (o11F h)) (l := ([] : List (Int × Int × Int × Int × Int))) (a_fv := a0) (n_fv := (o11V h).length) (c_fv := c0) (w := w16) H24.mb (H24.rv 3 rfl) (H24.rv 2 rfl) (rv_nil _ _) (by exact o11_ord h) (by omega) (by exact o11F_len h) (by first | omega | (rw [List.length_take]; omega) | (simp only [List.length_nil]; omega))
       refine ca go7 rfl (ec rfl (ec rfl e0)) cc6 ?_
       rintro _ w17 ⟨rfl, xt15⟩
       have H25 := H24.ext xt15
       refine k (pickT rfl rfl rfl rfl rfl rfl (k (asg (v := .bool (stepsO (o11I h) (o11F h) ([] : List (Int × Int × Int × Int × Int)))) rfl rfl (z (nx (rt (r1 rfl rfl ?_)))))))
       have e0 : (stepsO (o11I h) (o11F h) ([] : List (Int × Int × Int × Int × Int)) : Bool) = true := by exact steps_nil
       have ev_ := cg1 (fun (x_0 : Bool) => (.bool x_0 : Value)) e0
       exact ⟨ev_, H25.below⟩
      · -- !(stepsO (o11I h) (o11F h) l) is False
       refine k (gy rfl rfl rfl b4 (mv rfl s12 (k (gy rfl rfl rfl rfl (pickF rfl rfl rfl rfl b4 rfl (k (pickT rfl rfl rfl rfl rfl rfl (k (mv (v := .bool (stepsO (o11I h) (o11F h) (l.take (cut % ((l.length : Int) + 1)).toNat))) rfl rfl (k (gy rfl rfl rfl (steps_begin _ (notf b4)) (ldX H24 1 rfl ty30 rfl s10 (by decide) rfl (k (gy rfl rfl rfl (steps_begin _ (notf b4)) ?_))))))))))))))
       have cc6 := audit_Steps (fi := (o11I h)) (fo := (o11F h)) (l := ([] : List (Int × Int × Int × Int × Int))) (a_fv := a0) (n_fv := (o11V h).length) (c_fv := c0) (w := w16) H24.mb (H24.rv 3 rfl) (H24.rv 2 rfl) (rv_nil _ _) (by exact o11_ord h) (by omega) (by exact o11F_len h) (by first | omega | (rw [List.length_take]; omega) | (simp only [List.length_nil]; omega))
       refine ca go7 rfl (ec rfl (ec rfl e0)) cc6 ?_
       rintro _ w17 ⟨rfl, xt15⟩
       have H25 := H24.ext xt15
       refine k (pickT rfl rfl rfl rfl (steps_begin _ (notf b4)) rfl (k (asg (v := .bool (stepsO (o11I h) (o11F h) ([] : List (Int × Int × Int × Int × Int)))) rfl rfl (z (nx (rt (r1 rfl rfl ?_)))))))
       have e0 : (stepsO (o11I h) (o11F h) ([] : List (Int × Int × Int × Int × Int)) : Bool) = true := by exact steps_nil
       have ev_ := cg1 (fun (x_0 : Bool) => (.bool x_0 : Value)) e0
       exact ⟨ev_, H25.below⟩
end Go.Proofs.YtefcbihikknlkaaDoor

